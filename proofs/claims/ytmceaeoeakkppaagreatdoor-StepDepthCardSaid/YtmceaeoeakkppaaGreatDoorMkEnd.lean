/- step's machine that came to TrapDepth: State. Printed out of XMcEnd, XMcMS by program. -/
import Derived.Test.YtmceaeoeakkppaaGreatDoorMk
namespace Go.Proofs.YtmceaeoeakkppaaGreatDoor
open Go.RowKit Go.Sort
set_option linter.unusedVariables false
set_option linter.unusedSimpArgs false
/-- A machine that has come to TrapDepth. -/
def McT (w : World) (p hp tp : Nat) (B0 B1 B2 B3 B4 : Option Addr) (m0 m1 m2 m3 m4 d0 d1 d2 d3 d4 : Nat) (q : Int) (MA : Option Addr) (mn mc : Nat) (FA : Option Addr) (fn fc : Nat) (v : Int) : Prop :=
  w.heap[p]? = some (.cells #[.slice B0 m0 d0, .slice B1 m1 d1, .slice B2 m2 d2, .slice B3 m3 d3, .slice B4 m4 d4, .pointer (some ⟨hp, 0, none⟩), .pointer (some ⟨tp, 0, none⟩), .int .i64 q, .int .i64 6, .int .u64 v, .slice none 0 0, .slice MA mn mc, .slice FA fn fc] 101 (0, 0))
set_option maxRecDepth 100000 in
set_option maxHeartbeats 8000000 in
theorem wstate6_calls {w : World} {p hp tp : Nat} {B0 B1 B2 B3 B4 : Option Addr} {m0 m1 m2 m3 m4 d0 d1 d2 d3 d4 : Nat} {q : Int} {MA : Option Addr} {mn mc : Nat} {FA : Option Addr} {fn fc : Nat} {v : Int} (h : McT w p hp tp B0 B1 B2 B3 B4 m0 m1 m2 m3 m4 d0 d1 d2 d3 d4 q MA mn mc FA fn fc v) (hh : ∃ x, w.heap[hp]? = some (.cells #[x, .int .i64 q, .int .i64 0] 204 (0, 0))) (ht : w.heap[tp]? = some (.cells #[.slice none 0 0] 207 (0, 0))) (fs : Value) :
    Calls Tryz.prog 56 #[.pointer (some ⟨p, 0, none⟩), fs] w fun e w' => e = .returned (.agg #[.slice none 0 0, .slice none 0 0, .slice none 0 0, .int .i64 q, .int .i64 0, .int .i64 6, .int .u64 v]) ∧ Below w.heap.size w w' := by
  obtain ⟨x, hh⟩ := hh
  have hV := below_a1 w (Obj.cells #[.slice none 0 0, .slice none 0 0, .slice none 0 0, .int .i64 0, .int .i64 0, .int .i64 0, .int .u64 0] 34)
  have HX := Lib.hid (blk_new w (Obj.cells #[.slice none 0 0, .slice none 0 0, .slice none 0 0, .int .i64 0, .int .i64 0, .int .i64 0, .int .u64 0] 34))
  have HP := Lib.hid (show w.heap[p]? = _ from h)
  have HP1 := Lib.hid (blk_below HP.out hV (blk_lt HP.out))
  have KU := Lib.hid (fun W (hb : Below w.heap.size w W) => used_calls W hp x q 0 (blk_below hh hb (blk_lt hh)))
  have KL := Lib.hid (fun W (hb : Below w.heap.size w W) => list_nil W tp (blk_below ht hb (blk_lt ht)))
  have HV := Lib.hid hV
  have hslt : w.heap.size < (w.alloc (Obj.cells #[.slice none 0 0, .slice none 0 0, .slice none 0 0, .int .i64 0, .int .i64 0, .int .i64 0, .int .u64 0] 34)).heap.size := by simp
  clear h hh ht hV
  go_enter Tryz.func56, Tryz.ntmps56
  go_upto_region 1 with fail
  generalize (w.alloc (Obj.cells #[.slice none 0 0, .slice none 0 0, .slice none 0 0, .int .i64 0, .int .i64 0, .int .i64 0, .int .u64 0] 34)) = V at *
  refine wp_region_held_drew (S := fun w' => w'.cell? ⟨p, 5, none⟩ = some (.pointer (some ⟨hp, 0, none⟩)) ∧ w'.cell? ⟨p, 6, none⟩ = some (.pointer (some ⟨tp, 0, none⟩)) ∧ w'.cell? ⟨p, 7, none⟩ = some (.int .i64 q) ∧ w'.cell? ⟨p, 8, none⟩ = some (.int .i64 6) ∧ w'.cell? ⟨p, 9, none⟩ = some (.int .u64 v) ∧ Below V.heap.size V w') (by kernel_rfl) (hold5w HP1.out rfl rfl rfl rfl rfl (Below.drew (Below.refl V.heap.size V))) (fun hHeld => ?_)
  refine wpAnyH_take (i := 0) (oi := _) (v := (.pointer (some ⟨p, 0, none⟩))) rfl (by kernel_rfl) (by kernel_rfl) (by kernel_rfl) (fun _ _ _ h => h) (Or.inl ⟨by rfl, fun W hS => by go_simp⟩) hHeld ?_
  try simp only [Act.put, List.setIfInBounds_toArray, List.set_cons_zero, List.set_cons_succ, List.getElem_toArray, List.getElem_cons_zero]
  refine wpAnyH_take (i := 1) (oi := _) (v := (.pointer (some ⟨p, 0, none⟩))) rfl (by kernel_rfl) (by kernel_rfl) (by kernel_rfl) (fun _ _ _ h => h) (Or.inl ⟨by rfl, fun W hS => by go_simp⟩) hHeld ?_
  try simp only [Act.put, List.setIfInBounds_toArray, List.set_cons_zero, List.set_cons_succ, List.getElem_toArray, List.getElem_cons_succ, List.getElem_cons_zero]
  refine wpAnyH_take (i := 2) (oi := _) (v := (.pointer (some ⟨p, 6, none⟩))) rfl (by kernel_rfl) (by kernel_rfl) (by kernel_rfl) (fun _ _ _ h => h) (Or.inl ⟨by rfl, fun W hS => by go_simp⟩) hHeld ?_
  try simp only [Act.put, List.setIfInBounds_toArray, List.set_cons_zero, List.set_cons_succ, List.getElem_toArray, List.getElem_cons_succ, List.getElem_cons_zero]
  refine wpAnyH_take (i := 3) (oi := _) (v := (.pointer (some ⟨tp, 0, none⟩))) rfl (by kernel_rfl) (by kernel_rfl) (by kernel_rfl) (fun _ _ _ h => h) (Or.inl ⟨by rfl, fun W hS => by obtain ⟨s0, s1, s2, s3, s4, _⟩ := hS; go_simp⟩) hHeld ?_
  try simp only [Act.put, List.setIfInBounds_toArray, List.set_cons_zero, List.set_cons_succ, List.getElem_toArray, List.getElem_cons_succ, List.getElem_cons_zero]
  refine wpAnyH_take (i := 5) (oi := _) (v := (.pointer (some ⟨p, 0, none⟩))) rfl (by kernel_rfl) (by kernel_rfl) (by kernel_rfl) (fun _ _ _ h => h) (Or.inl ⟨by rfl, fun W hS => by go_simp⟩) hHeld ?_
  try simp only [Act.put, List.setIfInBounds_toArray, List.set_cons_zero, List.set_cons_succ, List.getElem_toArray, List.getElem_cons_succ, List.getElem_cons_zero]
  refine wpAnyH_take (i := 6) (oi := _) (v := (.pointer (some ⟨p, 0, none⟩))) rfl (by kernel_rfl) (by kernel_rfl) (by kernel_rfl) (fun _ _ _ h => h) (Or.inl ⟨by rfl, fun W hS => by go_simp⟩) hHeld ?_
  try simp only [Act.put, List.setIfInBounds_toArray, List.set_cons_zero, List.set_cons_succ, List.getElem_toArray, List.getElem_cons_succ, List.getElem_cons_zero]
  refine wpAnyH_take (i := 7) (oi := _) (v := (.pointer (some ⟨p, 7, none⟩))) rfl (by kernel_rfl) (by kernel_rfl) (by kernel_rfl) (fun _ _ _ h => h) (Or.inl ⟨by rfl, fun W hS => by go_simp⟩) hHeld ?_
  try simp only [Act.put, List.setIfInBounds_toArray, List.set_cons_zero, List.set_cons_succ, List.getElem_toArray, List.getElem_cons_succ, List.getElem_cons_zero]
  refine wpAnyH_take (i := 8) (oi := _) (v := (.int .i64 q)) rfl (by kernel_rfl) (by kernel_rfl) (by kernel_rfl) (fun _ _ _ h => h) (Or.inl ⟨by rfl, fun W hS => by obtain ⟨s0, s1, s2, s3, s4, _⟩ := hS; go_simp⟩) hHeld ?_
  try simp only [Act.put, List.setIfInBounds_toArray, List.set_cons_zero, List.set_cons_succ, List.getElem_toArray, List.getElem_cons_succ, List.getElem_cons_zero]
  refine wpAnyH_take (i := 9) (oi := _) (v := (.pointer (some ⟨p, 0, none⟩))) rfl (by kernel_rfl) (by kernel_rfl) (by kernel_rfl) (fun _ _ _ h => h) (Or.inl ⟨by rfl, fun W hS => by go_simp⟩) hHeld ?_
  try simp only [Act.put, List.setIfInBounds_toArray, List.set_cons_zero, List.set_cons_succ, List.getElem_toArray, List.getElem_cons_succ, List.getElem_cons_zero]
  refine wpAnyH_take (i := 10) (oi := _) (v := (.pointer (some ⟨p, 0, none⟩))) rfl (by kernel_rfl) (by kernel_rfl) (by kernel_rfl) (fun _ _ _ h => h) (Or.inl ⟨by rfl, fun W hS => by go_simp⟩) hHeld ?_
  try simp only [Act.put, List.setIfInBounds_toArray, List.set_cons_zero, List.set_cons_succ, List.getElem_toArray, List.getElem_cons_succ, List.getElem_cons_zero]
  refine wpAnyH_take (i := 11) (oi := _) (v := (.pointer (some ⟨p, 5, none⟩))) rfl (by kernel_rfl) (by kernel_rfl) (by kernel_rfl) (fun _ _ _ h => h) (Or.inl ⟨by rfl, fun W hS => by go_simp⟩) hHeld ?_
  try simp only [Act.put, List.setIfInBounds_toArray, List.set_cons_zero, List.set_cons_succ, List.getElem_toArray, List.getElem_cons_succ, List.getElem_cons_zero]
  refine wpAnyH_take (i := 12) (oi := _) (v := (.pointer (some ⟨hp, 0, none⟩))) rfl (by kernel_rfl) (by kernel_rfl) (by kernel_rfl) (fun _ _ _ h => h) (Or.inl ⟨by rfl, fun W hS => by obtain ⟨s0, s1, s2, s3, s4, _⟩ := hS; go_simp⟩) hHeld ?_
  try simp only [Act.put, List.setIfInBounds_toArray, List.set_cons_zero, List.set_cons_succ, List.getElem_toArray, List.getElem_cons_succ, List.getElem_cons_zero]
  refine wpAnyH_take (i := 14) (oi := _) (v := (.pointer (some ⟨p, 0, none⟩))) rfl (by kernel_rfl) (by kernel_rfl) (by kernel_rfl) (fun _ _ _ h => h) (Or.inl ⟨by rfl, fun W hS => by go_simp⟩) hHeld ?_
  try simp only [Act.put, List.setIfInBounds_toArray, List.set_cons_zero, List.set_cons_succ, List.getElem_toArray, List.getElem_cons_succ, List.getElem_cons_zero]
  refine wpAnyH_take (i := 15) (oi := _) (v := (.pointer (some ⟨p, 0, none⟩))) rfl (by kernel_rfl) (by kernel_rfl) (by kernel_rfl) (fun _ _ _ h => h) (Or.inl ⟨by rfl, fun W hS => by go_simp⟩) hHeld ?_
  try simp only [Act.put, List.setIfInBounds_toArray, List.set_cons_zero, List.set_cons_succ, List.getElem_toArray, List.getElem_cons_succ, List.getElem_cons_zero]
  refine wpAnyH_take (i := 16) (oi := _) (v := (.pointer (some ⟨p, 8, none⟩))) rfl (by kernel_rfl) (by kernel_rfl) (by kernel_rfl) (fun _ _ _ h => h) (Or.inl ⟨by rfl, fun W hS => by go_simp⟩) hHeld ?_
  try simp only [Act.put, List.setIfInBounds_toArray, List.set_cons_zero, List.set_cons_succ, List.getElem_toArray, List.getElem_cons_succ, List.getElem_cons_zero]
  refine wpAnyH_take (i := 17) (oi := _) (v := (.int .i64 6)) rfl (by kernel_rfl) (by kernel_rfl) (by kernel_rfl) (fun _ _ _ h => h) (Or.inl ⟨by rfl, fun W hS => by obtain ⟨s0, s1, s2, s3, s4, _⟩ := hS; go_simp⟩) hHeld ?_
  try simp only [Act.put, List.setIfInBounds_toArray, List.set_cons_zero, List.set_cons_succ, List.getElem_toArray, List.getElem_cons_succ, List.getElem_cons_zero]
  refine wpAnyH_take (i := 18) (oi := _) (v := (.pointer (some ⟨p, 0, none⟩))) rfl (by kernel_rfl) (by kernel_rfl) (by kernel_rfl) (fun _ _ _ h => h) (Or.inl ⟨by rfl, fun W hS => by go_simp⟩) hHeld ?_
  try simp only [Act.put, List.setIfInBounds_toArray, List.set_cons_zero, List.set_cons_succ, List.getElem_toArray, List.getElem_cons_succ, List.getElem_cons_zero]
  refine wpAnyH_take (i := 19) (oi := _) (v := (.pointer (some ⟨p, 0, none⟩))) rfl (by kernel_rfl) (by kernel_rfl) (by kernel_rfl) (fun _ _ _ h => h) (Or.inl ⟨by rfl, fun W hS => by go_simp⟩) hHeld ?_
  try simp only [Act.put, List.setIfInBounds_toArray, List.set_cons_zero, List.set_cons_succ, List.getElem_toArray, List.getElem_cons_succ, List.getElem_cons_zero]
  refine wpAnyH_take (i := 20) (oi := _) (v := (.pointer (some ⟨p, 9, none⟩))) rfl (by kernel_rfl) (by kernel_rfl) (by kernel_rfl) (fun _ _ _ h => h) (Or.inl ⟨by rfl, fun W hS => by go_simp⟩) hHeld ?_
  try simp only [Act.put, List.setIfInBounds_toArray, List.set_cons_zero, List.set_cons_succ, List.getElem_toArray, List.getElem_cons_succ, List.getElem_cons_zero]
  refine wpAnyH_take (i := 21) (oi := _) (v := (.int .u64 v)) rfl (by kernel_rfl) (by kernel_rfl) (by kernel_rfl) (fun _ _ _ h => h) (Or.inl ⟨by rfl, fun W hS => by obtain ⟨s0, s1, s2, s3, s4, _⟩ := hS; go_simp⟩) hHeld ?_
  try simp only [Act.put, List.setIfInBounds_toArray, List.set_cons_zero, List.set_cons_succ, List.getElem_toArray, List.getElem_cons_succ, List.getElem_cons_zero]
  refine wpAnyH_ready (rs := [4, 23]) (by kernel_rfl) (by simp) ?_
  refine AllReadyH.cons (o := _) rfl (fun K hK => ?_) ?_
  · skip
    go_simp
    go_at_call 92; refine (KL.out _ (HV.out.trans ((Below.drew (Below.refl V.heap.size V)).mono HV.out.size))).mono ?_; rintro e w1 ⟨rfl, hb1⟩
    go_wp2_with fail
    have hv1 : Below V.heap.size V w1 := (Below.drew (Below.refl V.heap.size V)).trans (hb1.mono (Below.drew (Below.refl V.heap.size V)).size)
    refine hK.out _ _ (hold5w HP1.out rfl rfl rfl rfl rfl hv1) (fun hHeld => ?_)
    try simp only [Act.put, List.setIfInBounds_toArray, List.set_cons_zero, List.set_cons_succ, List.getElem_toArray, List.getElem_cons_succ, List.getElem_cons_zero]
    clear hK K
    refine wpAnyH_ready (rs := [13, 23]) (by kernel_rfl) (by simp) ?_
    refine AllReadyH.cons (o := _) rfl (fun K hK => ?_) ?_
    · skip
      go_simp
      go_at_call 93; refine (KU.out _ (HV.out.trans (hv1.mono HV.out.size))).mono ?_; rintro e w2 ⟨rfl, hb2⟩
      go_wp2_with fail
      have hv2 : Below V.heap.size V w2 := hv1.trans (hb2.mono hv1.size)
      refine hK.out _ _ (hold5w HP1.out rfl rfl rfl rfl rfl hv2) (fun hHeld => ?_)
      try simp only [Act.put, List.setIfInBounds_toArray, List.set_cons_zero, List.set_cons_succ, List.getElem_toArray, List.getElem_cons_succ, List.getElem_cons_zero]
      clear hK K
      refine wpAnyH_take (i := 22) (oi := _) (v := (.agg #[.slice none 0 0, .slice none 0 0, .slice none 0 0, .int .i64 q, .int .i64 0, .int .i64 6, .int .u64 v])) rfl (by kernel_rfl) (by kernel_rfl) (by kernel_rfl) (fun _ _ _ h => h) (Or.inl ⟨by rfl, fun W hS => by go_simp⟩) hHeld ?_
      try simp only [Act.put, List.setIfInBounds_toArray, List.set_cons_zero, List.set_cons_succ, List.getElem_toArray, List.getElem_cons_succ, List.getElem_cons_zero]
      refine wpAnyH_ready (rs := [23]) (by kernel_rfl) (by simp) ?_
      refine AllReadyH.cons (o := _) rfl (fun K hK => ?_) AllReadyH.nil
      go_simp
      refine hK.out _ _ (hold5w HP1.out rfl rfl rfl rfl rfl (hv2.alloc hv2.size _)) (fun hHeld => ?_)
      try simp only [Act.put, List.setIfInBounds_toArray, List.set_cons_zero, List.set_cons_succ, List.getElem_toArray, List.getElem_cons_succ, List.getElem_cons_zero]
      clear hK K
      refine wpAnyH_ready (rs := [24]) (by kernel_rfl) (by simp) ?_
      refine AllReadyH.cons (o := _) rfl (fun K hK => ?_) AllReadyH.nil
      go_simp
      have hbF : Below V.heap.size V (w2.alloc (Obj.cells #[.slice none 0 0, .slice none 0 0, .slice none 0 0, .int .i64 q, .int .i64 0, .int .i64 6, .int .u64 v] 34)) := hv2.alloc hv2.size _
      have hgF : (w2.alloc (Obj.cells #[.slice none 0 0, .slice none 0 0, .slice none 0 0, .int .i64 q, .int .i64 0, .int .i64 6, .int .u64 v] 34)).heap[w2.heap.size]? = some (.cells #[.slice none 0 0, .slice none 0 0, .slice none 0 0, .int .i64 q, .int .i64 0, .int .i64 6, .int .u64 v] 34 (0, 0)) := blk_new w2 _
      refine hK.out _ _ (hold5w HP1.out rfl rfl rfl rfl rfl hbF) (fun hHeld => ?_)
      try simp only [Act.put, List.setIfInBounds_toArray, List.set_cons_zero, List.set_cons_succ, List.getElem_toArray, List.getElem_cons_succ, List.getElem_cons_zero]
      clear hK K
      refine wpAnyH_done (by kernel_rfl) ?_ _
      generalize (w2.alloc (Obj.cells #[.slice none 0 0, .slice none 0 0, .slice none 0 0, .int .i64 q, .int .i64 0, .int .i64 6, .int .u64 v] 34)) = Y at *
      obtain ⟨⟨j0, j1, j2, j3, j4, j5, j6⟩, -⟩ := box7f hgF
      have hX2 := blk_below HX.out hbF (blk_lt HX.out)
      obtain ⟨⟨l0, l1, l2, l3, l4, l5, l6⟩, n0, n1, n2, n3, n4, n5, n6⟩ := box7f hX2
      have k8 := hHeld.2.2.2.1
      have HX2 := Lib.hid hX2
      have HBF := Lib.hid hbF
      clear hHeld hgF hX2 hbF
      go_wp2
      refine bodyPost_ret (wstate_results _ _ w.heap.size _ _ _ q 0 6 v ⟨_, _, _, rfl⟩ ⟨_, _, _, rfl⟩ ⟨_, _, _, rfl⟩ rfl (set7f HX2.out _ _ _ _ _ _ _)) rfl ⟨rfl, ?_⟩
      exact below7f (HV.out.trans (HBF.out.mono HV.out.size)) (Nat.le_refl _) _ _ _ _ _ _ _
    refine AllReadyH.cons (o := _) rfl (fun K hK => ?_) AllReadyH.nil
    go_simp
    have hv1' : Below V.heap.size V (w1.alloc (Obj.cells #[.slice none 0 0, .slice none 0 0, .slice none 0 0, .int .i64 0, .int .i64 0, .int .i64 0, .int .u64 0] 34)) := hv1.alloc hv1.size _
    refine hK.out _ _ (hold5w HP1.out rfl rfl rfl rfl rfl hv1') (fun hHeld => ?_)
    try simp only [Act.put, List.setIfInBounds_toArray, List.set_cons_zero, List.set_cons_succ, List.getElem_toArray, List.getElem_cons_succ, List.getElem_cons_zero]
    clear hK K
    refine wpAnyH_ready (rs := [13]) (by kernel_rfl) (by simp) ?_
    refine AllReadyH.cons (o := _) rfl (fun K hK => ?_) AllReadyH.nil
    go_simp
    go_at_call 93; refine (KU.out _ (HV.out.trans (hv1'.mono HV.out.size))).mono ?_; rintro e w2 ⟨rfl, hb2⟩
    go_wp2_with fail
    have hv2 : Below V.heap.size V w2 := hv1'.trans (hb2.mono hv1'.size)
    have hx := blk_below (blk_new w1 (Obj.cells #[.slice none 0 0, .slice none 0 0, .slice none 0 0, .int .i64 0, .int .i64 0, .int .i64 0, .int .u64 0] 34)) hb2 (blk_lt (blk_new w1 (Obj.cells #[.slice none 0 0, .slice none 0 0, .slice none 0 0, .int .i64 0, .int .i64 0, .int .i64 0, .int .u64 0] 34)))
    obtain ⟨⟨q0, q1, q2, q3, q4, q5, q6⟩, r0, r1, r2, r3, r4, r5, r6⟩ := box7f hx
    refine hK.out _ _ (hold5w HP1.out rfl rfl rfl rfl rfl hv2) (fun hHeld => ?_)
    try simp only [Act.put, List.setIfInBounds_toArray, List.set_cons_zero, List.set_cons_succ, List.getElem_toArray, List.getElem_cons_succ, List.getElem_cons_zero]
    clear hK K
    refine wpAnyH_take (i := 22) (oi := _) (v := (.agg #[.slice none 0 0, .slice none 0 0, .slice none 0 0, .int .i64 q, .int .i64 0, .int .i64 6, .int .u64 v])) rfl (by kernel_rfl) (by kernel_rfl) (by kernel_rfl) (fun _ _ _ h => h) (Or.inl ⟨by rfl, fun W hS => by go_simp⟩) hHeld ?_
    try simp only [Act.put, List.setIfInBounds_toArray, List.set_cons_zero, List.set_cons_succ, List.getElem_toArray, List.getElem_cons_succ, List.getElem_cons_zero]
    refine wpAnyH_ready (rs := [24]) (by kernel_rfl) (by simp) ?_
    refine AllReadyH.cons (o := _) rfl (fun K hK => ?_) AllReadyH.nil
    go_simp
    have hbF : Below V.heap.size V (((((((w2.setCell ⟨w1.heap.size, 0, none⟩ (.slice none 0 0)).setCell ⟨w1.heap.size, 1, none⟩ (.slice none 0 0)).setCell ⟨w1.heap.size, 2, none⟩ (.slice none 0 0)).setCell ⟨w1.heap.size, 3, none⟩ (.int .i64 q)).setCell ⟨w1.heap.size, 4, none⟩ (.int .i64 0)).setCell ⟨w1.heap.size, 5, none⟩ (.int .i64 6)).setCell ⟨w1.heap.size, 6, none⟩ (.int .u64 v)) := below7f hv2 hv1.size _ _ _ _ _ _ _
    have hgF : (((((((w2.setCell ⟨w1.heap.size, 0, none⟩ (.slice none 0 0)).setCell ⟨w1.heap.size, 1, none⟩ (.slice none 0 0)).setCell ⟨w1.heap.size, 2, none⟩ (.slice none 0 0)).setCell ⟨w1.heap.size, 3, none⟩ (.int .i64 q)).setCell ⟨w1.heap.size, 4, none⟩ (.int .i64 0)).setCell ⟨w1.heap.size, 5, none⟩ (.int .i64 6)).setCell ⟨w1.heap.size, 6, none⟩ (.int .u64 v)).heap[w1.heap.size]? = some (.cells #[.slice none 0 0, .slice none 0 0, .slice none 0 0, .int .i64 q, .int .i64 0, .int .i64 6, .int .u64 v] 34 (0, 0)) := set7f hx _ _ _ _ _ _ _
    refine hK.out _ _ (hold5w HP1.out rfl rfl rfl rfl rfl hbF) (fun hHeld => ?_)
    try simp only [Act.put, List.setIfInBounds_toArray, List.set_cons_zero, List.set_cons_succ, List.getElem_toArray, List.getElem_cons_succ, List.getElem_cons_zero]
    clear hK K
    refine wpAnyH_done (by kernel_rfl) ?_ _
    generalize (((((((w2.setCell ⟨w1.heap.size, 0, none⟩ (.slice none 0 0)).setCell ⟨w1.heap.size, 1, none⟩ (.slice none 0 0)).setCell ⟨w1.heap.size, 2, none⟩ (.slice none 0 0)).setCell ⟨w1.heap.size, 3, none⟩ (.int .i64 q)).setCell ⟨w1.heap.size, 4, none⟩ (.int .i64 0)).setCell ⟨w1.heap.size, 5, none⟩ (.int .i64 6)).setCell ⟨w1.heap.size, 6, none⟩ (.int .u64 v)) = Y at *
    obtain ⟨⟨j0, j1, j2, j3, j4, j5, j6⟩, -⟩ := box7f hgF
    have hX2 := blk_below HX.out hbF (blk_lt HX.out)
    obtain ⟨⟨l0, l1, l2, l3, l4, l5, l6⟩, n0, n1, n2, n3, n4, n5, n6⟩ := box7f hX2
    have k8 := hHeld.2.2.2.1
    have HX2 := Lib.hid hX2
    have HBF := Lib.hid hbF
    clear hHeld hgF hX2 hbF
    go_wp2
    refine bodyPost_ret (wstate_results _ _ w.heap.size _ _ _ q 0 6 v ⟨_, _, _, rfl⟩ ⟨_, _, _, rfl⟩ ⟨_, _, _, rfl⟩ rfl (set7f HX2.out _ _ _ _ _ _ _)) rfl ⟨rfl, ?_⟩
    exact below7f (HV.out.trans (HBF.out.mono HV.out.size)) (Nat.le_refl _) _ _ _ _ _ _ _
  refine AllReadyH.cons (o := _) rfl (fun K hK => ?_) AllReadyH.nil
  go_simp
  have hv0 : Below V.heap.size V (V.drew.alloc (Obj.cells #[.slice none 0 0, .slice none 0 0, .slice none 0 0, .int .i64 0, .int .i64 0, .int .i64 0, .int .u64 0] 34)) := (Below.drew (Below.refl V.heap.size V)).alloc (Nat.le_refl _) _
  have hx0 : (V.drew.alloc (Obj.cells #[.slice none 0 0, .slice none 0 0, .slice none 0 0, .int .i64 0, .int .i64 0, .int .i64 0, .int .u64 0] 34)).heap[V.heap.size]? = some (Obj.cells #[.slice none 0 0, .slice none 0 0, .slice none 0 0, .int .i64 0, .int .i64 0, .int .i64 0, .int .u64 0] 34) := blk_new V.drew _
  refine hK.out _ _ (hold5w HP1.out rfl rfl rfl rfl rfl hv0) (fun hHeld => ?_)
  try simp only [Act.put, List.setIfInBounds_toArray, List.set_cons_zero, List.set_cons_succ, List.getElem_toArray, List.getElem_cons_succ, List.getElem_cons_zero]
  clear hK K
  refine wpAnyH_ready (rs := [4]) (by kernel_rfl) (by simp) ?_
  refine AllReadyH.cons (o := _) rfl (fun K hK => ?_) AllReadyH.nil
  go_simp
  go_at_call 92; refine (KL.out _ (HV.out.trans (hv0.mono HV.out.size))).mono ?_; rintro e w1 ⟨rfl, hb1⟩
  go_wp2_with fail
  have hv1 : Below V.heap.size V w1 := hv0.trans (hb1.mono hv0.size)
  have hx1 : w1.heap[V.heap.size]? = some (Obj.cells #[.slice none 0 0, .slice none 0 0, .slice none 0 0, .int .i64 0, .int .i64 0, .int .i64 0, .int .u64 0] 34) := (hb1.block _ (blk_lt hx0)).trans hx0
  refine hK.out _ _ (hold5w HP1.out rfl rfl rfl rfl rfl hv1) (fun hHeld => ?_)
  try simp only [Act.put, List.setIfInBounds_toArray, List.set_cons_zero, List.set_cons_succ, List.getElem_toArray, List.getElem_cons_succ, List.getElem_cons_zero]
  clear hK K
  refine wpAnyH_ready (rs := [13]) (by kernel_rfl) (by simp) ?_
  refine AllReadyH.cons (o := _) rfl (fun K hK => ?_) AllReadyH.nil
  go_simp
  go_at_call 93; refine (KU.out _ (HV.out.trans (hv1.mono HV.out.size))).mono ?_; rintro e w2 ⟨rfl, hb2⟩
  go_wp2_with fail
  have hv2 : Below V.heap.size V w2 := hv1.trans (hb2.mono hv1.size)
  have hx := blk_below hx1 hb2 (blk_lt hx1)
  obtain ⟨⟨q0, q1, q2, q3, q4, q5, q6⟩, r0, r1, r2, r3, r4, r5, r6⟩ := box7f hx
  refine hK.out _ _ (hold5w HP1.out rfl rfl rfl rfl rfl hv2) (fun hHeld => ?_)
  try simp only [Act.put, List.setIfInBounds_toArray, List.set_cons_zero, List.set_cons_succ, List.getElem_toArray, List.getElem_cons_succ, List.getElem_cons_zero]
  clear hK K
  refine wpAnyH_take (i := 22) (oi := _) (v := (.agg #[.slice none 0 0, .slice none 0 0, .slice none 0 0, .int .i64 q, .int .i64 0, .int .i64 6, .int .u64 v])) rfl (by kernel_rfl) (by kernel_rfl) (by kernel_rfl) (fun _ _ _ h => h) (Or.inl ⟨by rfl, fun W hS => by go_simp⟩) hHeld ?_
  try simp only [Act.put, List.setIfInBounds_toArray, List.set_cons_zero, List.set_cons_succ, List.getElem_toArray, List.getElem_cons_succ, List.getElem_cons_zero]
  refine wpAnyH_ready (rs := [24]) (by kernel_rfl) (by simp) ?_
  refine AllReadyH.cons (o := _) rfl (fun K hK => ?_) AllReadyH.nil
  go_simp
  have hbF : Below V.heap.size V (((((((w2.setCell ⟨V.heap.size, 0, none⟩ (.slice none 0 0)).setCell ⟨V.heap.size, 1, none⟩ (.slice none 0 0)).setCell ⟨V.heap.size, 2, none⟩ (.slice none 0 0)).setCell ⟨V.heap.size, 3, none⟩ (.int .i64 q)).setCell ⟨V.heap.size, 4, none⟩ (.int .i64 0)).setCell ⟨V.heap.size, 5, none⟩ (.int .i64 6)).setCell ⟨V.heap.size, 6, none⟩ (.int .u64 v)) := below7f hv2 (Nat.le_refl _) _ _ _ _ _ _ _
  have hgF : (((((((w2.setCell ⟨V.heap.size, 0, none⟩ (.slice none 0 0)).setCell ⟨V.heap.size, 1, none⟩ (.slice none 0 0)).setCell ⟨V.heap.size, 2, none⟩ (.slice none 0 0)).setCell ⟨V.heap.size, 3, none⟩ (.int .i64 q)).setCell ⟨V.heap.size, 4, none⟩ (.int .i64 0)).setCell ⟨V.heap.size, 5, none⟩ (.int .i64 6)).setCell ⟨V.heap.size, 6, none⟩ (.int .u64 v)).heap[V.heap.size]? = some (.cells #[.slice none 0 0, .slice none 0 0, .slice none 0 0, .int .i64 q, .int .i64 0, .int .i64 6, .int .u64 v] 34 (0, 0)) := set7f hx _ _ _ _ _ _ _
  refine hK.out _ _ (hold5w HP1.out rfl rfl rfl rfl rfl hbF) (fun hHeld => ?_)
  try simp only [Act.put, List.setIfInBounds_toArray, List.set_cons_zero, List.set_cons_succ, List.getElem_toArray, List.getElem_cons_succ, List.getElem_cons_zero]
  clear hK K
  refine wpAnyH_done (by kernel_rfl) ?_ _
  generalize (((((((w2.setCell ⟨V.heap.size, 0, none⟩ (.slice none 0 0)).setCell ⟨V.heap.size, 1, none⟩ (.slice none 0 0)).setCell ⟨V.heap.size, 2, none⟩ (.slice none 0 0)).setCell ⟨V.heap.size, 3, none⟩ (.int .i64 q)).setCell ⟨V.heap.size, 4, none⟩ (.int .i64 0)).setCell ⟨V.heap.size, 5, none⟩ (.int .i64 6)).setCell ⟨V.heap.size, 6, none⟩ (.int .u64 v)) = Y at *
  obtain ⟨⟨j0, j1, j2, j3, j4, j5, j6⟩, -⟩ := box7f hgF
  have hX2 := blk_below HX.out hbF (blk_lt HX.out)
  obtain ⟨⟨l0, l1, l2, l3, l4, l5, l6⟩, n0, n1, n2, n3, n4, n5, n6⟩ := box7f hX2
  have k8 := hHeld.2.2.2.1
  have HX2 := Lib.hid hX2
  have HBF := Lib.hid hbF
  clear hHeld hgF hX2 hbF
  go_wp2
  refine bodyPost_ret (wstate_results _ _ w.heap.size _ _ _ q 0 6 v ⟨_, _, _, rfl⟩ ⟨_, _, _, rfl⟩ ⟨_, _, _, rfl⟩ rfl (set7f HX2.out _ _ _ _ _ _ _)) rfl ⟨rfl, ?_⟩
  exact below7f (HV.out.trans (HBF.out.mono HV.out.size)) (Nat.le_refl _) _ _ _ _ _ _ _
set_option maxRecDepth 100000 in
set_option maxHeartbeats 4000000 in
theorem state6_calls {w : World} {p hp tp : Nat} {B0 B1 B2 B3 B4 : Option Addr} {m0 m1 m2 m3 m4 d0 d1 d2 d3 d4 : Nat} {q : Int} {MA : Option Addr} {mn mc : Nat} {FA : Option Addr} {fn fc : Nat} {v : Int} (h : McT w p hp tp B0 B1 B2 B3 B4 m0 m1 m2 m3 m4 d0 d1 d2 d3 d4 q MA mn mc FA fn fc v) (hh : ∃ x, w.heap[hp]? = some (.cells #[x, .int .i64 q, .int .i64 0] 204 (0, 0))) (ht : w.heap[tp]? = some (.cells #[.slice none 0 0] 207 (0, 0))) :
    Calls Tryz.prog 23 #[.pointer (some ⟨p, 0, none⟩)] w fun e w' => e = .returned (.agg #[.slice none 0 0, .slice none 0 0, .slice none 0 0, .int .i64 q, .int .i64 0, .int .i64 6, .int .u64 v]) ∧ Below w.heap.size w w' := by
  obtain ⟨x, hh⟩ := hh
  have hP : w.heap[p]? = _ := h
  have KS := Lib.hid (fun W (hb : Below w.heap.size w W) => wstate6_calls (w := W) (blk_below hP hb (blk_lt hP)) ⟨x, blk_below hh hb (blk_lt hh)⟩ (blk_below ht hb (blk_lt ht)) (.slice FA fn fc))
  have HP := Lib.hid hP
  have HX := Lib.hid (blk_new w (Obj.cells #[.slice none 0 0, .slice none 0 0, .slice none 0 0, .int .i64 0, .int .i64 0, .int .i64 0, .int .u64 0] 34))
  clear h hh ht hP
  go_enter Tryz.func23, Tryz.ntmps23
  go_upto_region 3 with fail
  go_region_held3 (fun w' => w'.cell? ⟨p, 12, none⟩ = some (.slice FA fn fc) ∧ Below w.heap.size w w')
    (first | (refine hold1m HP.out rfl ?_; first | (with_reducible refine below7f ?_ (Nat.le_refl _) _ _ _ _ _ _ _; with_reducible assumption) | with_reducible assumption | (repeat (first | exact Below.refl _ _ | refine Below.drew ?_ | refine below_up ?_ _))))
    (first
      | (go_at_call 56; go_must (refine (KS.out _ (And.right (by assumption))).mono ?_; rintro e w1 ⟨rfl, hb1⟩; have hbw : Below w.heap.size w w1 := Below.trans (And.right (by assumption)) (hb1.mono (Below.size (And.right (by assumption)))); have hx1 := blk_below (blk_drew HX.out) hb1 (blk_lt HX.out); obtain ⟨⟨q0, q1, q2, q3, q4, q5, q6⟩, r0, r1, r2, r3, r4, r5, r6⟩ := box7f hx1)))
  all_goals
    have hres := set7f hx1 (.slice none 0 0) (.slice none 0 0) (.slice none 0 0) (.int .i64 q) (.int .i64 0) (.int .i64 6) (.int .u64 v)
    have hbl := below7f hbw (Nat.le_refl _) (.slice none 0 0) (.slice none 0 0) (.slice none 0 0) (.int .i64 q) (.int .i64 0) (.int .i64 6) (.int .u64 v)
    go_wp2
    refine bodyPost_ret (mstate_results _ _ w.heap.size _ rfl rfl hres) rfl ⟨rfl, hbl⟩
end Go.Proofs.YtmceaeoeakkppaaGreatDoor
