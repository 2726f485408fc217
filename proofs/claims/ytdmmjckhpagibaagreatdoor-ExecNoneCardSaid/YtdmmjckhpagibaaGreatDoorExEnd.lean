/- exec's engine that has ended: State. The first theorem printed out of XMcEnd by program. -/
import Derived.Test.YtdmmjckhpagibaaGreatDoorExNext2
namespace Go.Proofs.YtdmmjckhpagibaaGreatDoor
open Go.RowKit Go.Sort
set_option linter.unusedVariables false
set_option linter.unusedSimpArgs false
set_option maxRecDepth 100000 in
set_option maxHeartbeats 8000000 in
theorem ewstate_calls {w : World} {p FB hp tp : Nat} {B0 B1 B2 B3 B4 : Option Addr} {m0 m1 m2 m3 m4 d0 d1 d2 d3 d4 : Nat} {q : Int} {C cn cc fc : Nat} {v : Int} (h : EnE w p FB hp tp B0 B1 B2 B3 B4 m0 m1 m2 m3 m4 d0 d1 d2 d3 d4 q C cn cc fc v) (hh : ∃ x, w.heap[hp]? = some (.cells #[x, .int .i64 q, .int .i64 0] 167 (0, 0))) (ht : w.heap[tp]? = some (.cells #[.slice none 0 0] 170 (0, 0))) (fs : Value) :
    Calls Tryz.prog 35 #[.pointer (some ⟨p, 0, none⟩), fs] w fun e w' => e = .returned (.agg #[.slice none 0 0, .slice none 0 0, .slice none 0 0, .int .i64 q, .int .i64 0, .int .i64 1, .int .u64 v]) ∧ Below w.heap.size w w' := by
  obtain ⟨x, hh⟩ := hh
  have hV := below_a1 w (Obj.cells #[.slice none 0 0, .slice none 0 0, .slice none 0 0, .int .i64 0, .int .i64 0, .int .i64 0, .int .u64 0] 45)
  have HX := Lib.hid (blk_new w (Obj.cells #[.slice none 0 0, .slice none 0 0, .slice none 0 0, .int .i64 0, .int .i64 0, .int .i64 0, .int .u64 0] 45))
  have HP := Lib.hid (show w.heap[p]? = _ from h)
  have HP1 := Lib.hid (blk_below HP.out hV (blk_lt HP.out))
  have KU := Lib.hid (fun W (hb : Below w.heap.size w W) => used_calls W hp x q 0 (blk_below hh hb (blk_lt hh)))
  have KL := Lib.hid (fun W (hb : Below w.heap.size w W) => list_nil W tp (blk_below ht hb (blk_lt ht)))
  have HV := Lib.hid hV
  have hslt : w.heap.size < (w.alloc (Obj.cells #[.slice none 0 0, .slice none 0 0, .slice none 0 0, .int .i64 0, .int .i64 0, .int .i64 0, .int .u64 0] 45)).heap.size := by simp
  clear h hh ht hV
  go_enter Tryz.func35, Tryz.ntmps35
  go_upto_region 1 with fail
  generalize (w.alloc (Obj.cells #[.slice none 0 0, .slice none 0 0, .slice none 0 0, .int .i64 0, .int .i64 0, .int .i64 0, .int .u64 0] 45)) = V at *
  refine wp_region_held_drew (S := fun w' => w'.cell? ⟨p, 5, none⟩ = some (.pointer (some ⟨hp, 0, none⟩)) ∧ w'.cell? ⟨p, 6, none⟩ = some (.pointer (some ⟨tp, 0, none⟩)) ∧ w'.cell? ⟨p, 7, none⟩ = some (.int .i64 q) ∧ w'.cell? ⟨p, 8, none⟩ = some (.int .i64 1) ∧ w'.cell? ⟨p, 9, none⟩ = some (.int .u64 v) ∧ Below V.heap.size V w') (by kernel_rfl) (hold5w HP1.out rfl rfl rfl rfl rfl (Below.drew (Below.refl V.heap.size V))) (fun hHeld => ?_)
  refine wpAnyH_take (i := 0) (oi := _) (v := (.pointer (some ⟨p, 0, none⟩))) rfl (by kernel_rfl) (by kernel_rfl) (by kernel_rfl) (fun _ _ _ h => h) (Or.inl ⟨by rfl, fun W hS => by go_simp⟩) hHeld ?_
  try simp only [Act.put, List.setIfInBounds_toArray, List.set_cons_zero, List.set_cons_succ, List.getElem_toArray, List.getElem_cons_zero]
  refine wpAnyH_take (i := 1) (oi := _) (v := (.pointer (some ⟨p, 0, none⟩))) rfl (by kernel_rfl) (by kernel_rfl) (by kernel_rfl) (fun _ _ _ h => h) (Or.inl ⟨by rfl, fun W hS => by go_simp⟩) hHeld ?_
  try simp only [Act.put, List.setIfInBounds_toArray, List.set_cons_zero, List.set_cons_succ, List.getElem_toArray, List.getElem_cons_succ, List.getElem_cons_zero]
  refine wpAnyH_take (i := 2) (oi := _) (v := (.pointer (some ⟨p, 6, none⟩))) rfl (by kernel_rfl) (by kernel_rfl) (by kernel_rfl) (fun _ _ _ h => h) (Or.inl ⟨by rfl, fun W hS => by go_simp⟩) hHeld ?_
  try simp only [Act.put, List.setIfInBounds_toArray, List.set_cons_zero, List.set_cons_succ, List.getElem_toArray, List.getElem_cons_succ, List.getElem_cons_zero]
  refine wpAnyH_take (i := 3) (oi := _) (v := (.pointer (some ⟨tp, 0, none⟩))) rfl (by kernel_rfl) (by kernel_rfl) (by kernel_rfl) (fun _ _ _ h => h) (Or.inl ⟨by rfl, fun W hS => by obtain ⟨s0, s1, s2, s3, s4, _⟩ := hS; go_simp⟩) hHeld ?_
  try simp only [Act.put, List.setIfInBounds_toArray, List.set_cons_zero, List.set_cons_succ, List.getElem_toArray, List.getElem_cons_succ, List.getElem_cons_zero]
  refine wpAnyH_take (i := 5) (oi := _) (v := (.pointer (some ⟨p, 0, none⟩))) rfl (by kernel_rfl) (by kernel_rfl) (by kernel_rfl) (fun _ _ _ h => h) (Or.inl ⟨by rfl, fun W hS => by go_simp⟩) hHeld ?_
  try simp only [Act.put, List.setIfInBounds_toArray, List.set_cons_zero, List.set_cons_succ, List.getElem_toArray, List.getElem_cons_succ, List.getElem_cons_zero]
  refine wpAnyH_take (i := 6) (oi := _) (v := (.pointer (some ⟨p, 0, none⟩))) rfl (by kernel_rfl) (by kernel_rfl) (by kernel_rfl) (fun _ _ _ h => h) (Or.inl ⟨by rfl, fun W hS => by go_simp⟩) hHeld ?_
  try simp only [Act.put, List.setIfInBounds_toArray, List.set_cons_zero, List.set_cons_succ, List.getElem_toArray, List.getElem_cons_succ, List.getElem_cons_zero]
  refine wpAnyH_take (i := 7) (oi := _) (v := (.pointer (some ⟨p, 7, none⟩))) rfl (by kernel_rfl) (by kernel_rfl) (by kernel_rfl) (fun _ _ _ h => h) (Or.inl ⟨by rfl, fun W hS => by go_simp⟩) hHeld ?_
  try simp only [Act.put, List.setIfInBounds_toArray, List.set_cons_zero, List.set_cons_succ, List.getElem_toArray, List.getElem_cons_succ, List.getElem_cons_zero]
  refine wpAnyH_take (i := 8) (oi := _) (v := (.int .i64 q)) rfl (by kernel_rfl) (by kernel_rfl) (by kernel_rfl) (fun _ _ _ h => h) (Or.inl ⟨by rfl, fun W hS => by obtain ⟨s0, s1, s2, s3, s4, _⟩ := hS; go_simp⟩) hHeld ?_
  try simp only [Act.put, List.setIfInBounds_toArray, List.set_cons_zero, List.set_cons_succ, List.getElem_toArray, List.getElem_cons_succ, List.getElem_cons_zero]
  refine wpAnyH_take (i := 9) (oi := _) (v := (.pointer (some ⟨p, 0, none⟩))) rfl (by kernel_rfl) (by kernel_rfl) (by kernel_rfl) (fun _ _ _ h => h) (Or.inl ⟨by rfl, fun W hS => by go_simp⟩) hHeld ?_
  try simp only [Act.put, List.setIfInBounds_toArray, List.set_cons_zero, List.set_cons_succ, List.getElem_toArray, List.getElem_cons_succ, List.getElem_cons_zero]
  refine wpAnyH_take (i := 10) (oi := _) (v := (.pointer (some ⟨p, 0, none⟩))) rfl (by kernel_rfl) (by kernel_rfl) (by kernel_rfl) (fun _ _ _ h => h) (Or.inl ⟨by rfl, fun W hS => by go_simp⟩) hHeld ?_
  try simp only [Act.put, List.setIfInBounds_toArray, List.set_cons_zero, List.set_cons_succ, List.getElem_toArray, List.getElem_cons_succ, List.getElem_cons_zero]
  refine wpAnyH_take (i := 11) (oi := _) (v := (.pointer (some ⟨p, 5, none⟩))) rfl (by kernel_rfl) (by kernel_rfl) (by kernel_rfl) (fun _ _ _ h => h) (Or.inl ⟨by rfl, fun W hS => by go_simp⟩) hHeld ?_
  try simp only [Act.put, List.setIfInBounds_toArray, List.set_cons_zero, List.set_cons_succ, List.getElem_toArray, List.getElem_cons_succ, List.getElem_cons_zero]
  refine wpAnyH_take (i := 12) (oi := _) (v := (.pointer (some ⟨hp, 0, none⟩))) rfl (by kernel_rfl) (by kernel_rfl) (by kernel_rfl) (fun _ _ _ h => h) (Or.inl ⟨by rfl, fun W hS => by obtain ⟨s0, s1, s2, s3, s4, _⟩ := hS; go_simp⟩) hHeld ?_
  try simp only [Act.put, List.setIfInBounds_toArray, List.set_cons_zero, List.set_cons_succ, List.getElem_toArray, List.getElem_cons_succ, List.getElem_cons_zero]
  refine wpAnyH_take (i := 14) (oi := _) (v := (.pointer (some ⟨p, 0, none⟩))) rfl (by kernel_rfl) (by kernel_rfl) (by kernel_rfl) (fun _ _ _ h => h) (Or.inl ⟨by rfl, fun W hS => by go_simp⟩) hHeld ?_
  try simp only [Act.put, List.setIfInBounds_toArray, List.set_cons_zero, List.set_cons_succ, List.getElem_toArray, List.getElem_cons_succ, List.getElem_cons_zero]
  refine wpAnyH_take (i := 15) (oi := _) (v := (.pointer (some ⟨p, 0, none⟩))) rfl (by kernel_rfl) (by kernel_rfl) (by kernel_rfl) (fun _ _ _ h => h) (Or.inl ⟨by rfl, fun W hS => by go_simp⟩) hHeld ?_
  try simp only [Act.put, List.setIfInBounds_toArray, List.set_cons_zero, List.set_cons_succ, List.getElem_toArray, List.getElem_cons_succ, List.getElem_cons_zero]
  refine wpAnyH_take (i := 16) (oi := _) (v := (.pointer (some ⟨p, 8, none⟩))) rfl (by kernel_rfl) (by kernel_rfl) (by kernel_rfl) (fun _ _ _ h => h) (Or.inl ⟨by rfl, fun W hS => by go_simp⟩) hHeld ?_
  try simp only [Act.put, List.setIfInBounds_toArray, List.set_cons_zero, List.set_cons_succ, List.getElem_toArray, List.getElem_cons_succ, List.getElem_cons_zero]
  refine wpAnyH_take (i := 17) (oi := _) (v := (.int .i64 1)) rfl (by kernel_rfl) (by kernel_rfl) (by kernel_rfl) (fun _ _ _ h => h) (Or.inl ⟨by rfl, fun W hS => by obtain ⟨s0, s1, s2, s3, s4, _⟩ := hS; go_simp⟩) hHeld ?_
  try simp only [Act.put, List.setIfInBounds_toArray, List.set_cons_zero, List.set_cons_succ, List.getElem_toArray, List.getElem_cons_succ, List.getElem_cons_zero]
  refine wpAnyH_take (i := 18) (oi := _) (v := (.pointer (some ⟨p, 0, none⟩))) rfl (by kernel_rfl) (by kernel_rfl) (by kernel_rfl) (fun _ _ _ h => h) (Or.inl ⟨by rfl, fun W hS => by go_simp⟩) hHeld ?_
  try simp only [Act.put, List.setIfInBounds_toArray, List.set_cons_zero, List.set_cons_succ, List.getElem_toArray, List.getElem_cons_succ, List.getElem_cons_zero]
  refine wpAnyH_take (i := 19) (oi := _) (v := (.pointer (some ⟨p, 0, none⟩))) rfl (by kernel_rfl) (by kernel_rfl) (by kernel_rfl) (fun _ _ _ h => h) (Or.inl ⟨by rfl, fun W hS => by go_simp⟩) hHeld ?_
  try simp only [Act.put, List.setIfInBounds_toArray, List.set_cons_zero, List.set_cons_succ, List.getElem_toArray, List.getElem_cons_succ, List.getElem_cons_zero]
  refine wpAnyH_take (i := 20) (oi := _) (v := (.pointer (some ⟨p, 9, none⟩))) rfl (by kernel_rfl) (by kernel_rfl) (by kernel_rfl) (fun _ _ _ h => h) (Or.inl ⟨by rfl, fun W hS => by go_simp⟩) hHeld ?_
  try simp only [Act.put, List.setIfInBounds_toArray, List.set_cons_zero, List.set_cons_succ, List.getElem_toArray, List.getElem_cons_succ, List.getElem_cons_zero]
  refine wpAnyH_take (i := 21) (oi := _) (v := (.int .u64 v)) rfl (by kernel_rfl) (by kernel_rfl) (by kernel_rfl) (fun _ _ _ h => h) (Or.inl ⟨by rfl, fun W hS => by obtain ⟨s0, s1, s2, s3, s4, _⟩ := hS; go_simp⟩) hHeld ?_
  try simp only [Act.put, List.setIfInBounds_toArray, List.set_cons_zero, List.set_cons_succ, List.getElem_toArray, List.getElem_cons_succ, List.getElem_cons_zero]
  refine wpAnyH_ready (rs := [4, 23]) (by kernel_rfl) (by simp) ?_
  refine AllReadyH.cons (o := _) rfl (fun K hK => ?_) ?_
  · skip
    go_simp
    go_at_call 59; refine (KL.out _ (HV.out.trans ((Below.drew (Below.refl V.heap.size V)).mono HV.out.size))).mono ?_; rintro e w1 ⟨rfl, hb1⟩
    go_wp2_with fail
    have hv1 : Below V.heap.size V w1 := (Below.drew (Below.refl V.heap.size V)).trans (hb1.mono (Below.drew (Below.refl V.heap.size V)).size)
    refine hK.out _ _ (hold5w HP1.out rfl rfl rfl rfl rfl hv1) (fun hHeld => ?_)
    try simp only [Act.put, List.setIfInBounds_toArray, List.set_cons_zero, List.set_cons_succ, List.getElem_toArray, List.getElem_cons_succ, List.getElem_cons_zero]
    clear hK K
    refine wpAnyH_ready (rs := [13, 23]) (by kernel_rfl) (by simp) ?_
    refine AllReadyH.cons (o := _) rfl (fun K hK => ?_) ?_
    · skip
      go_simp
      go_at_call 60; refine (KU.out _ (HV.out.trans (hv1.mono HV.out.size))).mono ?_; rintro e w2 ⟨rfl, hb2⟩
      go_wp2_with fail
      have hv2 : Below V.heap.size V w2 := hv1.trans (hb2.mono hv1.size)
      refine hK.out _ _ (hold5w HP1.out rfl rfl rfl rfl rfl hv2) (fun hHeld => ?_)
      try simp only [Act.put, List.setIfInBounds_toArray, List.set_cons_zero, List.set_cons_succ, List.getElem_toArray, List.getElem_cons_succ, List.getElem_cons_zero]
      clear hK K
      refine wpAnyH_take (i := 22) (oi := _) (v := (.agg #[.slice none 0 0, .slice none 0 0, .slice none 0 0, .int .i64 q, .int .i64 0, .int .i64 1, .int .u64 v])) rfl (by kernel_rfl) (by kernel_rfl) (by kernel_rfl) (fun _ _ _ h => h) (Or.inl ⟨by rfl, fun W hS => by go_simp⟩) hHeld ?_
      try simp only [Act.put, List.setIfInBounds_toArray, List.set_cons_zero, List.set_cons_succ, List.getElem_toArray, List.getElem_cons_succ, List.getElem_cons_zero]
      refine wpAnyH_ready (rs := [23]) (by kernel_rfl) (by simp) ?_
      refine AllReadyH.cons (o := _) rfl (fun K hK => ?_) AllReadyH.nil
      go_simp
      refine hK.out _ _ (hold5w HP1.out rfl rfl rfl rfl rfl (hv2.alloc hv2.size _)) (fun hHeld => ?_)
      try simp only [Act.put, List.setIfInBounds_toArray, List.set_cons_zero, List.set_cons_succ, List.getElem_toArray, List.getElem_cons_succ, List.getElem_cons_zero]
      clear hK K
      refine wpAnyH_ready (rs := [24]) (by kernel_rfl) (by simp) ?_
      refine AllReadyH.cons (o := _) rfl (fun K hK => ?_) AllReadyH.nil
      go_simp
      have hbF : Below V.heap.size V (w2.alloc (Obj.cells #[.slice none 0 0, .slice none 0 0, .slice none 0 0, .int .i64 q, .int .i64 0, .int .i64 1, .int .u64 v] 45)) := hv2.alloc hv2.size _
      have hgF : (w2.alloc (Obj.cells #[.slice none 0 0, .slice none 0 0, .slice none 0 0, .int .i64 q, .int .i64 0, .int .i64 1, .int .u64 v] 45)).heap[w2.heap.size]? = some (.cells #[.slice none 0 0, .slice none 0 0, .slice none 0 0, .int .i64 q, .int .i64 0, .int .i64 1, .int .u64 v] 45 (0, 0)) := blk_new w2 _
      refine hK.out _ _ (hold5w HP1.out rfl rfl rfl rfl rfl hbF) (fun hHeld => ?_)
      try simp only [Act.put, List.setIfInBounds_toArray, List.set_cons_zero, List.set_cons_succ, List.getElem_toArray, List.getElem_cons_succ, List.getElem_cons_zero]
      clear hK K
      refine wpAnyH_done (by kernel_rfl) ?_ _
      generalize (w2.alloc (Obj.cells #[.slice none 0 0, .slice none 0 0, .slice none 0 0, .int .i64 q, .int .i64 0, .int .i64 1, .int .u64 v] 45)) = Y at *
      obtain ⟨⟨j0, j1, j2, j3, j4, j5, j6⟩, -⟩ := box7f hgF
      have hX2 := blk_below HX.out hbF (blk_lt HX.out)
      obtain ⟨⟨l0, l1, l2, l3, l4, l5, l6⟩, n0, n1, n2, n3, n4, n5, n6⟩ := box7f hX2
      have k8 := hHeld.2.2.2.1
      have HX2 := Lib.hid hX2
      have HBF := Lib.hid hbF
      clear hHeld hgF hX2 hbF
      go_wp2
      refine bodyPost_ret (wstate_results _ _ w.heap.size _ _ _ q 0 1 v ⟨_, _, _, rfl⟩ ⟨_, _, _, rfl⟩ ⟨_, _, _, rfl⟩ rfl (set7f HX2.out _ _ _ _ _ _ _)) rfl ⟨rfl, ?_⟩
      exact below7f (HV.out.trans (HBF.out.mono HV.out.size)) (Nat.le_refl _) _ _ _ _ _ _ _
    refine AllReadyH.cons (o := _) rfl (fun K hK => ?_) AllReadyH.nil
    go_simp
    have hv1' : Below V.heap.size V (w1.alloc (Obj.cells #[.slice none 0 0, .slice none 0 0, .slice none 0 0, .int .i64 0, .int .i64 0, .int .i64 0, .int .u64 0] 45)) := hv1.alloc hv1.size _
    refine hK.out _ _ (hold5w HP1.out rfl rfl rfl rfl rfl hv1') (fun hHeld => ?_)
    try simp only [Act.put, List.setIfInBounds_toArray, List.set_cons_zero, List.set_cons_succ, List.getElem_toArray, List.getElem_cons_succ, List.getElem_cons_zero]
    clear hK K
    refine wpAnyH_ready (rs := [13]) (by kernel_rfl) (by simp) ?_
    refine AllReadyH.cons (o := _) rfl (fun K hK => ?_) AllReadyH.nil
    go_simp
    go_at_call 60; refine (KU.out _ (HV.out.trans (hv1'.mono HV.out.size))).mono ?_; rintro e w2 ⟨rfl, hb2⟩
    go_wp2_with fail
    have hv2 : Below V.heap.size V w2 := hv1'.trans (hb2.mono hv1'.size)
    have hx := blk_below (blk_new w1 (Obj.cells #[.slice none 0 0, .slice none 0 0, .slice none 0 0, .int .i64 0, .int .i64 0, .int .i64 0, .int .u64 0] 45)) hb2 (blk_lt (blk_new w1 (Obj.cells #[.slice none 0 0, .slice none 0 0, .slice none 0 0, .int .i64 0, .int .i64 0, .int .i64 0, .int .u64 0] 45)))
    obtain ⟨⟨q0, q1, q2, q3, q4, q5, q6⟩, r0, r1, r2, r3, r4, r5, r6⟩ := box7f hx
    refine hK.out _ _ (hold5w HP1.out rfl rfl rfl rfl rfl hv2) (fun hHeld => ?_)
    try simp only [Act.put, List.setIfInBounds_toArray, List.set_cons_zero, List.set_cons_succ, List.getElem_toArray, List.getElem_cons_succ, List.getElem_cons_zero]
    clear hK K
    refine wpAnyH_take (i := 22) (oi := _) (v := (.agg #[.slice none 0 0, .slice none 0 0, .slice none 0 0, .int .i64 q, .int .i64 0, .int .i64 1, .int .u64 v])) rfl (by kernel_rfl) (by kernel_rfl) (by kernel_rfl) (fun _ _ _ h => h) (Or.inl ⟨by rfl, fun W hS => by go_simp⟩) hHeld ?_
    try simp only [Act.put, List.setIfInBounds_toArray, List.set_cons_zero, List.set_cons_succ, List.getElem_toArray, List.getElem_cons_succ, List.getElem_cons_zero]
    refine wpAnyH_ready (rs := [24]) (by kernel_rfl) (by simp) ?_
    refine AllReadyH.cons (o := _) rfl (fun K hK => ?_) AllReadyH.nil
    go_simp
    have hbF : Below V.heap.size V (((((((w2.setCell ⟨w1.heap.size, 0, none⟩ (.slice none 0 0)).setCell ⟨w1.heap.size, 1, none⟩ (.slice none 0 0)).setCell ⟨w1.heap.size, 2, none⟩ (.slice none 0 0)).setCell ⟨w1.heap.size, 3, none⟩ (.int .i64 q)).setCell ⟨w1.heap.size, 4, none⟩ (.int .i64 0)).setCell ⟨w1.heap.size, 5, none⟩ (.int .i64 1)).setCell ⟨w1.heap.size, 6, none⟩ (.int .u64 v)) := below7f hv2 hv1.size _ _ _ _ _ _ _
    have hgF : (((((((w2.setCell ⟨w1.heap.size, 0, none⟩ (.slice none 0 0)).setCell ⟨w1.heap.size, 1, none⟩ (.slice none 0 0)).setCell ⟨w1.heap.size, 2, none⟩ (.slice none 0 0)).setCell ⟨w1.heap.size, 3, none⟩ (.int .i64 q)).setCell ⟨w1.heap.size, 4, none⟩ (.int .i64 0)).setCell ⟨w1.heap.size, 5, none⟩ (.int .i64 1)).setCell ⟨w1.heap.size, 6, none⟩ (.int .u64 v)).heap[w1.heap.size]? = some (.cells #[.slice none 0 0, .slice none 0 0, .slice none 0 0, .int .i64 q, .int .i64 0, .int .i64 1, .int .u64 v] 45 (0, 0)) := set7f hx _ _ _ _ _ _ _
    refine hK.out _ _ (hold5w HP1.out rfl rfl rfl rfl rfl hbF) (fun hHeld => ?_)
    try simp only [Act.put, List.setIfInBounds_toArray, List.set_cons_zero, List.set_cons_succ, List.getElem_toArray, List.getElem_cons_succ, List.getElem_cons_zero]
    clear hK K
    refine wpAnyH_done (by kernel_rfl) ?_ _
    generalize (((((((w2.setCell ⟨w1.heap.size, 0, none⟩ (.slice none 0 0)).setCell ⟨w1.heap.size, 1, none⟩ (.slice none 0 0)).setCell ⟨w1.heap.size, 2, none⟩ (.slice none 0 0)).setCell ⟨w1.heap.size, 3, none⟩ (.int .i64 q)).setCell ⟨w1.heap.size, 4, none⟩ (.int .i64 0)).setCell ⟨w1.heap.size, 5, none⟩ (.int .i64 1)).setCell ⟨w1.heap.size, 6, none⟩ (.int .u64 v)) = Y at *
    obtain ⟨⟨j0, j1, j2, j3, j4, j5, j6⟩, -⟩ := box7f hgF
    have hX2 := blk_below HX.out hbF (blk_lt HX.out)
    obtain ⟨⟨l0, l1, l2, l3, l4, l5, l6⟩, n0, n1, n2, n3, n4, n5, n6⟩ := box7f hX2
    have k8 := hHeld.2.2.2.1
    have HX2 := Lib.hid hX2
    have HBF := Lib.hid hbF
    clear hHeld hgF hX2 hbF
    go_wp2
    refine bodyPost_ret (wstate_results _ _ w.heap.size _ _ _ q 0 1 v ⟨_, _, _, rfl⟩ ⟨_, _, _, rfl⟩ ⟨_, _, _, rfl⟩ rfl (set7f HX2.out _ _ _ _ _ _ _)) rfl ⟨rfl, ?_⟩
    exact below7f (HV.out.trans (HBF.out.mono HV.out.size)) (Nat.le_refl _) _ _ _ _ _ _ _
  refine AllReadyH.cons (o := _) rfl (fun K hK => ?_) AllReadyH.nil
  go_simp
  have hv0 : Below V.heap.size V (V.drew.alloc (Obj.cells #[.slice none 0 0, .slice none 0 0, .slice none 0 0, .int .i64 0, .int .i64 0, .int .i64 0, .int .u64 0] 45)) := (Below.drew (Below.refl V.heap.size V)).alloc (Nat.le_refl _) _
  have hx0 : (V.drew.alloc (Obj.cells #[.slice none 0 0, .slice none 0 0, .slice none 0 0, .int .i64 0, .int .i64 0, .int .i64 0, .int .u64 0] 45)).heap[V.heap.size]? = some (Obj.cells #[.slice none 0 0, .slice none 0 0, .slice none 0 0, .int .i64 0, .int .i64 0, .int .i64 0, .int .u64 0] 45) := blk_new V.drew _
  refine hK.out _ _ (hold5w HP1.out rfl rfl rfl rfl rfl hv0) (fun hHeld => ?_)
  try simp only [Act.put, List.setIfInBounds_toArray, List.set_cons_zero, List.set_cons_succ, List.getElem_toArray, List.getElem_cons_succ, List.getElem_cons_zero]
  clear hK K
  refine wpAnyH_ready (rs := [4]) (by kernel_rfl) (by simp) ?_
  refine AllReadyH.cons (o := _) rfl (fun K hK => ?_) AllReadyH.nil
  go_simp
  go_at_call 59; refine (KL.out _ (HV.out.trans (hv0.mono HV.out.size))).mono ?_; rintro e w1 ⟨rfl, hb1⟩
  go_wp2_with fail
  have hv1 : Below V.heap.size V w1 := hv0.trans (hb1.mono hv0.size)
  have hx1 : w1.heap[V.heap.size]? = some (Obj.cells #[.slice none 0 0, .slice none 0 0, .slice none 0 0, .int .i64 0, .int .i64 0, .int .i64 0, .int .u64 0] 45) := (hb1.block _ (blk_lt hx0)).trans hx0
  refine hK.out _ _ (hold5w HP1.out rfl rfl rfl rfl rfl hv1) (fun hHeld => ?_)
  try simp only [Act.put, List.setIfInBounds_toArray, List.set_cons_zero, List.set_cons_succ, List.getElem_toArray, List.getElem_cons_succ, List.getElem_cons_zero]
  clear hK K
  refine wpAnyH_ready (rs := [13]) (by kernel_rfl) (by simp) ?_
  refine AllReadyH.cons (o := _) rfl (fun K hK => ?_) AllReadyH.nil
  go_simp
  go_at_call 60; refine (KU.out _ (HV.out.trans (hv1.mono HV.out.size))).mono ?_; rintro e w2 ⟨rfl, hb2⟩
  go_wp2_with fail
  have hv2 : Below V.heap.size V w2 := hv1.trans (hb2.mono hv1.size)
  have hx := blk_below hx1 hb2 (blk_lt hx1)
  obtain ⟨⟨q0, q1, q2, q3, q4, q5, q6⟩, r0, r1, r2, r3, r4, r5, r6⟩ := box7f hx
  refine hK.out _ _ (hold5w HP1.out rfl rfl rfl rfl rfl hv2) (fun hHeld => ?_)
  try simp only [Act.put, List.setIfInBounds_toArray, List.set_cons_zero, List.set_cons_succ, List.getElem_toArray, List.getElem_cons_succ, List.getElem_cons_zero]
  clear hK K
  refine wpAnyH_take (i := 22) (oi := _) (v := (.agg #[.slice none 0 0, .slice none 0 0, .slice none 0 0, .int .i64 q, .int .i64 0, .int .i64 1, .int .u64 v])) rfl (by kernel_rfl) (by kernel_rfl) (by kernel_rfl) (fun _ _ _ h => h) (Or.inl ⟨by rfl, fun W hS => by go_simp⟩) hHeld ?_
  try simp only [Act.put, List.setIfInBounds_toArray, List.set_cons_zero, List.set_cons_succ, List.getElem_toArray, List.getElem_cons_succ, List.getElem_cons_zero]
  refine wpAnyH_ready (rs := [24]) (by kernel_rfl) (by simp) ?_
  refine AllReadyH.cons (o := _) rfl (fun K hK => ?_) AllReadyH.nil
  go_simp
  have hbF : Below V.heap.size V (((((((w2.setCell ⟨V.heap.size, 0, none⟩ (.slice none 0 0)).setCell ⟨V.heap.size, 1, none⟩ (.slice none 0 0)).setCell ⟨V.heap.size, 2, none⟩ (.slice none 0 0)).setCell ⟨V.heap.size, 3, none⟩ (.int .i64 q)).setCell ⟨V.heap.size, 4, none⟩ (.int .i64 0)).setCell ⟨V.heap.size, 5, none⟩ (.int .i64 1)).setCell ⟨V.heap.size, 6, none⟩ (.int .u64 v)) := below7f hv2 (Nat.le_refl _) _ _ _ _ _ _ _
  have hgF : (((((((w2.setCell ⟨V.heap.size, 0, none⟩ (.slice none 0 0)).setCell ⟨V.heap.size, 1, none⟩ (.slice none 0 0)).setCell ⟨V.heap.size, 2, none⟩ (.slice none 0 0)).setCell ⟨V.heap.size, 3, none⟩ (.int .i64 q)).setCell ⟨V.heap.size, 4, none⟩ (.int .i64 0)).setCell ⟨V.heap.size, 5, none⟩ (.int .i64 1)).setCell ⟨V.heap.size, 6, none⟩ (.int .u64 v)).heap[V.heap.size]? = some (.cells #[.slice none 0 0, .slice none 0 0, .slice none 0 0, .int .i64 q, .int .i64 0, .int .i64 1, .int .u64 v] 45 (0, 0)) := set7f hx _ _ _ _ _ _ _
  refine hK.out _ _ (hold5w HP1.out rfl rfl rfl rfl rfl hbF) (fun hHeld => ?_)
  try simp only [Act.put, List.setIfInBounds_toArray, List.set_cons_zero, List.set_cons_succ, List.getElem_toArray, List.getElem_cons_succ, List.getElem_cons_zero]
  clear hK K
  refine wpAnyH_done (by kernel_rfl) ?_ _
  generalize (((((((w2.setCell ⟨V.heap.size, 0, none⟩ (.slice none 0 0)).setCell ⟨V.heap.size, 1, none⟩ (.slice none 0 0)).setCell ⟨V.heap.size, 2, none⟩ (.slice none 0 0)).setCell ⟨V.heap.size, 3, none⟩ (.int .i64 q)).setCell ⟨V.heap.size, 4, none⟩ (.int .i64 0)).setCell ⟨V.heap.size, 5, none⟩ (.int .i64 1)).setCell ⟨V.heap.size, 6, none⟩ (.int .u64 v)) = Y at *
  obtain ⟨⟨j0, j1, j2, j3, j4, j5, j6⟩, -⟩ := box7f hgF
  have hX2 := blk_below HX.out hbF (blk_lt HX.out)
  obtain ⟨⟨l0, l1, l2, l3, l4, l5, l6⟩, n0, n1, n2, n3, n4, n5, n6⟩ := box7f hX2
  have k8 := hHeld.2.2.2.1
  have HX2 := Lib.hid hX2
  have HBF := Lib.hid hbF
  clear hHeld hgF hX2 hbF
  go_wp2
  refine bodyPost_ret (wstate_results _ _ w.heap.size _ _ _ q 0 1 v ⟨_, _, _, rfl⟩ ⟨_, _, _, rfl⟩ ⟨_, _, _, rfl⟩ rfl (set7f HX2.out _ _ _ _ _ _ _)) rfl ⟨rfl, ?_⟩
  exact below7f (HV.out.trans (HBF.out.mono HV.out.size)) (Nat.le_refl _) _ _ _ _ _ _ _
theorem estate_results (tmps : Array Value) (w : World) (b : Nat) (cs : Array Value) (hs : cs.size = 7) (h : tmps.getD 2 undef = .pointer (some ⟨b, 0, none⟩)) (hb : w.heap[b]? = some (.cells cs 45 (0, 0))) :
    (results Tryz.f20 tmps).run Tryz.prog w = .ok (.agg cs) w :=
  results_cell_row Tryz.results20 tmps w b _ _ _ _ h hb Tryz.underlying45 rfl (by rw [hs]; kernel_rfl)
set_option maxRecDepth 100000 in
set_option maxHeartbeats 8000000 in
theorem estate_calls {w : World} {p FB hp tp : Nat} {B0 B1 B2 B3 B4 : Option Addr} {m0 m1 m2 m3 m4 d0 d1 d2 d3 d4 : Nat} {q : Int} {C cn cc fc : Nat} {v : Int} (h : EnE w p FB hp tp B0 B1 B2 B3 B4 m0 m1 m2 m3 m4 d0 d1 d2 d3 d4 q C cn cc fc v) (hh : ∃ x, w.heap[hp]? = some (.cells #[x, .int .i64 q, .int .i64 0] 167 (0, 0))) (ht : w.heap[tp]? = some (.cells #[.slice none 0 0] 170 (0, 0))) :
    Calls Tryz.prog 20 #[.pointer (some ⟨p, 0, none⟩)] w fun e w' => e = .returned (.agg #[.slice none 0 0, .slice none 0 0, .slice none 0 0, .int .i64 q, .int .i64 0, .int .i64 1, .int .u64 v]) ∧ Below w.heap.size w w' := by
  obtain ⟨x, hh⟩ := hh
  have hP : w.heap[p]? = _ := h
  have KS := Lib.hid (fun W (hb : Below w.heap.size w W) => ewstate_calls (w := W) (blk_below hP hb (blk_lt hP)) ⟨x, blk_below hh hb (blk_lt hh)⟩ (blk_below ht hb (blk_lt ht)) (.slice none 0 0))
  have hV := below_a1 w (Obj.cells #[.slice none 0 0, .slice none 0 0, .slice none 0 0, .int .i64 0, .int .i64 0, .int .i64 0, .int .u64 0] 45)
  have HX := Lib.hid (blk_new w (Obj.cells #[.slice none 0 0, .slice none 0 0, .slice none 0 0, .int .i64 0, .int .i64 0, .int .i64 0, .int .u64 0] 45))
  have c12 := blk_cell (blk_below hP hV (blk_lt hP)) 12
  have c12 : (w.alloc (Obj.cells #[.slice none 0 0, .slice none 0 0, .slice none 0 0, .int .i64 0, .int .i64 0, .int .i64 0, .int .u64 0] 45)).cell? ⟨p, 12, none⟩ = some (.slice (some ⟨FB, 0, none⟩) 0 fc) := c12
  have HV := Lib.hid hV
  clear h hh ht hP hV
  go_enter Tryz.func20, Tryz.ntmps20
  go_wp2_with fail
  generalize (w.alloc (Obj.cells #[.slice none 0 0, .slice none 0 0, .slice none 0 0, .int .i64 0, .int .i64 0, .int .i64 0, .int .u64 0] 45)) = V at *
  clear c12
  go_loopw [3, 15] (fun l ix wr => l = .slice none 0 0 ∧ ix = .int .i64 0 ∧ Hid (V = wr)) (fun _ _ _ => 0)
  case atStart => exact ⟨rfl, rfl, Lib.hid rfl⟩
  case round =>
    obtain ⟨rfl, rfl, he⟩ := hrel
    have e := he.out
    subst e
    go_wp2_with (go_at_call 35; go_must (refine (KS.out _ HV.out).mono ?_; rintro e w1 ⟨rfl, hb1⟩; have HB1 := Lib.hid hb1; have hx1 := blk_below HX.out hb1 (blk_lt HX.out); have HX1 := Lib.hid hx1; obtain ⟨⟨q0, q1, q2, q3, q4, q5, q6⟩, r0, r1, r2, r3, r4, r5, r6⟩ := box7f hx1; clear hb1 hx1))
    refine bodyPost_ret (estate_results _ _ w.heap.size _ rfl rfl (set7f HX1.out _ _ _ _ _ _ _)) rfl ⟨rfl, below7f (HV.out.trans (HB1.out.mono HV.out.size)) (Nat.le_refl _) _ _ _ _ _ _ _⟩
set_option maxRecDepth 100000 in
theorem estate_none (w : World) : Calls Tryz.prog 20 #[.pointer none] w fun e w' => e = .returned (.agg #[.slice none 0 0, .slice none 0 0, .slice none 0 0, .int .i64 0, .int .i64 0, .int .i64 0, .int .u64 0]) ∧ Below w.heap.size w w' := by
  have HX := Lib.hid (blk_new w (Obj.cells #[.slice none 0 0, .slice none 0 0, .slice none 0 0, .int .i64 0, .int .i64 0, .int .i64 0, .int .u64 0] 45))
  go_enter Tryz.func20, Tryz.ntmps20
  go_wp2
  refine bodyPost_ret (estate_results _ _ w.heap.size _ rfl rfl (by first | exact HX.out | (exact set7f HX.out _ _ _ _ _ _ _))) rfl ⟨rfl, by first | exact below_a1 _ _ | exact below7f (below_a1 _ _) (Nat.le_refl _) _ _ _ _ _ _ _⟩
end Go.Proofs.YtdmmjckhpagibaaGreatDoor
