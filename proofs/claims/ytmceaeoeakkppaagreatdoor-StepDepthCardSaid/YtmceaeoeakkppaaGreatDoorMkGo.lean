/- step's World.State of what goes on. The first region printed out of XMcEnd by program. -/
import Derived.Test.YtmceaeoeakkppaaGreatDoorMkFs
namespace Go.Proofs.YtmceaeoeakkppaaGreatDoor
open Go.RowKit Go.Sort
set_option linter.unusedVariables false
set_option linter.unusedSimpArgs false
def McG (w : World) (p hp tp : Nat) (B0 B1 B2 B3 B4 : Option Addr) (m0 m1 m2 m3 m4 d0 d1 d2 d3 d4 : Nat) (q : Int) (MA : Option Addr) (mn mc : Nat) (FX : Option Addr) (fn fxc : Nat) (v : Int) : Prop :=
  w.heap[p]? = some (.cells #[.slice B0 m0 d0, .slice B1 m1 d1, .slice B2 m2 d2, .slice B3 m3 d3, .slice B4 m4 d4, .pointer (some ⟨hp, 0, none⟩), .pointer (some ⟨tp, 0, none⟩), .int .i64 q, .int .i64 0, .int .u64 v, .slice none 0 0, .slice MA mn mc, .slice FX fn fxc] 101 (0, 0))
def SSt (w w' : World) (SB : Nat) (q v : Int) : Prop := Below w.heap.size w w' ∧ (∃ a b, w'.heap[SB]? = some (.cells #[a, b, .slice none 0 0, .int .i64 q, .int .i64 0, .int .i64 0, .int .u64 v] 34 (0, 0))) ∧ w'.heap[w.heap.size]? = some (.cells #[.slice none 0 0, .slice none 0 0, .slice none 0 0, .int .i64 0, .int .i64 0, .int .i64 0, .int .u64 0] 34 (0, 0))
theorem SSt.below {w w' w'' : World} {SB : Nat} {q v : Int} (h : SSt w w' SB q v) (hb : Below w'.heap.size w' w'') : SSt w w'' SB q v := by
  obtain ⟨h1, ⟨a, b, h2⟩, h3⟩ := h
  exact ⟨h1.trans (hb.mono h1.size), ⟨a, b, blk_below h2 hb (blk_lt h2)⟩, blk_below h3 hb (blk_lt h3)⟩
theorem SSt.drew {w w' : World} {SB : Nat} {q v : Int} (h : SSt w w' SB q v) : SSt w w'.drew SB q v := h.below (Below.refl _ _).drew
theorem SSt.set0 {w w' : World} {SB : Nat} {q v : Int} (h : SSt w w' SB q v) (hs : w.heap.size < SB) (u : Value) : SSt w (w'.setCell ⟨SB, 0, none⟩ u) SB q v := by
  obtain ⟨h1, ⟨a, b, h2⟩, h3⟩ := h
  exact ⟨h1.setCell (p := ⟨SB, 0, none⟩) (Nat.le_of_lt hs) _, ⟨u, b, by simpa using blk_set h2 0 u⟩, blk_far h3 (Nat.ne_of_lt hs) _⟩
theorem SSt.set1 {w w' : World} {SB : Nat} {q v : Int} (h : SSt w w' SB q v) (hs : w.heap.size < SB) (u : Value) : SSt w (w'.setCell ⟨SB, 1, none⟩ u) SB q v := by
  obtain ⟨h1, ⟨a, b, h2⟩, h3⟩ := h
  exact ⟨h1.setCell (p := ⟨SB, 1, none⟩) (Nat.le_of_lt hs) _, ⟨a, u, by simpa using blk_set h2 1 u⟩, blk_far h3 (Nat.ne_of_lt hs) _⟩
theorem SSt.cells {w w' : World} {SB : Nat} {q v : Int} (h : SSt w w' SB q v) : ∃ a b, w'.cell? ⟨SB, 0, none⟩ = some a ∧ w'.cell? ⟨SB, 1, none⟩ = some b ∧ w'.frozen? ⟨SB, 0, none⟩ = false ∧ w'.frozen? ⟨SB, 1, none⟩ = false := by
  obtain ⟨h1, ⟨a, b, h2⟩, h3⟩ := h
  exact ⟨a, b, blk_cell h2 0, blk_cell h2 1, blk_frozen h2 0, blk_frozen h2 1⟩
theorem sst_hold {w w' : World} {p hp SB : Nat} {q v : Int} (h5 : w.cell? ⟨p, 5, none⟩ = some (.pointer (some ⟨hp, 0, none⟩))) (h : SSt w w' SB q v) : w'.cell? ⟨p, 5, none⟩ = some (.pointer (some ⟨hp, 0, none⟩)) ∧ SSt w w' SB q v := ⟨below_cell h5 h.1, h⟩
set_option maxRecDepth 100000 in
set_option maxHeartbeats 8000000 in
theorem wstateG_calls {w : World} {p hp tp : Nat} {B0 B1 B2 B3 B4 : Option Addr} {m0 m1 m2 m3 m4 d0 d1 d2 d3 d4 : Nat} {q : Int} {MA : Option Addr} {mn mc : Nat} {FX : Option Addr} {fn fxc : Nat} {v : Int} (h : McG w p hp tp B0 B1 B2 B3 B4 m0 m1 m2 m3 m4 d0 d1 d2 d3 d4 q MA mn mc FX fn fxc v) (hh : ∃ x, w.heap[hp]? = some (.cells #[x, .int .i64 q, .int .i64 0] 204 (0, 0))) (ht : w.heap[tp]? = some (.cells #[.slice none 0 0] 207 (0, 0))) (FB fc : Nat) (fs : List Fra) (hn : fs.length ≤ 1000) (hz : ∀ (k : Nat) (x : Fra), fs[k]? = some x → x.ln = 0 ∧ x.SA = none ∧ x.sn = 0 ∧ x.sc = 0) (hc : ∀ (j : Nat) (v : Value), (frasC fs)[j]? = some v → w.cell? ⟨FB, j, none⟩ = some v) (hob : w.cell? ⟨hp, 0, none⟩ = some (.slice none 0 0)) :
    Calls Tryz.prog 56 #[.pointer (some ⟨p, 0, none⟩), .slice (some ⟨FB, 0, none⟩) fs.length fc] w fun e w' => ∃ A c, e = .returned (.agg #[.slice A fs.length c, .slice none 0 0, .slice none 0 0, .int .i64 q, .int .i64 0, .int .i64 0, .int .u64 v]) ∧ Below w.heap.size w w' := by
  obtain ⟨x, hh⟩ := hh
  have hV := below_a1 w (Obj.cells #[.slice none 0 0, .slice none 0 0, .slice none 0 0, .int .i64 0, .int .i64 0, .int .i64 0, .int .u64 0] 34)
  have HX := Lib.hid (blk_new w (Obj.cells #[.slice none 0 0, .slice none 0 0, .slice none 0 0, .int .i64 0, .int .i64 0, .int .i64 0, .int .u64 0] 34))
  have HP := Lib.hid (show w.heap[p]? = _ from h)
  have HP1 := Lib.hid (blk_below HP.out hV (blk_lt HP.out))
  have KU := Lib.hid (fun W (hb : Below w.heap.size w W) => used_calls W hp x q 0 (blk_below hh hb (blk_lt hh)))
  have KL := Lib.hid (fun W (hb : Below w.heap.size w W) => list_nil W tp (blk_below ht hb (blk_lt ht)))
  have HV := Lib.hid hV
  have hslt : w.heap.size < (w.alloc (Obj.cells #[.slice none 0 0, .slice none 0 0, .slice none 0 0, .int .i64 0, .int .i64 0, .int .i64 0, .int .u64 0] 34)).heap.size := by simp
  have KFr := Lib.hid (fun W (hb : Below w.heap.size w W) => frames_many W FB fc fs hn hz (fun j v hj => below_cell (hc j v hj) hb))
  have KOb := Lib.hid (fun W (hb : Below w.heap.size w W) => objs_heap W hp (below_cell hob hb))
  have HC5 := Lib.hid (show w.cell? ⟨p, 5, none⟩ = some (.pointer (some ⟨hp, 0, none⟩)) from blk_cell HP.out 5)
  clear h hh ht hV hc hz hob
  go_enter Tryz.func56, Tryz.ntmps56
  go_upto_region 1 with fail
  generalize (w.alloc (Obj.cells #[.slice none 0 0, .slice none 0 0, .slice none 0 0, .int .i64 0, .int .i64 0, .int .i64 0, .int .u64 0] 34)) = V at *
  refine wp_region_held_drew (S := fun w' => w'.cell? ⟨p, 5, none⟩ = some (.pointer (some ⟨hp, 0, none⟩)) ∧ w'.cell? ⟨p, 6, none⟩ = some (.pointer (some ⟨tp, 0, none⟩)) ∧ w'.cell? ⟨p, 7, none⟩ = some (.int .i64 q) ∧ w'.cell? ⟨p, 8, none⟩ = some (.int .i64 0) ∧ w'.cell? ⟨p, 9, none⟩ = some (.int .u64 v) ∧ Below V.heap.size V w') (by kernel_rfl) (hold5w HP1.out rfl rfl rfl rfl rfl (Below.drew (Below.refl V.heap.size V))) (fun hHeld => ?_)
  refine wpAnyH_take (i := 0) (oi := _) (v := (.pointer (some ⟨p, 0, none⟩))) rfl (by kernel_rfl) (by kernel_rfl) (by kernel_rfl) (fun _ _ _ h => h) (Or.inl ⟨by rfl, fun W hS => by go_simp⟩) hHeld ?_
  try simp only [Act.put, List.setIfInBounds_toArray, List.set_cons_zero, List.set_cons_succ, List.getElem_toArray, List.getElem_cons_zero]
  refine wpAnyH_take (i := 1) (oi := _) (v := (.pointer (some ⟨p, 0, none⟩))) rfl (by kernel_rfl) (by kernel_rfl) (by kernel_rfl) (fun _ _ _ h => h) (Or.inl ⟨by rfl, fun W hS => by go_simp⟩) hHeld ?_
  try simp only [Act.put, List.setIfInBounds_toArray, List.set_cons_zero, List.set_cons_succ, List.getElem_toArray, List.getElem_cons_succ, List.getElem_cons_zero]
  refine wpAnyH_take (i := 2) (oi := _) (v := (.pointer (some ⟨p, 6, none⟩))) rfl (by kernel_rfl) (by kernel_rfl) (by kernel_rfl) (fun _ _ _ h => h) (Or.inl ⟨by rfl, fun W hS => by go_simp⟩) hHeld ?_
  try simp only [Act.put, List.setIfInBounds_toArray, List.set_cons_zero, List.set_cons_succ, List.getElem_toArray, List.getElem_cons_succ, List.getElem_cons_zero]
  refine wpAnyH_take (i := 3) (oi := _) (v := (.pointer (some ⟨tp, 0, none⟩))) rfl (by kernel_rfl) (by kernel_rfl) (by kernel_rfl) (fun _ _ _ h => h) (Or.inl ⟨by rfl, fun W hS => by obtain ⟨s0, s1, s2, s3, s4, _⟩ := hS; go_simp⟩) hHeld ?_
  try simp only [Act.put, List.setIfInBounds_toArray, List.set_cons_zero, List.set_cons_succ, List.getElem_toArray, List.getElem_cons_succ, List.getElem_cons_zero]
  refine wpAnyH_take (i := 5) (oi := _) (v := (.pointer (some ⟨p, 0, none⟩))) rfl (by kernel_rfl) (by kernel_rfl) (by kernel_rfl) (fun _ _ _ h => h) (Or.inl ⟨by rfl, fun W hS => by go_simp⟩) hHeld ?_
  try simp only [Act.put, List.setIfInBounds_toArray, List.set_cons_zero, List.set_cons_succ, List.getElem_toArray, List.getElem_cons_succ, List.getElem_cons_zero]
  refine wpAnyH_take (i := 6) (oi := _) (v := (.pointer (some ⟨p, 0, none⟩))) rfl (by kernel_rfl) (by kernel_rfl) (by kernel_rfl) (fun _ _ _ h => h) (Or.inl ⟨by rfl, fun W hS => by go_simp⟩) hHeld ?_
  try simp only [Act.put, List.setIfInBounds_toArray, List.set_cons_zero, List.set_cons_succ, List.getElem_toArray, List.getElem_cons_succ, List.getElem_cons_zero]
  refine wpAnyH_take (i := 7) (oi := _) (v := (.pointer (some ⟨p, 7, none⟩))) rfl (by kernel_rfl) (by kernel_rfl) (by kernel_rfl) (fun _ _ _ h => h) (Or.inl ⟨by rfl, fun W hS => by go_simp⟩) hHeld ?_
  try simp only [Act.put, List.setIfInBounds_toArray, List.set_cons_zero, List.set_cons_succ, List.getElem_toArray, List.getElem_cons_succ, List.getElem_cons_zero]
  refine wpAnyH_take (i := 8) (oi := _) (v := (.int .i64 q)) rfl (by kernel_rfl) (by kernel_rfl) (by kernel_rfl) (fun _ _ _ h => h) (Or.inl ⟨by rfl, fun W hS => by obtain ⟨s0, s1, s2, s3, s4, _⟩ := hS; go_simp⟩) hHeld ?_
  try simp only [Act.put, List.setIfInBounds_toArray, List.set_cons_zero, List.set_cons_succ, List.getElem_toArray, List.getElem_cons_succ, List.getElem_cons_zero]
  refine wpAnyH_take (i := 9) (oi := _) (v := (.pointer (some ⟨p, 0, none⟩))) rfl (by kernel_rfl) (by kernel_rfl) (by kernel_rfl) (fun _ _ _ h => h) (Or.inl ⟨by rfl, fun W hS => by go_simp⟩) hHeld ?_
  try simp only [Act.put, List.setIfInBounds_toArray, List.set_cons_zero, List.set_cons_succ, List.getElem_toArray, List.getElem_cons_succ, List.getElem_cons_zero]
  refine wpAnyH_take (i := 10) (oi := _) (v := (.pointer (some ⟨p, 0, none⟩))) rfl (by kernel_rfl) (by kernel_rfl) (by kernel_rfl) (fun _ _ _ h => h) (Or.inl ⟨by rfl, fun W hS => by go_simp⟩) hHeld ?_
  try simp only [Act.put, List.setIfInBounds_toArray, List.set_cons_zero, List.set_cons_succ, List.getElem_toArray, List.getElem_cons_succ, List.getElem_cons_zero]
  refine wpAnyH_take (i := 11) (oi := _) (v := (.pointer (some ⟨p, 5, none⟩))) rfl (by kernel_rfl) (by kernel_rfl) (by kernel_rfl) (fun _ _ _ h => h) (Or.inl ⟨by rfl, fun W hS => by go_simp⟩) hHeld ?_
  try simp only [Act.put, List.setIfInBounds_toArray, List.set_cons_zero, List.set_cons_succ, List.getElem_toArray, List.getElem_cons_succ, List.getElem_cons_zero]
  refine wpAnyH_take (i := 12) (oi := _) (v := (.pointer (some ⟨hp, 0, none⟩))) rfl (by kernel_rfl) (by kernel_rfl) (by kernel_rfl) (fun _ _ _ h => h) (Or.inl ⟨by rfl, fun W hS => by obtain ⟨s0, s1, s2, s3, s4, _⟩ := hS; go_simp⟩) hHeld ?_
  try simp only [Act.put, List.setIfInBounds_toArray, List.set_cons_zero, List.set_cons_succ, List.getElem_toArray, List.getElem_cons_succ, List.getElem_cons_zero]
  refine wpAnyH_take (i := 14) (oi := _) (v := (.pointer (some ⟨p, 0, none⟩))) rfl (by kernel_rfl) (by kernel_rfl) (by kernel_rfl) (fun _ _ _ h => h) (Or.inl ⟨by rfl, fun W hS => by go_simp⟩) hHeld ?_
  try simp only [Act.put, List.setIfInBounds_toArray, List.set_cons_zero, List.set_cons_succ, List.getElem_toArray, List.getElem_cons_succ, List.getElem_cons_zero]
  refine wpAnyH_take (i := 15) (oi := _) (v := (.pointer (some ⟨p, 0, none⟩))) rfl (by kernel_rfl) (by kernel_rfl) (by kernel_rfl) (fun _ _ _ h => h) (Or.inl ⟨by rfl, fun W hS => by go_simp⟩) hHeld ?_
  try simp only [Act.put, List.setIfInBounds_toArray, List.set_cons_zero, List.set_cons_succ, List.getElem_toArray, List.getElem_cons_succ, List.getElem_cons_zero]
  refine wpAnyH_take (i := 16) (oi := _) (v := (.pointer (some ⟨p, 8, none⟩))) rfl (by kernel_rfl) (by kernel_rfl) (by kernel_rfl) (fun _ _ _ h => h) (Or.inl ⟨by rfl, fun W hS => by go_simp⟩) hHeld ?_
  try simp only [Act.put, List.setIfInBounds_toArray, List.set_cons_zero, List.set_cons_succ, List.getElem_toArray, List.getElem_cons_succ, List.getElem_cons_zero]
  refine wpAnyH_take (i := 17) (oi := _) (v := (.int .i64 0)) rfl (by kernel_rfl) (by kernel_rfl) (by kernel_rfl) (fun _ _ _ h => h) (Or.inl ⟨by rfl, fun W hS => by obtain ⟨s0, s1, s2, s3, s4, _⟩ := hS; go_simp⟩) hHeld ?_
  try simp only [Act.put, List.setIfInBounds_toArray, List.set_cons_zero, List.set_cons_succ, List.getElem_toArray, List.getElem_cons_succ, List.getElem_cons_zero]
  refine wpAnyH_take (i := 18) (oi := _) (v := (.pointer (some ⟨p, 0, none⟩))) rfl (by kernel_rfl) (by kernel_rfl) (by kernel_rfl) (fun _ _ _ h => h) (Or.inl ⟨by rfl, fun W hS => by go_simp⟩) hHeld ?_
  try simp only [Act.put, List.setIfInBounds_toArray, List.set_cons_zero, List.set_cons_succ, List.getElem_toArray, List.getElem_cons_succ, List.getElem_cons_zero]
  refine wpAnyH_take (i := 19) (oi := _) (v := (.pointer (some ⟨p, 0, none⟩))) rfl (by kernel_rfl) (by kernel_rfl) (by kernel_rfl) (fun _ _ _ h => h) (Or.inl ⟨by rfl, fun W hS => by go_simp⟩) hHeld ?_
  try simp only [Act.put, List.setIfInBounds_toArray, List.set_cons_zero, List.set_cons_succ, List.getElem_toArray, List.getElem_cons_succ, List.getElem_cons_zero]
  refine wpAnyH_take (i := 20) (oi := _) (v := (.pointer (some ⟨p, 9, none⟩))) rfl (by kernel_rfl) (by kernel_rfl) (by kernel_rfl) (fun _ _ _ h => h) (Or.inl ⟨by rfl, fun W hS => by go_simp⟩) hHeld ?_
  try simp only [Act.put, List.setIfInBounds_toArray, List.set_cons_zero, List.set_cons_succ, List.getElem_toArray, List.getElem_cons_succ, List.getElem_cons_zero]
  refine wpAnyH_take (i := 21) (oi := _) (v := (.int .u64 v)) rfl (by kernel_rfl) (by kernel_rfl) (by kernel_rfl) (fun _ _ _ h => h) (Or.inl ⟨by rfl, fun W hS => by obtain ⟨s0, s1, s2, s3, s4, _⟩ := hS; go_simp⟩) hHeld ?_
  try simp only [Act.put, List.setIfInBounds_toArray, List.set_cons_zero, List.set_cons_succ, List.getElem_toArray, List.getElem_cons_succ, List.getElem_cons_zero]
  refine wpAnyH_ready (rs := [4, 23]) (by kernel_rfl) (by simp) ?_
  refine AllReadyH.cons (o := _) rfl (fun K hK => ?_) ?_
  · skip
    go_simp
    go_at_call 92; refine (KL.out _ (HV.out.trans ((Below.drew (Below.refl V.heap.size V)).mono HV.out.size))).mono ?_; rintro e w1 ⟨rfl, hb1⟩
    go_wp2_with fail
    have hv1 : Below V.heap.size V w1 := (Below.drew (Below.refl V.heap.size V)).trans (hb1.mono (Below.drew (Below.refl V.heap.size V)).size)
    refine hK.out _ _ (hold5w HP1.out rfl rfl rfl rfl rfl hv1) (fun hHeld => ?_)
    try simp only [Act.put, List.setIfInBounds_toArray, List.set_cons_zero, List.set_cons_succ, List.getElem_toArray, List.getElem_cons_succ, List.getElem_cons_zero]
    clear hK K
    refine wpAnyH_ready (rs := [13, 23]) (by kernel_rfl) (by simp) ?_
    refine AllReadyH.cons (o := _) rfl (fun K hK => ?_) ?_
    · skip
      go_simp
      go_at_call 93; refine (KU.out _ (HV.out.trans (hv1.mono HV.out.size))).mono ?_; rintro e w2 ⟨rfl, hb2⟩
      go_wp2_with fail
      have hv2 : Below V.heap.size V w2 := hv1.trans (hb2.mono hv1.size)
      refine hK.out _ _ (hold5w HP1.out rfl rfl rfl rfl rfl hv2) (fun hHeld => ?_)
      try simp only [Act.put, List.setIfInBounds_toArray, List.set_cons_zero, List.set_cons_succ, List.getElem_toArray, List.getElem_cons_succ, List.getElem_cons_zero]
      clear hK K
      refine wpAnyH_take (i := 22) (oi := _) (v := (.agg #[.slice none 0 0, .slice none 0 0, .slice none 0 0, .int .i64 q, .int .i64 0, .int .i64 0, .int .u64 v])) rfl (by kernel_rfl) (by kernel_rfl) (by kernel_rfl) (fun _ _ _ h => h) (Or.inl ⟨by rfl, fun W hS => by go_simp⟩) hHeld ?_
      try simp only [Act.put, List.setIfInBounds_toArray, List.set_cons_zero, List.set_cons_succ, List.getElem_toArray, List.getElem_cons_succ, List.getElem_cons_zero]
      refine wpAnyH_ready (rs := [23]) (by kernel_rfl) (by simp) ?_
      refine AllReadyH.cons (o := _) rfl (fun K hK => ?_) AllReadyH.nil
      go_simp
      refine hK.out _ _ (hold5w HP1.out rfl rfl rfl rfl rfl (hv2.alloc hv2.size _)) (fun hHeld => ?_)
      try simp only [Act.put, List.setIfInBounds_toArray, List.set_cons_zero, List.set_cons_succ, List.getElem_toArray, List.getElem_cons_succ, List.getElem_cons_zero]
      clear hK K
      refine wpAnyH_ready (rs := [24]) (by kernel_rfl) (by simp) ?_
      refine AllReadyH.cons (o := _) rfl (fun K hK => ?_) AllReadyH.nil
      go_simp
      have hbF : Below V.heap.size V (w2.alloc (Obj.cells #[.slice none 0 0, .slice none 0 0, .slice none 0 0, .int .i64 q, .int .i64 0, .int .i64 0, .int .u64 v] 34)) := hv2.alloc hv2.size _
      have hgF : (w2.alloc (Obj.cells #[.slice none 0 0, .slice none 0 0, .slice none 0 0, .int .i64 q, .int .i64 0, .int .i64 0, .int .u64 v] 34)).heap[w2.heap.size]? = some (.cells #[.slice none 0 0, .slice none 0 0, .slice none 0 0, .int .i64 q, .int .i64 0, .int .i64 0, .int .u64 v] 34 (0, 0)) := blk_new w2 _
      refine hK.out _ _ (hold5w HP1.out rfl rfl rfl rfl rfl hbF) (fun hHeld => ?_)
      try simp only [Act.put, List.setIfInBounds_toArray, List.set_cons_zero, List.set_cons_succ, List.getElem_toArray, List.getElem_cons_succ, List.getElem_cons_zero]
      clear hK K
      refine wpAnyH_done (by kernel_rfl) ?_ _
      generalize (w2.alloc (Obj.cells #[.slice none 0 0, .slice none 0 0, .slice none 0 0, .int .i64 q, .int .i64 0, .int .i64 0, .int .u64 v] 34)) = Y at *
      have k8 : Y.cell? ⟨p, 8, none⟩ = some (.int .i64 0) := hHeld.2.2.2.1
      have hbw : Below w.heap.size w Y := HV.out.trans (hbF.mono HV.out.size)
      have hSBl : w.heap.size < w2.heap.size := Nat.lt_of_lt_of_le (blk_lt HX.out) hv2.size
      have HX2 := Lib.hid (blk_below HX.out hbF (blk_lt HX.out))
      generalize hSBe : w2.heap.size = SB at *
      have HSB := Lib.hid hSBl
      have HS0 : Hid (SSt w Y SB q v) := Lib.hid ⟨hbw, ⟨_, _, hgF⟩, HX2.out⟩
      obtain ⟨⟨j0, j1, j2, j3, j4, j5, j6⟩, -⟩ := box7f hgF
      clear hHeld hgF hbF
      go_upto_region 3 with fail
      go_region_held3 (fun w' => w'.cell? ⟨p, 5, none⟩ = some (.pointer (some ⟨hp, 0, none⟩)) ∧ SSt w w' SB q v)
        (first | (refine sst_hold HC5.out ?_; first | with_reducible assumption | exact HS0.out | exact HS0.out.drew | exact (by assumption : SSt w _ SB q v).set0 HSB.out _ | exact ((by assumption : SSt w _ SB q v).set0 HSB.out _).set1 HSB.out _))
        (first
          | (go_at_call 46; go_must (refine (KFr.out _ (And.right (by assumption) : SSt w _ SB q v).1).mono ?_; rintro e w3 ⟨A3, c3, rfl, hle3, hb3⟩; have hS3 := (And.right (by assumption) : SSt w _ SB q v).below hb3; obtain ⟨_, _, y0, y1, y2, y3⟩ := hS3.cells))
          | (go_at_call 94; go_must (refine (clipF_calls _ _ _ _ hle3).mono ?_; rintro e w4 ⟨rfl, hb4⟩; have hS4 := (And.right (by assumption) : SSt w _ SB q v).below hb4; obtain ⟨_, _, y0, y1, y2, y3⟩ := hS4.cells))
          | (go_at_call 95; go_must (refine (KOb.out _ (And.right (by assumption) : SSt w _ SB q v).1).mono ?_; rintro e w5 ⟨rfl, hb5⟩; have hS5 := (And.right (by assumption) : SSt w _ SB q v).below hb5; obtain ⟨_, _, y0, y1, y2, y3⟩ := hS5.cells)))
      all_goals
        obtain ⟨hbw5, ⟨sa, sb, hs5⟩, hx5⟩ := hS5
        have hsf := blk_set (blk_set hs5 0 (.slice A3 fs.length fs.length)) 1 (.slice none 0 0)
        have hxf := blk_far (blk_far hx5 (Nat.ne_of_lt HSB.out) (p := ⟨SB, 0, none⟩) (.slice A3 fs.length fs.length)) (Nat.ne_of_lt HSB.out) (p := ⟨SB, 1, none⟩) (.slice none 0 0)
        have hbf : Below w.heap.size w ((w5.setCell ⟨SB, 0, none⟩ (.slice A3 fs.length fs.length)).setCell ⟨SB, 1, none⟩ (.slice none 0 0)) := (hbw5.setCell (p := ⟨SB, 0, none⟩) (Nat.le_of_lt HSB.out) _).setCell (p := ⟨SB, 1, none⟩) (Nat.le_of_lt HSB.out) _
        generalize ((w5.setCell ⟨SB, 0, none⟩ (.slice A3 fs.length fs.length)).setCell ⟨SB, 1, none⟩ (.slice none 0 0)) = Z at *
        have hsf2 : Z.heap[SB]? = some (.cells #[.slice A3 fs.length fs.length, .slice none 0 0, .slice none 0 0, .int .i64 q, .int .i64 0, .int .i64 0, .int .u64 v] 34 (0, 0)) := by simpa using hsf
        obtain ⟨⟨b0, b1, b2, b3, b4, b5, b6⟩, -⟩ := box7f hsf2
        obtain ⟨⟨l0, l1, l2, l3, l4, l5, l6⟩, n0, n1, n2, n3, n4, n5, n6⟩ := box7f hxf
        have HXf := Lib.hid hxf
        have HBf := Lib.hid hbf
        clear hsf hsf2 hxf hbf hbw5 hs5 hx5 y0 y1 y2 y3
        go_wp2
        refine bodyPost_ret (wstate_results _ _ w.heap.size _ _ _ q 0 0 v ⟨_, _, _, rfl⟩ ⟨_, _, _, rfl⟩ ⟨_, _, _, rfl⟩ rfl (set7f HXf.out _ _ _ _ _ _ _)) rfl ⟨A3, fs.length, rfl, ?_⟩
        exact below7f HBf.out (Nat.le_refl _) _ _ _ _ _ _ _
    refine AllReadyH.cons (o := _) rfl (fun K hK => ?_) AllReadyH.nil
    go_simp
    have hv1' : Below V.heap.size V (w1.alloc (Obj.cells #[.slice none 0 0, .slice none 0 0, .slice none 0 0, .int .i64 0, .int .i64 0, .int .i64 0, .int .u64 0] 34)) := hv1.alloc hv1.size _
    refine hK.out _ _ (hold5w HP1.out rfl rfl rfl rfl rfl hv1') (fun hHeld => ?_)
    try simp only [Act.put, List.setIfInBounds_toArray, List.set_cons_zero, List.set_cons_succ, List.getElem_toArray, List.getElem_cons_succ, List.getElem_cons_zero]
    clear hK K
    refine wpAnyH_ready (rs := [13]) (by kernel_rfl) (by simp) ?_
    refine AllReadyH.cons (o := _) rfl (fun K hK => ?_) AllReadyH.nil
    go_simp
    go_at_call 93; refine (KU.out _ (HV.out.trans (hv1'.mono HV.out.size))).mono ?_; rintro e w2 ⟨rfl, hb2⟩
    go_wp2_with fail
    have hv2 : Below V.heap.size V w2 := hv1'.trans (hb2.mono hv1'.size)
    have hx := blk_below (blk_new w1 (Obj.cells #[.slice none 0 0, .slice none 0 0, .slice none 0 0, .int .i64 0, .int .i64 0, .int .i64 0, .int .u64 0] 34)) hb2 (blk_lt (blk_new w1 (Obj.cells #[.slice none 0 0, .slice none 0 0, .slice none 0 0, .int .i64 0, .int .i64 0, .int .i64 0, .int .u64 0] 34)))
    obtain ⟨⟨q0, q1, q2, q3, q4, q5, q6⟩, r0, r1, r2, r3, r4, r5, r6⟩ := box7f hx
    refine hK.out _ _ (hold5w HP1.out rfl rfl rfl rfl rfl hv2) (fun hHeld => ?_)
    try simp only [Act.put, List.setIfInBounds_toArray, List.set_cons_zero, List.set_cons_succ, List.getElem_toArray, List.getElem_cons_succ, List.getElem_cons_zero]
    clear hK K
    refine wpAnyH_take (i := 22) (oi := _) (v := (.agg #[.slice none 0 0, .slice none 0 0, .slice none 0 0, .int .i64 q, .int .i64 0, .int .i64 0, .int .u64 v])) rfl (by kernel_rfl) (by kernel_rfl) (by kernel_rfl) (fun _ _ _ h => h) (Or.inl ⟨by rfl, fun W hS => by go_simp⟩) hHeld ?_
    try simp only [Act.put, List.setIfInBounds_toArray, List.set_cons_zero, List.set_cons_succ, List.getElem_toArray, List.getElem_cons_succ, List.getElem_cons_zero]
    refine wpAnyH_ready (rs := [24]) (by kernel_rfl) (by simp) ?_
    refine AllReadyH.cons (o := _) rfl (fun K hK => ?_) AllReadyH.nil
    go_simp
    have hbF : Below V.heap.size V (((((((w2.setCell ⟨w1.heap.size, 0, none⟩ (.slice none 0 0)).setCell ⟨w1.heap.size, 1, none⟩ (.slice none 0 0)).setCell ⟨w1.heap.size, 2, none⟩ (.slice none 0 0)).setCell ⟨w1.heap.size, 3, none⟩ (.int .i64 q)).setCell ⟨w1.heap.size, 4, none⟩ (.int .i64 0)).setCell ⟨w1.heap.size, 5, none⟩ (.int .i64 0)).setCell ⟨w1.heap.size, 6, none⟩ (.int .u64 v)) := below7f hv2 hv1.size _ _ _ _ _ _ _
    have hgF : (((((((w2.setCell ⟨w1.heap.size, 0, none⟩ (.slice none 0 0)).setCell ⟨w1.heap.size, 1, none⟩ (.slice none 0 0)).setCell ⟨w1.heap.size, 2, none⟩ (.slice none 0 0)).setCell ⟨w1.heap.size, 3, none⟩ (.int .i64 q)).setCell ⟨w1.heap.size, 4, none⟩ (.int .i64 0)).setCell ⟨w1.heap.size, 5, none⟩ (.int .i64 0)).setCell ⟨w1.heap.size, 6, none⟩ (.int .u64 v)).heap[w1.heap.size]? = some (.cells #[.slice none 0 0, .slice none 0 0, .slice none 0 0, .int .i64 q, .int .i64 0, .int .i64 0, .int .u64 v] 34 (0, 0)) := set7f hx _ _ _ _ _ _ _
    refine hK.out _ _ (hold5w HP1.out rfl rfl rfl rfl rfl hbF) (fun hHeld => ?_)
    try simp only [Act.put, List.setIfInBounds_toArray, List.set_cons_zero, List.set_cons_succ, List.getElem_toArray, List.getElem_cons_succ, List.getElem_cons_zero]
    clear hK K
    refine wpAnyH_done (by kernel_rfl) ?_ _
    generalize (((((((w2.setCell ⟨w1.heap.size, 0, none⟩ (.slice none 0 0)).setCell ⟨w1.heap.size, 1, none⟩ (.slice none 0 0)).setCell ⟨w1.heap.size, 2, none⟩ (.slice none 0 0)).setCell ⟨w1.heap.size, 3, none⟩ (.int .i64 q)).setCell ⟨w1.heap.size, 4, none⟩ (.int .i64 0)).setCell ⟨w1.heap.size, 5, none⟩ (.int .i64 0)).setCell ⟨w1.heap.size, 6, none⟩ (.int .u64 v)) = Y at *
    have k8 : Y.cell? ⟨p, 8, none⟩ = some (.int .i64 0) := hHeld.2.2.2.1
    have hbw : Below w.heap.size w Y := HV.out.trans (hbF.mono HV.out.size)
    have hSBl : w.heap.size < w1.heap.size := Nat.lt_of_lt_of_le (blk_lt HX.out) hv1.size
    have HX2 := Lib.hid (blk_below HX.out hbF (blk_lt HX.out))
    generalize hSBe : w1.heap.size = SB at *
    have HSB := Lib.hid hSBl
    have HS0 : Hid (SSt w Y SB q v) := Lib.hid ⟨hbw, ⟨_, _, hgF⟩, HX2.out⟩
    obtain ⟨⟨j0, j1, j2, j3, j4, j5, j6⟩, -⟩ := box7f hgF
    clear hHeld hgF hbF
    go_upto_region 3 with fail
    go_region_held3 (fun w' => w'.cell? ⟨p, 5, none⟩ = some (.pointer (some ⟨hp, 0, none⟩)) ∧ SSt w w' SB q v)
      (first | (refine sst_hold HC5.out ?_; first | with_reducible assumption | exact HS0.out | exact HS0.out.drew | exact (by assumption : SSt w _ SB q v).set0 HSB.out _ | exact ((by assumption : SSt w _ SB q v).set0 HSB.out _).set1 HSB.out _))
      (first
        | (go_at_call 46; go_must (refine (KFr.out _ (And.right (by assumption) : SSt w _ SB q v).1).mono ?_; rintro e w3 ⟨A3, c3, rfl, hle3, hb3⟩; have hS3 := (And.right (by assumption) : SSt w _ SB q v).below hb3; obtain ⟨_, _, y0, y1, y2, y3⟩ := hS3.cells))
        | (go_at_call 94; go_must (refine (clipF_calls _ _ _ _ hle3).mono ?_; rintro e w4 ⟨rfl, hb4⟩; have hS4 := (And.right (by assumption) : SSt w _ SB q v).below hb4; obtain ⟨_, _, y0, y1, y2, y3⟩ := hS4.cells))
        | (go_at_call 95; go_must (refine (KOb.out _ (And.right (by assumption) : SSt w _ SB q v).1).mono ?_; rintro e w5 ⟨rfl, hb5⟩; have hS5 := (And.right (by assumption) : SSt w _ SB q v).below hb5; obtain ⟨_, _, y0, y1, y2, y3⟩ := hS5.cells)))
    all_goals
      obtain ⟨hbw5, ⟨sa, sb, hs5⟩, hx5⟩ := hS5
      have hsf := blk_set (blk_set hs5 0 (.slice A3 fs.length fs.length)) 1 (.slice none 0 0)
      have hxf := blk_far (blk_far hx5 (Nat.ne_of_lt HSB.out) (p := ⟨SB, 0, none⟩) (.slice A3 fs.length fs.length)) (Nat.ne_of_lt HSB.out) (p := ⟨SB, 1, none⟩) (.slice none 0 0)
      have hbf : Below w.heap.size w ((w5.setCell ⟨SB, 0, none⟩ (.slice A3 fs.length fs.length)).setCell ⟨SB, 1, none⟩ (.slice none 0 0)) := (hbw5.setCell (p := ⟨SB, 0, none⟩) (Nat.le_of_lt HSB.out) _).setCell (p := ⟨SB, 1, none⟩) (Nat.le_of_lt HSB.out) _
      generalize ((w5.setCell ⟨SB, 0, none⟩ (.slice A3 fs.length fs.length)).setCell ⟨SB, 1, none⟩ (.slice none 0 0)) = Z at *
      have hsf2 : Z.heap[SB]? = some (.cells #[.slice A3 fs.length fs.length, .slice none 0 0, .slice none 0 0, .int .i64 q, .int .i64 0, .int .i64 0, .int .u64 v] 34 (0, 0)) := by simpa using hsf
      obtain ⟨⟨b0, b1, b2, b3, b4, b5, b6⟩, -⟩ := box7f hsf2
      obtain ⟨⟨l0, l1, l2, l3, l4, l5, l6⟩, n0, n1, n2, n3, n4, n5, n6⟩ := box7f hxf
      have HXf := Lib.hid hxf
      have HBf := Lib.hid hbf
      clear hsf hsf2 hxf hbf hbw5 hs5 hx5 y0 y1 y2 y3
      go_wp2
      refine bodyPost_ret (wstate_results _ _ w.heap.size _ _ _ q 0 0 v ⟨_, _, _, rfl⟩ ⟨_, _, _, rfl⟩ ⟨_, _, _, rfl⟩ rfl (set7f HXf.out _ _ _ _ _ _ _)) rfl ⟨A3, fs.length, rfl, ?_⟩
      exact below7f HBf.out (Nat.le_refl _) _ _ _ _ _ _ _
  refine AllReadyH.cons (o := _) rfl (fun K hK => ?_) AllReadyH.nil
  go_simp
  have hv0 : Below V.heap.size V (V.drew.alloc (Obj.cells #[.slice none 0 0, .slice none 0 0, .slice none 0 0, .int .i64 0, .int .i64 0, .int .i64 0, .int .u64 0] 34)) := (Below.drew (Below.refl V.heap.size V)).alloc (Nat.le_refl _) _
  have hx0 : (V.drew.alloc (Obj.cells #[.slice none 0 0, .slice none 0 0, .slice none 0 0, .int .i64 0, .int .i64 0, .int .i64 0, .int .u64 0] 34)).heap[V.heap.size]? = some (Obj.cells #[.slice none 0 0, .slice none 0 0, .slice none 0 0, .int .i64 0, .int .i64 0, .int .i64 0, .int .u64 0] 34) := blk_new V.drew _
  refine hK.out _ _ (hold5w HP1.out rfl rfl rfl rfl rfl hv0) (fun hHeld => ?_)
  try simp only [Act.put, List.setIfInBounds_toArray, List.set_cons_zero, List.set_cons_succ, List.getElem_toArray, List.getElem_cons_succ, List.getElem_cons_zero]
  clear hK K
  refine wpAnyH_ready (rs := [4]) (by kernel_rfl) (by simp) ?_
  refine AllReadyH.cons (o := _) rfl (fun K hK => ?_) AllReadyH.nil
  go_simp
  go_at_call 92; refine (KL.out _ (HV.out.trans (hv0.mono HV.out.size))).mono ?_; rintro e w1 ⟨rfl, hb1⟩
  go_wp2_with fail
  have hv1 : Below V.heap.size V w1 := hv0.trans (hb1.mono hv0.size)
  have hx1 : w1.heap[V.heap.size]? = some (Obj.cells #[.slice none 0 0, .slice none 0 0, .slice none 0 0, .int .i64 0, .int .i64 0, .int .i64 0, .int .u64 0] 34) := (hb1.block _ (blk_lt hx0)).trans hx0
  refine hK.out _ _ (hold5w HP1.out rfl rfl rfl rfl rfl hv1) (fun hHeld => ?_)
  try simp only [Act.put, List.setIfInBounds_toArray, List.set_cons_zero, List.set_cons_succ, List.getElem_toArray, List.getElem_cons_succ, List.getElem_cons_zero]
  clear hK K
  refine wpAnyH_ready (rs := [13]) (by kernel_rfl) (by simp) ?_
  refine AllReadyH.cons (o := _) rfl (fun K hK => ?_) AllReadyH.nil
  go_simp
  go_at_call 93; refine (KU.out _ (HV.out.trans (hv1.mono HV.out.size))).mono ?_; rintro e w2 ⟨rfl, hb2⟩
  go_wp2_with fail
  have hv2 : Below V.heap.size V w2 := hv1.trans (hb2.mono hv1.size)
  have hx := blk_below hx1 hb2 (blk_lt hx1)
  obtain ⟨⟨q0, q1, q2, q3, q4, q5, q6⟩, r0, r1, r2, r3, r4, r5, r6⟩ := box7f hx
  refine hK.out _ _ (hold5w HP1.out rfl rfl rfl rfl rfl hv2) (fun hHeld => ?_)
  try simp only [Act.put, List.setIfInBounds_toArray, List.set_cons_zero, List.set_cons_succ, List.getElem_toArray, List.getElem_cons_succ, List.getElem_cons_zero]
  clear hK K
  refine wpAnyH_take (i := 22) (oi := _) (v := (.agg #[.slice none 0 0, .slice none 0 0, .slice none 0 0, .int .i64 q, .int .i64 0, .int .i64 0, .int .u64 v])) rfl (by kernel_rfl) (by kernel_rfl) (by kernel_rfl) (fun _ _ _ h => h) (Or.inl ⟨by rfl, fun W hS => by go_simp⟩) hHeld ?_
  try simp only [Act.put, List.setIfInBounds_toArray, List.set_cons_zero, List.set_cons_succ, List.getElem_toArray, List.getElem_cons_succ, List.getElem_cons_zero]
  refine wpAnyH_ready (rs := [24]) (by kernel_rfl) (by simp) ?_
  refine AllReadyH.cons (o := _) rfl (fun K hK => ?_) AllReadyH.nil
  go_simp
  have hbF : Below V.heap.size V (((((((w2.setCell ⟨V.heap.size, 0, none⟩ (.slice none 0 0)).setCell ⟨V.heap.size, 1, none⟩ (.slice none 0 0)).setCell ⟨V.heap.size, 2, none⟩ (.slice none 0 0)).setCell ⟨V.heap.size, 3, none⟩ (.int .i64 q)).setCell ⟨V.heap.size, 4, none⟩ (.int .i64 0)).setCell ⟨V.heap.size, 5, none⟩ (.int .i64 0)).setCell ⟨V.heap.size, 6, none⟩ (.int .u64 v)) := below7f hv2 (Nat.le_refl _) _ _ _ _ _ _ _
  have hgF : (((((((w2.setCell ⟨V.heap.size, 0, none⟩ (.slice none 0 0)).setCell ⟨V.heap.size, 1, none⟩ (.slice none 0 0)).setCell ⟨V.heap.size, 2, none⟩ (.slice none 0 0)).setCell ⟨V.heap.size, 3, none⟩ (.int .i64 q)).setCell ⟨V.heap.size, 4, none⟩ (.int .i64 0)).setCell ⟨V.heap.size, 5, none⟩ (.int .i64 0)).setCell ⟨V.heap.size, 6, none⟩ (.int .u64 v)).heap[V.heap.size]? = some (.cells #[.slice none 0 0, .slice none 0 0, .slice none 0 0, .int .i64 q, .int .i64 0, .int .i64 0, .int .u64 v] 34 (0, 0)) := set7f hx _ _ _ _ _ _ _
  refine hK.out _ _ (hold5w HP1.out rfl rfl rfl rfl rfl hbF) (fun hHeld => ?_)
  try simp only [Act.put, List.setIfInBounds_toArray, List.set_cons_zero, List.set_cons_succ, List.getElem_toArray, List.getElem_cons_succ, List.getElem_cons_zero]
  clear hK K
  refine wpAnyH_done (by kernel_rfl) ?_ _
  generalize (((((((w2.setCell ⟨V.heap.size, 0, none⟩ (.slice none 0 0)).setCell ⟨V.heap.size, 1, none⟩ (.slice none 0 0)).setCell ⟨V.heap.size, 2, none⟩ (.slice none 0 0)).setCell ⟨V.heap.size, 3, none⟩ (.int .i64 q)).setCell ⟨V.heap.size, 4, none⟩ (.int .i64 0)).setCell ⟨V.heap.size, 5, none⟩ (.int .i64 0)).setCell ⟨V.heap.size, 6, none⟩ (.int .u64 v)) = Y at *
  have k8 : Y.cell? ⟨p, 8, none⟩ = some (.int .i64 0) := hHeld.2.2.2.1
  have hbw : Below w.heap.size w Y := HV.out.trans (hbF.mono HV.out.size)
  have hSBl : w.heap.size < V.heap.size := blk_lt HX.out
  have HX2 := Lib.hid (blk_below HX.out hbF (blk_lt HX.out))
  generalize hSBe : V.heap.size = SB at *
  have HSB := Lib.hid hSBl
  have HS0 : Hid (SSt w Y SB q v) := Lib.hid ⟨hbw, ⟨_, _, hgF⟩, HX2.out⟩
  obtain ⟨⟨j0, j1, j2, j3, j4, j5, j6⟩, -⟩ := box7f hgF
  clear hHeld hgF hbF
  go_upto_region 3 with fail
  go_region_held3 (fun w' => w'.cell? ⟨p, 5, none⟩ = some (.pointer (some ⟨hp, 0, none⟩)) ∧ SSt w w' SB q v)
    (first | (refine sst_hold HC5.out ?_; first | with_reducible assumption | exact HS0.out | exact HS0.out.drew | exact (by assumption : SSt w _ SB q v).set0 HSB.out _ | exact ((by assumption : SSt w _ SB q v).set0 HSB.out _).set1 HSB.out _))
    (first
      | (go_at_call 46; go_must (refine (KFr.out _ (And.right (by assumption) : SSt w _ SB q v).1).mono ?_; rintro e w3 ⟨A3, c3, rfl, hle3, hb3⟩; have hS3 := (And.right (by assumption) : SSt w _ SB q v).below hb3; obtain ⟨_, _, y0, y1, y2, y3⟩ := hS3.cells))
      | (go_at_call 94; go_must (refine (clipF_calls _ _ _ _ hle3).mono ?_; rintro e w4 ⟨rfl, hb4⟩; have hS4 := (And.right (by assumption) : SSt w _ SB q v).below hb4; obtain ⟨_, _, y0, y1, y2, y3⟩ := hS4.cells))
      | (go_at_call 95; go_must (refine (KOb.out _ (And.right (by assumption) : SSt w _ SB q v).1).mono ?_; rintro e w5 ⟨rfl, hb5⟩; have hS5 := (And.right (by assumption) : SSt w _ SB q v).below hb5; obtain ⟨_, _, y0, y1, y2, y3⟩ := hS5.cells)))
  all_goals
    obtain ⟨hbw5, ⟨sa, sb, hs5⟩, hx5⟩ := hS5
    have hsf := blk_set (blk_set hs5 0 (.slice A3 fs.length fs.length)) 1 (.slice none 0 0)
    have hxf := blk_far (blk_far hx5 (Nat.ne_of_lt HSB.out) (p := ⟨SB, 0, none⟩) (.slice A3 fs.length fs.length)) (Nat.ne_of_lt HSB.out) (p := ⟨SB, 1, none⟩) (.slice none 0 0)
    have hbf : Below w.heap.size w ((w5.setCell ⟨SB, 0, none⟩ (.slice A3 fs.length fs.length)).setCell ⟨SB, 1, none⟩ (.slice none 0 0)) := (hbw5.setCell (p := ⟨SB, 0, none⟩) (Nat.le_of_lt HSB.out) _).setCell (p := ⟨SB, 1, none⟩) (Nat.le_of_lt HSB.out) _
    generalize ((w5.setCell ⟨SB, 0, none⟩ (.slice A3 fs.length fs.length)).setCell ⟨SB, 1, none⟩ (.slice none 0 0)) = Z at *
    have hsf2 : Z.heap[SB]? = some (.cells #[.slice A3 fs.length fs.length, .slice none 0 0, .slice none 0 0, .int .i64 q, .int .i64 0, .int .i64 0, .int .u64 v] 34 (0, 0)) := by simpa using hsf
    obtain ⟨⟨b0, b1, b2, b3, b4, b5, b6⟩, -⟩ := box7f hsf2
    obtain ⟨⟨l0, l1, l2, l3, l4, l5, l6⟩, n0, n1, n2, n3, n4, n5, n6⟩ := box7f hxf
    have HXf := Lib.hid hxf
    have HBf := Lib.hid hbf
    clear hsf hsf2 hxf hbf hbw5 hs5 hx5 y0 y1 y2 y3
    go_wp2
    refine bodyPost_ret (wstate_results _ _ w.heap.size _ _ _ q 0 0 v ⟨_, _, _, rfl⟩ ⟨_, _, _, rfl⟩ ⟨_, _, _, rfl⟩ rfl (set7f HXf.out _ _ _ _ _ _ _)) rfl ⟨A3, fs.length, rfl, ?_⟩
    exact below7f HBf.out (Nat.le_refl _) _ _ _ _ _ _ _

end Go.Proofs.YtmceaeoeakkppaaGreatDoor
