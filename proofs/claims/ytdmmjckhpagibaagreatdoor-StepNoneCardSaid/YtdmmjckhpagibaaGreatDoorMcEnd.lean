/- step's machine that has ended: State. -/
import Derived.Test.YtdmmjckhpagibaaGreatDoorMcNext2
namespace Go.Proofs.YtdmmjckhpagibaaGreatDoor
open Go.RowKit Go.Sort
set_option linter.unusedVariables false
set_option maxRecDepth 100000 in
theorem used_calls (w : World) (hp : Nat) (x : Value) (q u : Int) (h : w.heap[hp]? = some (.cells #[x, .int .i64 q, .int .i64 u] 167 (0, 0))) : Calls Tryz.prog 60 #[.pointer (some ⟨hp, 0, none⟩)] w fun e w' => e = .returned (.int .i64 u) ∧ Below w.heap.size w w' := by
  have c2 : w.cell? ⟨hp, 2, none⟩ = some (.int .i64 u) := blk_cell h 2
  clear h
  go_enter Tryz.func60, Tryz.ntmps60
  go_wp2
  go_ret
  exact ⟨rfl, Below.refl _ _⟩
set_option maxRecDepth 100000 in
theorem cloneH_nil (w : World) : Calls Tryz.prog 87 #[.slice none 0 0] w fun e w' => e = .returned (.slice none 0 0) ∧ Below w.heap.size w w' := by
  have hnil : ∀ w' : World, (binOp .eql 42 (.slice none 0 0) (.slice none 0 0)).run Tryz.prog w' = .ok (.bool true) w' := fun w' => Lib.run_eql_slice_nil w' _ _ none _ _ 0 0 Tryz.underlying42
  go_enter Tryz.func87, Tryz.ntmps87
  go_wp2
  go_ret
  exact ⟨rfl, Below.refl _ _⟩
set_option maxRecDepth 100000 in
theorem clipH_nil (w : World) : Calls Tryz.prog 94 #[.slice none 0 0] w fun e w' => e = .returned (.slice none 0 0) ∧ Below w.heap.size w w' := by
  go_enter Tryz.func94, Tryz.ntmps94
  go_wp2
  go_ret
  exact ⟨rfl, Below.refl _ _⟩
set_option maxRecDepth 100000 in
theorem list_nil (w : World) (tp : Nat) (h : w.heap[tp]? = some (.cells #[.slice none 0 0] 170 (0, 0))) : Calls Tryz.prog 59 #[.pointer (some ⟨tp, 0, none⟩)] w fun e w' => e = .returned (.slice none 0 0) ∧ Below w.heap.size w w' := by
  have c0 : w.cell? ⟨tp, 0, none⟩ = some (.slice none 0 0) := blk_cell h 0
  clear h
  go_enter Tryz.func59, Tryz.ntmps59
  go_wp2_with (first
    | (go_at_call 87; refine (cloneH_nil _).mono ?_; rintro e w1 ⟨rfl, hb1⟩)
    | (go_at_call 94; refine (clipH_nil _).mono ?_; rintro e w2 ⟨rfl, hb2⟩))
  go_ret
  exact ⟨rfl, hb1.trans (hb2.mono hb1.size)⟩
theorem wstate_results (tmps : Array Value) (w : World) (b : Nat) (x y z : Value) (q u e : Int) (v : Int) (hx : ∃ A n c, x = .slice A n c) (hy : ∃ A n c, y = .slice A n c) (hz : ∃ A n c, z = .slice A n c) (h : tmps.getD 4 undef = .pointer (some ⟨b, 0, none⟩)) (hb : w.heap[b]? = some (.cells #[x, y, z, .int .i64 q, .int .i64 u, .int .i64 e, .int .u64 v] 45 (0, 0))) :
    (results Tryz.f35 tmps).run Tryz.prog w = .ok (.agg #[x, y, z, .int .i64 q, .int .i64 u, .int .i64 e, .int .u64 v]) w :=
  results_cell_row Tryz.results35 tmps w b _ _ _ _ h hb Tryz.underlying45 rfl (by kernel_rfl)
theorem hold5w {V w' : World} {p : Nat} {t : TypeId} {cs : Array Value} {a b c d e : Value} (hp : V.heap[p]? = some (.cells cs t (0, 0))) (h5 : cs[5]? = some a) (h6 : cs[6]? = some b) (h7 : cs[7]? = some c) (h8 : cs[8]? = some d) (h9 : cs[9]? = some e) (hb : Below V.heap.size V w') :
    w'.cell? ⟨p, 5, none⟩ = some a ∧ w'.cell? ⟨p, 6, none⟩ = some b ∧ w'.cell? ⟨p, 7, none⟩ = some c ∧ w'.cell? ⟨p, 8, none⟩ = some d ∧ w'.cell? ⟨p, 9, none⟩ = some e ∧ Below V.heap.size V w' :=
  have h := blk_below hp hb (blk_lt hp)
  ⟨(blk_cell h 5).trans h5, (blk_cell h 6).trans h6, (blk_cell h 7).trans h7, (blk_cell h 8).trans h8, (blk_cell h 9).trans h9, hb⟩
theorem held5w {a b c d e : Prop} {V w' : World} (hh : a ∧ b ∧ c ∧ d ∧ e ∧ Below V.heap.size V w') : Below V.heap.size V w' := hh.2.2.2.2.2
theorem box7f {W : World} {g : Nat} {t : TypeId} {a b c d e f q : Value} (h : W.heap[g]? = some (.cells #[a, b, c, d, e, f, q] t (0, 0))) : (W.cell? ⟨g, 0, none⟩ = some a ∧ W.cell? ⟨g, 1, none⟩ = some b ∧ W.cell? ⟨g, 2, none⟩ = some c ∧ W.cell? ⟨g, 3, none⟩ = some d ∧ W.cell? ⟨g, 4, none⟩ = some e ∧ W.cell? ⟨g, 5, none⟩ = some f ∧ W.cell? ⟨g, 6, none⟩ = some q) ∧
    W.frozen? ⟨g, 0, none⟩ = false ∧ W.frozen? ⟨g, 1, none⟩ = false ∧ W.frozen? ⟨g, 2, none⟩ = false ∧ W.frozen? ⟨g, 3, none⟩ = false ∧ W.frozen? ⟨g, 4, none⟩ = false ∧ W.frozen? ⟨g, 5, none⟩ = false ∧ W.frozen? ⟨g, 6, none⟩ = false :=
  ⟨⟨blk_cell h 0, blk_cell h 1, blk_cell h 2, blk_cell h 3, blk_cell h 4, blk_cell h 5, blk_cell h 6⟩, blk_frozen h 0, blk_frozen h 1, blk_frozen h 2, blk_frozen h 3, blk_frozen h 4, blk_frozen h 5, blk_frozen h 6⟩
theorem set7f {W : World} {g : Nat} {t : TypeId} {x0 x1 x2 x3 x4 x5 x6 : Value} (h : W.heap[g]? = some (.cells #[x0, x1, x2, x3, x4, x5, x6] t (0, 0))) (y0 y1 y2 y3 y4 y5 y6 : Value) :
    (((((((W.setCell ⟨g, 0, none⟩ y0).setCell ⟨g, 1, none⟩ y1).setCell ⟨g, 2, none⟩ y2).setCell ⟨g, 3, none⟩ y3).setCell ⟨g, 4, none⟩ y4).setCell ⟨g, 5, none⟩ y5).setCell ⟨g, 6, none⟩ y6).heap[g]? = some (.cells #[y0, y1, y2, y3, y4, y5, y6] t (0, 0)) := by
  simpa using blk_set (blk_set (blk_set (blk_set (blk_set (blk_set (blk_set h 0 y0) 1 y1) 2 y2) 3 y3) 4 y4) 5 y5) 6 y6
theorem below7f {B : Nat} {w W : World} {b : Nat} (h : Below B w W) (hb : B ≤ b) (y0 y1 y2 y3 y4 y5 y6 : Value) : Below B w (((((((W.setCell ⟨b, 0, none⟩ y0).setCell ⟨b, 1, none⟩ y1).setCell ⟨b, 2, none⟩ y2).setCell ⟨b, 3, none⟩ y3).setCell ⟨b, 4, none⟩ y4).setCell ⟨b, 5, none⟩ y5).setCell ⟨b, 6, none⟩ y6) :=
  ((((((h.setCell (p := ⟨b, 0, none⟩) hb y0).setCell (p := ⟨b, 1, none⟩) hb y1).setCell (p := ⟨b, 2, none⟩) hb y2).setCell (p := ⟨b, 3, none⟩) hb y3).setCell (p := ⟨b, 4, none⟩) hb y4).setCell (p := ⟨b, 5, none⟩) hb y5).setCell (p := ⟨b, 6, none⟩) hb y6
theorem below_sz {V w : World} (h : Below V.heap.size V w) : V.heap.size ≤ w.heap.size := h.size
set_option maxRecDepth 100000 in
set_option maxHeartbeats 8000000 in
theorem wstate_calls {w : World} {p FB hp tp : Nat} {B0 B1 B2 B3 B4 : Option Addr} {m0 m1 m2 m3 m4 d0 d1 d2 d3 d4 : Nat} {q : Int} {MA : Option Addr} {mn mc fc : Nat} {v : Int} (h : McE w p FB hp tp B0 B1 B2 B3 B4 m0 m1 m2 m3 m4 d0 d1 d2 d3 d4 q MA mn mc fc v) (hh : ∃ x, w.heap[hp]? = some (.cells #[x, .int .i64 q, .int .i64 0] 167 (0, 0))) (ht : w.heap[tp]? = some (.cells #[.slice none 0 0] 170 (0, 0))) (fs : Value) :
    Calls Tryz.prog 35 #[.pointer (some ⟨p, 0, none⟩), fs] w fun e w' => e = .returned (.agg #[.slice none 0 0, .slice none 0 0, .slice none 0 0, .int .i64 q, .int .i64 0, .int .i64 1, .int .u64 v]) ∧ Below w.heap.size w w' := by
  obtain ⟨x, hh⟩ := hh
  have hV := below_a1 w (Obj.cells #[.slice none 0 0, .slice none 0 0, .slice none 0 0, .int .i64 0, .int .i64 0, .int .i64 0, .int .u64 0] 45)
  have HX := Lib.hid (blk_new w (Obj.cells #[.slice none 0 0, .slice none 0 0, .slice none 0 0, .int .i64 0, .int .i64 0, .int .i64 0, .int .u64 0] 45))
  have HP := Lib.hid (show w.heap[p]? = _ from h)
  have HP1 := Lib.hid (blk_below HP.out hV (blk_lt HP.out))
  have KU := Lib.hid (fun W (hb : Below w.heap.size w W) => used_calls W hp x q 0 (blk_below hh hb (blk_lt hh)))
  have KL := Lib.hid (fun W (hb : Below w.heap.size w W) => list_nil W tp (blk_below ht hb (blk_lt ht)))
  have HV := Lib.hid hV
  have hslt : w.heap.size < (w.alloc (Obj.cells #[.slice none 0 0, .slice none 0 0, .slice none 0 0, .int .i64 0, .int .i64 0, .int .i64 0, .int .u64 0] 45)).heap.size := by simp
  clear h hh ht hV
  go_enter Tryz.func35, Tryz.ntmps35
  go_upto_region 1 with fail
  generalize (w.alloc (Obj.cells #[.slice none 0 0, .slice none 0 0, .slice none 0 0, .int .i64 0, .int .i64 0, .int .i64 0, .int .u64 0] 45)) = V at *
  refine wp_region_held_drew (S := fun w' => w'.cell? ⟨p, 5, none⟩ = some (.pointer (some ⟨hp, 0, none⟩)) ∧ w'.cell? ⟨p, 6, none⟩ = some (.pointer (some ⟨tp, 0, none⟩)) ∧ w'.cell? ⟨p, 7, none⟩ = some (.int .i64 q) ∧ w'.cell? ⟨p, 8, none⟩ = some (.int .i64 1) ∧ w'.cell? ⟨p, 9, none⟩ = some (.int .u64 v) ∧ Below V.heap.size V w') (by kernel_rfl) (hold5w HP1.out rfl rfl rfl rfl rfl (Below.drew (Below.refl V.heap.size V))) (fun hHeld => ?_)
  refine wpAnyH_take (i := 0) (oi := _) (v := (.pointer (some ⟨p, 0, none⟩))) rfl (by kernel_rfl) (by kernel_rfl) (by kernel_rfl) (fun _ _ _ h => h) (Or.inl ⟨by rfl, fun W hS => by go_simp⟩) hHeld ?_
  try simp only [Act.put, List.setIfInBounds_toArray, List.set_cons_zero, List.set_cons_succ, List.getElem_toArray, List.getElem_cons_zero]
  refine wpAnyH_take (i := 1) (oi := _) (v := (.pointer (some ⟨p, 0, none⟩))) rfl (by kernel_rfl) (by kernel_rfl) (by kernel_rfl) (fun _ _ _ h => h) (Or.inl ⟨by rfl, fun W hS => by go_simp⟩) hHeld ?_
  try simp only [Act.put, List.setIfInBounds_toArray, List.set_cons_zero, List.set_cons_succ, List.getElem_toArray, List.getElem_cons_succ, List.getElem_cons_zero]
  refine wpAnyH_take (i := 2) (oi := _) (v := (.pointer (some ⟨p, 6, none⟩))) rfl (by kernel_rfl) (by kernel_rfl) (by kernel_rfl) (fun _ _ _ h => h) (Or.inl ⟨by rfl, fun W hS => by go_simp⟩) hHeld ?_
  try simp only [Act.put, List.setIfInBounds_toArray, List.set_cons_zero, List.set_cons_succ, List.getElem_toArray, List.getElem_cons_succ, List.getElem_cons_zero]
  refine wpAnyH_take (i := 3) (oi := _) (v := (.pointer (some ⟨tp, 0, none⟩))) rfl (by kernel_rfl) (by kernel_rfl) (by kernel_rfl) (fun _ _ _ h => h) (Or.inl ⟨by rfl, fun W hS => by obtain ⟨s0, s1, s2, s3, s4, _⟩ := hS; go_simp⟩) hHeld ?_
  try simp only [Act.put, List.setIfInBounds_toArray, List.set_cons_zero, List.set_cons_succ, List.getElem_toArray, List.getElem_cons_succ, List.getElem_cons_zero]
  refine wpAnyH_take (i := 5) (oi := _) (v := (.pointer (some ⟨p, 0, none⟩))) rfl (by kernel_rfl) (by kernel_rfl) (by kernel_rfl) (fun _ _ _ h => h) (Or.inl ⟨by rfl, fun W hS => by go_simp⟩) hHeld ?_
  try simp only [Act.put, List.setIfInBounds_toArray, List.set_cons_zero, List.set_cons_succ, List.getElem_toArray, List.getElem_cons_succ, List.getElem_cons_zero]
  refine wpAnyH_take (i := 6) (oi := _) (v := (.pointer (some ⟨p, 0, none⟩))) rfl (by kernel_rfl) (by kernel_rfl) (by kernel_rfl) (fun _ _ _ h => h) (Or.inl ⟨by rfl, fun W hS => by go_simp⟩) hHeld ?_
  try simp only [Act.put, List.setIfInBounds_toArray, List.set_cons_zero, List.set_cons_succ, List.getElem_toArray, List.getElem_cons_succ, List.getElem_cons_zero]
  refine wpAnyH_take (i := 7) (oi := _) (v := (.pointer (some ⟨p, 7, none⟩))) rfl (by kernel_rfl) (by kernel_rfl) (by kernel_rfl) (fun _ _ _ h => h) (Or.inl ⟨by rfl, fun W hS => by go_simp⟩) hHeld ?_
  try simp only [Act.put, List.setIfInBounds_toArray, List.set_cons_zero, List.set_cons_succ, List.getElem_toArray, List.getElem_cons_succ, List.getElem_cons_zero]
  refine wpAnyH_take (i := 8) (oi := _) (v := (.int .i64 q)) rfl (by kernel_rfl) (by kernel_rfl) (by kernel_rfl) (fun _ _ _ h => h) (Or.inl ⟨by rfl, fun W hS => by obtain ⟨s0, s1, s2, s3, s4, _⟩ := hS; go_simp⟩) hHeld ?_
  try simp only [Act.put, List.setIfInBounds_toArray, List.set_cons_zero, List.set_cons_succ, List.getElem_toArray, List.getElem_cons_succ, List.getElem_cons_zero]
  refine wpAnyH_take (i := 9) (oi := _) (v := (.pointer (some ⟨p, 0, none⟩))) rfl (by kernel_rfl) (by kernel_rfl) (by kernel_rfl) (fun _ _ _ h => h) (Or.inl ⟨by rfl, fun W hS => by go_simp⟩) hHeld ?_
  try simp only [Act.put, List.setIfInBounds_toArray, List.set_cons_zero, List.set_cons_succ, List.getElem_toArray, List.getElem_cons_succ, List.getElem_cons_zero]
  refine wpAnyH_take (i := 10) (oi := _) (v := (.pointer (some ⟨p, 0, none⟩))) rfl (by kernel_rfl) (by kernel_rfl) (by kernel_rfl) (fun _ _ _ h => h) (Or.inl ⟨by rfl, fun W hS => by go_simp⟩) hHeld ?_
  try simp only [Act.put, List.setIfInBounds_toArray, List.set_cons_zero, List.set_cons_succ, List.getElem_toArray, List.getElem_cons_succ, List.getElem_cons_zero]
  refine wpAnyH_take (i := 11) (oi := _) (v := (.pointer (some ⟨p, 5, none⟩))) rfl (by kernel_rfl) (by kernel_rfl) (by kernel_rfl) (fun _ _ _ h => h) (Or.inl ⟨by rfl, fun W hS => by go_simp⟩) hHeld ?_
  try simp only [Act.put, List.setIfInBounds_toArray, List.set_cons_zero, List.set_cons_succ, List.getElem_toArray, List.getElem_cons_succ, List.getElem_cons_zero]
  refine wpAnyH_take (i := 12) (oi := _) (v := (.pointer (some ⟨hp, 0, none⟩))) rfl (by kernel_rfl) (by kernel_rfl) (by kernel_rfl) (fun _ _ _ h => h) (Or.inl ⟨by rfl, fun W hS => by obtain ⟨s0, s1, s2, s3, s4, _⟩ := hS; go_simp⟩) hHeld ?_
  try simp only [Act.put, List.setIfInBounds_toArray, List.set_cons_zero, List.set_cons_succ, List.getElem_toArray, List.getElem_cons_succ, List.getElem_cons_zero]
  refine wpAnyH_take (i := 14) (oi := _) (v := (.pointer (some ⟨p, 0, none⟩))) rfl (by kernel_rfl) (by kernel_rfl) (by kernel_rfl) (fun _ _ _ h => h) (Or.inl ⟨by rfl, fun W hS => by go_simp⟩) hHeld ?_
  try simp only [Act.put, List.setIfInBounds_toArray, List.set_cons_zero, List.set_cons_succ, List.getElem_toArray, List.getElem_cons_succ, List.getElem_cons_zero]
  refine wpAnyH_take (i := 15) (oi := _) (v := (.pointer (some ⟨p, 0, none⟩))) rfl (by kernel_rfl) (by kernel_rfl) (by kernel_rfl) (fun _ _ _ h => h) (Or.inl ⟨by rfl, fun W hS => by go_simp⟩) hHeld ?_
  try simp only [Act.put, List.setIfInBounds_toArray, List.set_cons_zero, List.set_cons_succ, List.getElem_toArray, List.getElem_cons_succ, List.getElem_cons_zero]
  refine wpAnyH_take (i := 16) (oi := _) (v := (.pointer (some ⟨p, 8, none⟩))) rfl (by kernel_rfl) (by kernel_rfl) (by kernel_rfl) (fun _ _ _ h => h) (Or.inl ⟨by rfl, fun W hS => by go_simp⟩) hHeld ?_
  try simp only [Act.put, List.setIfInBounds_toArray, List.set_cons_zero, List.set_cons_succ, List.getElem_toArray, List.getElem_cons_succ, List.getElem_cons_zero]
  refine wpAnyH_take (i := 17) (oi := _) (v := (.int .i64 1)) rfl (by kernel_rfl) (by kernel_rfl) (by kernel_rfl) (fun _ _ _ h => h) (Or.inl ⟨by rfl, fun W hS => by obtain ⟨s0, s1, s2, s3, s4, _⟩ := hS; go_simp⟩) hHeld ?_
  try simp only [Act.put, List.setIfInBounds_toArray, List.set_cons_zero, List.set_cons_succ, List.getElem_toArray, List.getElem_cons_succ, List.getElem_cons_zero]
  refine wpAnyH_take (i := 18) (oi := _) (v := (.pointer (some ⟨p, 0, none⟩))) rfl (by kernel_rfl) (by kernel_rfl) (by kernel_rfl) (fun _ _ _ h => h) (Or.inl ⟨by rfl, fun W hS => by go_simp⟩) hHeld ?_
  try simp only [Act.put, List.setIfInBounds_toArray, List.set_cons_zero, List.set_cons_succ, List.getElem_toArray, List.getElem_cons_succ, List.getElem_cons_zero]
  refine wpAnyH_take (i := 19) (oi := _) (v := (.pointer (some ⟨p, 0, none⟩))) rfl (by kernel_rfl) (by kernel_rfl) (by kernel_rfl) (fun _ _ _ h => h) (Or.inl ⟨by rfl, fun W hS => by go_simp⟩) hHeld ?_
  try simp only [Act.put, List.setIfInBounds_toArray, List.set_cons_zero, List.set_cons_succ, List.getElem_toArray, List.getElem_cons_succ, List.getElem_cons_zero]
  refine wpAnyH_take (i := 20) (oi := _) (v := (.pointer (some ⟨p, 9, none⟩))) rfl (by kernel_rfl) (by kernel_rfl) (by kernel_rfl) (fun _ _ _ h => h) (Or.inl ⟨by rfl, fun W hS => by go_simp⟩) hHeld ?_
  try simp only [Act.put, List.setIfInBounds_toArray, List.set_cons_zero, List.set_cons_succ, List.getElem_toArray, List.getElem_cons_succ, List.getElem_cons_zero]
  refine wpAnyH_take (i := 21) (oi := _) (v := (.int .u64 v)) rfl (by kernel_rfl) (by kernel_rfl) (by kernel_rfl) (fun _ _ _ h => h) (Or.inl ⟨by rfl, fun W hS => by obtain ⟨s0, s1, s2, s3, s4, _⟩ := hS; go_simp⟩) hHeld ?_
  try simp only [Act.put, List.setIfInBounds_toArray, List.set_cons_zero, List.set_cons_succ, List.getElem_toArray, List.getElem_cons_succ, List.getElem_cons_zero]
  refine wpAnyH_ready (rs := [4, 23]) (by kernel_rfl) (by simp) ?_
  refine AllReadyH.cons (o := _) rfl (fun K hK => ?_) ?_
  · skip
    go_simp
    go_at_call 59; refine (KL.out _ (HV.out.trans ((Below.drew (Below.refl V.heap.size V)).mono HV.out.size))).mono ?_; rintro e w1 ⟨rfl, hb1⟩
    go_wp2_with fail
    have hv1 : Below V.heap.size V w1 := (Below.drew (Below.refl V.heap.size V)).trans (hb1.mono (Below.drew (Below.refl V.heap.size V)).size)
    refine hK.out _ _ (hold5w HP1.out rfl rfl rfl rfl rfl hv1) (fun hHeld => ?_)
    try simp only [Act.put, List.setIfInBounds_toArray, List.set_cons_zero, List.set_cons_succ, List.getElem_toArray, List.getElem_cons_succ, List.getElem_cons_zero]
    clear hK K
    refine wpAnyH_ready (rs := [13, 23]) (by kernel_rfl) (by simp) ?_
    refine AllReadyH.cons (o := _) rfl (fun K hK => ?_) ?_
    · skip
      go_simp
      go_at_call 60; refine (KU.out _ (HV.out.trans (hv1.mono HV.out.size))).mono ?_; rintro e w2 ⟨rfl, hb2⟩
      go_wp2_with fail
      have hv2 : Below V.heap.size V w2 := hv1.trans (hb2.mono hv1.size)
      refine hK.out _ _ (hold5w HP1.out rfl rfl rfl rfl rfl hv2) (fun hHeld => ?_)
      try simp only [Act.put, List.setIfInBounds_toArray, List.set_cons_zero, List.set_cons_succ, List.getElem_toArray, List.getElem_cons_succ, List.getElem_cons_zero]
      clear hK K
      refine wpAnyH_take (i := 22) (oi := _) (v := (.agg #[.slice none 0 0, .slice none 0 0, .slice none 0 0, .int .i64 q, .int .i64 0, .int .i64 1, .int .u64 v])) rfl (by kernel_rfl) (by kernel_rfl) (by kernel_rfl) (fun _ _ _ h => h) (Or.inl ⟨by rfl, fun W hS => by go_simp⟩) hHeld ?_
      try simp only [Act.put, List.setIfInBounds_toArray, List.set_cons_zero, List.set_cons_succ, List.getElem_toArray, List.getElem_cons_succ, List.getElem_cons_zero]
      refine wpAnyH_ready (rs := [23]) (by kernel_rfl) (by simp) ?_
      refine AllReadyH.cons (o := _) rfl (fun K hK => ?_) AllReadyH.nil
      go_simp
      refine hK.out _ _ (hold5w HP1.out rfl rfl rfl rfl rfl (hv2.alloc hv2.size _)) (fun hHeld => ?_)
      try simp only [Act.put, List.setIfInBounds_toArray, List.set_cons_zero, List.set_cons_succ, List.getElem_toArray, List.getElem_cons_succ, List.getElem_cons_zero]
      clear hK K
      refine wpAnyH_ready (rs := [24]) (by kernel_rfl) (by simp) ?_
      refine AllReadyH.cons (o := _) rfl (fun K hK => ?_) AllReadyH.nil
      go_simp
      have hbF : Below V.heap.size V (w2.alloc (Obj.cells #[.slice none 0 0, .slice none 0 0, .slice none 0 0, .int .i64 q, .int .i64 0, .int .i64 1, .int .u64 v] 45)) := hv2.alloc hv2.size _
      have hgF : (w2.alloc (Obj.cells #[.slice none 0 0, .slice none 0 0, .slice none 0 0, .int .i64 q, .int .i64 0, .int .i64 1, .int .u64 v] 45)).heap[w2.heap.size]? = some (.cells #[.slice none 0 0, .slice none 0 0, .slice none 0 0, .int .i64 q, .int .i64 0, .int .i64 1, .int .u64 v] 45 (0, 0)) := blk_new w2 _
      refine hK.out _ _ (hold5w HP1.out rfl rfl rfl rfl rfl hbF) (fun hHeld => ?_)
      try simp only [Act.put, List.setIfInBounds_toArray, List.set_cons_zero, List.set_cons_succ, List.getElem_toArray, List.getElem_cons_succ, List.getElem_cons_zero]
      clear hK K
      refine wpAnyH_done (by kernel_rfl) ?_ _
      generalize (w2.alloc (Obj.cells #[.slice none 0 0, .slice none 0 0, .slice none 0 0, .int .i64 q, .int .i64 0, .int .i64 1, .int .u64 v] 45)) = Y at *
      obtain ⟨⟨j0, j1, j2, j3, j4, j5, j6⟩, -⟩ := box7f hgF
      have hX2 := blk_below HX.out hbF (blk_lt HX.out)
      obtain ⟨⟨l0, l1, l2, l3, l4, l5, l6⟩, n0, n1, n2, n3, n4, n5, n6⟩ := box7f hX2
      have k8 := hHeld.2.2.2.1
      have HX2 := Lib.hid hX2
      have HBF := Lib.hid hbF
      clear hHeld hgF hX2 hbF
      go_wp2
      refine bodyPost_ret (wstate_results _ _ w.heap.size _ _ _ q 0 1 v ⟨_, _, _, rfl⟩ ⟨_, _, _, rfl⟩ ⟨_, _, _, rfl⟩ rfl (set7f HX2.out _ _ _ _ _ _ _)) rfl ⟨rfl, ?_⟩
      exact below7f (HV.out.trans (HBF.out.mono HV.out.size)) (Nat.le_refl _) _ _ _ _ _ _ _
    refine AllReadyH.cons (o := _) rfl (fun K hK => ?_) AllReadyH.nil
    go_simp
    have hv1' : Below V.heap.size V (w1.alloc (Obj.cells #[.slice none 0 0, .slice none 0 0, .slice none 0 0, .int .i64 0, .int .i64 0, .int .i64 0, .int .u64 0] 45)) := hv1.alloc hv1.size _
    refine hK.out _ _ (hold5w HP1.out rfl rfl rfl rfl rfl hv1') (fun hHeld => ?_)
    try simp only [Act.put, List.setIfInBounds_toArray, List.set_cons_zero, List.set_cons_succ, List.getElem_toArray, List.getElem_cons_succ, List.getElem_cons_zero]
    clear hK K
    refine wpAnyH_ready (rs := [13]) (by kernel_rfl) (by simp) ?_
    refine AllReadyH.cons (o := _) rfl (fun K hK => ?_) AllReadyH.nil
    go_simp
    go_at_call 60; refine (KU.out _ (HV.out.trans (hv1'.mono HV.out.size))).mono ?_; rintro e w2 ⟨rfl, hb2⟩
    go_wp2_with fail
    have hv2 : Below V.heap.size V w2 := hv1'.trans (hb2.mono hv1'.size)
    have hx := blk_below (blk_new w1 (Obj.cells #[.slice none 0 0, .slice none 0 0, .slice none 0 0, .int .i64 0, .int .i64 0, .int .i64 0, .int .u64 0] 45)) hb2 (blk_lt (blk_new w1 (Obj.cells #[.slice none 0 0, .slice none 0 0, .slice none 0 0, .int .i64 0, .int .i64 0, .int .i64 0, .int .u64 0] 45)))
    obtain ⟨⟨q0, q1, q2, q3, q4, q5, q6⟩, r0, r1, r2, r3, r4, r5, r6⟩ := box7f hx
    refine hK.out _ _ (hold5w HP1.out rfl rfl rfl rfl rfl hv2) (fun hHeld => ?_)
    try simp only [Act.put, List.setIfInBounds_toArray, List.set_cons_zero, List.set_cons_succ, List.getElem_toArray, List.getElem_cons_succ, List.getElem_cons_zero]
    clear hK K
    refine wpAnyH_take (i := 22) (oi := _) (v := (.agg #[.slice none 0 0, .slice none 0 0, .slice none 0 0, .int .i64 q, .int .i64 0, .int .i64 1, .int .u64 v])) rfl (by kernel_rfl) (by kernel_rfl) (by kernel_rfl) (fun _ _ _ h => h) (Or.inl ⟨by rfl, fun W hS => by go_simp⟩) hHeld ?_
    try simp only [Act.put, List.setIfInBounds_toArray, List.set_cons_zero, List.set_cons_succ, List.getElem_toArray, List.getElem_cons_succ, List.getElem_cons_zero]
    refine wpAnyH_ready (rs := [24]) (by kernel_rfl) (by simp) ?_
    refine AllReadyH.cons (o := _) rfl (fun K hK => ?_) AllReadyH.nil
    go_simp
    have hbF : Below V.heap.size V (((((((w2.setCell ⟨w1.heap.size, 0, none⟩ (.slice none 0 0)).setCell ⟨w1.heap.size, 1, none⟩ (.slice none 0 0)).setCell ⟨w1.heap.size, 2, none⟩ (.slice none 0 0)).setCell ⟨w1.heap.size, 3, none⟩ (.int .i64 q)).setCell ⟨w1.heap.size, 4, none⟩ (.int .i64 0)).setCell ⟨w1.heap.size, 5, none⟩ (.int .i64 1)).setCell ⟨w1.heap.size, 6, none⟩ (.int .u64 v)) := below7f hv2 hv1.size _ _ _ _ _ _ _
    have hgF : (((((((w2.setCell ⟨w1.heap.size, 0, none⟩ (.slice none 0 0)).setCell ⟨w1.heap.size, 1, none⟩ (.slice none 0 0)).setCell ⟨w1.heap.size, 2, none⟩ (.slice none 0 0)).setCell ⟨w1.heap.size, 3, none⟩ (.int .i64 q)).setCell ⟨w1.heap.size, 4, none⟩ (.int .i64 0)).setCell ⟨w1.heap.size, 5, none⟩ (.int .i64 1)).setCell ⟨w1.heap.size, 6, none⟩ (.int .u64 v)).heap[w1.heap.size]? = some (.cells #[.slice none 0 0, .slice none 0 0, .slice none 0 0, .int .i64 q, .int .i64 0, .int .i64 1, .int .u64 v] 45 (0, 0)) := set7f hx _ _ _ _ _ _ _
    refine hK.out _ _ (hold5w HP1.out rfl rfl rfl rfl rfl hbF) (fun hHeld => ?_)
    try simp only [Act.put, List.setIfInBounds_toArray, List.set_cons_zero, List.set_cons_succ, List.getElem_toArray, List.getElem_cons_succ, List.getElem_cons_zero]
    clear hK K
    refine wpAnyH_done (by kernel_rfl) ?_ _
    generalize (((((((w2.setCell ⟨w1.heap.size, 0, none⟩ (.slice none 0 0)).setCell ⟨w1.heap.size, 1, none⟩ (.slice none 0 0)).setCell ⟨w1.heap.size, 2, none⟩ (.slice none 0 0)).setCell ⟨w1.heap.size, 3, none⟩ (.int .i64 q)).setCell ⟨w1.heap.size, 4, none⟩ (.int .i64 0)).setCell ⟨w1.heap.size, 5, none⟩ (.int .i64 1)).setCell ⟨w1.heap.size, 6, none⟩ (.int .u64 v)) = Y at *
    obtain ⟨⟨j0, j1, j2, j3, j4, j5, j6⟩, -⟩ := box7f hgF
    have hX2 := blk_below HX.out hbF (blk_lt HX.out)
    obtain ⟨⟨l0, l1, l2, l3, l4, l5, l6⟩, n0, n1, n2, n3, n4, n5, n6⟩ := box7f hX2
    have k8 := hHeld.2.2.2.1
    have HX2 := Lib.hid hX2
    have HBF := Lib.hid hbF
    clear hHeld hgF hX2 hbF
    go_wp2
    refine bodyPost_ret (wstate_results _ _ w.heap.size _ _ _ q 0 1 v ⟨_, _, _, rfl⟩ ⟨_, _, _, rfl⟩ ⟨_, _, _, rfl⟩ rfl (set7f HX2.out _ _ _ _ _ _ _)) rfl ⟨rfl, ?_⟩
    exact below7f (HV.out.trans (HBF.out.mono HV.out.size)) (Nat.le_refl _) _ _ _ _ _ _ _
  refine AllReadyH.cons (o := _) rfl (fun K hK => ?_) AllReadyH.nil
  go_simp
  have hv0 : Below V.heap.size V (V.drew.alloc (Obj.cells #[.slice none 0 0, .slice none 0 0, .slice none 0 0, .int .i64 0, .int .i64 0, .int .i64 0, .int .u64 0] 45)) := (Below.drew (Below.refl V.heap.size V)).alloc (Nat.le_refl _) _
  have hx0 : (V.drew.alloc (Obj.cells #[.slice none 0 0, .slice none 0 0, .slice none 0 0, .int .i64 0, .int .i64 0, .int .i64 0, .int .u64 0] 45)).heap[V.heap.size]? = some (Obj.cells #[.slice none 0 0, .slice none 0 0, .slice none 0 0, .int .i64 0, .int .i64 0, .int .i64 0, .int .u64 0] 45) := blk_new V.drew _
  refine hK.out _ _ (hold5w HP1.out rfl rfl rfl rfl rfl hv0) (fun hHeld => ?_)
  try simp only [Act.put, List.setIfInBounds_toArray, List.set_cons_zero, List.set_cons_succ, List.getElem_toArray, List.getElem_cons_succ, List.getElem_cons_zero]
  clear hK K
  refine wpAnyH_ready (rs := [4]) (by kernel_rfl) (by simp) ?_
  refine AllReadyH.cons (o := _) rfl (fun K hK => ?_) AllReadyH.nil
  go_simp
  go_at_call 59; refine (KL.out _ (HV.out.trans (hv0.mono HV.out.size))).mono ?_; rintro e w1 ⟨rfl, hb1⟩
  go_wp2_with fail
  have hv1 : Below V.heap.size V w1 := hv0.trans (hb1.mono hv0.size)
  have hx1 : w1.heap[V.heap.size]? = some (Obj.cells #[.slice none 0 0, .slice none 0 0, .slice none 0 0, .int .i64 0, .int .i64 0, .int .i64 0, .int .u64 0] 45) := (hb1.block _ (blk_lt hx0)).trans hx0
  refine hK.out _ _ (hold5w HP1.out rfl rfl rfl rfl rfl hv1) (fun hHeld => ?_)
  try simp only [Act.put, List.setIfInBounds_toArray, List.set_cons_zero, List.set_cons_succ, List.getElem_toArray, List.getElem_cons_succ, List.getElem_cons_zero]
  clear hK K
  refine wpAnyH_ready (rs := [13]) (by kernel_rfl) (by simp) ?_
  refine AllReadyH.cons (o := _) rfl (fun K hK => ?_) AllReadyH.nil
  go_simp
  go_at_call 60; refine (KU.out _ (HV.out.trans (hv1.mono HV.out.size))).mono ?_; rintro e w2 ⟨rfl, hb2⟩
  go_wp2_with fail
  have hv2 : Below V.heap.size V w2 := hv1.trans (hb2.mono hv1.size)
  have hx := blk_below hx1 hb2 (blk_lt hx1)
  obtain ⟨⟨q0, q1, q2, q3, q4, q5, q6⟩, r0, r1, r2, r3, r4, r5, r6⟩ := box7f hx
  refine hK.out _ _ (hold5w HP1.out rfl rfl rfl rfl rfl hv2) (fun hHeld => ?_)
  try simp only [Act.put, List.setIfInBounds_toArray, List.set_cons_zero, List.set_cons_succ, List.getElem_toArray, List.getElem_cons_succ, List.getElem_cons_zero]
  clear hK K
  refine wpAnyH_take (i := 22) (oi := _) (v := (.agg #[.slice none 0 0, .slice none 0 0, .slice none 0 0, .int .i64 q, .int .i64 0, .int .i64 1, .int .u64 v])) rfl (by kernel_rfl) (by kernel_rfl) (by kernel_rfl) (fun _ _ _ h => h) (Or.inl ⟨by rfl, fun W hS => by go_simp⟩) hHeld ?_
  try simp only [Act.put, List.setIfInBounds_toArray, List.set_cons_zero, List.set_cons_succ, List.getElem_toArray, List.getElem_cons_succ, List.getElem_cons_zero]
  refine wpAnyH_ready (rs := [24]) (by kernel_rfl) (by simp) ?_
  refine AllReadyH.cons (o := _) rfl (fun K hK => ?_) AllReadyH.nil
  go_simp
  have hbF : Below V.heap.size V (((((((w2.setCell ⟨V.heap.size, 0, none⟩ (.slice none 0 0)).setCell ⟨V.heap.size, 1, none⟩ (.slice none 0 0)).setCell ⟨V.heap.size, 2, none⟩ (.slice none 0 0)).setCell ⟨V.heap.size, 3, none⟩ (.int .i64 q)).setCell ⟨V.heap.size, 4, none⟩ (.int .i64 0)).setCell ⟨V.heap.size, 5, none⟩ (.int .i64 1)).setCell ⟨V.heap.size, 6, none⟩ (.int .u64 v)) := below7f hv2 (Nat.le_refl _) _ _ _ _ _ _ _
  have hgF : (((((((w2.setCell ⟨V.heap.size, 0, none⟩ (.slice none 0 0)).setCell ⟨V.heap.size, 1, none⟩ (.slice none 0 0)).setCell ⟨V.heap.size, 2, none⟩ (.slice none 0 0)).setCell ⟨V.heap.size, 3, none⟩ (.int .i64 q)).setCell ⟨V.heap.size, 4, none⟩ (.int .i64 0)).setCell ⟨V.heap.size, 5, none⟩ (.int .i64 1)).setCell ⟨V.heap.size, 6, none⟩ (.int .u64 v)).heap[V.heap.size]? = some (.cells #[.slice none 0 0, .slice none 0 0, .slice none 0 0, .int .i64 q, .int .i64 0, .int .i64 1, .int .u64 v] 45 (0, 0)) := set7f hx _ _ _ _ _ _ _
  refine hK.out _ _ (hold5w HP1.out rfl rfl rfl rfl rfl hbF) (fun hHeld => ?_)
  try simp only [Act.put, List.setIfInBounds_toArray, List.set_cons_zero, List.set_cons_succ, List.getElem_toArray, List.getElem_cons_succ, List.getElem_cons_zero]
  clear hK K
  refine wpAnyH_done (by kernel_rfl) ?_ _
  generalize (((((((w2.setCell ⟨V.heap.size, 0, none⟩ (.slice none 0 0)).setCell ⟨V.heap.size, 1, none⟩ (.slice none 0 0)).setCell ⟨V.heap.size, 2, none⟩ (.slice none 0 0)).setCell ⟨V.heap.size, 3, none⟩ (.int .i64 q)).setCell ⟨V.heap.size, 4, none⟩ (.int .i64 0)).setCell ⟨V.heap.size, 5, none⟩ (.int .i64 1)).setCell ⟨V.heap.size, 6, none⟩ (.int .u64 v)) = Y at *
  obtain ⟨⟨j0, j1, j2, j3, j4, j5, j6⟩, -⟩ := box7f hgF
  have hX2 := blk_below HX.out hbF (blk_lt HX.out)
  obtain ⟨⟨l0, l1, l2, l3, l4, l5, l6⟩, n0, n1, n2, n3, n4, n5, n6⟩ := box7f hX2
  have k8 := hHeld.2.2.2.1
  have HX2 := Lib.hid hX2
  have HBF := Lib.hid hbF
  clear hHeld hgF hX2 hbF
  go_wp2
  refine bodyPost_ret (wstate_results _ _ w.heap.size _ _ _ q 0 1 v ⟨_, _, _, rfl⟩ ⟨_, _, _, rfl⟩ ⟨_, _, _, rfl⟩ rfl (set7f HX2.out _ _ _ _ _ _ _)) rfl ⟨rfl, ?_⟩
  exact below7f (HV.out.trans (HBF.out.mono HV.out.size)) (Nat.le_refl _) _ _ _ _ _ _ _
end Go.Proofs.YtdmmjckhpagibaaGreatDoor
