/- McEnd: step's machine that has ended: State. McNew: heap.New of nothing, hans.New of nothing. McFr: state.Frames of one frame at a beginning. McLoad: step.Load of a state at a module's beginning. McMS: step's machine: State; what a machine that is none answers. -/
import Derived.Test.YtmceaeoeakkppaaGreatDoorZF
namespace Go.Proofs.YtmceaeoeakkppaaGreatDoor
open Go.RowKit Go.Sort
set_option linter.unusedVariables false
set_option maxRecDepth 100000 in
theorem used_calls (w : World) (hp : Nat) (x : Value) (q u : Int) (h : w.heap[hp]? = some (.cells #[x, .int .i64 q, .int .i64 u] 204 (0, 0))) : Calls Tryz.prog 93 #[.pointer (some ⟨hp, 0, none⟩)] w fun e w' => e = .returned (.int .i64 u) ∧ Below w.heap.size w w' := by
  have c2 : w.cell? ⟨hp, 2, none⟩ = some (.int .i64 u) := blk_cell h 2
  clear h
  go_enter Tryz.func93, Tryz.ntmps93
  go_wp2
  go_ret
  exact ⟨rfl, Below.refl _ _⟩
set_option maxRecDepth 100000 in
theorem cloneH_nil (w : World) : Calls Tryz.prog 128 #[.slice none 0 0] w fun e w' => e = .returned (.slice none 0 0) ∧ Below w.heap.size w w' := by
  have hnil : ∀ w' : World, (binOp .eql 31 (.slice none 0 0) (.slice none 0 0)).run Tryz.prog w' = .ok (.bool true) w' := fun w' => Lib.run_eql_slice_nil w' _ _ none _ _ 0 0 Tryz.underlying31
  go_enter Tryz.func128, Tryz.ntmps128
  go_wp2
  go_ret
  exact ⟨rfl, Below.refl _ _⟩
set_option maxRecDepth 100000 in
theorem clipH_nil (w : World) : Calls Tryz.prog 132 #[.slice none 0 0] w fun e w' => e = .returned (.slice none 0 0) ∧ Below w.heap.size w w' := by
  go_enter Tryz.func132, Tryz.ntmps132
  go_wp2
  go_ret
  exact ⟨rfl, Below.refl _ _⟩
set_option maxRecDepth 100000 in
theorem list_nil (w : World) (tp : Nat) (h : w.heap[tp]? = some (.cells #[.slice none 0 0] 207 (0, 0))) : Calls Tryz.prog 92 #[.pointer (some ⟨tp, 0, none⟩)] w fun e w' => e = .returned (.slice none 0 0) ∧ Below w.heap.size w w' := by
  have c0 : w.cell? ⟨tp, 0, none⟩ = some (.slice none 0 0) := blk_cell h 0
  clear h
  go_enter Tryz.func92, Tryz.ntmps92
  go_wp2_with (first
    | (go_at_call 128; refine (cloneH_nil _).mono ?_; rintro e w1 ⟨rfl, hb1⟩)
    | (go_at_call 132; refine (clipH_nil _).mono ?_; rintro e w2 ⟨rfl, hb2⟩))
  go_ret
  exact ⟨rfl, hb1.trans (hb2.mono hb1.size)⟩
theorem wstate_results (tmps : Array Value) (w : World) (b : Nat) (x y z : Value) (q u e : Int) (v : Int) (hx : ∃ A n c, x = .slice A n c) (hy : ∃ A n c, y = .slice A n c) (hz : ∃ A n c, z = .slice A n c) (h : tmps.getD 4 undef = .pointer (some ⟨b, 0, none⟩)) (hb : w.heap[b]? = some (.cells #[x, y, z, .int .i64 q, .int .i64 u, .int .i64 e, .int .u64 v] 34 (0, 0))) :
    (results Tryz.f56 tmps).run Tryz.prog w = .ok (.agg #[x, y, z, .int .i64 q, .int .i64 u, .int .i64 e, .int .u64 v]) w :=
  results_cell_row Tryz.results56 tmps w b _ _ _ _ h hb Tryz.underlying34 rfl (by kernel_rfl)
theorem hold5w {V w' : World} {p : Nat} {t : TypeId} {cs : Array Value} {a b c d e : Value} (hp : V.heap[p]? = some (.cells cs t (0, 0))) (h5 : cs[5]? = some a) (h6 : cs[6]? = some b) (h7 : cs[7]? = some c) (h8 : cs[8]? = some d) (h9 : cs[9]? = some e) (hb : Below V.heap.size V w') :
    w'.cell? ⟨p, 5, none⟩ = some a ∧ w'.cell? ⟨p, 6, none⟩ = some b ∧ w'.cell? ⟨p, 7, none⟩ = some c ∧ w'.cell? ⟨p, 8, none⟩ = some d ∧ w'.cell? ⟨p, 9, none⟩ = some e ∧ Below V.heap.size V w' :=
  have h := blk_below hp hb (blk_lt hp)
  ⟨(blk_cell h 5).trans h5, (blk_cell h 6).trans h6, (blk_cell h 7).trans h7, (blk_cell h 8).trans h8, (blk_cell h 9).trans h9, hb⟩
theorem held5w {a b c d e : Prop} {V w' : World} (hh : a ∧ b ∧ c ∧ d ∧ e ∧ Below V.heap.size V w') : Below V.heap.size V w' := hh.2.2.2.2.2
theorem box7f {W : World} {g : Nat} {t : TypeId} {a b c d e f q : Value} (h : W.heap[g]? = some (.cells #[a, b, c, d, e, f, q] t (0, 0))) : (W.cell? ⟨g, 0, none⟩ = some a ∧ W.cell? ⟨g, 1, none⟩ = some b ∧ W.cell? ⟨g, 2, none⟩ = some c ∧ W.cell? ⟨g, 3, none⟩ = some d ∧ W.cell? ⟨g, 4, none⟩ = some e ∧ W.cell? ⟨g, 5, none⟩ = some f ∧ W.cell? ⟨g, 6, none⟩ = some q) ∧
    W.frozen? ⟨g, 0, none⟩ = false ∧ W.frozen? ⟨g, 1, none⟩ = false ∧ W.frozen? ⟨g, 2, none⟩ = false ∧ W.frozen? ⟨g, 3, none⟩ = false ∧ W.frozen? ⟨g, 4, none⟩ = false ∧ W.frozen? ⟨g, 5, none⟩ = false ∧ W.frozen? ⟨g, 6, none⟩ = false :=
  ⟨⟨blk_cell h 0, blk_cell h 1, blk_cell h 2, blk_cell h 3, blk_cell h 4, blk_cell h 5, blk_cell h 6⟩, blk_frozen h 0, blk_frozen h 1, blk_frozen h 2, blk_frozen h 3, blk_frozen h 4, blk_frozen h 5, blk_frozen h 6⟩
theorem set7f {W : World} {g : Nat} {t : TypeId} {x0 x1 x2 x3 x4 x5 x6 : Value} (h : W.heap[g]? = some (.cells #[x0, x1, x2, x3, x4, x5, x6] t (0, 0))) (y0 y1 y2 y3 y4 y5 y6 : Value) :
    (((((((W.setCell ⟨g, 0, none⟩ y0).setCell ⟨g, 1, none⟩ y1).setCell ⟨g, 2, none⟩ y2).setCell ⟨g, 3, none⟩ y3).setCell ⟨g, 4, none⟩ y4).setCell ⟨g, 5, none⟩ y5).setCell ⟨g, 6, none⟩ y6).heap[g]? = some (.cells #[y0, y1, y2, y3, y4, y5, y6] t (0, 0)) := by
  simpa using blk_set (blk_set (blk_set (blk_set (blk_set (blk_set (blk_set h 0 y0) 1 y1) 2 y2) 3 y3) 4 y4) 5 y5) 6 y6
theorem below7f {B : Nat} {w W : World} {b : Nat} (h : Below B w W) (hb : B ≤ b) (y0 y1 y2 y3 y4 y5 y6 : Value) : Below B w (((((((W.setCell ⟨b, 0, none⟩ y0).setCell ⟨b, 1, none⟩ y1).setCell ⟨b, 2, none⟩ y2).setCell ⟨b, 3, none⟩ y3).setCell ⟨b, 4, none⟩ y4).setCell ⟨b, 5, none⟩ y5).setCell ⟨b, 6, none⟩ y6) :=
  ((((((h.setCell (p := ⟨b, 0, none⟩) hb y0).setCell (p := ⟨b, 1, none⟩) hb y1).setCell (p := ⟨b, 2, none⟩) hb y2).setCell (p := ⟨b, 3, none⟩) hb y3).setCell (p := ⟨b, 4, none⟩) hb y4).setCell (p := ⟨b, 5, none⟩) hb y5).setCell (p := ⟨b, 6, none⟩) hb y6
theorem below_sz {V w : World} (h : Below V.heap.size V w) : V.heap.size ≤ w.heap.size := h.size
set_option maxRecDepth 100000 in
set_option maxHeartbeats 8000000 in
theorem wstate_calls {w : World} {p FB hp tp : Nat} {B0 B1 B2 B3 B4 : Option Addr} {m0 m1 m2 m3 m4 d0 d1 d2 d3 d4 : Nat} {q : Int} {MA : Option Addr} {mn mc fc : Nat} {v : Int} (h : McE w p FB hp tp B0 B1 B2 B3 B4 m0 m1 m2 m3 m4 d0 d1 d2 d3 d4 q MA mn mc fc v) (hh : ∃ x, w.heap[hp]? = some (.cells #[x, .int .i64 q, .int .i64 0] 204 (0, 0))) (ht : w.heap[tp]? = some (.cells #[.slice none 0 0] 207 (0, 0))) (fs : Value) :
    Calls Tryz.prog 56 #[.pointer (some ⟨p, 0, none⟩), fs] w fun e w' => e = .returned (.agg #[.slice none 0 0, .slice none 0 0, .slice none 0 0, .int .i64 q, .int .i64 0, .int .i64 1, .int .u64 v]) ∧ Below w.heap.size w w' := by
  obtain ⟨x, hh⟩ := hh
  have hV := below_a1 w (Obj.cells #[.slice none 0 0, .slice none 0 0, .slice none 0 0, .int .i64 0, .int .i64 0, .int .i64 0, .int .u64 0] 34)
  have HX := Lib.hid (blk_new w (Obj.cells #[.slice none 0 0, .slice none 0 0, .slice none 0 0, .int .i64 0, .int .i64 0, .int .i64 0, .int .u64 0] 34))
  have HP := Lib.hid (show w.heap[p]? = _ from h)
  have HP1 := Lib.hid (blk_below HP.out hV (blk_lt HP.out))
  have KU := Lib.hid (fun W (hb : Below w.heap.size w W) => used_calls W hp x q 0 (blk_below hh hb (blk_lt hh)))
  have KL := Lib.hid (fun W (hb : Below w.heap.size w W) => list_nil W tp (blk_below ht hb (blk_lt ht)))
  have HV := Lib.hid hV
  have hslt : w.heap.size < (w.alloc (Obj.cells #[.slice none 0 0, .slice none 0 0, .slice none 0 0, .int .i64 0, .int .i64 0, .int .i64 0, .int .u64 0] 34)).heap.size := by simp
  clear h hh ht hV
  go_enter Tryz.func56, Tryz.ntmps56
  go_upto_region 1 with fail
  generalize (w.alloc (Obj.cells #[.slice none 0 0, .slice none 0 0, .slice none 0 0, .int .i64 0, .int .i64 0, .int .i64 0, .int .u64 0] 34)) = V at *
  refine wp_region_held_drew (S := fun w' => w'.cell? ⟨p, 5, none⟩ = some (.pointer (some ⟨hp, 0, none⟩)) ∧ w'.cell? ⟨p, 6, none⟩ = some (.pointer (some ⟨tp, 0, none⟩)) ∧ w'.cell? ⟨p, 7, none⟩ = some (.int .i64 q) ∧ w'.cell? ⟨p, 8, none⟩ = some (.int .i64 1) ∧ w'.cell? ⟨p, 9, none⟩ = some (.int .u64 v) ∧ Below V.heap.size V w') (by kernel_rfl) (hold5w HP1.out rfl rfl rfl rfl rfl (Below.drew (Below.refl V.heap.size V))) (fun hHeld => ?_)
  refine wpAnyH_take (i := 0) (oi := _) (v := (.pointer (some ⟨p, 0, none⟩))) rfl (by kernel_rfl) (by kernel_rfl) (by kernel_rfl) (fun _ _ _ h => h) (Or.inl ⟨by rfl, fun W hS => by go_simp⟩) hHeld ?_
  try simp only [Act.put, List.setIfInBounds_toArray, List.set_cons_zero, List.set_cons_succ, List.getElem_toArray, List.getElem_cons_zero]
  refine wpAnyH_take (i := 1) (oi := _) (v := (.pointer (some ⟨p, 0, none⟩))) rfl (by kernel_rfl) (by kernel_rfl) (by kernel_rfl) (fun _ _ _ h => h) (Or.inl ⟨by rfl, fun W hS => by go_simp⟩) hHeld ?_
  try simp only [Act.put, List.setIfInBounds_toArray, List.set_cons_zero, List.set_cons_succ, List.getElem_toArray, List.getElem_cons_succ, List.getElem_cons_zero]
  refine wpAnyH_take (i := 2) (oi := _) (v := (.pointer (some ⟨p, 6, none⟩))) rfl (by kernel_rfl) (by kernel_rfl) (by kernel_rfl) (fun _ _ _ h => h) (Or.inl ⟨by rfl, fun W hS => by go_simp⟩) hHeld ?_
  try simp only [Act.put, List.setIfInBounds_toArray, List.set_cons_zero, List.set_cons_succ, List.getElem_toArray, List.getElem_cons_succ, List.getElem_cons_zero]
  refine wpAnyH_take (i := 3) (oi := _) (v := (.pointer (some ⟨tp, 0, none⟩))) rfl (by kernel_rfl) (by kernel_rfl) (by kernel_rfl) (fun _ _ _ h => h) (Or.inl ⟨by rfl, fun W hS => by obtain ⟨s0, s1, s2, s3, s4, _⟩ := hS; go_simp⟩) hHeld ?_
  try simp only [Act.put, List.setIfInBounds_toArray, List.set_cons_zero, List.set_cons_succ, List.getElem_toArray, List.getElem_cons_succ, List.getElem_cons_zero]
  refine wpAnyH_take (i := 5) (oi := _) (v := (.pointer (some ⟨p, 0, none⟩))) rfl (by kernel_rfl) (by kernel_rfl) (by kernel_rfl) (fun _ _ _ h => h) (Or.inl ⟨by rfl, fun W hS => by go_simp⟩) hHeld ?_
  try simp only [Act.put, List.setIfInBounds_toArray, List.set_cons_zero, List.set_cons_succ, List.getElem_toArray, List.getElem_cons_succ, List.getElem_cons_zero]
  refine wpAnyH_take (i := 6) (oi := _) (v := (.pointer (some ⟨p, 0, none⟩))) rfl (by kernel_rfl) (by kernel_rfl) (by kernel_rfl) (fun _ _ _ h => h) (Or.inl ⟨by rfl, fun W hS => by go_simp⟩) hHeld ?_
  try simp only [Act.put, List.setIfInBounds_toArray, List.set_cons_zero, List.set_cons_succ, List.getElem_toArray, List.getElem_cons_succ, List.getElem_cons_zero]
  refine wpAnyH_take (i := 7) (oi := _) (v := (.pointer (some ⟨p, 7, none⟩))) rfl (by kernel_rfl) (by kernel_rfl) (by kernel_rfl) (fun _ _ _ h => h) (Or.inl ⟨by rfl, fun W hS => by go_simp⟩) hHeld ?_
  try simp only [Act.put, List.setIfInBounds_toArray, List.set_cons_zero, List.set_cons_succ, List.getElem_toArray, List.getElem_cons_succ, List.getElem_cons_zero]
  refine wpAnyH_take (i := 8) (oi := _) (v := (.int .i64 q)) rfl (by kernel_rfl) (by kernel_rfl) (by kernel_rfl) (fun _ _ _ h => h) (Or.inl ⟨by rfl, fun W hS => by obtain ⟨s0, s1, s2, s3, s4, _⟩ := hS; go_simp⟩) hHeld ?_
  try simp only [Act.put, List.setIfInBounds_toArray, List.set_cons_zero, List.set_cons_succ, List.getElem_toArray, List.getElem_cons_succ, List.getElem_cons_zero]
  refine wpAnyH_take (i := 9) (oi := _) (v := (.pointer (some ⟨p, 0, none⟩))) rfl (by kernel_rfl) (by kernel_rfl) (by kernel_rfl) (fun _ _ _ h => h) (Or.inl ⟨by rfl, fun W hS => by go_simp⟩) hHeld ?_
  try simp only [Act.put, List.setIfInBounds_toArray, List.set_cons_zero, List.set_cons_succ, List.getElem_toArray, List.getElem_cons_succ, List.getElem_cons_zero]
  refine wpAnyH_take (i := 10) (oi := _) (v := (.pointer (some ⟨p, 0, none⟩))) rfl (by kernel_rfl) (by kernel_rfl) (by kernel_rfl) (fun _ _ _ h => h) (Or.inl ⟨by rfl, fun W hS => by go_simp⟩) hHeld ?_
  try simp only [Act.put, List.setIfInBounds_toArray, List.set_cons_zero, List.set_cons_succ, List.getElem_toArray, List.getElem_cons_succ, List.getElem_cons_zero]
  refine wpAnyH_take (i := 11) (oi := _) (v := (.pointer (some ⟨p, 5, none⟩))) rfl (by kernel_rfl) (by kernel_rfl) (by kernel_rfl) (fun _ _ _ h => h) (Or.inl ⟨by rfl, fun W hS => by go_simp⟩) hHeld ?_
  try simp only [Act.put, List.setIfInBounds_toArray, List.set_cons_zero, List.set_cons_succ, List.getElem_toArray, List.getElem_cons_succ, List.getElem_cons_zero]
  refine wpAnyH_take (i := 12) (oi := _) (v := (.pointer (some ⟨hp, 0, none⟩))) rfl (by kernel_rfl) (by kernel_rfl) (by kernel_rfl) (fun _ _ _ h => h) (Or.inl ⟨by rfl, fun W hS => by obtain ⟨s0, s1, s2, s3, s4, _⟩ := hS; go_simp⟩) hHeld ?_
  try simp only [Act.put, List.setIfInBounds_toArray, List.set_cons_zero, List.set_cons_succ, List.getElem_toArray, List.getElem_cons_succ, List.getElem_cons_zero]
  refine wpAnyH_take (i := 14) (oi := _) (v := (.pointer (some ⟨p, 0, none⟩))) rfl (by kernel_rfl) (by kernel_rfl) (by kernel_rfl) (fun _ _ _ h => h) (Or.inl ⟨by rfl, fun W hS => by go_simp⟩) hHeld ?_
  try simp only [Act.put, List.setIfInBounds_toArray, List.set_cons_zero, List.set_cons_succ, List.getElem_toArray, List.getElem_cons_succ, List.getElem_cons_zero]
  refine wpAnyH_take (i := 15) (oi := _) (v := (.pointer (some ⟨p, 0, none⟩))) rfl (by kernel_rfl) (by kernel_rfl) (by kernel_rfl) (fun _ _ _ h => h) (Or.inl ⟨by rfl, fun W hS => by go_simp⟩) hHeld ?_
  try simp only [Act.put, List.setIfInBounds_toArray, List.set_cons_zero, List.set_cons_succ, List.getElem_toArray, List.getElem_cons_succ, List.getElem_cons_zero]
  refine wpAnyH_take (i := 16) (oi := _) (v := (.pointer (some ⟨p, 8, none⟩))) rfl (by kernel_rfl) (by kernel_rfl) (by kernel_rfl) (fun _ _ _ h => h) (Or.inl ⟨by rfl, fun W hS => by go_simp⟩) hHeld ?_
  try simp only [Act.put, List.setIfInBounds_toArray, List.set_cons_zero, List.set_cons_succ, List.getElem_toArray, List.getElem_cons_succ, List.getElem_cons_zero]
  refine wpAnyH_take (i := 17) (oi := _) (v := (.int .i64 1)) rfl (by kernel_rfl) (by kernel_rfl) (by kernel_rfl) (fun _ _ _ h => h) (Or.inl ⟨by rfl, fun W hS => by obtain ⟨s0, s1, s2, s3, s4, _⟩ := hS; go_simp⟩) hHeld ?_
  try simp only [Act.put, List.setIfInBounds_toArray, List.set_cons_zero, List.set_cons_succ, List.getElem_toArray, List.getElem_cons_succ, List.getElem_cons_zero]
  refine wpAnyH_take (i := 18) (oi := _) (v := (.pointer (some ⟨p, 0, none⟩))) rfl (by kernel_rfl) (by kernel_rfl) (by kernel_rfl) (fun _ _ _ h => h) (Or.inl ⟨by rfl, fun W hS => by go_simp⟩) hHeld ?_
  try simp only [Act.put, List.setIfInBounds_toArray, List.set_cons_zero, List.set_cons_succ, List.getElem_toArray, List.getElem_cons_succ, List.getElem_cons_zero]
  refine wpAnyH_take (i := 19) (oi := _) (v := (.pointer (some ⟨p, 0, none⟩))) rfl (by kernel_rfl) (by kernel_rfl) (by kernel_rfl) (fun _ _ _ h => h) (Or.inl ⟨by rfl, fun W hS => by go_simp⟩) hHeld ?_
  try simp only [Act.put, List.setIfInBounds_toArray, List.set_cons_zero, List.set_cons_succ, List.getElem_toArray, List.getElem_cons_succ, List.getElem_cons_zero]
  refine wpAnyH_take (i := 20) (oi := _) (v := (.pointer (some ⟨p, 9, none⟩))) rfl (by kernel_rfl) (by kernel_rfl) (by kernel_rfl) (fun _ _ _ h => h) (Or.inl ⟨by rfl, fun W hS => by go_simp⟩) hHeld ?_
  try simp only [Act.put, List.setIfInBounds_toArray, List.set_cons_zero, List.set_cons_succ, List.getElem_toArray, List.getElem_cons_succ, List.getElem_cons_zero]
  refine wpAnyH_take (i := 21) (oi := _) (v := (.int .u64 v)) rfl (by kernel_rfl) (by kernel_rfl) (by kernel_rfl) (fun _ _ _ h => h) (Or.inl ⟨by rfl, fun W hS => by obtain ⟨s0, s1, s2, s3, s4, _⟩ := hS; go_simp⟩) hHeld ?_
  try simp only [Act.put, List.setIfInBounds_toArray, List.set_cons_zero, List.set_cons_succ, List.getElem_toArray, List.getElem_cons_succ, List.getElem_cons_zero]
  refine wpAnyH_ready (rs := [4, 23]) (by kernel_rfl) (by simp) ?_
  refine AllReadyH.cons (o := _) rfl (fun K hK => ?_) ?_
  · skip
    go_simp
    go_at_call 92; refine (KL.out _ (HV.out.trans ((Below.drew (Below.refl V.heap.size V)).mono HV.out.size))).mono ?_; rintro e w1 ⟨rfl, hb1⟩
    go_wp2_with fail
    have hv1 : Below V.heap.size V w1 := (Below.drew (Below.refl V.heap.size V)).trans (hb1.mono (Below.drew (Below.refl V.heap.size V)).size)
    refine hK.out _ _ (hold5w HP1.out rfl rfl rfl rfl rfl hv1) (fun hHeld => ?_)
    try simp only [Act.put, List.setIfInBounds_toArray, List.set_cons_zero, List.set_cons_succ, List.getElem_toArray, List.getElem_cons_succ, List.getElem_cons_zero]
    clear hK K
    refine wpAnyH_ready (rs := [13, 23]) (by kernel_rfl) (by simp) ?_
    refine AllReadyH.cons (o := _) rfl (fun K hK => ?_) ?_
    · skip
      go_simp
      go_at_call 93; refine (KU.out _ (HV.out.trans (hv1.mono HV.out.size))).mono ?_; rintro e w2 ⟨rfl, hb2⟩
      go_wp2_with fail
      have hv2 : Below V.heap.size V w2 := hv1.trans (hb2.mono hv1.size)
      refine hK.out _ _ (hold5w HP1.out rfl rfl rfl rfl rfl hv2) (fun hHeld => ?_)
      try simp only [Act.put, List.setIfInBounds_toArray, List.set_cons_zero, List.set_cons_succ, List.getElem_toArray, List.getElem_cons_succ, List.getElem_cons_zero]
      clear hK K
      refine wpAnyH_take (i := 22) (oi := _) (v := (.agg #[.slice none 0 0, .slice none 0 0, .slice none 0 0, .int .i64 q, .int .i64 0, .int .i64 1, .int .u64 v])) rfl (by kernel_rfl) (by kernel_rfl) (by kernel_rfl) (fun _ _ _ h => h) (Or.inl ⟨by rfl, fun W hS => by go_simp⟩) hHeld ?_
      try simp only [Act.put, List.setIfInBounds_toArray, List.set_cons_zero, List.set_cons_succ, List.getElem_toArray, List.getElem_cons_succ, List.getElem_cons_zero]
      refine wpAnyH_ready (rs := [23]) (by kernel_rfl) (by simp) ?_
      refine AllReadyH.cons (o := _) rfl (fun K hK => ?_) AllReadyH.nil
      go_simp
      refine hK.out _ _ (hold5w HP1.out rfl rfl rfl rfl rfl (hv2.alloc hv2.size _)) (fun hHeld => ?_)
      try simp only [Act.put, List.setIfInBounds_toArray, List.set_cons_zero, List.set_cons_succ, List.getElem_toArray, List.getElem_cons_succ, List.getElem_cons_zero]
      clear hK K
      refine wpAnyH_ready (rs := [24]) (by kernel_rfl) (by simp) ?_
      refine AllReadyH.cons (o := _) rfl (fun K hK => ?_) AllReadyH.nil
      go_simp
      have hbF : Below V.heap.size V (w2.alloc (Obj.cells #[.slice none 0 0, .slice none 0 0, .slice none 0 0, .int .i64 q, .int .i64 0, .int .i64 1, .int .u64 v] 34)) := hv2.alloc hv2.size _
      have hgF : (w2.alloc (Obj.cells #[.slice none 0 0, .slice none 0 0, .slice none 0 0, .int .i64 q, .int .i64 0, .int .i64 1, .int .u64 v] 34)).heap[w2.heap.size]? = some (.cells #[.slice none 0 0, .slice none 0 0, .slice none 0 0, .int .i64 q, .int .i64 0, .int .i64 1, .int .u64 v] 34 (0, 0)) := blk_new w2 _
      refine hK.out _ _ (hold5w HP1.out rfl rfl rfl rfl rfl hbF) (fun hHeld => ?_)
      try simp only [Act.put, List.setIfInBounds_toArray, List.set_cons_zero, List.set_cons_succ, List.getElem_toArray, List.getElem_cons_succ, List.getElem_cons_zero]
      clear hK K
      refine wpAnyH_done (by kernel_rfl) ?_ _
      generalize (w2.alloc (Obj.cells #[.slice none 0 0, .slice none 0 0, .slice none 0 0, .int .i64 q, .int .i64 0, .int .i64 1, .int .u64 v] 34)) = Y at *
      obtain ⟨⟨j0, j1, j2, j3, j4, j5, j6⟩, -⟩ := box7f hgF
      have hX2 := blk_below HX.out hbF (blk_lt HX.out)
      obtain ⟨⟨l0, l1, l2, l3, l4, l5, l6⟩, n0, n1, n2, n3, n4, n5, n6⟩ := box7f hX2
      have k8 := hHeld.2.2.2.1
      have HX2 := Lib.hid hX2
      have HBF := Lib.hid hbF
      clear hHeld hgF hX2 hbF
      go_wp2
      refine bodyPost_ret (wstate_results _ _ w.heap.size _ _ _ q 0 1 v ⟨_, _, _, rfl⟩ ⟨_, _, _, rfl⟩ ⟨_, _, _, rfl⟩ rfl (set7f HX2.out _ _ _ _ _ _ _)) rfl ⟨rfl, ?_⟩
      exact below7f (HV.out.trans (HBF.out.mono HV.out.size)) (Nat.le_refl _) _ _ _ _ _ _ _
    refine AllReadyH.cons (o := _) rfl (fun K hK => ?_) AllReadyH.nil
    go_simp
    have hv1' : Below V.heap.size V (w1.alloc (Obj.cells #[.slice none 0 0, .slice none 0 0, .slice none 0 0, .int .i64 0, .int .i64 0, .int .i64 0, .int .u64 0] 34)) := hv1.alloc hv1.size _
    refine hK.out _ _ (hold5w HP1.out rfl rfl rfl rfl rfl hv1') (fun hHeld => ?_)
    try simp only [Act.put, List.setIfInBounds_toArray, List.set_cons_zero, List.set_cons_succ, List.getElem_toArray, List.getElem_cons_succ, List.getElem_cons_zero]
    clear hK K
    refine wpAnyH_ready (rs := [13]) (by kernel_rfl) (by simp) ?_
    refine AllReadyH.cons (o := _) rfl (fun K hK => ?_) AllReadyH.nil
    go_simp
    go_at_call 93; refine (KU.out _ (HV.out.trans (hv1'.mono HV.out.size))).mono ?_; rintro e w2 ⟨rfl, hb2⟩
    go_wp2_with fail
    have hv2 : Below V.heap.size V w2 := hv1'.trans (hb2.mono hv1'.size)
    have hx := blk_below (blk_new w1 (Obj.cells #[.slice none 0 0, .slice none 0 0, .slice none 0 0, .int .i64 0, .int .i64 0, .int .i64 0, .int .u64 0] 34)) hb2 (blk_lt (blk_new w1 (Obj.cells #[.slice none 0 0, .slice none 0 0, .slice none 0 0, .int .i64 0, .int .i64 0, .int .i64 0, .int .u64 0] 34)))
    obtain ⟨⟨q0, q1, q2, q3, q4, q5, q6⟩, r0, r1, r2, r3, r4, r5, r6⟩ := box7f hx
    refine hK.out _ _ (hold5w HP1.out rfl rfl rfl rfl rfl hv2) (fun hHeld => ?_)
    try simp only [Act.put, List.setIfInBounds_toArray, List.set_cons_zero, List.set_cons_succ, List.getElem_toArray, List.getElem_cons_succ, List.getElem_cons_zero]
    clear hK K
    refine wpAnyH_take (i := 22) (oi := _) (v := (.agg #[.slice none 0 0, .slice none 0 0, .slice none 0 0, .int .i64 q, .int .i64 0, .int .i64 1, .int .u64 v])) rfl (by kernel_rfl) (by kernel_rfl) (by kernel_rfl) (fun _ _ _ h => h) (Or.inl ⟨by rfl, fun W hS => by go_simp⟩) hHeld ?_
    try simp only [Act.put, List.setIfInBounds_toArray, List.set_cons_zero, List.set_cons_succ, List.getElem_toArray, List.getElem_cons_succ, List.getElem_cons_zero]
    refine wpAnyH_ready (rs := [24]) (by kernel_rfl) (by simp) ?_
    refine AllReadyH.cons (o := _) rfl (fun K hK => ?_) AllReadyH.nil
    go_simp
    have hbF : Below V.heap.size V (((((((w2.setCell ⟨w1.heap.size, 0, none⟩ (.slice none 0 0)).setCell ⟨w1.heap.size, 1, none⟩ (.slice none 0 0)).setCell ⟨w1.heap.size, 2, none⟩ (.slice none 0 0)).setCell ⟨w1.heap.size, 3, none⟩ (.int .i64 q)).setCell ⟨w1.heap.size, 4, none⟩ (.int .i64 0)).setCell ⟨w1.heap.size, 5, none⟩ (.int .i64 1)).setCell ⟨w1.heap.size, 6, none⟩ (.int .u64 v)) := below7f hv2 hv1.size _ _ _ _ _ _ _
    have hgF : (((((((w2.setCell ⟨w1.heap.size, 0, none⟩ (.slice none 0 0)).setCell ⟨w1.heap.size, 1, none⟩ (.slice none 0 0)).setCell ⟨w1.heap.size, 2, none⟩ (.slice none 0 0)).setCell ⟨w1.heap.size, 3, none⟩ (.int .i64 q)).setCell ⟨w1.heap.size, 4, none⟩ (.int .i64 0)).setCell ⟨w1.heap.size, 5, none⟩ (.int .i64 1)).setCell ⟨w1.heap.size, 6, none⟩ (.int .u64 v)).heap[w1.heap.size]? = some (.cells #[.slice none 0 0, .slice none 0 0, .slice none 0 0, .int .i64 q, .int .i64 0, .int .i64 1, .int .u64 v] 34 (0, 0)) := set7f hx _ _ _ _ _ _ _
    refine hK.out _ _ (hold5w HP1.out rfl rfl rfl rfl rfl hbF) (fun hHeld => ?_)
    try simp only [Act.put, List.setIfInBounds_toArray, List.set_cons_zero, List.set_cons_succ, List.getElem_toArray, List.getElem_cons_succ, List.getElem_cons_zero]
    clear hK K
    refine wpAnyH_done (by kernel_rfl) ?_ _
    generalize (((((((w2.setCell ⟨w1.heap.size, 0, none⟩ (.slice none 0 0)).setCell ⟨w1.heap.size, 1, none⟩ (.slice none 0 0)).setCell ⟨w1.heap.size, 2, none⟩ (.slice none 0 0)).setCell ⟨w1.heap.size, 3, none⟩ (.int .i64 q)).setCell ⟨w1.heap.size, 4, none⟩ (.int .i64 0)).setCell ⟨w1.heap.size, 5, none⟩ (.int .i64 1)).setCell ⟨w1.heap.size, 6, none⟩ (.int .u64 v)) = Y at *
    obtain ⟨⟨j0, j1, j2, j3, j4, j5, j6⟩, -⟩ := box7f hgF
    have hX2 := blk_below HX.out hbF (blk_lt HX.out)
    obtain ⟨⟨l0, l1, l2, l3, l4, l5, l6⟩, n0, n1, n2, n3, n4, n5, n6⟩ := box7f hX2
    have k8 := hHeld.2.2.2.1
    have HX2 := Lib.hid hX2
    have HBF := Lib.hid hbF
    clear hHeld hgF hX2 hbF
    go_wp2
    refine bodyPost_ret (wstate_results _ _ w.heap.size _ _ _ q 0 1 v ⟨_, _, _, rfl⟩ ⟨_, _, _, rfl⟩ ⟨_, _, _, rfl⟩ rfl (set7f HX2.out _ _ _ _ _ _ _)) rfl ⟨rfl, ?_⟩
    exact below7f (HV.out.trans (HBF.out.mono HV.out.size)) (Nat.le_refl _) _ _ _ _ _ _ _
  refine AllReadyH.cons (o := _) rfl (fun K hK => ?_) AllReadyH.nil
  go_simp
  have hv0 : Below V.heap.size V (V.drew.alloc (Obj.cells #[.slice none 0 0, .slice none 0 0, .slice none 0 0, .int .i64 0, .int .i64 0, .int .i64 0, .int .u64 0] 34)) := (Below.drew (Below.refl V.heap.size V)).alloc (Nat.le_refl _) _
  have hx0 : (V.drew.alloc (Obj.cells #[.slice none 0 0, .slice none 0 0, .slice none 0 0, .int .i64 0, .int .i64 0, .int .i64 0, .int .u64 0] 34)).heap[V.heap.size]? = some (Obj.cells #[.slice none 0 0, .slice none 0 0, .slice none 0 0, .int .i64 0, .int .i64 0, .int .i64 0, .int .u64 0] 34) := blk_new V.drew _
  refine hK.out _ _ (hold5w HP1.out rfl rfl rfl rfl rfl hv0) (fun hHeld => ?_)
  try simp only [Act.put, List.setIfInBounds_toArray, List.set_cons_zero, List.set_cons_succ, List.getElem_toArray, List.getElem_cons_succ, List.getElem_cons_zero]
  clear hK K
  refine wpAnyH_ready (rs := [4]) (by kernel_rfl) (by simp) ?_
  refine AllReadyH.cons (o := _) rfl (fun K hK => ?_) AllReadyH.nil
  go_simp
  go_at_call 92; refine (KL.out _ (HV.out.trans (hv0.mono HV.out.size))).mono ?_; rintro e w1 ⟨rfl, hb1⟩
  go_wp2_with fail
  have hv1 : Below V.heap.size V w1 := hv0.trans (hb1.mono hv0.size)
  have hx1 : w1.heap[V.heap.size]? = some (Obj.cells #[.slice none 0 0, .slice none 0 0, .slice none 0 0, .int .i64 0, .int .i64 0, .int .i64 0, .int .u64 0] 34) := (hb1.block _ (blk_lt hx0)).trans hx0
  refine hK.out _ _ (hold5w HP1.out rfl rfl rfl rfl rfl hv1) (fun hHeld => ?_)
  try simp only [Act.put, List.setIfInBounds_toArray, List.set_cons_zero, List.set_cons_succ, List.getElem_toArray, List.getElem_cons_succ, List.getElem_cons_zero]
  clear hK K
  refine wpAnyH_ready (rs := [13]) (by kernel_rfl) (by simp) ?_
  refine AllReadyH.cons (o := _) rfl (fun K hK => ?_) AllReadyH.nil
  go_simp
  go_at_call 93; refine (KU.out _ (HV.out.trans (hv1.mono HV.out.size))).mono ?_; rintro e w2 ⟨rfl, hb2⟩
  go_wp2_with fail
  have hv2 : Below V.heap.size V w2 := hv1.trans (hb2.mono hv1.size)
  have hx := blk_below hx1 hb2 (blk_lt hx1)
  obtain ⟨⟨q0, q1, q2, q3, q4, q5, q6⟩, r0, r1, r2, r3, r4, r5, r6⟩ := box7f hx
  refine hK.out _ _ (hold5w HP1.out rfl rfl rfl rfl rfl hv2) (fun hHeld => ?_)
  try simp only [Act.put, List.setIfInBounds_toArray, List.set_cons_zero, List.set_cons_succ, List.getElem_toArray, List.getElem_cons_succ, List.getElem_cons_zero]
  clear hK K
  refine wpAnyH_take (i := 22) (oi := _) (v := (.agg #[.slice none 0 0, .slice none 0 0, .slice none 0 0, .int .i64 q, .int .i64 0, .int .i64 1, .int .u64 v])) rfl (by kernel_rfl) (by kernel_rfl) (by kernel_rfl) (fun _ _ _ h => h) (Or.inl ⟨by rfl, fun W hS => by go_simp⟩) hHeld ?_
  try simp only [Act.put, List.setIfInBounds_toArray, List.set_cons_zero, List.set_cons_succ, List.getElem_toArray, List.getElem_cons_succ, List.getElem_cons_zero]
  refine wpAnyH_ready (rs := [24]) (by kernel_rfl) (by simp) ?_
  refine AllReadyH.cons (o := _) rfl (fun K hK => ?_) AllReadyH.nil
  go_simp
  have hbF : Below V.heap.size V (((((((w2.setCell ⟨V.heap.size, 0, none⟩ (.slice none 0 0)).setCell ⟨V.heap.size, 1, none⟩ (.slice none 0 0)).setCell ⟨V.heap.size, 2, none⟩ (.slice none 0 0)).setCell ⟨V.heap.size, 3, none⟩ (.int .i64 q)).setCell ⟨V.heap.size, 4, none⟩ (.int .i64 0)).setCell ⟨V.heap.size, 5, none⟩ (.int .i64 1)).setCell ⟨V.heap.size, 6, none⟩ (.int .u64 v)) := below7f hv2 (Nat.le_refl _) _ _ _ _ _ _ _
  have hgF : (((((((w2.setCell ⟨V.heap.size, 0, none⟩ (.slice none 0 0)).setCell ⟨V.heap.size, 1, none⟩ (.slice none 0 0)).setCell ⟨V.heap.size, 2, none⟩ (.slice none 0 0)).setCell ⟨V.heap.size, 3, none⟩ (.int .i64 q)).setCell ⟨V.heap.size, 4, none⟩ (.int .i64 0)).setCell ⟨V.heap.size, 5, none⟩ (.int .i64 1)).setCell ⟨V.heap.size, 6, none⟩ (.int .u64 v)).heap[V.heap.size]? = some (.cells #[.slice none 0 0, .slice none 0 0, .slice none 0 0, .int .i64 q, .int .i64 0, .int .i64 1, .int .u64 v] 34 (0, 0)) := set7f hx _ _ _ _ _ _ _
  refine hK.out _ _ (hold5w HP1.out rfl rfl rfl rfl rfl hbF) (fun hHeld => ?_)
  try simp only [Act.put, List.setIfInBounds_toArray, List.set_cons_zero, List.set_cons_succ, List.getElem_toArray, List.getElem_cons_succ, List.getElem_cons_zero]
  clear hK K
  refine wpAnyH_done (by kernel_rfl) ?_ _
  generalize (((((((w2.setCell ⟨V.heap.size, 0, none⟩ (.slice none 0 0)).setCell ⟨V.heap.size, 1, none⟩ (.slice none 0 0)).setCell ⟨V.heap.size, 2, none⟩ (.slice none 0 0)).setCell ⟨V.heap.size, 3, none⟩ (.int .i64 q)).setCell ⟨V.heap.size, 4, none⟩ (.int .i64 0)).setCell ⟨V.heap.size, 5, none⟩ (.int .i64 1)).setCell ⟨V.heap.size, 6, none⟩ (.int .u64 v)) = Y at *
  obtain ⟨⟨j0, j1, j2, j3, j4, j5, j6⟩, -⟩ := box7f hgF
  have hX2 := blk_below HX.out hbF (blk_lt HX.out)
  obtain ⟨⟨l0, l1, l2, l3, l4, l5, l6⟩, n0, n1, n2, n3, n4, n5, n6⟩ := box7f hX2
  have k8 := hHeld.2.2.2.1
  have HX2 := Lib.hid hX2
  have HBF := Lib.hid hbF
  clear hHeld hgF hX2 hbF
  go_wp2
  refine bodyPost_ret (wstate_results _ _ w.heap.size _ _ _ q 0 1 v ⟨_, _, _, rfl⟩ ⟨_, _, _, rfl⟩ ⟨_, _, _, rfl⟩ rfl (set7f HX2.out _ _ _ _ _ _ _)) rfl ⟨rfl, ?_⟩
  exact below7f (HV.out.trans (HBF.out.mono HV.out.size)) (Nat.le_refl _) _ _ _ _ _ _ _
end Go.Proofs.YtmceaeoeakkppaaGreatDoor
namespace Go.Proofs.YtmceaeoeakkppaaGreatDoor
open Go.RowKit Go.Sort
set_option linter.unusedVariables false
set_option maxRecDepth 100000 in
theorem copy_nil (w : World) : Calls Tryz.prog 127 #[.slice none 0 0] w fun e w' => e = .returned (.slice none 0 0) ∧ Below w.heap.size w w' := by
  go_enter Tryz.func127, Tryz.ntmps127
  go_wp2_with fail
  go_loopw [3, 8] (fun o ix wr => o = .slice none 0 0 ∧ ix = .int .i64 0 ∧ Hid (w = wr)) (fun _ _ _ => 0)
  case atStart => exact ⟨rfl, rfl, Lib.hid rfl⟩
  case round =>
    obtain ⟨rfl, rfl, he⟩ := hrel
    have e := he.out
    subst e
    go_wp2
    go_ret
    exact ⟨rfl, Below.refl _ _⟩
set_option maxRecDepth 100000 in
theorem heapNew_nil (w : World) (q u : Int) : Calls Tryz.prog 84 #[.slice none 0 0, .int .i64 q, .int .i64 u] w fun e w' => ∃ g, e = .returned (.pointer (some ⟨g, 0, none⟩)) ∧ w'.heap[g]? = some (.cells #[.slice none 0 0, .int .i64 q, .int .i64 u] 204 (0, 0)) ∧ w.heap.size ≤ g ∧ Below w.heap.size w w' := by
  go_enter Tryz.func84, Tryz.ntmps84
  go_wp2_with (go_at_call 127; refine (copy_nil _).mono ?_; rintro e w1 ⟨rfl, hb1⟩)
  go_ret
  exact ⟨_, rfl, blk_new _ _, hb1.size, hb1.alloc hb1.size _⟩
set_option maxRecDepth 100000 in
theorem hansNew_nil (w : World) : Calls Tryz.prog 85 #[.slice none 0 0] w fun e w' => ∃ g, e = .returned (.pointer (some ⟨g, 0, none⟩)) ∧ w'.heap[g]? = some (.cells #[.slice none 0 0] 207 (0, 0)) ∧ w.heap.size ≤ g ∧ Below w.heap.size w w' := by
  go_enter Tryz.func85, Tryz.ntmps85
  go_wp2_with (go_at_call 128; refine (cloneH_nil _).mono ?_; rintro e w1 ⟨rfl, hb1⟩)
  go_ret
  exact ⟨_, rfl, blk_new _ _, hb1.size, hb1.alloc hb1.size _⟩
theorem enter_results (tmps : Array Value) (w : World) (b : Nat) (cs : Array Value) (hs : cs.size = 11) (h : tmps.getD 4 undef = .pointer (some ⟨b, 0, none⟩)) (hb : w.heap[b]? = some (.cells cs 97 (0, 0))) :
    (results Tryz.f45 tmps).run Tryz.prog w = .ok (.agg cs) w :=
  results_cell_row Tryz.results45 tmps w b _ _ _ _ h hb Tryz.underlying97 rfl (by rw [hs]; kernel_rfl)
theorem hold11 {V w' : World} {p g : Nat} {t t' : TypeId} {cs cs' : Array Value} {a0 a1 a2 a3 a4 b1 b2 b3 b4 b5 b6 : Value} (hp : V.heap[p]? = some (.cells cs t (0, 0))) (hg : V.heap[g]? = some (.cells cs' t' (0, 0))) (h0 : cs[0]? = some a0) (h1 : cs[1]? = some a1) (h2 : cs[2]? = some a2) (h3 : cs[3]? = some a3) (h4 : cs[4]? = some a4) (k1 : cs'[1]? = some b1) (k2 : cs'[2]? = some b2) (k3 : cs'[3]? = some b3) (k4 : cs'[4]? = some b4) (k5 : cs'[5]? = some b5) (k6 : cs'[6]? = some b6) (hb : Below V.heap.size V w') :
    w'.cell? ⟨p, 0, none⟩ = some a0 ∧ w'.cell? ⟨p, 1, none⟩ = some a1 ∧ w'.cell? ⟨p, 2, none⟩ = some a2 ∧ w'.cell? ⟨p, 3, none⟩ = some a3 ∧ w'.cell? ⟨p, 4, none⟩ = some a4 ∧ w'.cell? ⟨g, 1, none⟩ = some b1 ∧ w'.cell? ⟨g, 2, none⟩ = some b2 ∧ w'.cell? ⟨g, 3, none⟩ = some b3 ∧ w'.cell? ⟨g, 4, none⟩ = some b4 ∧ w'.cell? ⟨g, 5, none⟩ = some b5 ∧ w'.cell? ⟨g, 6, none⟩ = some b6 ∧ Below V.heap.size V w' :=
  have x := blk_below hp hb (blk_lt hp)
  have y := blk_below hg hb (blk_lt hg)
  ⟨(blk_cell x 0).trans h0, (blk_cell x 1).trans h1, (blk_cell x 2).trans h2, (blk_cell x 3).trans h3, (blk_cell x 4).trans h4, (blk_cell y 1).trans k1, (blk_cell y 2).trans k2, (blk_cell y 3).trans k3, (blk_cell y 4).trans k4, (blk_cell y 5).trans k5, (blk_cell y 6).trans k6, hb⟩
theorem held11 {a b c d e f g h i j k : Prop} {V w' : World} (hh : a ∧ b ∧ c ∧ d ∧ e ∧ f ∧ g ∧ h ∧ i ∧ j ∧ k ∧ Below V.heap.size V w') : Below V.heap.size V w' := hh.2.2.2.2.2.2.2.2.2.2.2
theorem box11f {W : World} {g : Nat} {t : TypeId} {z0 z1 z2 z3 z4 z5 z6 z7 z8 z9 z10 : Value} (hh : W.heap[g]? = some (.cells #[z0, z1, z2, z3, z4, z5, z6, z7, z8, z9, z10] t (0, 0))) : (W.cell? ⟨g, 0, none⟩ = some z0 ∧ W.cell? ⟨g, 1, none⟩ = some z1 ∧ W.cell? ⟨g, 2, none⟩ = some z2 ∧ W.cell? ⟨g, 3, none⟩ = some z3 ∧ W.cell? ⟨g, 4, none⟩ = some z4 ∧ W.cell? ⟨g, 5, none⟩ = some z5 ∧ W.cell? ⟨g, 6, none⟩ = some z6 ∧ W.cell? ⟨g, 7, none⟩ = some z7 ∧ W.cell? ⟨g, 8, none⟩ = some z8 ∧ W.cell? ⟨g, 9, none⟩ = some z9 ∧ W.cell? ⟨g, 10, none⟩ = some z10) ∧ W.frozen? ⟨g, 0, none⟩ = false ∧ W.frozen? ⟨g, 1, none⟩ = false ∧ W.frozen? ⟨g, 2, none⟩ = false ∧ W.frozen? ⟨g, 3, none⟩ = false ∧ W.frozen? ⟨g, 4, none⟩ = false ∧ W.frozen? ⟨g, 5, none⟩ = false ∧ W.frozen? ⟨g, 6, none⟩ = false ∧ W.frozen? ⟨g, 7, none⟩ = false ∧ W.frozen? ⟨g, 8, none⟩ = false ∧ W.frozen? ⟨g, 9, none⟩ = false ∧ W.frozen? ⟨g, 10, none⟩ = false :=
  ⟨⟨blk_cell hh 0, blk_cell hh 1, blk_cell hh 2, blk_cell hh 3, blk_cell hh 4, blk_cell hh 5, blk_cell hh 6, blk_cell hh 7, blk_cell hh 8, blk_cell hh 9, blk_cell hh 10⟩, blk_frozen hh 0, blk_frozen hh 1, blk_frozen hh 2, blk_frozen hh 3, blk_frozen hh 4, blk_frozen hh 5, blk_frozen hh 6, blk_frozen hh 7, blk_frozen hh 8, blk_frozen hh 9, blk_frozen hh 10⟩
theorem set11f {W : World} {g : Nat} {t : TypeId} {z0 z1 z2 z3 z4 z5 z6 z7 z8 z9 z10 : Value} (hh : W.heap[g]? = some (.cells #[z0, z1, z2, z3, z4, z5, z6, z7, z8, z9, z10] t (0, 0))) (y0 y1 y2 y3 y4 y5 y6 y7 y8 y9 y10 : Value) :
    (((((((((((W.setCell ⟨g, 0, none⟩ y0).setCell ⟨g, 1, none⟩ y1).setCell ⟨g, 2, none⟩ y2).setCell ⟨g, 3, none⟩ y3).setCell ⟨g, 4, none⟩ y4).setCell ⟨g, 5, none⟩ y5).setCell ⟨g, 6, none⟩ y6).setCell ⟨g, 7, none⟩ y7).setCell ⟨g, 8, none⟩ y8).setCell ⟨g, 9, none⟩ y9).setCell ⟨g, 10, none⟩ y10).heap[g]? = some (.cells #[y0, y1, y2, y3, y4, y5, y6, y7, y8, y9, y10] t (0, 0)) := by
  have h2 := (blk_set (blk_set (blk_set (blk_set (blk_set (blk_set (blk_set (blk_set (blk_set (blk_set (blk_set hh 0 y0) 1 y1) 2 y2) 3 y3) 4 y4) 5 y5) 6 y6) 7 y7) 8 y8) 9 y9) 10 y10)
  simpa using h2
theorem below11f {B : Nat} {w W : World} {g : Nat} (hh : Below B w W) (hb : B ≤ g) (y0 y1 y2 y3 y4 y5 y6 y7 y8 y9 y10 : Value) : Below B w (((((((((((W.setCell ⟨g, 0, none⟩ y0).setCell ⟨g, 1, none⟩ y1).setCell ⟨g, 2, none⟩ y2).setCell ⟨g, 3, none⟩ y3).setCell ⟨g, 4, none⟩ y4).setCell ⟨g, 5, none⟩ y5).setCell ⟨g, 6, none⟩ y6).setCell ⟨g, 7, none⟩ y7).setCell ⟨g, 8, none⟩ y8).setCell ⟨g, 9, none⟩ y9).setCell ⟨g, 10, none⟩ y10) :=
  (((((((((((hh.setCell (p := ⟨g, 0, none⟩) hb y0).setCell (p := ⟨g, 1, none⟩) hb y1).setCell (p := ⟨g, 2, none⟩) hb y2).setCell (p := ⟨g, 3, none⟩) hb y3).setCell (p := ⟨g, 4, none⟩) hb y4).setCell (p := ⟨g, 5, none⟩) hb y5).setCell (p := ⟨g, 6, none⟩) hb y6).setCell (p := ⟨g, 7, none⟩) hb y7).setCell (p := ⟨g, 8, none⟩) hb y8).setCell (p := ⟨g, 9, none⟩) hb y9).setCell (p := ⟨g, 10, none⟩) hb y10)
theorem far11f {W : World} {g x : Nat} (hx : x ≠ g) (y0 y1 y2 y3 y4 y5 y6 y7 y8 y9 y10 : Value) : (((((((((((W.setCell ⟨g, 0, none⟩ y0).setCell ⟨g, 1, none⟩ y1).setCell ⟨g, 2, none⟩ y2).setCell ⟨g, 3, none⟩ y3).setCell ⟨g, 4, none⟩ y4).setCell ⟨g, 5, none⟩ y5).setCell ⟨g, 6, none⟩ y6).setCell ⟨g, 7, none⟩ y7).setCell ⟨g, 8, none⟩ y8).setCell ⟨g, 9, none⟩ y9).setCell ⟨g, 10, none⟩ y10).heap[x]? = W.heap[x]? :=
  (Below.heap_setCell _ _ _ x hx).trans ((Below.heap_setCell _ _ _ x hx).trans ((Below.heap_setCell _ _ _ x hx).trans ((Below.heap_setCell _ _ _ x hx).trans ((Below.heap_setCell _ _ _ x hx).trans ((Below.heap_setCell _ _ _ x hx).trans ((Below.heap_setCell _ _ _ x hx).trans ((Below.heap_setCell _ _ _ x hx).trans ((Below.heap_setCell _ _ _ x hx).trans ((Below.heap_setCell _ _ _ x hx).trans (Below.heap_setCell _ _ _ x hx))))))))))
set_option maxRecDepth 100000 in
set_option maxHeartbeats 8000000 in
theorem enter_calls (w : World) (B0 B1 B2 B3 B4 : Option Addr) (m0 m1 m2 m3 m4 d0 d1 d2 d3 d4 : Nat) (fs : Value) (hfs : ∃ A n c, fs = .slice A n c) (q : Int) :
    Calls Tryz.prog 45 #[.agg #[.slice B0 m0 d0, .slice B1 m1 d1, .slice B2 m2 d2, .slice B3 m3 d3, .slice B4 m4 d4], .agg #[fs, .slice none 0 0, .slice none 0 0, .int .i64 q, .int .i64 0, .int .i64 0, .int .u64 0]] w fun e w' => ∃ hp tp, e = .returned (.agg #[.slice B0 m0 d0, .slice B1 m1 d1, .slice B2 m2 d2, .slice B3 m3 d3, .slice B4 m4 d4, .pointer (some ⟨hp, 0, none⟩), .pointer (some ⟨tp, 0, none⟩), .int .i64 q, .int .i64 0, .int .u64 0, .slice none 0 0]) ∧
      w'.heap[hp]? = some (.cells #[.slice none 0 0, .int .i64 q, .int .i64 0] 204 (0, 0)) ∧ w'.heap[tp]? = some (.cells #[.slice none 0 0] 207 (0, 0)) ∧ w.heap.size ≤ hp ∧ w.heap.size ≤ tp ∧ Below w.heap.size w w' := by
  obtain ⟨FA, fn, fc, rfl⟩ := hfs
  have hV := below_up (below_a1 w (Obj.cells #[.slice B0 m0 d0, .slice B1 m1 d1, .slice B2 m2 d2, .slice B3 m3 d3, .slice B4 m4 d4] 28)) (Obj.cells #[.slice FA fn fc, .slice none 0 0, .slice none 0 0, .int .i64 q, .int .i64 0, .int .i64 0, .int .u64 0] 34)
  have HM := Lib.hid (blk_alloc (blk_new w (Obj.cells #[.slice B0 m0 d0, .slice B1 m1 d1, .slice B2 m2 d2, .slice B3 m3 d3, .slice B4 m4 d4] 28)) (Obj.cells #[.slice FA fn fc, .slice none 0 0, .slice none 0 0, .int .i64 q, .int .i64 0, .int .i64 0, .int .u64 0] 34))
  have HSt := Lib.hid (blk_new2 w (Obj.cells #[.slice B0 m0 d0, .slice B1 m1 d1, .slice B2 m2 d2, .slice B3 m3 d3, .slice B4 m4 d4] 28) (Obj.cells #[.slice FA fn fc, .slice none 0 0, .slice none 0 0, .int .i64 q, .int .i64 0, .int .i64 0, .int .u64 0] 34))
  have HV := Lib.hid hV
  have hUs : ((w.alloc (Obj.cells #[.slice B0 m0 d0, .slice B1 m1 d1, .slice B2 m2 d2, .slice B3 m3 d3, .slice B4 m4 d4] 28)).alloc (Obj.cells #[.slice FA fn fc, .slice none 0 0, .slice none 0 0, .int .i64 q, .int .i64 0, .int .i64 0, .int .u64 0] 34)).heap.size = w.heap.size + 1 + 1 := by simp
  have HN := Lib.hid (show (((w.alloc (Obj.cells #[.slice B0 m0 d0, .slice B1 m1 d1, .slice B2 m2 d2, .slice B3 m3 d3, .slice B4 m4 d4] 28)).alloc (Obj.cells #[.slice FA fn fc, .slice none 0 0, .slice none 0 0, .int .i64 q, .int .i64 0, .int .i64 0, .int .u64 0] 34)).alloc (Obj.cells #[.slice none 0 0, .slice none 0 0, .slice none 0 0, .slice none 0 0, .slice none 0 0, .pointer none, .pointer none, .int .i64 0, .int .i64 0, .int .u64 0, .slice none 0 0] 97)).heap[w.heap.size + 1 + 1]? = some (Obj.cells #[.slice none 0 0, .slice none 0 0, .slice none 0 0, .slice none 0 0, .slice none 0 0, .pointer none, .pointer none, .int .i64 0, .int .i64 0, .int .u64 0, .slice none 0 0] 97) from blk_new3 w _ _ _)
  clear hV
  go_enter Tryz.func45, Tryz.ntmps45
  go_upto_region 1 with fail
  generalize ((w.alloc (Obj.cells #[.slice B0 m0 d0, .slice B1 m1 d1, .slice B2 m2 d2, .slice B3 m3 d3, .slice B4 m4 d4] 28)).alloc (Obj.cells #[.slice FA fn fc, .slice none 0 0, .slice none 0 0, .int .i64 q, .int .i64 0, .int .i64 0, .int .u64 0] 34)) = U at *
  go_region_held3 (fun w' => w'.cell? ⟨w.heap.size, 0, none⟩ = some (.slice B0 m0 d0) ∧ w'.cell? ⟨w.heap.size, 1, none⟩ = some (.slice B1 m1 d1) ∧ w'.cell? ⟨w.heap.size, 2, none⟩ = some (.slice B2 m2 d2) ∧ w'.cell? ⟨w.heap.size, 3, none⟩ = some (.slice B3 m3 d3) ∧ w'.cell? ⟨w.heap.size, 4, none⟩ = some (.slice B4 m4 d4) ∧ w'.cell? ⟨w.heap.size + 1, 1, none⟩ = some (.slice none 0 0) ∧ w'.cell? ⟨w.heap.size + 1, 2, none⟩ = some (.slice none 0 0) ∧ w'.cell? ⟨w.heap.size + 1, 3, none⟩ = some (.int .i64 q) ∧ w'.cell? ⟨w.heap.size + 1, 4, none⟩ = some (.int .i64 0) ∧ w'.cell? ⟨w.heap.size + 1, 5, none⟩ = some (.int .i64 0) ∧ w'.cell? ⟨w.heap.size + 1, 6, none⟩ = some (.int .u64 0) ∧ Below U.heap.size U w')
    (first | (refine hold11 HM.out HSt.out rfl rfl rfl rfl rfl rfl rfl rfl rfl rfl rfl ?_; first | (with_reducible refine below11f ?_ (Nat.le_of_eq hUs) _ _ _ _ _ _ _ _ _ _ _; with_reducible assumption) | with_reducible assumption | (repeat (first | exact Below.refl _ _ | refine Below.drew ?_ | refine below_up ?_ _))))
    (first
      | (go_at_call 84; go_must (refine (heapNew_nil _ q 0).mono ?_; rintro e w1 ⟨hp, rfl, hh1, hge1, hb1⟩; have hbU1 : Below U.heap.size U w1 := Below.trans (held11 (by assumption)) (hb1.mono (held11 (by assumption)).size); have hx1 := blk_below (blk_drew HN.out) hb1 (blk_lt HN.out)))
      | (go_at_call 85; go_must (refine (hansNew_nil _).mono ?_; rintro e w2 ⟨tp, rfl, ht2, hge2, hb2⟩; have hbU2 : Below U.heap.size U w2 := Below.trans (held11 (by assumption)) (hb2.mono (held11 (by assumption)).size); have hx2 := blk_below hx1 hb2 (blk_lt hx1); obtain ⟨⟨q0, q1, q2, q3, q4, q5, q6, q7, q8, q9, q10⟩, r0, r1, r2, r3, r4, r5, r6, r7, r8, r9, r10⟩ := box11f hx2)))
  all_goals
    have hz1 := blk_lt HN.out
    have hp1 : hp ≠ w.heap.size + 1 + 1 := fun e => by have h1 : _ ≤ hp := hge1; rw [e] at h1; exact absurd hz1 (Nat.not_lt.2 h1)
    have ht1 : tp ≠ w.heap.size + 1 + 1 := fun e => by have h1 := blk_lt hx1; rw [← e] at h1; exact absurd h1 (Nat.not_lt.2 hge2)
    have hgh : w.heap.size ≤ hp := Nat.le_trans (Nat.le_of_lt (Nat.lt_of_le_of_lt (by omega) hz1)) hge1
    have hgt : w.heap.size ≤ tp := Nat.le_trans (Nat.le_of_lt (Nat.lt_of_le_of_lt (by omega) (blk_lt hx1))) hge2
    have hfin := below11f hbU2 (Nat.le_of_eq hUs) (.slice B0 m0 d0) (.slice B1 m1 d1) (.slice B2 m2 d2) (.slice B3 m3 d3) (.slice B4 m4 d4) (.pointer (some ⟨hp, 0, none⟩)) (.pointer (some ⟨tp, 0, none⟩)) (.int .i64 q) (.int .i64 0) (.int .u64 0) (.slice none 0 0)
    have hres := set11f hx2 (.slice B0 m0 d0) (.slice B1 m1 d1) (.slice B2 m2 d2) (.slice B3 m3 d3) (.slice B4 m4 d4) (.pointer (some ⟨hp, 0, none⟩)) (.pointer (some ⟨tp, 0, none⟩)) (.int .i64 q) (.int .i64 0) (.int .u64 0) (.slice none 0 0)
    have hfh := (far11f (W := w2) hp1 (.slice B0 m0 d0) (.slice B1 m1 d1) (.slice B2 m2 d2) (.slice B3 m3 d3) (.slice B4 m4 d4) (.pointer (some ⟨hp, 0, none⟩)) (.pointer (some ⟨tp, 0, none⟩)) (.int .i64 q) (.int .i64 0) (.int .u64 0) (.slice none 0 0)).trans (blk_below hh1 hb2 (blk_lt hh1))
    have hft := (far11f (W := w2) ht1 (.slice B0 m0 d0) (.slice B1 m1 d1) (.slice B2 m2 d2) (.slice B3 m3 d3) (.slice B4 m4 d4) (.pointer (some ⟨hp, 0, none⟩)) (.pointer (some ⟨tp, 0, none⟩)) (.int .i64 q) (.int .i64 0) (.int .u64 0) (.slice none 0 0)).trans ht2
    generalize (((((((((((w2.setCell ⟨w.heap.size + 1 + 1, 0, none⟩ (.slice B0 m0 d0)).setCell ⟨w.heap.size + 1 + 1, 1, none⟩ (.slice B1 m1 d1)).setCell ⟨w.heap.size + 1 + 1, 2, none⟩ (.slice B2 m2 d2)).setCell ⟨w.heap.size + 1 + 1, 3, none⟩ (.slice B3 m3 d3)).setCell ⟨w.heap.size + 1 + 1, 4, none⟩ (.slice B4 m4 d4)).setCell ⟨w.heap.size + 1 + 1, 5, none⟩ (.pointer (some ⟨hp, 0, none⟩))).setCell ⟨w.heap.size + 1 + 1, 6, none⟩ (.pointer (some ⟨tp, 0, none⟩))).setCell ⟨w.heap.size + 1 + 1, 7, none⟩ (.int .i64 q)).setCell ⟨w.heap.size + 1 + 1, 8, none⟩ (.int .i64 0)).setCell ⟨w.heap.size + 1 + 1, 9, none⟩ (.int .u64 0)).setCell ⟨w.heap.size + 1 + 1, 10, none⟩ (.slice none 0 0)) = Y at *
    go_wp2
    refine bodyPost_ret (enter_results _ _ (w.heap.size + 1 + 1) _ rfl rfl hres) rfl ⟨hp, tp, rfl, hfh, hft, hgh, hgt, HV.out.trans (hfin.mono HV.out.size)⟩
end Go.Proofs.YtmceaeoeakkppaaGreatDoor
namespace Go.Proofs.YtmceaeoeakkppaaGreatDoor
open Go.RowKit Go.Sort
set_option linter.unusedVariables false
set_option maxRecDepth 100000 in
theorem cloneW_nil (w : World) : Calls Tryz.prog 61 #[.slice none 0 0] w fun e w' => e = .returned (.slice none 0 0) ∧ Below w.heap.size w w' := by
  have hnil : ∀ w' : World, (binOp .eql 25 (.slice none 0 0) (.slice none 0 0)).run Tryz.prog w' = .ok (.bool true) w' := fun w' => Lib.run_eql_slice_nil w' _ _ none _ _ 0 0 Tryz.underlying25
  go_enter Tryz.func61, Tryz.ntmps61
  go_wp2
  go_ret
  exact ⟨rfl, Below.refl _ _⟩
set_option maxRecDepth 100000 in
theorem clipW_nil (w : World) : Calls Tryz.prog 86 #[.slice none 0 0] w fun e w' => e = .returned (.slice none 0 0) ∧ Below w.heap.size w w' := by
  go_enter Tryz.func86, Tryz.ntmps86
  go_wp2
  go_ret
  exact ⟨rfl, Below.refl _ _⟩
/-- Clip of a slice that came from Clone. -/
theorem clipW_mem (w : World) (v : Value) (n : Nat) (xs : List Value) (h : Mem w 32 v n xs) (hm : n ≤ 1000000) : Calls Tryz.prog 86 #[v] w fun e w' => ∃ A, e = .returned (.slice A n n) ∧ Below w.heap.size w w' := by
  refine (clipM64_calls w v n xs h hm).mono ?_
  rintro e w' ⟨A, rfl, -, -, rfl⟩
  exact ⟨A, rfl, Below.refl _ _⟩
theorem frame_info : (Tryz.prog.info? 91).map (fun i => (i.zero, i.size, i.bytes)) = some (some (.agg #[.int .i64 0, .int .i64 0, .slice none 0 0, .slice none 0 0]), 4, 64) := by kernel_rfl
set_option maxRecDepth 100000 in
set_option maxHeartbeats 8000000 in
theorem frames_one (w : World) (fb fo fc : Nat) (LA : Option Addr) (n lc : Nat) (ws : List Int) (hw : ws.length = n) (hn : n ≤ 1000) (hL : Lie w LA n (wcells ws)) (h0 : w.cell? ⟨fb, fo, none⟩ = some (.int .i64 0)) (h1 : w.cell? ⟨fb, fo + 1, none⟩ = some (.int .i64 0)) (h2 : w.cell? ⟨fb, fo + 2, none⟩ = some (.slice LA n lc)) (h3 : w.cell? ⟨fb, fo + 3, none⟩ = some (.slice none 0 0)) :
    Calls Tryz.prog 46 #[.slice (some ⟨fb, fo, none⟩) 1 fc] w fun e w' => ∃ FB c L1 l1, e = .returned (.slice (some ⟨FB, 0, none⟩) 1 c) ∧ (∃ cs : Array Value, w'.heap[FB]? = some (.cells cs 91 (0, 0)) ∧ 4 ≤ cs.size ∧ cs[0]? = some (.int .i64 0) ∧ cs[1]? = some (.int .i64 0) ∧ cs[2]? = some (.slice L1 n l1) ∧ cs[3]? = some (.slice none 0 0)) ∧ w.heap.size ≤ FB ∧ Below w.heap.size w w' := by
  have hV := below_a1 w (Obj.cells #[.int .i64 0, .int .i64 0, .slice LA n lc, .slice none 0 0] 91)
  have hX := blk_new w (Obj.cells #[.int .i64 0, .int .i64 0, .slice LA n lc, .slice none 0 0] 91)
  have HV := Lib.hid hV
  have HL := Lib.hid (hL.below hV)
  have HX0 := Lib.hid hX
  clear hL hV hX
  go_enter Tryz.func46, Tryz.ntmps46
  go_wp2_with fail
  go_loopw [3, 8] (fun o ix wr => (ix = .int .i64 0 ∧ o = .slice none 0 0 ∧ Hid (w = wr)) ∨ (ix = .int .i64 1 ∧ ∃ FB c, o = .slice (some ⟨FB, 0, none⟩) 1 c ∧ Hid (∃ L1 l1, (∃ cs : Array Value, wr.heap[FB]? = some (.cells cs 91 (0, 0)) ∧ 4 ≤ cs.size ∧ cs[0]? = some (.int .i64 0) ∧ cs[1]? = some (.int .i64 0) ∧ cs[2]? = some (.slice L1 n l1) ∧ cs[3]? = some (.slice none 0 0)) ∧ w.heap.size ≤ FB ∧ Below w.heap.size w wr))) (fun _ ix _ => 1 - (intOf ix).toNat)
  case atStart => exact .inl ⟨rfl, rfl, Lib.hid rfl⟩
  case round =>
    rcases hrel with ⟨rfl, rfl, he⟩ | ⟨rfl, FB, c, rfl, hr⟩
    · have e := he.out
      subst e
      go_upto_region 5 with fail
      have hX := HX0.out
      generalize (w.alloc (Obj.cells #[.int .i64 0, .int .i64 0, .slice LA n lc, .slice none 0 0] 91)) = V at *
      have i0 : V.cell? ⟨w.heap.size, 2, none⟩ = some (.slice LA n lc) := blk_cell hX 2
      have i0' : V.drew.cell? ⟨w.heap.size, 2, none⟩ = some (.slice LA n lc) := blk_cell (blk_drew hX) 2
      refine wp_region_held_drew (S := fun w' => w'.cell? ⟨w.heap.size, 3, none⟩ = some (.slice none 0 0) ∧ Below w.heap.size w w') (by kernel_rfl) ⟨blk_cell hX 3, HV.out.drew⟩ (fun hHeld => ?_)
      refine wpAnyH_take (i := 0) (oi := _) (v := (.pointer (some ⟨w.heap.size, 2, none⟩))) rfl (by kernel_rfl) (by kernel_rfl) (by kernel_rfl) (fun _ _ _ h => h) (Or.inl ⟨by rfl, fun W hS => by go_simp⟩) hHeld ?_
      try simp only [Act.put, List.setIfInBounds_toArray, List.set_cons_zero, List.set_cons_succ, List.getElem_toArray, List.getElem_cons_zero]
      refine wpAnyH_take (i := 4) (oi := _) (v := (.pointer (some ⟨w.heap.size, 3, none⟩))) rfl (by kernel_rfl) (by kernel_rfl) (by kernel_rfl) (fun _ _ _ h => h) (Or.inl ⟨by rfl, fun W hS => by go_simp⟩) hHeld ?_
      try simp only [Act.put, List.setIfInBounds_toArray, List.set_cons_zero, List.set_cons_succ, List.getElem_toArray, List.getElem_cons_succ, List.getElem_cons_zero]
      refine wpAnyH_take (i := 5) (oi := _) (v := (.slice none 0 0)) rfl (by kernel_rfl) (by kernel_rfl) (by kernel_rfl) (fun _ _ _ h => h) (Or.inl ⟨by rfl, fun W hS => by obtain ⟨s3, _⟩ := hS; go_simp⟩) hHeld ?_
      try simp only [Act.put, List.setIfInBounds_toArray, List.set_cons_zero, List.set_cons_succ, List.getElem_toArray, List.getElem_cons_succ, List.getElem_cons_zero]
      refine wpAnyH_ready (rs := [1]) (by kernel_rfl) (by simp) ?_
      refine AllReadyH.cons (o := _) rfl (fun K hK => ?_) AllReadyH.nil
      go_simp
      refine hK.out _ _ hHeld (fun hHeld => ?_)
      try simp only [Act.put, List.setIfInBounds_toArray, List.set_cons_zero, List.set_cons_succ, List.getElem_toArray, List.getElem_cons_succ, List.getElem_cons_zero]
      clear hK K
      refine wpAnyH_ready (rs := [2]) (by kernel_rfl) (by simp) ?_
      refine AllReadyH.cons (o := _) rfl (fun K hK => ?_) AllReadyH.nil
      go_simp
      go_at_call 61; refine (clone64_calls _ LA n lc ws hw (by omega) (lie_drew HL.out)).mono ?_; rintro e w1 ⟨u, rfl, hmem, -, hb1⟩
      have hX1 := blk_below (blk_drew hX) hb1 (blk_lt hX)
      have hb1' := HV.out.drew.trans (hb1.mono HV.out.size)
      go_wp2_with fail
      refine hK.out _ _ ⟨blk_cell hX1 3, hb1'⟩ (fun hHeld => ?_)
      try simp only [Act.put, List.setIfInBounds_toArray, List.set_cons_zero, List.set_cons_succ, List.getElem_toArray, List.getElem_cons_succ, List.getElem_cons_zero]
      clear hK K
      refine wpAnyH_ready (rs := [3]) (by kernel_rfl) (by simp) ?_
      refine AllReadyH.cons (o := _) rfl (fun K hK => ?_) AllReadyH.nil
      go_simp
      go_at_call 86; refine (clipW_mem _ u n _ hmem (by omega)).mono ?_; rintro e w2 ⟨L1, rfl, hb2⟩
      have hX2 := blk_below hX1 hb2 (blk_lt hX1)
      have hb2' := hb1'.trans (hb2.mono hb1'.size)
      go_wp2_with fail
      refine hK.out _ _ ⟨blk_cell hX2 3, hb2'⟩ (fun hHeld => ?_)
      try simp only [Act.put, List.setIfInBounds_toArray, List.set_cons_zero, List.set_cons_succ, List.getElem_toArray, List.getElem_cons_succ, List.getElem_cons_zero]
      clear hK K
      refine wpAnyH_take (i := 8) (oi := _) (v := (.pointer (some ⟨w.heap.size, 2, none⟩))) rfl (by kernel_rfl) (by kernel_rfl) (by kernel_rfl) (fun _ _ _ h => h) (Or.inl ⟨by rfl, fun W hS => by go_simp⟩) hHeld ?_
      try simp only [Act.put, List.setIfInBounds_toArray, List.set_cons_zero, List.set_cons_succ, List.getElem_toArray, List.getElem_cons_succ, List.getElem_cons_zero]
      refine wpAnyH_ready (rs := [6]) (by kernel_rfl) (by simp) ?_
      refine AllReadyH.cons (o := _) rfl (fun K hK => ?_) AllReadyH.nil
      go_simp
      go_at_call 61; refine (cloneW_nil _).mono ?_; rintro e w3 ⟨rfl, hb3⟩
      have hX3 := blk_below hX2 hb3 (blk_lt hX2)
      have hb3' := hb2'.trans (hb3.mono hb2'.size)
      go_wp2_with fail
      refine hK.out _ _ ⟨blk_cell hX3 3, hb3'⟩ (fun hHeld => ?_)
      try simp only [Act.put, List.setIfInBounds_toArray, List.set_cons_zero, List.set_cons_succ, List.getElem_toArray, List.getElem_cons_succ, List.getElem_cons_zero]
      clear hK K
      refine wpAnyH_ready (rs := [7]) (by kernel_rfl) (by simp) ?_
      refine AllReadyH.cons (o := _) rfl (fun K hK => ?_) AllReadyH.nil
      go_simp
      go_at_call 86; refine (clipW_nil _).mono ?_; rintro e w4 ⟨rfl, hb4⟩
      have hX4 := blk_below hX3 hb4 (blk_lt hX3)
      have hb4' := hb3'.trans (hb4.mono hb3'.size)
      have i2 : w4.cell? ⟨w.heap.size, 2, none⟩ = some (.slice LA n lc) := blk_cell hX4 2
      have j2 := blk_frozen hX4 2
      go_wp2_with fail
      refine hK.out _ _ ⟨blk_cell hX4 3, hb4'⟩ (fun hHeld => ?_)
      try simp only [Act.put, List.setIfInBounds_toArray, List.set_cons_zero, List.set_cons_succ, List.getElem_toArray, List.getElem_cons_succ, List.getElem_cons_zero]
      clear hK K
      refine wpAnyH_ready (rs := [9]) (by kernel_rfl) (by simp) ?_
      refine AllReadyH.cons (o := _) rfl (fun K hK => ?_) AllReadyH.nil
      go_simp
      have hX5 := blk_set hX4 2 (.slice L1 n n)
      have hb5' := hb4'.setCell (p := ⟨w.heap.size, 2, none⟩) (Nat.le_refl _) (.slice L1 n n)
      refine hK.out _ _ ⟨blk_cell hX5 3, hb5'⟩ (fun hHeld => ?_)
      try simp only [Act.put, List.setIfInBounds_toArray, List.set_cons_zero, List.set_cons_succ, List.getElem_toArray, List.getElem_cons_succ, List.getElem_cons_zero]
      clear hK K
      generalize w4.setCell ⟨w.heap.size, 2, none⟩ (.slice L1 n n) = w5 at *
      have hX5' : w5.heap[w.heap.size]? = some (.cells #[.int .i64 0, .int .i64 0, .slice L1 n n, .slice none 0 0] 91 (0, 0)) := by simpa using hX5
      have i3 : w5.cell? ⟨w.heap.size, 3, none⟩ = some (.slice none 0 0) := blk_cell hX5' 3
      have j3 := blk_frozen hX5' 3
      refine wpAnyH_take (i := 10) (oi := _) (v := (.pointer (some ⟨w.heap.size, 3, none⟩))) rfl (by kernel_rfl) (by kernel_rfl) (by kernel_rfl) (fun _ _ _ h => h) (Or.inl ⟨by rfl, fun W hS => by go_simp⟩) hHeld ?_
      try simp only [Act.put, List.setIfInBounds_toArray, List.set_cons_zero, List.set_cons_succ, List.getElem_toArray, List.getElem_cons_succ, List.getElem_cons_zero]
      refine wpAnyH_ready (rs := [11]) (by kernel_rfl) (by simp) ?_
      refine AllReadyH.cons (o := _) rfl (fun K hK => ?_) AllReadyH.nil
      go_simp
      have hX6 := blk_set hX5' 3 (.slice none 0 0)
      have hb6' := hb5'.setCell (p := ⟨w.heap.size, 3, none⟩) (Nat.le_refl _) (.slice none 0 0)
      refine hK.out _ _ ⟨blk_cell hX6 3, hb6'⟩ (fun hHeld => ?_)
      try simp only [Act.put, List.setIfInBounds_toArray, List.set_cons_zero, List.set_cons_succ, List.getElem_toArray, List.getElem_cons_succ, List.getElem_cons_zero]
      clear hK K
      refine wpAnyH_done (by kernel_rfl) ?_ _
      have hXf : (w5.setCell ⟨w.heap.size, 3, none⟩ (.slice none 0 0)).heap[w.heap.size]? = some (.cells #[.int .i64 0, .int .i64 0, .slice L1 n n, .slice none 0 0] 91 (0, 0)) := by simpa using hX6
      have HBY := Lib.hid hb6'
      generalize w5.setCell ⟨w.heap.size, 3, none⟩ (.slice none 0 0) = Y at *
      have k0 : Y.cell? ⟨w.heap.size, 0, none⟩ = some (.int .i64 0) := blk_cell hXf 0
      have k1 : Y.cell? ⟨w.heap.size, 1, none⟩ = some (.int .i64 0) := blk_cell hXf 1
      have k2 : Y.cell? ⟨w.heap.size, 2, none⟩ = some (.slice L1 n n) := blk_cell hXf 2
      have k3 : Y.cell? ⟨w.heap.size, 3, none⟩ = some (.slice none 0 0) := blk_cell hXf 3
      clear hHeld hX hX1 hX2 hX3 hX4 hX5 hX5' hX6 hXf hb1 hb1' hb2 hb2' hb3 hb3' hb4 hb4' hb5' hb6' hmem i0 i0' i2 j2 i3 j3
      go_wp2_with (at_builtin; go_must (refine list_app _ rfl (.tmp 22) (.tmp 24) _ rfl 91 Tryz.underlying29 frame_info rfl (by decide) (by decide) w.heap.size (n := 0) (xs := []) rfl (World.ownsRow_nil _ _ _ _) (news := [.int .i64 0, .int .i64 0, .slice L1 n n, .slice none 0 0]) rfl rfl (by exact lie_new [.int .i64 0, .int .i64 0, .slice L1 n n, .slice none 0 0] _ _ rfl) (by intro u hu; simp only [List.mem_cons, List.not_mem_nil, or_false] at hu; rcases hu with rfl | rfl | rfl | rfl <;> rfl) (by omega) (Nat.le_trans HBY.out.size (below_a1 Y _).size) ?_; intro v' w7 hown hg hat; simp only [Nat.zero_add, List.nil_append] at hown; obtain ⟨FB, c7, cur, rfl, hob, hlt7, hc7, hh7, hcell7, -⟩ := own_at hown (by decide); have HO := Lib.hid hown; have HG := Lib.hid hg; have HH7 := Lib.hid hh7; have HC7 := Lib.hid hcell7; clear hown hg hat hob hh7 hcell7))
      go_roundw
      case rel =>
        have hcur : ∀ j u, [Value.int .i64 0, .int .i64 0, .slice L1 n n, .slice none 0 0][j]? = some u → cur[j]? = some u := fun j u hj => (blk_cell HH7.out j).symm.trans (HC7.out j u hj)
        have h3 := hcur 3 _ rfl
        have hsz : 4 ≤ cur.size := by have := (Array.getElem?_eq_some_iff.1 h3).1; omega
        exact .inr ⟨rfl, FB, c7, rfl, Lib.hid ⟨L1, n, ⟨cur, HH7.out, hsz, hcur 0 _ rfl, hcur 1 _ rfl, hcur 2 _ rfl, h3⟩, (HO.out.lt FB rfl).1, grown_below (HBY.out.alloc HBY.out.size _) HG.out (Nat.le_trans HBY.out.size (below_a1 Y _).size) (.inl rfl)⟩⟩
      case measure => simp [intOf]
    · go_wp2
      go_ret
      obtain ⟨L1, l1, h4, h5, h6⟩ := hr.out
      exact ⟨FB, c, L1, l1, rfl, h4, h5, h6⟩
end Go.Proofs.YtmceaeoeakkppaaGreatDoor
namespace Go.Proofs.YtmceaeoeakkppaaGreatDoor
open Go.RowKit Go.Sort
set_option linter.unusedVariables false
theorem hold12 {V w' : World} {p g : Nat} {t t' : TypeId} {a0 a1 a2 a3 a4 b0 b1 b2 b3 b4 b5 b6 : Value} (hp : V.heap[p]? = some (.cells #[a0, a1, a2, a3, a4] t (0, 0))) (hg : V.heap[g]? = some (.cells #[b0, b1, b2, b3, b4, b5, b6] t' (0, 0))) (hb : Below V.heap.size V w') :
    w'.cell? ⟨p, 0, none⟩ = some a0 ∧ w'.cell? ⟨p, 1, none⟩ = some a1 ∧ w'.cell? ⟨p, 2, none⟩ = some a2 ∧ w'.cell? ⟨p, 3, none⟩ = some a3 ∧ w'.cell? ⟨p, 4, none⟩ = some a4 ∧ w'.cell? ⟨g, 0, none⟩ = some b0 ∧ w'.cell? ⟨g, 1, none⟩ = some b1 ∧ w'.cell? ⟨g, 2, none⟩ = some b2 ∧ w'.cell? ⟨g, 3, none⟩ = some b3 ∧ w'.cell? ⟨g, 4, none⟩ = some b4 ∧ w'.cell? ⟨g, 5, none⟩ = some b5 ∧ w'.cell? ⟨g, 6, none⟩ = some b6 ∧ Below V.heap.size V w' :=
  have x := blk_below hp hb (blk_lt hp)
  have y := blk_below hg hb (blk_lt hg)
  ⟨blk_cell x 0, blk_cell x 1, blk_cell x 2, blk_cell x 3, blk_cell x 4, blk_cell y 0, blk_cell y 1, blk_cell y 2, blk_cell y 3, blk_cell y 4, blk_cell y 5, blk_cell y 6, hb⟩
theorem held12 {a b c d e f g h i j k l : Prop} {V w' : World} (hh : a ∧ b ∧ c ∧ d ∧ e ∧ f ∧ g ∧ h ∧ i ∧ j ∧ k ∧ l ∧ Below V.heap.size V w') : Below V.heap.size V w' := hh.2.2.2.2.2.2.2.2.2.2.2.2
theorem word_lie {S : Nat → Prop} {w : World} {A : Option Addr} {ws : List Int} (h : (Rd.int .u64).Row S w A ws) : Lie w A ws.length (wcells ws) := by
  obtain ⟨cells, hf, hl⟩ := h.flat
  obtain ⟨rfl, -⟩ := word_flat.1 hf
  exact hl
set_option maxRecDepth 100000 in
set_option maxHeartbeats 8000000 in
theorem load_calls {S : Nat → Prop} (w : World) (m : Md) (B0 B1 B2 B3 B4 : Option Addr) (m0 m1 m2 m3 m4 d0 d1 d2 d3 d4 : Nat) (h : MRow S w m B0 B1 B2 B3 B4 m0 m1 m2 m3 m4) (hm : mainL m = true) (stss : List (List (List Ty))) (hA : AllStr w m B0 B1 B2 B3 B4 m0 m1 m2 m3 m4 d0 d1 d2 d3 d4 stss) (f : Fn) (hf : m.funcs[0]? = some f) (ha : f.args = []) (hl : f.locals.length ≤ 1000) (h5 : ∀ t ∈ f.locals, t.kind ≠ 5) (sts0 : List (List Ty)) (hs0 : stss[0]? = some sts0) (hs00 : sts0[0]? = some []) (hc0 : 0 < f.code.length)
    (fb fo fc : Nat) (LA : Option Addr) (lc : Nat) (ws : List Int) (hw : ws.length = f.locals.length) (hz : ∀ x ∈ ws, x = 0) (hSfb : S fb) (hL : (Rd.int .u64).Row S w LA ws) (hlc : f.locals.length ≤ lc) (e0 : w.cell? ⟨fb, fo, none⟩ = some (.int .i64 0)) (e1 : w.cell? ⟨fb, fo + 1, none⟩ = some (.int .i64 0)) (e2 : w.cell? ⟨fb, fo + 2, none⟩ = some (.slice LA f.locals.length lc)) (e3 : w.cell? ⟨fb, fo + 3, none⟩ = some (.slice none 0 0)) (q : Int) (hq0 : 0 ≤ q) (hq1 : q ≤ 65536) :
    Calls Tryz.prog 18 #[.agg #[.slice B0 m0 d0, .slice B1 m1 d1, .slice B2 m2 d2, .slice B3 m3 d3, .slice B4 m4 d4], .agg #[.slice (some ⟨fb, fo, none⟩) 1 fc, .slice none 0 0, .slice none 0 0, .int .i64 q, .int .i64 0, .int .i64 0, .int .u64 0]] w fun e w' => ∃ p FB hp tp MA mn mc c L1 l1, e = .returned (.tuple #[.pointer (some ⟨p, 0, none⟩), .int .i64 0]) ∧ Mc1 w' p FB hp tp B0 B1 B2 B3 B4 m0 m1 m2 m3 m4 d0 d1 d2 d3 d4 q MA mn mc c 0 L1 f.locals.length l1 none 0 0 ∧
      w'.heap[hp]? = some (.cells #[.slice none 0 0, .int .i64 q, .int .i64 0] 204 (0, 0)) ∧ w'.heap[tp]? = some (.cells #[.slice none 0 0] 207 (0, 0)) ∧ w.heap.size ≤ FB ∧ w.heap.size ≤ p ∧ Below w.heap.size w w' := by
  have hV := below_up (below_a1 w (Obj.cells #[.slice B0 m0 d0, .slice B1 m1 d1, .slice B2 m2 d2, .slice B3 m3 d3, .slice B4 m4 d4] 28)) (Obj.cells #[.slice (some ⟨fb, fo, none⟩) 1 fc, .slice none 0 0, .slice none 0 0, .int .i64 q, .int .i64 0, .int .i64 0, .int .u64 0] 34)
  have HMb := Lib.hid (blk_alloc (blk_new w (Obj.cells #[.slice B0 m0 d0, .slice B1 m1 d1, .slice B2 m2 d2, .slice B3 m3 d3, .slice B4 m4 d4] 28)) (Obj.cells #[.slice (some ⟨fb, fo, none⟩) 1 fc, .slice none 0 0, .slice none 0 0, .int .i64 q, .int .i64 0, .int .i64 0, .int .u64 0] 34))
  have HSb := Lib.hid (blk_new2 w (Obj.cells #[.slice B0 m0 d0, .slice B1 m1 d1, .slice B2 m2 d2, .slice B3 m3 d3, .slice B4 m4 d4] 28) (Obj.cells #[.slice (some ⟨fb, fo, none⟩) 1 fc, .slice none 0 0, .slice none 0 0, .int .i64 q, .int .i64 0, .int .i64 0, .int .u64 0] 34))
  have hA2 : AllStr ((w.alloc (Obj.cells #[.slice B0 m0 d0, .slice B1 m1 d1, .slice B2 m2 d2, .slice B3 m3 d3, .slice B4 m4 d4] 28)).alloc (Obj.cells #[.slice (some ⟨fb, fo, none⟩) 1 fc, .slice none 0 0, .slice none 0 0, .int .i64 q, .int .i64 0, .int .i64 0, .int .u64 0] 34)) m B0 B1 B2 B3 B4 m0 m1 m2 m3 m4 d0 d1 d2 d3 d4 stss := ⟨hA.len, fun n f sts h1 h2 => ⟨(hA.each n f sts h1 h2).1.up hV, (hA.each n f sts h1 h2).2⟩, hA.many⟩
  have KC := Lib.hid (check_calls _ m B0 B1 B2 B3 B4 m0 m1 m2 m3 m4 d0 d1 d2 d3 d4 (h.below hV) hm stss hA2)
  have rF : ∀ W, Below w.heap.size w W → k_frame.Row S W (some ⟨fb, fo, none⟩) [⟨0, 0, ws, []⟩] := fun W hb _ => ⟨fb, fo, rfl, hSfb, fun i hi => by
    obtain rfl : i = 0 := by simp at hi; omega
    have hk := fun b hS => hb.block b (h.lt b hS)
    refine ⟨_, k_frame_mk (⟨0, 0, ws, []⟩ : Fr) (show (Lit.int .i64 0).wf = true by decide) (show (Lit.int .i64 0).wf = true by decide) (l2 := by rw [hw]; exact hlc) (by rw [hw]; omega) (hL.keep hk) (A3 := none) (c3 := 0) (Nat.le_refl _) (Nat.zero_le _) (Rd.Row.nil _ _ _ _), fun j v hj => ?_⟩
    match j with
    | 0 => injection hj with hj; subst hj; simpa using below_cell e0 hb
    | 1 => injection hj with hj; subst hj; simpa using below_cell e1 hb
    | 2 => injection hj with hj; subst hj; simpa [hw] using below_cell e2 hb
    | 3 => injection hj with hj; subst hj; simpa using below_cell e3 hb
    | j + 4 => cases hj⟩
  have KF := Lib.hid (fun W (hb : Below w.heap.size w W) MA mc (hmp : (Rd.slice k_shape).Row (fun b => b < W.heap.size) W MA (stss.map seenL)) => fits_zero (S := fun b => b < W.heap.size) W m B0 B1 B2 B3 B4 m0 m1 m2 m3 m4 d0 d1 d2 d3 d4 ((h.below hb).mono (fun b hS => Nat.lt_of_lt_of_le (h.lt b hS) hb.size) (fun b h => h)) MA stss.length mc (stss.map seenL) hmp (List.length_map ..) (some ⟨fb, fo, none⟩) none none fc 0 0 q hq0 hq1 f hf ha hl h5 (seenL sts0) (by rw [List.getElem?_map, hs0]; rfl) (by rw [seenL, List.getElem?_map, hs00]; rfl) hc0 ws hw hz ((rF W hb).mono (fun b hS => Nat.lt_of_lt_of_le (h.lt b hS) hb.size)))
  have KE := Lib.hid (fun W => enter_calls W B0 B1 B2 B3 B4 m0 m1 m2 m3 m4 d0 d1 d2 d3 d4 (.slice (some ⟨fb, fo, none⟩) 1 fc) ⟨_, _, _, rfl⟩ q)
  have KFr := Lib.hid (fun W (hb : Below w.heap.size w W) => frames_one W fb fo fc LA f.locals.length lc ws hw hl (by have := (word_lie ((hL.keep (fun b hS => hb.block b (h.lt b hS))))); rw [hw] at this; exact this) (below_cell e0 hb) (below_cell e1 hb) (below_cell e2 hb) (below_cell e3 hb))
  have HV := Lib.hid hV
  clear h hA hA2 hf ha h5 hs0 hs00 hz hL e0 e1 e2 e3 rF hV hm
  go_enter Tryz.func18, Tryz.ntmps18
  go_upto_region 6 with (first
    | (go_at_call 43; go_must (refine KC.out.mono ?_; rintro e w1 ⟨MA, mc, rfl, hmp, hmc, hb1⟩; have HMp := Lib.hid hmp; have HB1 := Lib.hid hb1; have hx1 := blk_below HMb.out hb1 (blk_lt HMb.out); have hy1 := blk_below HSb.out hb1 (blk_lt HSb.out); obtain ⟨a0, a1, a2, a3, a4⟩ := cells5 hx1; obtain ⟨⟨b0, b1, b2, b3, b4, b5, b6⟩, -⟩ := box7f hy1; have HX1 := Lib.hid hx1; have HY1 := Lib.hid hy1; clear hmp hb1 hx1 hy1))
    | (go_at_call 44; go_must (refine (KF.out _ (HV.out.trans (HB1.out.mono HV.out.size)) MA mc HMp.out).mono ?_; rintro e w2 ⟨rfl, hb2⟩; have HB2 := Lib.hid hb2; have HX2 := Lib.hid (blk_below HX1.out hb2 (blk_lt HX1.out)); have HY2 := Lib.hid (blk_below HY1.out hb2 (blk_lt HY1.out)); clear hb2)))
  have HB2w := Lib.hid (HV.out.trans ((HB1.out.trans (HB2.out.mono HB1.out.size)).mono HV.out.size))
  go_region_held3 (fun w' => w'.cell? ⟨w.heap.size, 0, none⟩ = some (.slice B0 m0 d0) ∧ w'.cell? ⟨w.heap.size, 1, none⟩ = some (.slice B1 m1 d1) ∧ w'.cell? ⟨w.heap.size, 2, none⟩ = some (.slice B2 m2 d2) ∧ w'.cell? ⟨w.heap.size, 3, none⟩ = some (.slice B3 m3 d3) ∧ w'.cell? ⟨w.heap.size, 4, none⟩ = some (.slice B4 m4 d4) ∧ w'.cell? ⟨w.heap.size + 1, 0, none⟩ = some (.slice (some ⟨fb, fo, none⟩) 1 fc) ∧ w'.cell? ⟨w.heap.size + 1, 1, none⟩ = some (.slice none 0 0) ∧ w'.cell? ⟨w.heap.size + 1, 2, none⟩ = some (.slice none 0 0) ∧ w'.cell? ⟨w.heap.size + 1, 3, none⟩ = some (.int .i64 q) ∧ w'.cell? ⟨w.heap.size + 1, 4, none⟩ = some (.int .i64 0) ∧ w'.cell? ⟨w.heap.size + 1, 5, none⟩ = some (.int .i64 0) ∧ w'.cell? ⟨w.heap.size + 1, 6, none⟩ = some (.int .u64 0) ∧ Below w2.heap.size w2 w')
    (first | (refine hold12 HX2.out HY2.out ?_; first | with_reducible assumption | (repeat (first | exact Below.refl _ _ | exact held12 (by assumption) | refine Below.drew ?_ | refine below_up ?_ _))))
    (first
      | (go_at_call 45; go_must (refine (KE.out _).mono ?_; rintro e w3 ⟨hp, tp, rfl, hh3, ht3, hgh, hgt, hb3⟩; have hbV3 : Below w2.heap.size w2 w3 := Below.trans (held12 (by assumption)) (hb3.mono (held12 (by assumption)).size)))
      | (go_at_call 46; go_must (refine (KFr.out _ (HB2w.out.trans ((held12 (by assumption)).mono HB2w.out.size))).mono ?_; rintro e w4 ⟨FB, c, L1, l1, rfl, hfr4, hgF, hb4⟩; have hbV4 : Below w2.heap.size w2 w4 := Below.trans (held12 (by assumption)) (hb4.mono (held12 (by assumption)).size))))
  all_goals
    go_wp2
    go_ret2
    obtain ⟨cs, h4, h5, h6⟩ := hfr4
    refine ⟨w4.heap.size, FB, hp, tp, MA, stss.length, mc, c, L1, l1, rfl, ⟨blk_new w4 _, cs, blk_alloc h4 _, h5, h6⟩, blk_alloc (blk_below hh3 hb4 (blk_lt hh3)) _, blk_alloc (blk_below ht3 hb4 (blk_lt ht3)) _, ?_, ?_, (HB2w.out.trans (hbV4.mono HB2w.out.size)).alloc (HB2w.out.trans (hbV4.mono HB2w.out.size)).size _⟩
    · exact Nat.le_trans (Nat.le_trans HB2w.out.size hbV3.size) hgF
    · exact Nat.le_trans HB2w.out.size hbV4.size
end Go.Proofs.YtmceaeoeakkppaaGreatDoor
namespace Go.Proofs.YtmceaeoeakkppaaGreatDoor
open Go.RowKit Go.Sort
set_option linter.unusedVariables false
theorem mstate_results (tmps : Array Value) (w : World) (b : Nat) (cs : Array Value) (hs : cs.size = 7) (h : tmps.getD 2 undef = .pointer (some ⟨b, 0, none⟩)) (hb : w.heap[b]? = some (.cells cs 34 (0, 0))) :
    (results Tryz.f23 tmps).run Tryz.prog w = .ok (.agg cs) w :=
  results_cell_row Tryz.results23 tmps w b _ _ _ _ h hb Tryz.underlying34 rfl (by rw [hs]; kernel_rfl)
theorem hold1m {V w' : World} {p : Nat} {t : TypeId} {cs : Array Value} {a : Value} (hp : V.heap[p]? = some (.cells cs t (0, 0))) (h12 : cs[12]? = some a) (hb : Below V.heap.size V w') : w'.cell? ⟨p, 12, none⟩ = some a ∧ Below V.heap.size V w' := ⟨(blk_cell (blk_below hp hb (blk_lt hp)) 12).trans h12, hb⟩
set_option maxRecDepth 100000 in
set_option maxHeartbeats 4000000 in
theorem state_calls {w : World} {p FB hp tp : Nat} {B0 B1 B2 B3 B4 : Option Addr} {m0 m1 m2 m3 m4 d0 d1 d2 d3 d4 : Nat} {q : Int} {MA : Option Addr} {mn mc fc : Nat} {v : Int} (h : McE w p FB hp tp B0 B1 B2 B3 B4 m0 m1 m2 m3 m4 d0 d1 d2 d3 d4 q MA mn mc fc v) (hh : ∃ x, w.heap[hp]? = some (.cells #[x, .int .i64 q, .int .i64 0] 204 (0, 0))) (ht : w.heap[tp]? = some (.cells #[.slice none 0 0] 207 (0, 0))) :
    Calls Tryz.prog 23 #[.pointer (some ⟨p, 0, none⟩)] w fun e w' => e = .returned (.agg #[.slice none 0 0, .slice none 0 0, .slice none 0 0, .int .i64 q, .int .i64 0, .int .i64 1, .int .u64 v]) ∧ Below w.heap.size w w' := by
  obtain ⟨x, hh⟩ := hh
  have hP : w.heap[p]? = _ := h
  have KS := Lib.hid (fun W (hb : Below w.heap.size w W) => wstate_calls (w := W) (blk_below hP hb (blk_lt hP)) ⟨x, blk_below hh hb (blk_lt hh)⟩ (blk_below ht hb (blk_lt ht)) (.slice (some ⟨FB, 0, none⟩) 0 fc))
  have HP := Lib.hid hP
  have HX := Lib.hid (blk_new w (Obj.cells #[.slice none 0 0, .slice none 0 0, .slice none 0 0, .int .i64 0, .int .i64 0, .int .i64 0, .int .u64 0] 34))
  clear h hh ht hP
  go_enter Tryz.func23, Tryz.ntmps23
  go_upto_region 3 with fail
  go_region_held3 (fun w' => w'.cell? ⟨p, 12, none⟩ = some (.slice (some ⟨FB, 0, none⟩) 0 fc) ∧ Below w.heap.size w w')
    (first | (refine hold1m HP.out rfl ?_; first | (with_reducible refine below7f ?_ (Nat.le_refl _) _ _ _ _ _ _ _; with_reducible assumption) | with_reducible assumption | (repeat (first | exact Below.refl _ _ | refine Below.drew ?_ | refine below_up ?_ _))))
    (first
      | (go_at_call 56; go_must (refine (KS.out _ (And.right (by assumption))).mono ?_; rintro e w1 ⟨rfl, hb1⟩; have hbw : Below w.heap.size w w1 := Below.trans (And.right (by assumption)) (hb1.mono (Below.size (And.right (by assumption)))); have hx1 := blk_below (blk_drew HX.out) hb1 (blk_lt HX.out); obtain ⟨⟨q0, q1, q2, q3, q4, q5, q6⟩, r0, r1, r2, r3, r4, r5, r6⟩ := box7f hx1)))
  all_goals
    have hres := set7f hx1 (.slice none 0 0) (.slice none 0 0) (.slice none 0 0) (.int .i64 q) (.int .i64 0) (.int .i64 1) (.int .u64 v)
    have hbl := below7f hbw (Nat.le_refl _) (.slice none 0 0) (.slice none 0 0) (.slice none 0 0) (.int .i64 q) (.int .i64 0) (.int .i64 1) (.int .u64 v)
    go_wp2
    refine bodyPost_ret (mstate_results _ _ w.heap.size _ rfl rfl hres) rfl ⟨rfl, hbl⟩
set_option maxRecDepth 100000 in
theorem state_none (w : World) : Calls Tryz.prog 23 #[.pointer none] w fun e w' => e = .returned (.agg #[.slice none 0 0, .slice none 0 0, .slice none 0 0, .int .i64 0, .int .i64 0, .int .i64 0, .int .u64 0]) ∧ Below w.heap.size w w' := by
  have HX := Lib.hid (blk_new w (Obj.cells #[.slice none 0 0, .slice none 0 0, .slice none 0 0, .int .i64 0, .int .i64 0, .int .i64 0, .int .u64 0] 34))
  go_enter Tryz.func23, Tryz.ntmps23
  go_wp2
  refine bodyPost_ret (mstate_results _ _ w.heap.size _ rfl rfl (by first | exact HX.out | (exact set7f HX.out _ _ _ _ _ _ _))) rfl ⟨rfl, by first | exact below_a1 _ _ | exact below7f (below_a1 _ _) (Nat.le_refl _) _ _ _ _ _ _ _⟩
set_option maxRecDepth 100000 in
theorem next_none (w : World) (x : Value) : Calls Tryz.prog 25 #[.pointer none, x] w fun e w' => e = .returned (.tuple #[.slice none 0 0, .bool false]) ∧ Below w.heap.size w w' := by
  go_enter Tryz.func25, Tryz.ntmps25
  go_wp2
  go_ret2
  exact ⟨rfl, Below.refl _ _⟩
set_option maxRecDepth 100000 in
theorem want_none (w : World) : Calls Tryz.prog 250 #[.pointer none] w fun e w' => e = .returned (.tuple #[.int .i64 0, .bool false]) ∧ Below w.heap.size w w' := by
  go_enter Tryz.func250, Tryz.ntmps250
  go_wp2
  go_ret2
  exact ⟨rfl, Below.refl _ _⟩
end Go.Proofs.YtmceaeoeakkppaaGreatDoor
