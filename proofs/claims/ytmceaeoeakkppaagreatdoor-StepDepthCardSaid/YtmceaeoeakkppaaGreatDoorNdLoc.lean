/- flow.Local; flow.named of a local's instructions; the rules of plain instructions. -/
import Derived.Test.YtmceaeoeakkppaaGreatDoorNd27
import Derived.Test.YtmceaeoeakkppaaGreatDoorZFlowA
namespace Go.Proofs.YtmceaeoeakkppaaGreatDoor
open Go.RowKit Go.Sort
set_option linter.unusedVariables false
set_option linter.unusedSimpArgs false
theorem ofc_plain {w0 : World} (hg : Glob w0) (m : Md) (B0 B1 B2 B3 B4 : Option Addr) (m0 m1 m2 m3 m4 d0 d1 d2 d3 d4 : Nat) (f : Fn) (k a b : Int) (st : List Ty) (r : List Ty × List Ty) (h6 : (k == 6) = false) (h7 : (k == 7) = false) (h41 : (k == 41) = false) (hpl : ∀ W, Glob W → Calls Tryz.prog 191 #[.int .i64 k] W fun e w' => RuleOut (fun _ => False) W r true e w') : OfC w0 m B0 B1 B2 B3 B4 m0 m1 m2 m3 m4 d0 d1 d2 d3 d4 f ⟨k, a, b⟩ st r true := by
  intro S W hb hM A0 c0 A3 c3 A4 c4 A c hF row
  have hgW : Glob W := hg.below hb hg.big
  refine (of_calls W hgW m B0 B1 B2 B3 B4 m0 m1 m2 m3 m4 d0 d1 d2 d3 d4 hM f A0 A3 A4 _ _ _ c0 c3 c4 k a b A st.length c h6 h7 h41 r ([], []) true hpl (fun h => by cases h)).mono ?_
  intro e w' h
  exact h
theorem ofc_5 {w0 : World} (hg : Glob w0) (m : Md) (B0 B1 B2 B3 B4 : Option Addr) (m0 m1 m2 m3 m4 d0 d1 d2 d3 d4 : Nat) (f : Fn) (a b : Int) (st : List Ty) : OfC w0 m B0 B1 B2 B3 B4 m0 m1 m2 m3 m4 d0 d1 d2 d3 d4 f ⟨5, a, b⟩ st ([⟨8, 0⟩], []) true :=
  ofc_plain hg m B0 B1 B2 B3 B4 m0 m1 m2 m3 m4 d0 d1 d2 d3 d4 f 5 a b st _ rfl rfl rfl (fun V hV => plain_5 V hV)
theorem ofc_8 {w0 : World} (hg : Glob w0) (m : Md) (B0 B1 B2 B3 B4 : Option Addr) (m0 m1 m2 m3 m4 d0 d1 d2 d3 d4 : Nat) (f : Fn) (a b : Int) (st : List Ty) : OfC w0 m B0 B1 B2 B3 B4 m0 m1 m2 m3 m4 d0 d1 d2 d3 d4 f ⟨8, a, b⟩ st ([⟨1, 0⟩, ⟨1, 0⟩], [⟨1, 0⟩]) true :=
  ofc_plain hg m B0 B1 B2 B3 B4 m0 m1 m2 m3 m4 d0 d1 d2 d3 d4 f 8 a b st _ rfl rfl rfl (fun V hV => plain_8 V hV)
theorem local_results (tmps : Array Value) (w : World) (b : Nat) (x y : Int) (h : tmps.getD 4 undef = .pointer (some ⟨b, 0, none⟩)) (hb : w.heap[b]? = some (.cells #[.int .i64 x, .int .i64 y] 58 (0, 0))) :
    (results Tryz.f227 tmps).run Tryz.prog w = .ok (.agg #[.int .i64 x, .int .i64 y]) w :=
  results_cell_row Tryz.results227 tmps w b _ _ _ _ h hb Tryz.underlying58 rfl (by kernel_rfl)
set_option maxRecDepth 100000 in
set_option maxHeartbeats 8000000 in
theorem local_calls {S : Nat → Prop} (w : World) (f : Fn) (G0 G3 G4 : Option Addr) (g0 g3 g4 c0 c3 c4 : Nat) (hF : FRow S w f G0 G3 G4 g0 g3 g4) (hS : ∀ b, S b → b < w.heap.size) (j : Nat) (t : Ty) (hj : (f.args ++ f.locals)[j]? = some t) :
    Calls Tryz.prog 227 #[.agg #[.slice G0 g0 c0, .int .i64 f.ret.kind, .int .i64 f.ret.n, .slice G3 g3 c3, .slice G4 g4 c4], .int .i64 j] w fun e w' => e = .returned (.agg #[.int .i64 t.kind, .int .i64 t.n]) ∧ Below w.heap.size w w' := by
  have l0 := hF.l0
  have l3 := hF.l3
  have e0 := hF.e0
  have e3 := hF.e3
  have hV := below_up (below_a1 w (Obj.cells #[.slice G0 g0 c0, .int .i64 f.ret.kind, .int .i64 f.ret.n, .slice G3 g3 c3, .slice G4 g4 c4] 67)) (Obj.cells #[.int .i64 0, .int .i64 0] 58)
  have HR := Lib.hid (blk_new2 w (Obj.cells #[.slice G0 g0 c0, .int .i64 f.ret.kind, .int .i64 f.ret.n, .slice G3 g3 c3, .slice G4 g4 c4] 67) (Obj.cells #[.int .i64 0, .int .i64 0] 58))
  have HV := Lib.hid hV
  by_cases h0 : j < g0
  · obtain ⟨b, o, rfl, hSb, k0, k1, -, -⟩ := k_ty_at hF.r0 (show f.args[j]? = some t by rw [List.getElem?_append_left (by omega)] at hj; exact hj)
    have k0 := below_cell k0 hV
    have k1 := below_cell k1 hV
    clear hF hV hj
    go_enter Tryz.func227, Tryz.ntmps227
    go_wp2
    refine bodyPost_ret (local_results _ _ (w.heap.size + 1) _ _ rfl (by first | exact blk_new2 w _ _ | exact blk_set (blk_set HR.out 0 _) 1 _)) rfl ⟨rfl, by first | exact below_up (below_a1 w _) _ | exact (HV.out.setCell (p := ⟨_, 0, none⟩) (Nat.le_succ _) _).setCell (p := ⟨_, 1, none⟩) (Nat.le_succ _) _⟩
  · have hj2 : f.locals[j - g0]? = some t := by rw [List.getElem?_append_right (by omega), e0] at hj; exact hj
    have hjl := (List.getElem?_eq_some_iff.1 hj2).1
    obtain ⟨i, hi⟩ : ∃ i, j = g0 + i := ⟨j - g0, by omega⟩
    subst hi
    rw [Nat.add_sub_cancel_left] at hj2 hjl
    obtain ⟨b, o, rfl, hSb, k0, k1, -, -⟩ := k_ty_at hF.r3 hj2
    have k0 := below_cell k0 hV
    have k1 := below_cell k1 hV
    have hw1 : wrap64 ((g0 : Int) + g3) = g0 + g3 := by unfold wrap64; omega
    have hw2 : wrap64 (((g0 + i : Nat) : Int) - g0) = i := by unfold wrap64; omega
    clear hF hV hj hj2
    go_enter Tryz.func227, Tryz.ntmps227
    go_wp2
    refine bodyPost_ret (local_results _ _ (w.heap.size + 1) _ _ rfl (by first | exact blk_new2 w _ _ | exact blk_set (blk_set HR.out 0 _) 1 _)) rfl ⟨rfl, by first | exact below_up (below_a1 w _) _ | exact (HV.out.setCell (p := ⟨_, 0, none⟩) (Nat.le_succ _) _).setCell (p := ⟨_, 1, none⟩) (Nat.le_succ _) _⟩
set_option maxRecDepth 100000 in
set_option maxHeartbeats 8000000 in
theorem named_3 {S : Nat → Prop} (w : World) (m : Md) (B0 B1 B2 B3 B4 : Option Addr) (m0 m1 m2 m3 m4 d0 d1 d2 d3 d4 : Nat) (h : MRow S w m B0 B1 B2 B3 B4 m0 m1 m2 m3 m4) (f : Fn) (G0 G3 G4 : Option Addr) (g0 g3 g4 c0 c3 c4 : Nat) (hF : FRow S w f G0 G3 G4 g0 g3 g4) (j : Nat) (t : Ty) (hj : (f.args ++ f.locals)[j]? = some t) (hwf : (Lit.int .i64 t.kind).wf = true ∧ (Lit.int .i64 t.n).wf = true) (b : Int) :
    Calls Tryz.prog 192 #[.agg #[.slice B0 m0 d0, .slice B1 m1 d1, .slice B2 m2 d2, .slice B3 m3 d3, .slice B4 m4 d4], .agg #[.slice G0 g0 c0, .int .i64 f.ret.kind, .int .i64 f.ret.n, .slice G3 g3 c3, .slice G4 g4 c4], .agg #[.int .i64 3, .int .i64 j, .int .i64 b]] w fun e w' => RuleOut1 S w ([], [t]) e w' := by
  have hV := below_up (below_up (below_up (below_a1 w (Obj.cells #[.slice B0 m0 d0, .slice B1 m1 d1, .slice B2 m2 d2, .slice B3 m3 d3, .slice B4 m4 d4] 28)) (Obj.cells #[.slice G0 g0 c0, .int .i64 f.ret.kind, .int .i64 f.ret.n, .slice G3 g3 c3, .slice G4 g4 c4] 67)) (Obj.cells #[.int .i64 3, .int .i64 (j : Int), .int .i64 b] 62)) (Obj.cells #[.slice none 0 0, .slice none 0 0] 221)
  have HQ := Lib.hid (blk_alloc (blk_alloc (blk_new2 w (Obj.cells #[.slice B0 m0 d0, .slice B1 m1 d1, .slice B2 m2 d2, .slice B3 m3 d3, .slice B4 m4 d4] 28) (Obj.cells #[.slice G0 g0 c0, .int .i64 f.ret.kind, .int .i64 f.ret.n, .slice G3 g3 c3, .slice G4 g4 c4] 67)) (Obj.cells #[.int .i64 3, .int .i64 (j : Int), .int .i64 b] 62)) (Obj.cells #[.slice none 0 0, .slice none 0 0] 221))
  have HI := Lib.hid (blk_alloc (blk_new3 w (Obj.cells #[.slice B0 m0 d0, .slice B1 m1 d1, .slice B2 m2 d2, .slice B3 m3 d3, .slice B4 m4 d4] 28) (Obj.cells #[.slice G0 g0 c0, .int .i64 f.ret.kind, .int .i64 f.ret.n, .slice G3 g3 c3, .slice G4 g4 c4] 67) (Obj.cells #[.int .i64 3, .int .i64 (j : Int), .int .i64 b] 62)) (Obj.cells #[.slice none 0 0, .slice none 0 0] 221))
  have HR := Lib.hid (blk_new4 w (Obj.cells #[.slice B0 m0 d0, .slice B1 m1 d1, .slice B2 m2 d2, .slice B3 m3 d3, .slice B4 m4 d4] 28) (Obj.cells #[.slice G0 g0 c0, .int .i64 f.ret.kind, .int .i64 f.ret.n, .slice G3 g3 c3, .slice G4 g4 c4] 67) (Obj.cells #[.int .i64 3, .int .i64 (j : Int), .int .i64 b] 62) (Obj.cells #[.slice none 0 0, .slice none 0 0] 221))
  have KL := Lib.hid (fun W (hb : Below w.heap.size w W) => local_calls (S := S) W f G0 G3 G4 g0 g3 g4 c0 c3 c4 (hF.keep (fun b hS => hb.block b (h.lt b hS))) (fun b hS => Nat.lt_of_lt_of_le (h.lt b hS) hb.size) j t hj)
  have HV := Lib.hid hV
  clear h hF hj hV
  go_enter Tryz.func192, Tryz.ntmps192
  go_upto_region 7 with fail
  generalize ((((w.alloc (Obj.cells #[.slice B0 m0 d0, .slice B1 m1 d1, .slice B2 m2 d2, .slice B3 m3 d3, .slice B4 m4 d4] 28)).alloc (Obj.cells #[.slice G0 g0 c0, .int .i64 f.ret.kind, .int .i64 f.ret.n, .slice G3 g3 c3, .slice G4 g4 c4] 67)).alloc (Obj.cells #[.int .i64 3, .int .i64 (j : Int), .int .i64 b] 62)).alloc (Obj.cells #[.slice none 0 0, .slice none 0 0] 221)) = V at *
  obtain ⟨q0, q1, q2, q3, q4⟩ := cells5 HQ.out
  obtain ⟨i0, i1, i2⟩ := cells3 HI.out
  go_wp2_with (first
    | (go_at_call 227; refine (KL.out _ HV.out).mono ?_; rintro e w1 ⟨rfl, hb1⟩; have HR1 := Lib.hid (blk_below HR.out hb1 (blk_lt HR.out)); have y0 := (cells2 (blk_alloc HR1.out (Obj.cells #[.int .i64 t.kind, .int .i64 t.n] 58))).1; have y1 := (cells2 (blk_alloc HR1.out (Obj.cells #[.int .i64 t.kind, .int .i64 t.n] 58))).2; have y2 := blk_frozen (blk_alloc HR1.out (Obj.cells #[.int .i64 t.kind, .int .i64 t.n] 58)) 0; have y3 := blk_frozen (blk_alloc HR1.out (Obj.cells #[.int .i64 t.kind, .int .i64 t.n] 58)) 1; have HB1 := Lib.hid hb1; clear hb1)
    | (go_at_call 226; refine (types_calls _ _).mono ?_; rintro e w2 ⟨rfl, rfl⟩))
  have hbw1 : Below w.heap.size w (w1.alloc (Obj.cells #[.int .i64 t.kind, .int .i64 t.n] 58)) := (HV.out.trans (HB1.out.mono HV.out.size)).alloc (HV.out.trans (HB1.out.mono HV.out.size)).size _
  have hne : w1.heap.size ≠ w.heap.size + 1 + 1 + 1 := by have := blk_lt HR1.out; omega
  have hws : w.heap.size ≤ w1.heap.size := (HV.out.trans (HB1.out.mono HV.out.size)).size
  have htf := blk_far (blk_far (blk_new w1 (Obj.cells #[.int .i64 t.kind, .int .i64 t.n] 58)) hne (p := ⟨w.heap.size + 1 + 1 + 1, 0, none⟩) (.slice none 0 0)) hne (p := ⟨w.heap.size + 1 + 1 + 1, 1, none⟩) (.slice (some ⟨w1.heap.size, 0, none⟩) 1 1)
  refine bodyPost_ret (named_results _ _ (w.heap.size + 1 + 1 + 1) _ _ ⟨_, _, _, rfl⟩ ⟨_, _, _, rfl⟩ rfl (blk_set (blk_set (blk_alloc HR1.out _) 0 (.slice none 0 0)) 1 (.slice (some ⟨w1.heap.size, 0, none⟩) 1 1))) rfl ?_
  have hbf : Below w.heap.size w (((w1.alloc (Obj.cells #[.int .i64 t.kind, .int .i64 t.n] 58)).setCell ⟨w.heap.size + 1 + 1 + 1, 0, none⟩ (.slice none 0 0)).setCell ⟨w.heap.size + 1 + 1 + 1, 1, none⟩ (.slice (some ⟨w1.heap.size, 0, none⟩) 1 1)) := (hbw1.setCell (p := ⟨w.heap.size + 1 + 1 + 1, 0, none⟩) (show w.heap.size ≤ w.heap.size + 1 + 1 + 1 by omega) _).setCell (p := ⟨w.heap.size + 1 + 1 + 1, 1, none⟩) (show w.heap.size ≤ w.heap.size + 1 + 1 + 1 by omega) _
  exact ⟨_, _, _, _, _, _, rfl, ⟨rfl, rfl, by decide, by decide, Rd.Row.nil _ _ _ _, row_cells (xs := [t]) htf ⟨blk_lt htf, .inr hws⟩ rfl (by intro x hx; rw [List.mem_singleton.1 hx]; exact hwf), by decide, by decide⟩, hbf⟩
theorem ofc_3 {w0 : World} (hg : Glob w0) (m : Md) (B0 B1 B2 B3 B4 : Option Addr) (m0 m1 m2 m3 m4 d0 d1 d2 d3 d4 : Nat) (f : Fn) (j : Nat) (t : Ty) (hj : (f.args ++ f.locals)[j]? = some t) (hwf : (Lit.int .i64 t.kind).wf = true ∧ (Lit.int .i64 t.n).wf = true) (b : Int) (st : List Ty) : OfC w0 m B0 B1 B2 B3 B4 m0 m1 m2 m3 m4 d0 d1 d2 d3 d4 f ⟨3, j, b⟩ st ([], [t]) true := by
  intro S W hb hM A0 c0 A3 c3 A4 c4 A c hF row
  have hgW : Glob W := hg.below hb hg.big
  refine (of_calls W hgW m B0 B1 B2 B3 B4 m0 m1 m2 m3 m4 d0 d1 d2 d3 d4 hM f A0 A3 A4 _ _ _ c0 c3 c4 3 j b A st.length c rfl rfl rfl (plainL 3).1 ([], [t]) false (fun V hV => plain_3 V hV) (fun _ V hV => named_3 V m B0 B1 B2 B3 B4 m0 m1 m2 m3 m4 d0 d1 d2 d3 d4 (hM.below hV) f A0 A3 A4 _ _ _ c0 c3 c4 (hF.keep (fun b hb => hV.block b (hM.lt b hb))) j t hj hwf b)).mono ?_
  intro e w' h
  exact h
set_option maxRecDepth 100000 in
set_option maxHeartbeats 8000000 in
theorem named_4 {S : Nat → Prop} (w : World) (m : Md) (B0 B1 B2 B3 B4 : Option Addr) (m0 m1 m2 m3 m4 d0 d1 d2 d3 d4 : Nat) (h : MRow S w m B0 B1 B2 B3 B4 m0 m1 m2 m3 m4) (f : Fn) (G0 G3 G4 : Option Addr) (g0 g3 g4 c0 c3 c4 : Nat) (hF : FRow S w f G0 G3 G4 g0 g3 g4) (j : Nat) (t : Ty) (hj : (f.args ++ f.locals)[j]? = some t) (hwf : (Lit.int .i64 t.kind).wf = true ∧ (Lit.int .i64 t.n).wf = true) (b : Int) :
    Calls Tryz.prog 192 #[.agg #[.slice B0 m0 d0, .slice B1 m1 d1, .slice B2 m2 d2, .slice B3 m3 d3, .slice B4 m4 d4], .agg #[.slice G0 g0 c0, .int .i64 f.ret.kind, .int .i64 f.ret.n, .slice G3 g3 c3, .slice G4 g4 c4], .agg #[.int .i64 4, .int .i64 j, .int .i64 b]] w fun e w' => RuleOut1 S w ([t], []) e w' := by
  have hV := below_up (below_up (below_up (below_a1 w (Obj.cells #[.slice B0 m0 d0, .slice B1 m1 d1, .slice B2 m2 d2, .slice B3 m3 d3, .slice B4 m4 d4] 28)) (Obj.cells #[.slice G0 g0 c0, .int .i64 f.ret.kind, .int .i64 f.ret.n, .slice G3 g3 c3, .slice G4 g4 c4] 67)) (Obj.cells #[.int .i64 4, .int .i64 (j : Int), .int .i64 b] 62)) (Obj.cells #[.slice none 0 0, .slice none 0 0] 221)
  have HQ := Lib.hid (blk_alloc (blk_alloc (blk_new2 w (Obj.cells #[.slice B0 m0 d0, .slice B1 m1 d1, .slice B2 m2 d2, .slice B3 m3 d3, .slice B4 m4 d4] 28) (Obj.cells #[.slice G0 g0 c0, .int .i64 f.ret.kind, .int .i64 f.ret.n, .slice G3 g3 c3, .slice G4 g4 c4] 67)) (Obj.cells #[.int .i64 4, .int .i64 (j : Int), .int .i64 b] 62)) (Obj.cells #[.slice none 0 0, .slice none 0 0] 221))
  have HI := Lib.hid (blk_alloc (blk_new3 w (Obj.cells #[.slice B0 m0 d0, .slice B1 m1 d1, .slice B2 m2 d2, .slice B3 m3 d3, .slice B4 m4 d4] 28) (Obj.cells #[.slice G0 g0 c0, .int .i64 f.ret.kind, .int .i64 f.ret.n, .slice G3 g3 c3, .slice G4 g4 c4] 67) (Obj.cells #[.int .i64 4, .int .i64 (j : Int), .int .i64 b] 62)) (Obj.cells #[.slice none 0 0, .slice none 0 0] 221))
  have HR := Lib.hid (blk_new4 w (Obj.cells #[.slice B0 m0 d0, .slice B1 m1 d1, .slice B2 m2 d2, .slice B3 m3 d3, .slice B4 m4 d4] 28) (Obj.cells #[.slice G0 g0 c0, .int .i64 f.ret.kind, .int .i64 f.ret.n, .slice G3 g3 c3, .slice G4 g4 c4] 67) (Obj.cells #[.int .i64 4, .int .i64 (j : Int), .int .i64 b] 62) (Obj.cells #[.slice none 0 0, .slice none 0 0] 221))
  have KL := Lib.hid (fun W (hb : Below w.heap.size w W) => local_calls (S := S) W f G0 G3 G4 g0 g3 g4 c0 c3 c4 (hF.keep (fun b hS => hb.block b (h.lt b hS))) (fun b hS => Nat.lt_of_lt_of_le (h.lt b hS) hb.size) j t hj)
  have HV := Lib.hid hV
  clear h hF hj hV
  go_enter Tryz.func192, Tryz.ntmps192
  go_upto_region 9 with fail
  generalize ((((w.alloc (Obj.cells #[.slice B0 m0 d0, .slice B1 m1 d1, .slice B2 m2 d2, .slice B3 m3 d3, .slice B4 m4 d4] 28)).alloc (Obj.cells #[.slice G0 g0 c0, .int .i64 f.ret.kind, .int .i64 f.ret.n, .slice G3 g3 c3, .slice G4 g4 c4] 67)).alloc (Obj.cells #[.int .i64 4, .int .i64 (j : Int), .int .i64 b] 62)).alloc (Obj.cells #[.slice none 0 0, .slice none 0 0] 221)) = V at *
  obtain ⟨q0, q1, q2, q3, q4⟩ := cells5 HQ.out
  obtain ⟨i0, i1, i2⟩ := cells3 HI.out
  go_wp2_with (first
    | (go_at_call 227; refine (KL.out _ HV.out).mono ?_; rintro e w1 ⟨rfl, hb1⟩; have HR1 := Lib.hid (blk_below HR.out hb1 (blk_lt HR.out)); have y0 := (cells2 (blk_alloc HR1.out (Obj.cells #[.int .i64 t.kind, .int .i64 t.n] 58))).1; have y1 := (cells2 (blk_alloc HR1.out (Obj.cells #[.int .i64 t.kind, .int .i64 t.n] 58))).2; have y2 := blk_frozen (blk_alloc HR1.out (Obj.cells #[.int .i64 t.kind, .int .i64 t.n] 58)) 0; have y3 := blk_frozen (blk_alloc HR1.out (Obj.cells #[.int .i64 t.kind, .int .i64 t.n] 58)) 1; have HB1 := Lib.hid hb1; clear hb1)
    | (go_at_call 226; refine (types_calls _ _).mono ?_; rintro e w2 ⟨rfl, rfl⟩))
  have hbw1 : Below w.heap.size w (w1.alloc (Obj.cells #[.int .i64 t.kind, .int .i64 t.n] 58)) := (HV.out.trans (HB1.out.mono HV.out.size)).alloc (HV.out.trans (HB1.out.mono HV.out.size)).size _
  have hne : w1.heap.size ≠ w.heap.size + 1 + 1 + 1 := by have := blk_lt HR1.out; omega
  have hws : w.heap.size ≤ w1.heap.size := (HV.out.trans (HB1.out.mono HV.out.size)).size
  have htf := blk_far (blk_far (blk_new w1 (Obj.cells #[.int .i64 t.kind, .int .i64 t.n] 58)) hne (p := ⟨w.heap.size + 1 + 1 + 1, 0, none⟩) (.slice (some ⟨w1.heap.size, 0, none⟩) 1 1)) hne (p := ⟨w.heap.size + 1 + 1 + 1, 1, none⟩) (.slice none 0 0)
  refine bodyPost_ret (named_results _ _ (w.heap.size + 1 + 1 + 1) _ _ ⟨_, _, _, rfl⟩ ⟨_, _, _, rfl⟩ rfl (blk_set (blk_set (blk_alloc HR1.out _) 0 (.slice (some ⟨w1.heap.size, 0, none⟩) 1 1)) 1 (.slice none 0 0))) rfl ?_
  have hbf : Below w.heap.size w (((w1.alloc (Obj.cells #[.int .i64 t.kind, .int .i64 t.n] 58)).setCell ⟨w.heap.size + 1 + 1 + 1, 0, none⟩ (.slice (some ⟨w1.heap.size, 0, none⟩) 1 1)).setCell ⟨w.heap.size + 1 + 1 + 1, 1, none⟩ (.slice none 0 0)) := (hbw1.setCell (p := ⟨w.heap.size + 1 + 1 + 1, 0, none⟩) (show w.heap.size ≤ w.heap.size + 1 + 1 + 1 by omega) _).setCell (p := ⟨w.heap.size + 1 + 1 + 1, 1, none⟩) (show w.heap.size ≤ w.heap.size + 1 + 1 + 1 by omega) _
  exact ⟨_, _, _, _, _, _, rfl, ⟨rfl, rfl, by decide, by decide, row_cells (xs := [t]) htf ⟨blk_lt htf, .inr hws⟩ rfl (by intro x hx; rw [List.mem_singleton.1 hx]; exact hwf), Rd.Row.nil _ _ _ _, by decide, by decide⟩, hbf⟩
theorem ofc_4 {w0 : World} (hg : Glob w0) (m : Md) (B0 B1 B2 B3 B4 : Option Addr) (m0 m1 m2 m3 m4 d0 d1 d2 d3 d4 : Nat) (f : Fn) (j : Nat) (t : Ty) (hj : (f.args ++ f.locals)[j]? = some t) (hwf : (Lit.int .i64 t.kind).wf = true ∧ (Lit.int .i64 t.n).wf = true) (b : Int) (st : List Ty) : OfC w0 m B0 B1 B2 B3 B4 m0 m1 m2 m3 m4 d0 d1 d2 d3 d4 f ⟨4, j, b⟩ st ([t], []) true := by
  intro S W hb hM A0 c0 A3 c3 A4 c4 A c hF row
  have hgW : Glob W := hg.below hb hg.big
  refine (of_calls W hgW m B0 B1 B2 B3 B4 m0 m1 m2 m3 m4 d0 d1 d2 d3 d4 hM f A0 A3 A4 _ _ _ c0 c3 c4 4 j b A st.length c rfl rfl rfl (plainL 4).1 ([t], []) false (fun V hV => plain_4 V hV) (fun _ V hV => named_4 V m B0 B1 B2 B3 B4 m0 m1 m2 m3 m4 d0 d1 d2 d3 d4 (hM.below hV) f A0 A3 A4 _ _ _ c0 c3 c4 (hF.keep (fun b hb => hV.block b (hM.lt b hb))) j t hj hwf b)).mono ?_
  intro e w' h
  exact h
end Go.Proofs.YtmceaeoeakkppaaGreatDoor
