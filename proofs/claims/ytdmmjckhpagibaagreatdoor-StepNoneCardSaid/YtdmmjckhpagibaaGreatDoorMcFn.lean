/- verify's checker: function, of code that goes straight on. -/
import Derived.Test.YtdmmjckhpagibaaGreatDoorMcOne
import Derived.WalkMore
import Derived.ScopeJumps
namespace Go.Proofs.YtdmmjckhpagibaaGreatDoor
open Go.RowKit Go.Sort
set_option linter.unusedVariables false
/-- The types at each instruction of code that goes straight on. -/
structure Straight (w0 : World) (m : Md) (B0 B1 B2 B3 B4 : Option Addr) (m0 m1 m2 m3 m4 d0 d1 d2 d3 d4 : Nat) (f : Fn) (sts : List (List Ty)) : Prop where
  len : sts.length = f.code.length
  pos : 0 < f.code.length
  big : f.code.length ≤ 1000
  zero : sts[0]? = some []
  step : ∀ k i st, f.code[k]? = some i → sts[k]? = some st → ∃ r, OfC w0 m B0 B1 B2 B3 B4 m0 m1 m2 m3 m4 d0 d1 d2 d3 d4 f i st r true ∧ ∃ after tq, stepL f.code.length i k st r true = (after, tq, 0) ∧ after.length ≤ 1000 ∧ ((k + 1 = f.code.length ∧ tq = []) ∨ (k + 1 < f.code.length ∧ tq = [((k + 1 : Nat) : Int)] ∧ sts[k + 1]? = some after))
/-- The shapes behind so many steps. -/
def shTo (sts : List (List Ty)) (j : Nat) : List Shp := (sts.take j).map (fun s => ⟨true, s⟩) ++ List.replicate (sts.length - j) ⟨false, []⟩
theorem shTo_len (sts : List (List Ty)) (j : Nat) (hj : j ≤ sts.length) : (shTo sts j).length = sts.length := by simp [shTo]; omega
theorem shTo_no {sts : List (List Ty)} {j : Nat} (hj : j < sts.length) : (shTo sts j)[j]? = some ⟨false, []⟩ := by
  rw [shTo, List.getElem?_append_right (by simp; omega)]
  simp only [List.length_map, List.length_take, Nat.min_eq_left (Nat.le_of_lt hj), Nat.sub_self]
  rw [List.getElem?_replicate, if_pos (by omega)]
theorem shTo_at {sts : List (List Ty)} {j k : Nat} {st : List Ty} (hk : k < j) (h : sts[k]? = some st) : (shTo sts j)[k]? = some ⟨true, st⟩ := by
  have hl := (List.getElem?_eq_some_iff.1 h).1
  rw [shTo, List.getElem?_append_left (by simp; omega), List.getElem?_map, List.getElem?_take, if_pos hk, h]
  rfl
theorem shTo_set {sts : List (List Ty)} {j : Nat} {st : List Ty} (h : sts[j]? = some st) : (shTo sts j).set j ⟨true, st⟩ = shTo sts (j + 1) := by
  have hl := (List.getElem?_eq_some_iff.1 h).1
  have hlen : ((sts.take j).map (fun s => (⟨true, s⟩ : Shp))).length = j := by simp; omega
  rw [shTo, List.set_append_right _ _ (by omega), hlen, Nat.sub_self, shTo]
  obtain ⟨q, hq⟩ : ∃ q, sts.length - j = q + 1 := ⟨sts.length - j - 1, by omega⟩
  rw [hq, show sts.length - (j + 1) = q by omega, List.replicate_succ, List.set_cons_zero, List.take_add_one, h]
  simp
theorem shTo_zero (sts : List (List Ty)) : shTo sts 0 = List.replicate sts.length ⟨false, []⟩ := by simp [shTo]
theorem shTo_all {sts : List (List Ty)} {j : Nat} (h : sts.length ≤ j) : shTo sts j = sts.map (fun s => ⟨true, s⟩) := by
  rw [shTo, List.take_of_length_le h, Nat.sub_eq_zero_of_le h]; simp
theorem shape_info : (Tryz.prog.info? 142).map (fun i => (i.zero, i.size, i.bytes)) = some (some (.agg #[.bool false, .slice none 0 0]), 2, 32) := by kernel_rfl
theorem made_shapes (w : World) (N : Nat) : ShB (w.alloc (.cells (madeCells #[.bool false, .slice none 0 0] (N * 2)) 142)) w.heap.size (List.replicate N ⟨false, []⟩) := by
  refine ⟨_, blk_new w _, by simp [size_madeCells], fun i s hi => ?_⟩
  have hlt := (List.getElem?_eq_some_iff.1 hi).1
  simp only [List.length_replicate] at hlt
  rw [List.getElem?_replicate, if_pos hlt] at hi
  injection hi with hi
  subst hi
  refine ⟨none, 0, ?_, ?_, Nat.le_refl _, Nat.zero_le _, Rd.Row.nil _ _ _ _⟩
  · rw [Array.getElem?_eq_getElem (by rw [size_madeCells]; omega)]
    simp [madeCells]
  · rw [Array.getElem?_eq_getElem (by rw [size_madeCells]; omega)]
    simp [madeCells]
/-- While a function's shapes are made. -/
structure Fq (w0 w : World) (p : Nat) (v0 v1 v2 v3 v4 v5 : Value) (b o : Nat) (cv : Value) : Prop where
  below : Below w0.heap.size w0 w
  box : ∃ x6, w.heap[p]? = some (.cells #[v0, v1, v2, v3, v4, v5, x6, .slice none 0 0] 120 (0, 0))
  code : w.cell? ⟨b, o, none⟩ = some cv
theorem Fq.all {w0 w : World} {p b o : Nat} {v0 v1 v2 v3 v4 v5 cv : Value} (h : Fq w0 w p v0 v1 v2 v3 v4 v5 b o cv) : w.cell? ⟨p, 1, none⟩ = some v1 ∧ w.cell? ⟨p, 5, none⟩ = some v5 ∧ w.cell? ⟨b, o, none⟩ = some cv ∧ Fq w0 w p v0 v1 v2 v3 v4 v5 b o cv := by
  obtain ⟨x6, hb⟩ := h.box
  exact ⟨blk_cell hb 1, blk_cell hb 5, h.code, h⟩
theorem Fq.drew {w0 w : World} {p b o : Nat} {v0 v1 v2 v3 v4 v5 cv : Value} (h : Fq w0 w p v0 v1 v2 v3 v4 v5 b o cv) : Fq w0 w.drew p v0 v1 v2 v3 v4 v5 b o cv := ⟨h.below.drew, h.box, h.code⟩
theorem Fq.alloc {w0 w : World} {p b o : Nat} {v0 v1 v2 v3 v4 v5 cv : Value} (h : Fq w0 w p v0 v1 v2 v3 v4 v5 b o cv) (x : Go.Obj) : Fq w0 (w.alloc x) p v0 v1 v2 v3 v4 v5 b o cv :=
  ⟨h.below.alloc h.below.size x, by obtain ⟨x6, hb⟩ := h.box; exact ⟨x6, blk_alloc hb x⟩, below_cell h.code (below_a1 w x)⟩
theorem Fq.set {w0 w : World} {p b o : Nat} {v0 v1 v2 v3 v4 v5 cv : Value} (h : Fq w0 w p v0 v1 v2 v3 v4 v5 b o cv) (hp : w0.heap.size ≤ p) (hb : b < w0.heap.size) (x : Value) : Fq w0 (w.setCell ⟨p, 6, none⟩ x) p v0 v1 v2 v3 v4 v5 b o cv :=
  ⟨h.below.setCell (p := ⟨p, 6, none⟩) hp x, by obtain ⟨x6, hb⟩ := h.box; exact ⟨x, by have := blk_set hb 6 x; simpa using this⟩, by rw [World.cell?_setCell_far _ _ _ _ (by simp; omega)]; exact h.code⟩
theorem exists_least (J : Nat → Prop) (h : ∃ n, J n) : ∃ n, J n ∧ ∀ m, J m → n ≤ m := by
  obtain ⟨n, hn⟩ := h
  induction n using Nat.strongRecOn with
  | _ n ih =>
    by_cases hx : ∃ m, m < n ∧ J m
    · obtain ⟨m, hm, hj⟩ := hx
      exact ih m hm hj
    · exact ⟨n, hn, fun m hm => Nat.le_of_not_lt (fun hlt => hx ⟨m, hlt, hm⟩)⟩
/-- A scope in which the run jumps back to one label: what holds at every jump is numbered, and each pass comes to a smaller number. -/
theorem wp_scope_down {P : Program} {a : Act} {w : World} {Q : Exit → Act → World → Prop} {c rest : Code} (l : Nat) (J : Nat → Act → World → Prop) (hf : findLabel c l = some rest)
    (first : c.wp P (Exit.jump l (fun a w => ∃ n, J n a w) Q) a w) (pass : ∀ n a w, J n a w → rest.wp P (Exit.jump l (fun a' w' => ∃ n', n' < n ∧ J n' a' w') Q) a w) : (Code.scope c).wp P Q a w := by
  classical
  refine wp_scope_jumps l (fun a w => ∃ n, J n a w) (fun a w => if h : ∃ n, J n a w then Classical.choose (exists_least _ h) else 0) hf first (fun a w hJ => ?_)
  rw [dif_pos hJ]
  have hs := Classical.choose_spec (exists_least _ hJ)
  refine Code.wp_mono ?_ (pass _ a w hs.1)
  intro e a' w' h
  cases e <;> try exact h
  obtain ⟨rfl, n', hlt, hj⟩ := h
  refine ⟨rfl, ⟨n', hj⟩, ?_⟩
  rw [dif_pos ⟨n', hj⟩]
  exact Nat.lt_of_le_of_lt ((Classical.choose_spec (exists_least _ ⟨n', hj⟩)).2 n' hj) hlt
set_option maxRecDepth 100000 in
set_option maxHeartbeats 8000000 in
theorem function_calls {S : Nat → Prop} {w0 w : World} {p : Nat} {m : Md} {B0 B1 B2 B3 B4 : Option Addr} {m0 m1 m2 m3 m4 d0 d1 d2 d3 d4 : Nat} {fi : Nat}
    (hb : Below w0.heap.size w0 w) (hp : w0.heap.size ≤ p) (hbox : w.heap[p]? = some (.cells #[.slice B0 m0 d0, .slice B1 m1 d1, .slice B2 m2 d2, .slice B3 m3 d3, .slice B4 m4 d4, .int .i64 fi, .slice none 0 0, .slice none 0 0] 120 (0, 0)))
    (hM : MRow S w0 m B0 B1 B2 B3 B4 m0 m1 m2 m3 m4) (f : Fn) (hfi : m.funcs[fi]? = some f) (hfi2 : fi ≤ 1000) (hl0 : f.args.length ≤ 1000) (hl3 : f.locals.length ≤ 1000) (sts : List (List Ty)) (hS : Straight w0 m B0 B1 B2 B3 B4 m0 m1 m2 m3 m4 d0 d1 d2 d3 d4 f sts) :
    Calls Tryz.prog 50 #[.pointer (some ⟨p, 0, none⟩)] w fun e w' => e = .returned (.tuple #[.int .i64 0, .int .i64 0]) ∧ ∃ B TA' tc', Ck w0 w' p B (.slice B0 m0 d0) (.slice B1 m1 d1) (.slice B2 m2 d2) (.slice B3 m3 d3) (.slice B4 m4 d4) fi (sts.map fun s => ⟨true, s⟩) TA' 0 tc' [] := by
  have hfl : fi < m1 := by have := (List.getElem?_eq_some_iff.1 hfi).1; have := hM.e1; omega
  obtain ⟨b, o, A0, c0, A3, c3, A4, c4, rfl, hSb, f0, f1, f2, f3, f4, -, -, -, -, -, -, -, -, -, -, -⟩ := k_func_at hM.r1 hfi
  obtain ⟨N, hN⟩ : ∃ N, f.code.length = N := ⟨_, rfl⟩
  rw [hN] at f4
  have hblt := hM.lt b hSb
  have hf4 : w.cell? ⟨b, o + fi * 5 + 4, none⟩ = some (.slice A4 N c4) := (hb.cell (p := ⟨b, o + fi * 5 + 4, none⟩) hblt).trans f4
  have HF := Lib.hid (Fq.mk (w0 := w0) (v0 := .slice B0 m0 d0) (v1 := .slice (some ⟨b, o, none⟩) m1 d1) (v2 := .slice B2 m2 d2) (v3 := .slice B3 m3 d3) (v4 := .slice B4 m4 d4) (v5 := .int .i64 fi) hb ⟨_, hbox⟩ hf4)
  have hN1 := hS.big
  have hN0 := hS.pos
  rw [hN] at hN1 hN0
  obtain ⟨zi, hzi, hz1, hz2, hz3⟩ : ∃ i, Tryz.prog.info? 142 = some i ∧ i.zero = some (.agg #[.bool false, .slice none 0 0]) ∧ i.size = 2 ∧ i.bytes = 32 := by
    have h := shape_info
    cases hh : Tryz.prog.info? 142 with
    | none => rw [hh] at h; cases h
    | some i =>
      rw [hh] at h
      simp only [Option.map_some, Option.some.injEq, Prod.mk.injEq] at h
      exact ⟨i, rfl, h.1, h.2.1, h.2.2⟩
  have hmk : ∀ W, (Instr.makeSlice 117 (.int .i64 (N : Int)) (.int .i64 (N : Int))).run Tryz.prog W = .ok (.slice (some ⟨W.heap.size, 0, none⟩) N N) (W.alloc (.cells (madeCells #[.bool false, .slice none 0 0] (N * 2)) 142)) := fun W => by
    have := run_make W 117 142 zi _ Tryz.underlying117 hzi hz1 .i64 .i64 (N : Int) (N : Int) (by omega) (by omega) (by rw [hz3]; omega) (by omega)
    rw [hz2] at this
    simpa [Value.cells] using this
  have HBox := Lib.hid hbox
  have HM := Lib.hid hM
  have HS := Lib.hid hS
  have HN := Lib.hid hN
  have HFi := Lib.hid hfi
  have HB := Lib.hid hb
  have g6 := blk_frozen (blk_alloc hbox (.cells (madeCells #[.bool false, .slice none 0 0] (N * 2)) 142)) 6
  have e6 : (w.alloc (.cells (madeCells #[.bool false, .slice none 0 0] (N * 2)) 142)).cell? ⟨p, 6, none⟩ = some (.slice none 0 0) := blk_cell (blk_alloc hbox _) 6
  clear hb hbox hM hfi hS hN f0 f1 f2 f3 f4 hf4 hz1 hz2 hz3 hzi
  go_enter Tryz.func50, Tryz.ntmps50
  go_wp2_with fail
  refine wp_scope_down 0 (fun n a' w' => (∃ x1 x4 x5 x6 x7 x8 x9 x10 x11 x12 x13 x14 x15 x16 x17 x18 x19 x20 x21 x22 x23 x24 x25 x26 x27 x28 x29 x30 x31 x32 x33 x34 x35 x36 x37 x38 x39 : Value, a' = { tmps := #[.pointer (some ⟨p, 0, none⟩), x1, .int .i64 0, .int .i64 0, x4, x5, x6, x7, x8, x9, x10, x11, x12, x13, x14, x15, x16, x17, x18, x19, x20, x21, x22, x23, x24, x25, x26, x27, x28, x29, x30, x31, x32, x33, x34, x35, x36, x37, x38, x39], defers := [] }) ∧ Hid ((n = 0 ∧ ∃ B TA tc, Ck w0 w' p B (.slice B0 m0 d0) (.slice (some ⟨b, o, none⟩) m1 d1) (.slice B2 m2 d2) (.slice B3 m3 d3) (.slice B4 m4 d4) fi (shTo sts N) TA 0 tc []) ∨ ∃ k, k < N ∧ n = N - k ∧ ∃ B TA tc, Ck w0 w' p B (.slice B0 m0 d0) (.slice (some ⟨b, o, none⟩) m1 d1) (.slice B2 m2 d2) (.slice B3 m3 d3) (.slice B4 m4 d4) fi (shTo sts (k + 1)) TA 1 tc [(k : Int)])) rfl ?_ ?_
  · go_upto_region 1 with fail
    go_region_held3 (fun w' => w'.cell? ⟨p, 1, none⟩ = some (.slice (some ⟨b, o, none⟩) m1 d1) ∧ w'.cell? ⟨p, 5, none⟩ = some (.int .i64 fi) ∧ w'.cell? ⟨b, o + fi * 5 + 4, none⟩ = some (.slice A4 N c4) ∧ Fq w0 w' p (.slice B0 m0 d0) (.slice (some ⟨b, o, none⟩) m1 d1) (.slice B2 m2 d2) (.slice B3 m3 d3) (.slice B4 m4 d4) (.int .i64 fi) b (o + fi * 5 + 4) (.slice A4 N c4))
      (first | (refine Fq.all ?_; repeat (first | exact HF.out | assumption | refine Fq.set ?_ hp hblt _ | refine Fq.drew ?_ | refine Fq.alloc ?_ _)))
      (first | fail)
    have hSl : sts.length = N := by rw [HS.out.len, HN.out]
    have hck : Ck w0 ((w.alloc (.cells (madeCells #[.bool false, .slice none 0 0] (N * 2)) 142)).setCell ⟨p, 6, none⟩ (.slice (some ⟨w.heap.size, 0, none⟩) N N)).drew p w.heap.size (.slice B0 m0 d0) (.slice (some ⟨b, o, none⟩) m1 d1) (.slice B2 m2 d2) (.slice B3 m3 d3) (.slice B4 m4 d4) fi (shTo sts 0) none 0 0 [] := by
      have hlt := blk_lt HBox.out
      have hbx := blk_set (blk_alloc HBox.out (.cells (madeCells #[.bool false, .slice none 0 0] (N * 2)) 142)) 6 (.slice (some ⟨w.heap.size, 0, none⟩) N N)
      refine ⟨((HB.out.alloc HB.out.size _).setCell (p := ⟨p, 6, none⟩) hp _).drew, hp, HB.out.size, ?_, ?_, ⟨rfl, Nat.le_refl _, Nat.zero_le _, .inl rfl⟩, ?_⟩
      · rw [shTo_len _ _ (Nat.zero_le _), hSl]
        refine blk_drew ?_
        simpa using hbx
      · rw [shTo_zero, hSl]
        refine (made_shapes w N).keep ?_ (fun b hT => ?_)
        · exact Below.heap_setCell _ _ _ _ (by simp; omega)
        · exact Below.heap_setCell _ _ _ _ (hT.ne (blk_alloc HBox.out _) (by decide))
      · rw [shTo_len _ _ (Nat.zero_le _), hSl]; exact hN1
    generalize ((w.alloc (.cells (madeCells #[.bool false, .slice none 0 0] (N * 2)) 142)).setCell ⟨p, 6, none⟩ (.slice (some ⟨w.heap.size, 0, none⟩) N N)).drew = V at *
    have KM := Lib.hid (meet_new (S := fun _ => False) hck 0 (shTo_no (by omega)) (by omega) none 0 0 [] rfl (by omega) (Nat.le_refl _) (Rd.Row.nil _ _ _ _))
    have HSet := Lib.hid (shTo_set HS.out.zero)
    clear hck g6 e6
    go_wp2_with (go_at_call 76; go_must (refine KM.out.mono ?_; rintro e w1 ⟨rfl, TA, tc, hck⟩; rw [HSet.out] at hck; have HA0 := Lib.hid hck; clear hck))
    go_step3
    obtain ⟨k, hk0⟩ : ∃ k : Nat, 0 = k := ⟨0, rfl⟩
    have hk : k < N := by omega
    have HA : Hid (Ck w0 w1 p w.heap.size (.slice B0 m0 d0) (.slice (some ⟨b, o, none⟩) m1 d1) (.slice B2 m2 d2) (.slice B3 m3 d3) (.slice B4 m4 d4) fi (shTo sts (k + 1)) TA 1 tc [(k : Int)]) := Lib.hid (by subst hk0; exact HA0.out)
    clear HA0 KM hk0
    obtain ⟨i, hi⟩ : ∃ i, f.code[k]? = some i := ⟨_, List.getElem?_eq_getElem (by rw [HN.out]; exact hk)⟩
    obtain ⟨st, hst⟩ : ∃ st, sts[k]? = some st := ⟨_, List.getElem?_eq_getElem (by rw [HS.out.len, HN.out]; exact hk)⟩
    obtain ⟨r, hof, after, tq, hstep, haf, hto⟩ := HS.out.step k i st hi hst
    have hto' : tq = [] ∨ ∃ q : Nat, tq = [(q : Int)] ∧ (shTo sts (k + 1))[q]? = some ⟨false, []⟩ := hto.imp (fun h => h.2) (fun h => ⟨k + 1, h.2.1, shTo_no (by rw [HS.out.len]; exact h.1)⟩)
    have KO := Lib.hid (one_calls HA.out HM.out f HFi.out hfi2 hl0 hl3 HS.out.big i hi st (shTo_at (Nat.lt_succ_self k) hst) r hof after tq hstep hto' haf)
    have c7 : w1.cell? ⟨p, 7, none⟩ = some (.slice TA 1 tc) := blk_cell HA.out.box 7
    have HTo := Lib.hid hto
    clear hi hst hof hstep hto hto' haf HA
    go_wp2_with (go_at_call 77; go_must (refine KO.out.mono ?_; rintro e w9 ⟨rfl, TA9, tc9, hck⟩; have HCk := Lib.hid hck; clear hck))
    go_step3
    refine ⟨rfl, ?_⟩
    rcases HTo.out with ⟨h1, h2⟩ | ⟨h1, h2, h3⟩
    · refine ⟨0, ⟨⟨_, _, _, _, _, _, _, _, _, _, _, _, _, _, _, _, _, _, _, _, _, _, _, _, _, _, _, _, _, _, _, _, _, _, _, _, _, rfl⟩, Lib.hid (.inl ⟨rfl, w.heap.size, TA9, tc9, ?_⟩)⟩⟩
      have hx := HCk.out
      subst h2
      have hkN : k + 1 = N := by rw [h1, HN.out]
      rw [← hkN]
      exact hx
    · refine ⟨N - (k + 1), ⟨⟨_, _, _, _, _, _, _, _, _, _, _, _, _, _, _, _, _, _, _, _, _, _, _, _, _, _, _, _, _, _, _, _, _, _, _, _, _, rfl⟩, Lib.hid (.inr ⟨k + 1, by rw [← HN.out]; exact h1, rfl, w.heap.size, TA9, tc9, ?_⟩)⟩⟩
      have hx := HCk.out
      subst h2
      have hns : nextS (shTo sts (k + 1)) [((k + 1 : Nat) : Int)] after = shTo sts (k + 1 + 1) := shTo_set h3
      rw [hns] at hx
      exact hx
  · rintro n a' w1 ⟨⟨x1, x4, x5, x6, x7, x8, x9, x10, x11, x12, x13, x14, x15, x16, x17, x18, x19, x20, x21, x22, x23, x24, x25, x26, x27, x28, x29, x30, x31, x32, x33, x34, x35, x36, x37, x38, x39, rfl⟩, HJ⟩
    rcases HJ.out with ⟨hn0, B, TA, tc, hck⟩ | ⟨k, hk, hnk, B, TA, tc, hck⟩
    · have c7 : w1.cell? ⟨p, 7, none⟩ = some (.slice TA 0 tc) := blk_cell hck.box 7
      have HCk := Lib.hid hck
      clear hck HJ
      go_wp2
      simp only [Exit.jump]
      go_ret2
      have hx := HCk.out
      rw [shTo_all (by rw [HS.out.len, HN.out]; exact Nat.le_refl _)] at hx
      exact ⟨rfl, _, _, _, hx⟩
    · have HA := Lib.hid hck
      clear hck HJ
      obtain ⟨i, hi⟩ : ∃ i, f.code[k]? = some i := ⟨_, List.getElem?_eq_getElem (by rw [HN.out]; exact hk)⟩
      obtain ⟨st, hst⟩ : ∃ st, sts[k]? = some st := ⟨_, List.getElem?_eq_getElem (by rw [HS.out.len, HN.out]; exact hk)⟩
      obtain ⟨r, hof, after, tq, hstep, haf, hto⟩ := HS.out.step k i st hi hst
      have hto' : tq = [] ∨ ∃ q : Nat, tq = [(q : Int)] ∧ (shTo sts (k + 1))[q]? = some ⟨false, []⟩ := hto.imp (fun h => h.2) (fun h => ⟨k + 1, h.2.1, shTo_no (by rw [HS.out.len]; exact h.1)⟩)
      have KO := Lib.hid (one_calls HA.out HM.out f HFi.out hfi2 hl0 hl3 HS.out.big i hi st (shTo_at (Nat.lt_succ_self k) hst) r hof after tq hstep hto' haf)
      have c7 : w1.cell? ⟨p, 7, none⟩ = some (.slice TA 1 tc) := blk_cell HA.out.box 7
      have HTo := Lib.hid hto
      clear hi hst hof hstep hto hto' haf HA
      go_wp2_with (go_at_call 77; go_must (refine KO.out.mono ?_; rintro e w9 ⟨rfl, TA9, tc9, hck⟩; have HCk := Lib.hid hck; clear hck))
      go_step3
      refine ⟨rfl, ?_⟩
      rcases HTo.out with ⟨h1, h2⟩ | ⟨h1, h2, h3⟩
      · refine ⟨0, by omega, ⟨⟨_, _, _, _, _, _, _, _, _, _, _, _, _, _, _, _, _, _, _, _, _, _, _, _, _, _, _, _, _, _, _, _, _, _, _, _, _, rfl⟩, Lib.hid (.inl ⟨rfl, B, TA9, tc9, ?_⟩)⟩⟩
        have hx := HCk.out
        subst h2
        have hkN : k + 1 = N := by rw [h1, HN.out]
        rw [← hkN]
        exact hx
      · refine ⟨N - (k + 1), by omega, ⟨⟨_, _, _, _, _, _, _, _, _, _, _, _, _, _, _, _, _, _, _, _, _, _, _, _, _, _, _, _, _, _, _, _, _, _, _, _, _, rfl⟩, Lib.hid (.inr ⟨k + 1, by rw [← HN.out]; exact h1, rfl, B, TA9, tc9, ?_⟩)⟩⟩
        have hx := HCk.out
        subst h2
        have hns : nextS (shTo sts (k + 1)) [((k + 1 : Nat) : Int)] after = shTo sts (k + 1 + 1) := shTo_set h3
        rw [hns] at hx
        exact hx
end Go.Proofs.YtdmmjckhpagibaaGreatDoor
