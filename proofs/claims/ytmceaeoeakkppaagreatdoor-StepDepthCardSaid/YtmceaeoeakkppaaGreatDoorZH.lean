/- McAns: The answers' module: it is right, its code goes straight on. McBegin: chrysalisref08.Begin of a module whose first function has no locals. McAnswers: chrysalislaw15.answers. -/
import Derived.Test.YtmceaeoeakkppaaGreatDoorZG
import Derived.Test.YtmceaeoeakkppaaGreatDoorZFlowB
import Derived.Test.YtmceaeoeakkppaaGreatDoorZFlowC
namespace Go.Proofs.YtmceaeoeakkppaaGreatDoor
open Go.RowKit Go.Sort
set_option linter.unusedVariables false
theorem ofc_0 {w0 : World} (hg : Glob w0) (m : Md) (B0 B1 B2 B3 B4 : Option Addr) (m0 m1 m2 m3 m4 d0 d1 d2 d3 d4 : Nat) (f : Fn) (a b : Int) (st : List Ty) : OfC w0 m B0 B1 B2 B3 B4 m0 m1 m2 m3 m4 d0 d1 d2 d3 d4 f ⟨0, a, b⟩ st ([], [⟨1, 0⟩]) true := by
  intro S W hb hM A0 c0 A3 c3 A4 c4 A c hF row
  have hgW : Glob W := hg.below hb hg.big
  have hn : namedL m f ⟨0, a, b⟩ = ([], [⟨1, 0⟩]) := rfl
  refine (of_calls W hgW m B0 B1 B2 B3 B4 m0 m1 m2 m3 m4 d0 d1 d2 d3 d4 hM f A0 A3 A4 _ _ _ c0 c3 c4 0 a b A st.length c rfl rfl rfl (plainL 0).1 (namedL m f ⟨0, a, b⟩) false (fun V hV => plain_0 V hV) (fun _ V hV => named_0 V (hgW.below hV hgW.big) m B0 B1 B2 B3 B4 m0 m1 m2 m3 m4 d0 d1 d2 d3 d4 (hM.below hV) f A0 A3 A4 _ _ _ c0 c3 c4 (hF.keep (fun b hb => hV.block b (hM.lt b hb))) a b)).mono ?_
  intro e w' h
  rw [hn] at h
  exact h
theorem ofc_26 {w0 : World} (hg : Glob w0) (m : Md) (B0 B1 B2 B3 B4 : Option Addr) (m0 m1 m2 m3 m4 d0 d1 d2 d3 d4 : Nat) (f : Fn) (a b : Int) (st : List Ty) : OfC w0 m B0 B1 B2 B3 B4 m0 m1 m2 m3 m4 d0 d1 d2 d3 d4 f ⟨26, a, b⟩ st ([f.ret], []) true := by
  intro S W hb hM A0 c0 A3 c3 A4 c4 A c hF row
  have hgW : Glob W := hg.below hb hg.big
  have hn : namedL m f ⟨26, a, b⟩ = ([f.ret], []) := rfl
  refine (of_calls W hgW m B0 B1 B2 B3 B4 m0 m1 m2 m3 m4 d0 d1 d2 d3 d4 hM f A0 A3 A4 _ _ _ c0 c3 c4 26 a b A st.length c rfl rfl rfl (plainL 26).1 (namedL m f ⟨26, a, b⟩) false (fun V hV => plain_26 V hV) (fun _ V hV => named_26 V (hgW.below hV hgW.big) m B0 B1 B2 B3 B4 m0 m1 m2 m3 m4 d0 d1 d2 d3 d4 (hM.below hV) f A0 A3 A4 _ _ _ c0 c3 c4 (hF.keep (fun b hb => hV.block b (hM.lt b hb))) a b)).mono ?_
  intro e w' h
  rw [hn] at h
  exact h
/-- The answers' function and module. -/
def fA : Fn := ⟨[], ⟨1, 0⟩, [], [⟨0, 0, 0⟩, ⟨26, 0, 0⟩]⟩
def mA : Md := ⟨[], [fA], [], [7], []⟩
theorem mainA : mainL mA = true := by decide
theorem straightA {w0 : World} (hg : Glob w0) (B0 B1 B2 B3 B4 : Option Addr) (m0 m1 m2 m3 m4 d0 d1 d2 d3 d4 : Nat) : AllStr w0 mA B0 B1 B2 B3 B4 m0 m1 m2 m3 m4 d0 d1 d2 d3 d4 [[[], [⟨1, 0⟩]]] := by
  refine ⟨rfl, fun n f sts h1 h2 => ?_, by decide⟩
  match n with
  | 0 =>
    injection h1 with h1
    injection h2 with h2
    subst h1
    subst h2
    refine ⟨⟨rfl, by decide, by decide, rfl, fun k i st h3 h4 => ?_⟩, by decide, by decide⟩
    match k with
    | 0 =>
      injection h3 with h3
      injection h4 with h4
      subst h3
      subst h4
      exact ⟨_, ofc_0 hg _ _ _ _ _ _ _ _ _ _ _ _ _ _ _ _ _ _ _ _, [⟨1, 0⟩], [1], by decide, by decide, .inr ⟨by decide, by decide, rfl⟩⟩
    | 1 =>
      injection h3 with h3
      injection h4 with h4
      subst h3
      subst h4
      exact ⟨_, ofc_26 hg _ _ _ _ _ _ _ _ _ _ _ _ _ _ _ _ _ _ _ _, [], [], by decide, by decide, .inl ⟨by decide, rfl⟩⟩
    | k + 2 => cases h3
  | n + 1 => cases h1
end Go.Proofs.YtmceaeoeakkppaaGreatDoor
namespace Go.Proofs.YtmceaeoeakkppaaGreatDoor
open Go.RowKit Go.Sort
set_option linter.unusedVariables false
theorem begin_results (tmps : Array Value) (w : World) (b : Nat) (cs : Array Value) (hs : cs.size = 7) (h : tmps.getD 4 undef = .pointer (some ⟨b, 0, none⟩)) (hb : w.heap[b]? = some (.cells cs 34 (0, 0))) :
    (results Tryz.f29 tmps).run Tryz.prog w = .ok (.agg cs) w :=
  results_cell_row Tryz.results29 tmps w b _ _ _ _ h hb Tryz.underlying34 rfl (by rw [hs]; kernel_rfl)
set_option maxRecDepth 100000 in
set_option maxHeartbeats 4000000 in
theorem begin_calls {S : Nat → Prop} (w : World) (m : Md) (B0 B1 B2 B3 B4 : Option Addr) (m0 m1 m2 m3 m4 d0 d1 d2 d3 d4 : Nat) (h : MRow S w m B0 B1 B2 B3 B4 m0 m1 m2 m3 m4) (f : Fn) (hf : m.funcs[0]? = some f) (hl : f.locals = []) (q : Int) :
    Calls Tryz.prog 29 #[.agg #[.slice B0 m0 d0, .slice B1 m1 d1, .slice B2 m2 d2, .slice B3 m3 d3, .slice B4 m4 d4], .int .i64 q] w fun e w' => ∃ fb LA, e = .returned (.agg #[.slice (some ⟨fb, 0, none⟩) 1 1, .slice none 0 0, .slice none 0 0, .int .i64 q, .int .i64 0, .int .i64 0, .int .u64 0]) ∧ w'.heap[fb]? = some (.cells #[.int .i64 0, .int .i64 0, .slice LA 0 0, .slice none 0 0] 91 (0, 0)) ∧ w.heap.size ≤ fb ∧ Below w.heap.size w w' := by
  have hm1 : 0 < m1 := by have := (List.getElem?_eq_some_iff.1 hf).1; have := h.e1; omega
  have hV := below_a1 w (Obj.cells #[.slice B0 m0 d0, .slice B1 m1 d1, .slice B2 m2 d2, .slice B3 m3 d3, .slice B4 m4 d4] 28)
  obtain ⟨b, o, A0, c0, A3, c3, A4, c4, rfl, hSb, -, -, -, f3, -, -, -, -, -, -, -, -, -, -, -, -⟩ := k_func_at (h.below hV).r1 hf
  simp only [Nat.zero_mul, Nat.add_zero, hl, List.length_nil] at f3
  have g3 := below_cell f3 (below_a1 _ (Obj.cells #[.slice none 0 0, .slice none 0 0, .slice none 0 0, .int .i64 0, .int .i64 0, .int .i64 0, .int .u64 0] 34))
  have HX := Lib.hid (blk_new w (Obj.cells #[.slice B0 m0 d0, .slice (some ⟨b, o, none⟩) m1 d1, .slice B2 m2 d2, .slice B3 m3 d3, .slice B4 m4 d4] 28))
  have HX2 := Lib.hid (blk_new2 w (Obj.cells #[.slice B0 m0 d0, .slice (some ⟨b, o, none⟩) m1 d1, .slice B2 m2 d2, .slice B3 m3 d3, .slice B4 m4 d4] 28) (Obj.cells #[.slice none 0 0, .slice none 0 0, .slice none 0 0, .int .i64 0, .int .i64 0, .int .i64 0, .int .u64 0] 34))
  have HV := Lib.hid (below_up hV (Obj.cells #[.slice none 0 0, .slice none 0 0, .slice none 0 0, .int .i64 0, .int .i64 0, .int .i64 0, .int .u64 0] 34))
  obtain ⟨zi, hzi, hz1, hz2, hz3⟩ : ∃ i, Tryz.prog.info? 32 = some i ∧ i.zero = some (.int .u64 0) ∧ i.size = 1 ∧ i.bytes = 8 := by
    have h := word_info
    cases hh : Tryz.prog.info? 32 with
    | none => rw [hh] at h; cases h
    | some i =>
      rw [hh] at h
      simp only [Option.map_some, Option.some.injEq, Prod.mk.injEq] at h
      exact ⟨i, rfl, h.1, h.2.1, h.2.2⟩
  have hmk : ∀ W, (Instr.makeSlice 25 (.int .i64 0) (.int .i64 0)).run Tryz.prog W = .ok (.slice (some ⟨W.heap.size, 0, none⟩) 0 0) (W.alloc (.cells (madeCells #[.int .u64 0] 0) 32)) := fun W => by
    have := run_make W 25 32 zi _ Tryz.underlying25 hzi hz1 .i64 .i64 0 0 (by omega) (by omega) (by omega) (by omega)
    rw [hz2] at this
    simpa [Value.cells] using this
  clear h hf hl f3 hV hz1 hz2 hz3 hzi
  go_enter Tryz.func29, Tryz.ntmps29
  go_wp2_with fail
  refine bodyPost_ret (begin_results _ _ (w.heap.size + 1) _ rfl rfl (blk_alloc (blk_alloc (blk_new2 w _ _) _) _)) rfl ⟨w.heap.size + 1 + 1 + 1, some ⟨w.heap.size + 1 + 1, 0, none⟩, rfl, blk_new4 w _ _ _ _, by omega, below_up (below_up (below_up (below_a1 w _) _) _) _⟩
end Go.Proofs.YtmceaeoeakkppaaGreatDoor
namespace Go.Proofs.YtmceaeoeakkppaaGreatDoor
open Go.RowKit Go.Sort
set_option linter.unusedVariables false
theorem rowA {V : World} {b1 b2 b3 : Nat} (h1 : V.heap[b1]? = some (.cells #[.int .u64 7] 32 (0, 0))) (h2 : V.heap[b2]? = some (.cells #[.int .i64 0, .int .i64 0, .int .i64 0, .int .i64 26, .int .i64 0, .int .i64 0] 62 (0, 0))) (h3 : V.heap[b3]? = some (.cells #[.slice none 0 0, .int .i64 1, .int .i64 0, .slice none 0 0, .slice (some ⟨b2, 0, none⟩) 2 2] 67 (0, 0))) : MRow (fun b => b < V.heap.size) V mA none (some ⟨b3, 0, none⟩) none (some ⟨b1, 0, none⟩) none 0 1 0 1 0 := by
  have hc : k_instr.Row (fun b => b < V.heap.size) V (some ⟨b2, 0, none⟩) [⟨0, 0, 0⟩, ⟨26, 0, 0⟩] :=
    Rd.Row.of_blk h2 (blk_lt h2) (cells := [.int .i64 0, .int .i64 0, .int .i64 0, .int .i64 26, .int .i64 0, .int .i64 0]) (Rd.Flat.cons (c := [.int .i64 0, .int .i64 0, .int .i64 0]) (k_instr_mk ⟨0, 0, 0⟩ (by decide) (by decide) (by decide)) (Rd.Flat.cons (c := [.int .i64 26, .int .i64 0, .int .i64 0]) (k_instr_mk ⟨26, 0, 0⟩ (by decide) (by decide) (by decide)) (Rd.Flat.nil _ _ _))) (fun j v hj => by simpa using hj)
  refine ⟨rfl, rfl, rfl, rfl, rfl, Rd.Row.nil _ _ _ _, ?_, Rd.Row.nil _ _ _ _, ?_, Rd.Row.nil _ _ _ _, fun b h => h⟩
  · exact Rd.Row.of_blk h3 (blk_lt h3) (cells := [.slice none 0 0, .int .i64 1, .int .i64 0, .slice none 0 0, .slice (some ⟨b2, 0, none⟩) 2 2]) (Rd.Flat.one (k_func_mk fA (A0 := none) (c0 := 0) (Nat.le_refl _) (Nat.zero_le _) (Rd.Row.nil _ _ _ _) (by decide) (by decide) (A3 := none) (c3 := 0) (Nat.le_refl _) (Nat.zero_le _) (Rd.Row.nil _ _ _ _) (A4 := some ⟨b2, 0, none⟩) (c4 := 2) (Nat.le_refl _) (by decide) hc)) (fun j v hj => by simpa using hj)
  · exact Rd.Row.of_blk h1 (blk_lt h1) (cells := [.int .u64 7]) (Rd.Flat.one (c := [.int .u64 7]) ⟨rfl, by decide⟩) (fun j v hj => by simpa using hj)
set_option maxRecDepth 100000 in
set_option maxHeartbeats 8000000 in
theorem answers_calls (w : World) (hg : Glob w) : Calls Tryz.prog 17 #[] w fun e w' => e = .returned (.bool true) ∧ Below w.heap.size w w' := by
  have HG := Lib.hid hg
  clear hg
  go_enter Tryz.func17, Tryz.ntmps17
  go_upto_region 3 with fail
  have hV : Below w.heap.size w (((((w.alloc (Obj.cells #[.int .i64 1, .int .i64 0] 58)).alloc (Obj.cells #[.int .u64 7] 32)).alloc (Obj.cells #[.int .i64 0, .int .i64 0, .int .i64 0, .int .i64 26, .int .i64 0, .int .i64 0] 62)).alloc (Obj.cells #[.slice none 0 0, .int .i64 1, .int .i64 0, .slice none 0 0, .slice (some ⟨w.heap.size + 1 + 1, 0, none⟩) 2 2] 67)).alloc (Obj.cells #[.slice none 0 0, .slice (some ⟨w.heap.size + 1 + 1 + 1, 0, none⟩) 1 1, .slice none 0 0, .slice (some ⟨w.heap.size + 1, 0, none⟩) 1 1, .slice none 0 0] 28)) := below_up (below_up (below_up (below_up (below_a1 w _) _) _) _) _
  have hM : MRow (fun b => b < (((((w.alloc (Obj.cells #[.int .i64 1, .int .i64 0] 58)).alloc (Obj.cells #[.int .u64 7] 32)).alloc (Obj.cells #[.int .i64 0, .int .i64 0, .int .i64 0, .int .i64 26, .int .i64 0, .int .i64 0] 62)).alloc (Obj.cells #[.slice none 0 0, .int .i64 1, .int .i64 0, .slice none 0 0, .slice (some ⟨w.heap.size + 1 + 1, 0, none⟩) 2 2] 67)).alloc (Obj.cells #[.slice none 0 0, .slice (some ⟨w.heap.size + 1 + 1 + 1, 0, none⟩) 1 1, .slice none 0 0, .slice (some ⟨w.heap.size + 1, 0, none⟩) 1 1, .slice none 0 0] 28)).heap.size) (((((w.alloc (Obj.cells #[.int .i64 1, .int .i64 0] 58)).alloc (Obj.cells #[.int .u64 7] 32)).alloc (Obj.cells #[.int .i64 0, .int .i64 0, .int .i64 0, .int .i64 26, .int .i64 0, .int .i64 0] 62)).alloc (Obj.cells #[.slice none 0 0, .int .i64 1, .int .i64 0, .slice none 0 0, .slice (some ⟨w.heap.size + 1 + 1, 0, none⟩) 2 2] 67)).alloc (Obj.cells #[.slice none 0 0, .slice (some ⟨w.heap.size + 1 + 1 + 1, 0, none⟩) 1 1, .slice none 0 0, .slice (some ⟨w.heap.size + 1, 0, none⟩) 1 1, .slice none 0 0] 28)) mA none (some ⟨w.heap.size + 1 + 1 + 1, 0, none⟩) none (some ⟨w.heap.size + 1, 0, none⟩) none 0 1 0 1 0 := rowA (b2 := w.heap.size + 1 + 1) (blk_alloc (blk_alloc (blk_alloc (blk_new2 w _ _) _) _) _) (blk_alloc (blk_alloc (blk_new3 w _ _ _) _) _) (blk_alloc (blk_new4 w _ _ _ _) _)
  have hX : (((((w.alloc (Obj.cells #[.int .i64 1, .int .i64 0] 58)).alloc (Obj.cells #[.int .u64 7] 32)).alloc (Obj.cells #[.int .i64 0, .int .i64 0, .int .i64 0, .int .i64 26, .int .i64 0, .int .i64 0] 62)).alloc (Obj.cells #[.slice none 0 0, .int .i64 1, .int .i64 0, .slice none 0 0, .slice (some ⟨w.heap.size + 1 + 1, 0, none⟩) 2 2] 67)).alloc (Obj.cells #[.slice none 0 0, .slice (some ⟨w.heap.size + 1 + 1 + 1, 0, none⟩) 1 1, .slice none 0 0, .slice (some ⟨w.heap.size + 1, 0, none⟩) 1 1, .slice none 0 0] 28)).heap[w.heap.size + 1 + 1 + 1 + 1]? = some (Obj.cells #[.slice none 0 0, .slice (some ⟨w.heap.size + 1 + 1 + 1, 0, none⟩) 1 1, .slice none 0 0, .slice (some ⟨w.heap.size + 1, 0, none⟩) 1 1, .slice none 0 0] 28) := by simpa using blk_new ((((w.alloc (Obj.cells #[.int .i64 1, .int .i64 0] 58)).alloc (Obj.cells #[.int .u64 7] 32)).alloc (Obj.cells #[.int .i64 0, .int .i64 0, .int .i64 0, .int .i64 26, .int .i64 0, .int .i64 0] 62)).alloc (Obj.cells #[.slice none 0 0, .int .i64 1, .int .i64 0, .slice none 0 0, .slice (some ⟨w.heap.size + 1 + 1, 0, none⟩) 2 2] 67)) (Obj.cells #[.slice none 0 0, .slice (some ⟨w.heap.size + 1 + 1 + 1, 0, none⟩) 1 1, .slice none 0 0, .slice (some ⟨w.heap.size + 1, 0, none⟩) 1 1, .slice none 0 0] 28)
  generalize (((((w.alloc (Obj.cells #[.int .i64 1, .int .i64 0] 58)).alloc (Obj.cells #[.int .u64 7] 32)).alloc (Obj.cells #[.int .i64 0, .int .i64 0, .int .i64 0, .int .i64 26, .int .i64 0, .int .i64 0] 62)).alloc (Obj.cells #[.slice none 0 0, .int .i64 1, .int .i64 0, .slice none 0 0, .slice (some ⟨w.heap.size + 1 + 1, 0, none⟩) 2 2] 67)).alloc (Obj.cells #[.slice none 0 0, .slice (some ⟨w.heap.size + 1 + 1 + 1, 0, none⟩) 1 1, .slice none 0 0, .slice (some ⟨w.heap.size + 1, 0, none⟩) 1 1, .slice none 0 0] 28)) = V at *
  have HM := Lib.hid hM
  have HX := Lib.hid hX
  have HV := Lib.hid hV
  clear hM hX hV
  go_region_held3 (fun w' => w'.cell? ⟨w.heap.size + 1 + 1 + 1 + 1, 0, none⟩ = some (.slice none 0 0) ∧ w'.cell? ⟨w.heap.size + 1 + 1 + 1 + 1, 1, none⟩ = some (.slice (some ⟨w.heap.size + 1 + 1 + 1, 0, none⟩) 1 1) ∧ w'.cell? ⟨w.heap.size + 1 + 1 + 1 + 1, 2, none⟩ = some (.slice none 0 0) ∧ w'.cell? ⟨w.heap.size + 1 + 1 + 1 + 1, 3, none⟩ = some (.slice (some ⟨w.heap.size + 1, 0, none⟩) 1 1) ∧ w'.cell? ⟨w.heap.size + 1 + 1 + 1 + 1, 4, none⟩ = some (.slice none 0 0) ∧ Below V.heap.size V w')
    (first | (refine hold5 HX.out ?_; first | with_reducible assumption | (repeat (first | exact Below.refl _ _ | refine Below.drew ?_))))
    (first
      | (go_at_call 29; go_must (refine (begin_calls _ mA _ _ _ _ _ _ _ _ _ _ 0 1 0 1 0 (HM.out.below (held5' (by assumption))) fA rfl rfl 0).mono ?_; rintro e w1 ⟨fb, LA, rfl, hfb, hgb, hb1⟩; have hbV1 : Below V.heap.size V w1 := Below.trans (held5' (by assumption)) (hb1.mono (held5' (by assumption)).size)))
      | (go_at_call 18; go_must (refine (load_calls (S := fun b => b < w1.heap.size) w1 mA _ _ _ _ _ _ _ _ _ _ 0 1 0 1 0 ((HM.out.below hbV1).mono (fun b hb => Nat.lt_of_lt_of_le hb hbV1.size) (fun b h => h)) mainA [[[], [⟨1, 0⟩]]] (straightA (HG.out.below (HV.out.trans (hbV1.mono HV.out.size)) HG.out.big) _ _ _ _ _ _ _ _ _ _ _ _ _ _ _) fA rfl rfl (by decide) (by decide) _ rfl rfl (by decide) fb 0 1 LA 0 [] rfl (fun x hx => by cases hx) (blk_lt hfb) (Rd.Row.nil _ _ _ _) (Nat.le_refl _) (blk_cell hfb 0) (blk_cell hfb 1) (blk_cell hfb 2) (blk_cell hfb 3) 0 (by decide) (by decide)).mono ?_; rintro e w2 ⟨p, FB, hp, tp, MA, mn, mc, c, L1, l1, rfl, hmc, hh, ht, hgF, hgp, hb2⟩; have hbV2 : Below V.heap.size V w2 := hbV1.trans (hb2.mono hbV1.size))))
  all_goals
    have hs1 : w.heap.size ≤ w1.heap.size := Nat.le_trans HV.out.size hbV1.size
    have hs2 : w1.heap.size ≤ w2.heap.size := hb2.size
    have hM2 : MRow (fun b => b < w1.heap.size) w2 mA none (some ⟨w.heap.size + 1 + 1 + 1, 0, none⟩) none (some ⟨w.heap.size + 1, 0, none⟩) none 0 1 0 1 0 := ((HM.out.below hbV1).mono (fun b hb => Nat.lt_of_lt_of_le hb hbV1.size) (fun b h => h)).below hb2
    have hbw2 : Below w.heap.size w w2 := HV.out.trans (hbV2.mono HV.out.size)
    have hfr2 := hmc.fr
    have hpx2 := hmc.box
    have K0 := Lib.hid (next_0 hmc hM2 (fun b hb => by omega) fA rfl (by decide) 0 0 rfl 7 rfl (.int .u64 0))
    have hhF : hp ≠ FB := by obtain ⟨cs, h1, _⟩ := hfr2; exact blk_ne hh h1 (by decide)
    have htF : tp ≠ FB := by obtain ⟨cs, h1, _⟩ := hfr2; exact blk_ne ht h1 (by decide)
    have hhp : hp ≠ p := blk_ne hh hpx2 (by decide)
    have htp : tp ≠ p := blk_ne ht hpx2 (by decide)
    have HM2 := Lib.hid hM2
    have HBw2 := Lib.hid hbw2
    have HH := Lib.hid hh
    have HT := Lib.hid ht
    clear hM2 hbw2 hfr2 hpx2 hh ht hmc hfb hb1 hb2 hbV1 hbV2
    go_upto_region 7 with (first
      | (go_at_call 25; (refine K0.out.mono ?_; rintro e w3 ⟨rfl, SA, sc, hm3, hsc, hl3, -, hk3⟩; have HK3 := Lib.hid hk3; have K1 := Lib.hid (next_26 hm3 (HM2.out.keepF (fun b hb => hk3.block b (HM2.out.lt b hb) (by rintro (h | h) <;> omega)) hk3.size) fA rfl (by decide) 0 0 rfl 7 hsc hl3 (.int .u64 0)); clear hm3 hl3 hk3 K0))
      | (go_at_call 25; (refine K1.out.mono ?_; rintro e w4 ⟨rfl, hE, hk4⟩; have HK4 := Lib.hid (HK3.out.trans hk4); have K2 := Lib.hid (state_calls hE ⟨_, (HK4.out.block hp (blk_lt HH.out) (by rintro (h | h) <;> contradiction)).trans HH.out⟩ ((HK4.out.block tp (blk_lt HT.out) (by rintro (h | h) <;> contradiction)).trans HT.out)); clear hE hk4))
      | (go_at_call 23; go_must (refine K2.out.mono ?_; rintro e w5 ⟨rfl, hb5⟩; have HB5 := Lib.hid hb5; clear hb5)))
    have hbk : Below w.heap.size w w4 := HBw2.out.trans (HK4.out.below (Nat.le_trans hs1 hs2) (fun x hx h => by rcases h with h | h <;> omega))
    have HBk := Lib.hid (hbk.trans (HB5.out.mono hbk.size))
    clear hbk
    go_wp2
    go_ret
    exact ⟨rfl, HBk.out.alloc HBk.out.size _⟩
end Go.Proofs.YtmceaeoeakkppaaGreatDoor
