/- chrysalisref08.Begin of a module whose first function has no locals. -/
import Derived.Test.YtdmmjckhpagibaaGreatDoorMcAns
namespace Go.Proofs.YtdmmjckhpagibaaGreatDoor
open Go.RowKit Go.Sort
set_option linter.unusedVariables false
theorem begin_results (tmps : Array Value) (w : World) (b : Nat) (cs : Array Value) (hs : cs.size = 7) (h : tmps.getD 4 undef = .pointer (some ⟨b, 0, none⟩)) (hb : w.heap[b]? = some (.cells cs 45 (0, 0))) :
    (results Tryz.f12 tmps).run Tryz.prog w = .ok (.agg cs) w :=
  results_cell_row Tryz.results12 tmps w b _ _ _ _ h hb Tryz.underlying45 rfl (by rw [hs]; kernel_rfl)
set_option maxRecDepth 100000 in
set_option maxHeartbeats 4000000 in
theorem begin_calls {S : Nat → Prop} (w : World) (m : Md) (B0 B1 B2 B3 B4 : Option Addr) (m0 m1 m2 m3 m4 d0 d1 d2 d3 d4 : Nat) (h : MRow S w m B0 B1 B2 B3 B4 m0 m1 m2 m3 m4) (f : Fn) (hf : m.funcs[0]? = some f) (hl : f.locals = []) (q : Int) :
    Calls Tryz.prog 12 #[.agg #[.slice B0 m0 d0, .slice B1 m1 d1, .slice B2 m2 d2, .slice B3 m3 d3, .slice B4 m4 d4], .int .i64 q] w fun e w' => ∃ fb LA, e = .returned (.agg #[.slice (some ⟨fb, 0, none⟩) 1 1, .slice none 0 0, .slice none 0 0, .int .i64 q, .int .i64 0, .int .i64 0, .int .u64 0]) ∧ w'.heap[fb]? = some (.cells #[.int .i64 0, .int .i64 0, .slice LA 0 0, .slice none 0 0] 83 (0, 0)) ∧ w.heap.size ≤ fb ∧ Below w.heap.size w w' := by
  have hm1 : 0 < m1 := by have := (List.getElem?_eq_some_iff.1 hf).1; have := h.e1; omega
  have hV := below_a1 w (Obj.cells #[.slice B0 m0 d0, .slice B1 m1 d1, .slice B2 m2 d2, .slice B3 m3 d3, .slice B4 m4 d4] 34)
  obtain ⟨b, o, A0, c0, A3, c3, A4, c4, rfl, hSb, -, -, -, f3, -, -, -, -, -, -, -, -, -, -, -, -⟩ := k_func_at (h.below hV).r1 hf
  simp only [Nat.zero_mul, Nat.add_zero, hl, List.length_nil] at f3
  have g3 := below_cell f3 (below_a1 _ (Obj.cells #[.slice none 0 0, .slice none 0 0, .slice none 0 0, .int .i64 0, .int .i64 0, .int .i64 0, .int .u64 0] 45))
  have HX := Lib.hid (blk_new w (Obj.cells #[.slice B0 m0 d0, .slice (some ⟨b, o, none⟩) m1 d1, .slice B2 m2 d2, .slice B3 m3 d3, .slice B4 m4 d4] 34))
  have HX2 := Lib.hid (blk_new2 w (Obj.cells #[.slice B0 m0 d0, .slice (some ⟨b, o, none⟩) m1 d1, .slice B2 m2 d2, .slice B3 m3 d3, .slice B4 m4 d4] 34) (Obj.cells #[.slice none 0 0, .slice none 0 0, .slice none 0 0, .int .i64 0, .int .i64 0, .int .i64 0, .int .u64 0] 45))
  have HV := Lib.hid (below_up hV (Obj.cells #[.slice none 0 0, .slice none 0 0, .slice none 0 0, .int .i64 0, .int .i64 0, .int .i64 0, .int .u64 0] 45))
  obtain ⟨zi, hzi, hz1, hz2, hz3⟩ : ∃ i, Tryz.prog.info? 43 = some i ∧ i.zero = some (.int .u64 0) ∧ i.size = 1 ∧ i.bytes = 8 := by
    have h := word_info
    cases hh : Tryz.prog.info? 43 with
    | none => rw [hh] at h; cases h
    | some i =>
      rw [hh] at h
      simp only [Option.map_some, Option.some.injEq, Prod.mk.injEq] at h
      exact ⟨i, rfl, h.1, h.2.1, h.2.2⟩
  have hmk : ∀ W, (Instr.makeSlice 31 (.int .i64 0) (.int .i64 0)).run Tryz.prog W = .ok (.slice (some ⟨W.heap.size, 0, none⟩) 0 0) (W.alloc (.cells (madeCells #[.int .u64 0] 0) 43)) := fun W => by
    have := run_make W 31 43 zi _ Tryz.underlying31 hzi hz1 .i64 .i64 0 0 (by omega) (by omega) (by omega) (by omega)
    rw [hz2] at this
    simpa [Value.cells] using this
  clear h hf hl f3 hV hz1 hz2 hz3 hzi
  go_enter Tryz.func12, Tryz.ntmps12
  go_wp2_with fail
  refine bodyPost_ret (begin_results _ _ (w.heap.size + 1) _ rfl rfl (blk_alloc (blk_alloc (blk_new2 w _ _) _) _)) rfl ⟨w.heap.size + 1 + 1 + 1, some ⟨w.heap.size + 1 + 1, 0, none⟩, rfl, blk_new4 w _ _ _ _, by omega, below_up (below_up (below_up (below_a1 w _) _) _) _⟩
end Go.Proofs.YtdmmjckhpagibaaGreatDoor
