/- chrysalislaw15.StepNone. -/
import Derived.Test.YtdmmjckhpagibaaGreatDoorMcAnswers
namespace Go.Proofs.YtdmmjckhpagibaaGreatDoor
open Go.RowKit Go.Sort
set_option linter.unusedVariables false
set_option maxRecDepth 100000 in
theorem objs_nil (w : World) : Calls Tryz.prog 37 #[.slice none 0 0, .slice none 0 0] w fun e w' => e = .returned (.bool true) ∧ Below w.heap.size w w' := by
  go_enter Tryz.func37, Tryz.ntmps37
  go_wp2_with fail
  go_loopw [5] (fun ix wr => ix = .int .i64 0 ∧ Hid (w = wr)) (fun _ _ => 0)
  case atStart => exact ⟨rfl, Lib.hid rfl⟩
  case round =>
    obtain ⟨rfl, he⟩ := hrel
    have e := he.out
    subst e
    go_wp2
    go_ret
    exact ⟨rfl, Below.refl _ _⟩
set_option maxRecDepth 100000 in
theorem hans_nil (w : World) : Calls Tryz.prog 38 #[.slice none 0 0, .slice none 0 0] w fun e w' => e = .returned (.bool true) ∧ Below w.heap.size w w' := by
  go_enter Tryz.func38, Tryz.ntmps38
  go_wp2_with fail
  go_loopw [5] (fun ix wr => ix = .int .i64 0 ∧ Hid (w = wr)) (fun _ _ => 0)
  case atStart => exact ⟨rfl, Lib.hid rfl⟩
  case round =>
    obtain ⟨rfl, he⟩ := hrel
    have e := he.out
    subst e
    go_wp2
    go_ret
    exact ⟨rfl, Below.refl _ _⟩
set_option maxRecDepth 100000 in
set_option maxHeartbeats 8000000 in
theorem states_zero (w : World) : Calls Tryz.prog 17 #[.agg #[.slice none 0 0, .slice none 0 0, .slice none 0 0, .int .i64 0, .int .i64 0, .int .i64 0, .int .u64 0], .agg #[.slice none 0 0, .slice none 0 0, .slice none 0 0, .int .i64 0, .int .i64 0, .int .i64 0, .int .u64 0]] w fun e w' => e = .returned (.bool true) ∧ Below w.heap.size w w' := by
  go_enter Tryz.func17, Tryz.ntmps17
  go_upto_region 1 with fail
  have hV : Below w.heap.size w ((w.alloc (Obj.cells #[.slice none 0 0, .slice none 0 0, .slice none 0 0, .int .i64 0, .int .i64 0, .int .i64 0, .int .u64 0] 45)).alloc (Obj.cells #[.slice none 0 0, .slice none 0 0, .slice none 0 0, .int .i64 0, .int .i64 0, .int .i64 0, .int .u64 0] 45)) := below_up (below_a1 w _) _
  have hX : ((w.alloc (Obj.cells #[.slice none 0 0, .slice none 0 0, .slice none 0 0, .int .i64 0, .int .i64 0, .int .i64 0, .int .u64 0] 45)).alloc (Obj.cells #[.slice none 0 0, .slice none 0 0, .slice none 0 0, .int .i64 0, .int .i64 0, .int .i64 0, .int .u64 0] 45)).heap[w.heap.size]? = some (Obj.cells #[.slice none 0 0, .slice none 0 0, .slice none 0 0, .int .i64 0, .int .i64 0, .int .i64 0, .int .u64 0] 45 (0, 0)) := blk_alloc (blk_new w _) _
  have hY : ((w.alloc (Obj.cells #[.slice none 0 0, .slice none 0 0, .slice none 0 0, .int .i64 0, .int .i64 0, .int .i64 0, .int .u64 0] 45)).alloc (Obj.cells #[.slice none 0 0, .slice none 0 0, .slice none 0 0, .int .i64 0, .int .i64 0, .int .i64 0, .int .u64 0] 45)).heap[w.heap.size + 1]? = some (Obj.cells #[.slice none 0 0, .slice none 0 0, .slice none 0 0, .int .i64 0, .int .i64 0, .int .i64 0, .int .u64 0] 45 (0, 0)) := blk_new2 w _ _
  generalize ((w.alloc (Obj.cells #[.slice none 0 0, .slice none 0 0, .slice none 0 0, .int .i64 0, .int .i64 0, .int .i64 0, .int .u64 0] 45)).alloc (Obj.cells #[.slice none 0 0, .slice none 0 0, .slice none 0 0, .int .i64 0, .int .i64 0, .int .i64 0, .int .u64 0] 45)) = V at *
  have HV := Lib.hid hV
  have HX := Lib.hid hX
  have HY := Lib.hid hY
  clear hV
  obtain ⟨⟨q0, q1, q2, q3, q4, q5, q6⟩, -⟩ := box7f hX
  obtain ⟨⟨r0, r1, r2, r3, r4, r5, r6⟩, -⟩ := box7f hY
  clear hX hY
  go_wp2
  go_loopw [5] (fun ix wr => ix = .int .i64 0 ∧ Hid (V = wr)) (fun _ _ => 0)
  case atStart => exact ⟨rfl, Lib.hid rfl⟩
  case round =>
    obtain ⟨rfl, he⟩ := hrel
    have e := he.out
    subst e
    go_wp2_with (first
      | (go_at_call 37; (refine (objs_nil _).mono ?_; rintro e w1 ⟨rfl, hb1⟩; have HB1 := Lib.hid hb1; obtain ⟨⟨u0, u1, u2, u3, u4, u5, u6⟩, -⟩ := box7f (blk_below HX.out hb1 (blk_lt HX.out)); obtain ⟨⟨v0, v1, v2, v3, v4, v5, v6⟩, -⟩ := box7f (blk_below HY.out hb1 (blk_lt HY.out)); clear hb1))
      | (go_at_call 38; (refine (hans_nil _).mono ?_; rintro e w2 ⟨rfl, hb2⟩; have HB2 := Lib.hid hb2; clear hb2)))
    go_ret
    exact ⟨rfl, (HV.out.trans (HB1.out.mono HV.out.size)).trans (HB2.out.mono (HV.out.trans (HB1.out.mono HV.out.size)).size)⟩
set_option maxRecDepth 100000 in
set_option maxHeartbeats 8000000 in
theorem stepNone_walk (w : World) (hg : Glob w) (a0 : Int) (w0 : (Lit.int .u64 a0).wf = true) : Calls Tryz.prog 5 #[.int .u64 a0] w fun e w' => e = .returned (.bool true) ∧ Below w.heap.size w w' := by
  have HG := Lib.hid hg
  clear hg
  go_enter Tryz.func5, Tryz.ntmps5
  go_wp2_with (first
    | (go_at_call 16; (refine (want_none _).mono ?_; rintro e w1 ⟨rfl, hb1⟩; have HB1 := Lib.hid hb1; clear hb1))
    | (go_at_call 13; (refine (next_none _ _).mono ?_; rintro e w2 ⟨rfl, hb2⟩; have HB2 := Lib.hid (HB1.out.trans (hb2.mono HB1.out.size)); clear hb2))
    | (go_at_call 14; (refine (answers_calls _ (HG.out.below HB2.out HG.out.big)).mono ?_; rintro e w3 ⟨rfl, hb3⟩; have HB3 := Lib.hid (HB2.out.trans (hb3.mono HB2.out.size)); clear hb3))
    | (go_at_call 15; (refine (state_none _).mono ?_; rintro e w4 ⟨rfl, hb4⟩; have HB4 := Lib.hid (HB3.out.trans (hb4.mono HB3.out.size)); clear hb4))
    | (go_at_call 17; (refine (states_zero _).mono ?_; rintro e w5 ⟨rfl, hb5⟩; have HB5 := Lib.hid (HB4.out.trans (hb5.mono HB4.out.size)); clear hb5)))
  go_ret
  exact ⟨rfl, HB5.out⟩
end Go.Proofs.YtdmmjckhpagibaaGreatDoor
