/- The walk of KindLeast: what may not be (part 0). Printed by gen_kl.py of this repo. -/
import Derived.Test.YtikidknmfbhilaaKlPure
import Derived.Test.YtikidknmfbhilaaKlLem
import Derived.Lib.QuietBelow
import Derived.BigQuiet
import Derived.Deep.DeepCutAuto
namespace Go.Proofs.Ytikidknmfbhilaa
open Go.RowKit Go.Sort
set_option linter.unusedVariables false
attribute [local irreducible] sub join good isRef
set_option maxRecDepth 100000 in
set_option maxHeartbeats 16000000 in
theorem kindLeast_bad0 (w : World) (cs0 : List Value) (x0 : Ty) (K0 : k_ty.K (· < w.heap.size) w x0 cs0) (cs1 : List Value) (x1 : Ty) (K1 : k_ty.K (· < w.heap.size) w x1 cs1) (cs2 : List Value) (x2 : Ty) (K2 : k_ty.K (· < w.heap.size) w x2 cs2) (p1 : x0.kind < 1) :
    Calls Try.prog 3 #[.agg cs0.toArray, .agg cs1.toArray, .agg cs2.toArray] w fun e w' => e = .returned (.bool true) ∧ Below w.heap.size w w' := by
  obtain ⟨rfl, _, _⟩ := k_ty_open K0
  obtain ⟨rfl, _, _⟩ := k_ty_open K1
  obtain ⟨rfl, _, _⟩ := k_ty_open K2
  obtain ⟨ak, an⟩ := x0
  obtain ⟨bk, bn⟩ := x1
  obtain ⟨ck, cn⟩ := x2
  simp only at p1 ⊢
  have H1 := Lib.hid p1
  clear p1
  clear K0 K1 K2
  go_enter Try.func3, Try.ntmps3
  go_upto_region 1 with fail
  have hX := blk_alloc (blk_alloc (blk_new w (Obj.cells #[.int .i64 ak, .int .i64 an] 23)) (Obj.cells #[.int .i64 bk, .int .i64 bn] 23)) (Obj.cells #[.int .i64 ck, .int .i64 cn] 23)
  have hY := blk_alloc (blk_new2 w (Obj.cells #[.int .i64 ak, .int .i64 an] 23) (Obj.cells #[.int .i64 bk, .int .i64 bn] 23)) (Obj.cells #[.int .i64 ck, .int .i64 cn] 23)
  have hZ := blk_new3 w (Obj.cells #[.int .i64 ak, .int .i64 an] 23) (Obj.cells #[.int .i64 bk, .int .i64 bn] 23) (Obj.cells #[.int .i64 ck, .int .i64 cn] 23)
  have hB := Lib.hid ((((Below.refl w.heap.size w).alloc (Nat.le_refl _) (Obj.cells #[.int .i64 ak, .int .i64 an] 23)).alloc (by simp) (Obj.cells #[.int .i64 bk, .int .i64 bn] 23)).alloc (by simp <;> omega) (Obj.cells #[.int .i64 ck, .int .i64 cn] 23))
  generalize ((w.alloc (Obj.cells #[.int .i64 ak, .int .i64 an] 23)).alloc (Obj.cells #[.int .i64 bk, .int .i64 bn] 23)).alloc (Obj.cells #[.int .i64 ck, .int .i64 cn] 23) = W at hX hY hZ hB ⊢
  have c0 := blk_cell hX
  have c1 := blk_cell hY
  have c2 := blk_cell hZ
  have HX := Lib.hid hX
  have HY := Lib.hid hY
  have HZ := Lib.hid hZ
  clear hX hY hZ
  have p1 := H1.out
  have q1 : decide (ak < 1) = true := decide_eq_true (by omega)
  clear p1
  have r0 := cell_regrown (c0 0 : _ = some (Value.int .i64 ak))
  have r1 := cell_regrown (c0 1 : _ = some (Value.int .i64 an))
  have r2 := cell_regrown (c1 0 : _ = some (Value.int .i64 bk))
  have r3 := cell_regrown (c1 1 : _ = some (Value.int .i64 bn))
  have r4 := cell_regrown (c2 0 : _ = some (Value.int .i64 ck))
  have r5 := cell_regrown (c2 1 : _ = some (Value.int .i64 cn))
  dsimp only [List.append]
  refine wp_region_quiet_lit ?_
  repeat (first | go_big_quiet_step (fail) | quiet_step (fail))
  refine wpQuiet_nil ?_
  intro _ hw'
  obtain ⟨⟨dq, osq⟩, hw''⟩ := hw'
  subst hw''
  clear r0 r1 r2 r3 r4 r5
  have HBq := Lib.hid (hB.out.trans ((below_regrown W dq osq).mono hB.out.size))
  generalize grow (redrawn W dq) osq = wq at *
  go_wp2_with (go_at_call 4; refine (kindAnswers_calls _).mono ?_; rintro e w5 ⟨rfl, hb5⟩)
  all_goals go_ret
  all_goals exact ⟨rfl, HBq.out.trans (hb5.mono HBq.out.size)⟩
set_option maxRecDepth 100000 in
set_option maxHeartbeats 16000000 in
theorem kindLeast_bad1 (w : World) (cs0 : List Value) (x0 : Ty) (K0 : k_ty.K (· < w.heap.size) w x0 cs0) (cs1 : List Value) (x1 : Ty) (K1 : k_ty.K (· < w.heap.size) w x1 cs1) (cs2 : List Value) (x2 : Ty) (K2 : k_ty.K (· < w.heap.size) w x2 cs2) (p1 : ¬ (x0.kind < 1)) (p2 : 8 < x0.kind) :
    Calls Try.prog 3 #[.agg cs0.toArray, .agg cs1.toArray, .agg cs2.toArray] w fun e w' => e = .returned (.bool true) ∧ Below w.heap.size w w' := by
  obtain ⟨rfl, _, _⟩ := k_ty_open K0
  obtain ⟨rfl, _, _⟩ := k_ty_open K1
  obtain ⟨rfl, _, _⟩ := k_ty_open K2
  obtain ⟨ak, an⟩ := x0
  obtain ⟨bk, bn⟩ := x1
  obtain ⟨ck, cn⟩ := x2
  simp only at p1 p2 ⊢
  have H1 := Lib.hid p1
  have H2 := Lib.hid p2
  clear p1 p2
  clear K0 K1 K2
  go_enter Try.func3, Try.ntmps3
  go_upto_region 1 with fail
  have hX := blk_alloc (blk_alloc (blk_new w (Obj.cells #[.int .i64 ak, .int .i64 an] 23)) (Obj.cells #[.int .i64 bk, .int .i64 bn] 23)) (Obj.cells #[.int .i64 ck, .int .i64 cn] 23)
  have hY := blk_alloc (blk_new2 w (Obj.cells #[.int .i64 ak, .int .i64 an] 23) (Obj.cells #[.int .i64 bk, .int .i64 bn] 23)) (Obj.cells #[.int .i64 ck, .int .i64 cn] 23)
  have hZ := blk_new3 w (Obj.cells #[.int .i64 ak, .int .i64 an] 23) (Obj.cells #[.int .i64 bk, .int .i64 bn] 23) (Obj.cells #[.int .i64 ck, .int .i64 cn] 23)
  have hB := Lib.hid ((((Below.refl w.heap.size w).alloc (Nat.le_refl _) (Obj.cells #[.int .i64 ak, .int .i64 an] 23)).alloc (by simp) (Obj.cells #[.int .i64 bk, .int .i64 bn] 23)).alloc (by simp <;> omega) (Obj.cells #[.int .i64 ck, .int .i64 cn] 23))
  generalize ((w.alloc (Obj.cells #[.int .i64 ak, .int .i64 an] 23)).alloc (Obj.cells #[.int .i64 bk, .int .i64 bn] 23)).alloc (Obj.cells #[.int .i64 ck, .int .i64 cn] 23) = W at hX hY hZ hB ⊢
  have c0 := blk_cell hX
  have c1 := blk_cell hY
  have c2 := blk_cell hZ
  have HX := Lib.hid hX
  have HY := Lib.hid hY
  have HZ := Lib.hid hZ
  clear hX hY hZ
  have p1 := H1.out
  have p2 := H2.out
  have q1 : decide (ak < 1) = false := decide_eq_false (by omega)
  have q2 : decide (8 < ak) = true := decide_eq_true (by omega)
  clear p1 p2
  have r0 := cell_regrown (c0 0 : _ = some (Value.int .i64 ak))
  have r1 := cell_regrown (c0 1 : _ = some (Value.int .i64 an))
  have r2 := cell_regrown (c1 0 : _ = some (Value.int .i64 bk))
  have r3 := cell_regrown (c1 1 : _ = some (Value.int .i64 bn))
  have r4 := cell_regrown (c2 0 : _ = some (Value.int .i64 ck))
  have r5 := cell_regrown (c2 1 : _ = some (Value.int .i64 cn))
  dsimp only [List.append]
  refine wp_region_quiet_lit ?_
  repeat (first | go_big_quiet_step (fail) | quiet_step (fail))
  refine wpQuiet_nil ?_
  intro _ hw'
  obtain ⟨⟨dq, osq⟩, hw''⟩ := hw'
  subst hw''
  clear r0 r1 r2 r3 r4 r5
  have HBq := Lib.hid (hB.out.trans ((below_regrown W dq osq).mono hB.out.size))
  generalize grow (redrawn W dq) osq = wq at *
  go_wp2_with (go_at_call 4; refine (kindAnswers_calls _).mono ?_; rintro e w5 ⟨rfl, hb5⟩)
  all_goals go_ret
  all_goals exact ⟨rfl, HBq.out.trans (hb5.mono HBq.out.size)⟩
set_option maxRecDepth 100000 in
set_option maxHeartbeats 16000000 in
theorem kindLeast_bad2 (w : World) (cs0 : List Value) (x0 : Ty) (K0 : k_ty.K (· < w.heap.size) w x0 cs0) (cs1 : List Value) (x1 : Ty) (K1 : k_ty.K (· < w.heap.size) w x1 cs1) (cs2 : List Value) (x2 : Ty) (K2 : k_ty.K (· < w.heap.size) w x2 cs2) (p1 : ¬ (x0.kind < 1)) (p2 : ¬ (8 < x0.kind)) (p3 : x1.kind < 1) :
    Calls Try.prog 3 #[.agg cs0.toArray, .agg cs1.toArray, .agg cs2.toArray] w fun e w' => e = .returned (.bool true) ∧ Below w.heap.size w w' := by
  obtain ⟨rfl, _, _⟩ := k_ty_open K0
  obtain ⟨rfl, _, _⟩ := k_ty_open K1
  obtain ⟨rfl, _, _⟩ := k_ty_open K2
  obtain ⟨ak, an⟩ := x0
  obtain ⟨bk, bn⟩ := x1
  obtain ⟨ck, cn⟩ := x2
  simp only at p1 p2 p3 ⊢
  have H1 := Lib.hid p1
  have H2 := Lib.hid p2
  have H3 := Lib.hid p3
  clear p1 p2 p3
  clear K0 K1 K2
  go_enter Try.func3, Try.ntmps3
  go_upto_region 1 with fail
  have hX := blk_alloc (blk_alloc (blk_new w (Obj.cells #[.int .i64 ak, .int .i64 an] 23)) (Obj.cells #[.int .i64 bk, .int .i64 bn] 23)) (Obj.cells #[.int .i64 ck, .int .i64 cn] 23)
  have hY := blk_alloc (blk_new2 w (Obj.cells #[.int .i64 ak, .int .i64 an] 23) (Obj.cells #[.int .i64 bk, .int .i64 bn] 23)) (Obj.cells #[.int .i64 ck, .int .i64 cn] 23)
  have hZ := blk_new3 w (Obj.cells #[.int .i64 ak, .int .i64 an] 23) (Obj.cells #[.int .i64 bk, .int .i64 bn] 23) (Obj.cells #[.int .i64 ck, .int .i64 cn] 23)
  have hB := Lib.hid ((((Below.refl w.heap.size w).alloc (Nat.le_refl _) (Obj.cells #[.int .i64 ak, .int .i64 an] 23)).alloc (by simp) (Obj.cells #[.int .i64 bk, .int .i64 bn] 23)).alloc (by simp <;> omega) (Obj.cells #[.int .i64 ck, .int .i64 cn] 23))
  generalize ((w.alloc (Obj.cells #[.int .i64 ak, .int .i64 an] 23)).alloc (Obj.cells #[.int .i64 bk, .int .i64 bn] 23)).alloc (Obj.cells #[.int .i64 ck, .int .i64 cn] 23) = W at hX hY hZ hB ⊢
  have c0 := blk_cell hX
  have c1 := blk_cell hY
  have c2 := blk_cell hZ
  have HX := Lib.hid hX
  have HY := Lib.hid hY
  have HZ := Lib.hid hZ
  clear hX hY hZ
  have p1 := H1.out
  have p2 := H2.out
  have p3 := H3.out
  have q1 : decide (ak < 1) = false := decide_eq_false (by omega)
  have q2 : decide (8 < ak) = false := decide_eq_false (by omega)
  have q3 : decide (bk < 1) = true := decide_eq_true (by omega)
  clear p1 p2 p3
  have r0 := cell_regrown (c0 0 : _ = some (Value.int .i64 ak))
  have r1 := cell_regrown (c0 1 : _ = some (Value.int .i64 an))
  have r2 := cell_regrown (c1 0 : _ = some (Value.int .i64 bk))
  have r3 := cell_regrown (c1 1 : _ = some (Value.int .i64 bn))
  have r4 := cell_regrown (c2 0 : _ = some (Value.int .i64 ck))
  have r5 := cell_regrown (c2 1 : _ = some (Value.int .i64 cn))
  dsimp only [List.append]
  refine wp_region_quiet_lit ?_
  repeat (first | go_big_quiet_step (fail) | quiet_step (fail))
  refine wpQuiet_nil ?_
  intro _ hw'
  obtain ⟨⟨dq, osq⟩, hw''⟩ := hw'
  subst hw''
  clear r0 r1 r2 r3 r4 r5
  have HBq := Lib.hid (hB.out.trans ((below_regrown W dq osq).mono hB.out.size))
  generalize grow (redrawn W dq) osq = wq at *
  go_wp2_with (go_at_call 4; refine (kindAnswers_calls _).mono ?_; rintro e w5 ⟨rfl, hb5⟩)
  all_goals go_ret
  all_goals exact ⟨rfl, HBq.out.trans (hb5.mono HBq.out.size)⟩
set_option maxRecDepth 100000 in
set_option maxHeartbeats 16000000 in
theorem kindLeast_bad3 (w : World) (cs0 : List Value) (x0 : Ty) (K0 : k_ty.K (· < w.heap.size) w x0 cs0) (cs1 : List Value) (x1 : Ty) (K1 : k_ty.K (· < w.heap.size) w x1 cs1) (cs2 : List Value) (x2 : Ty) (K2 : k_ty.K (· < w.heap.size) w x2 cs2) (p1 : ¬ (x0.kind < 1)) (p2 : ¬ (8 < x0.kind)) (p3 : ¬ (x1.kind < 1)) (p4 : 8 < x1.kind) :
    Calls Try.prog 3 #[.agg cs0.toArray, .agg cs1.toArray, .agg cs2.toArray] w fun e w' => e = .returned (.bool true) ∧ Below w.heap.size w w' := by
  obtain ⟨rfl, _, _⟩ := k_ty_open K0
  obtain ⟨rfl, _, _⟩ := k_ty_open K1
  obtain ⟨rfl, _, _⟩ := k_ty_open K2
  obtain ⟨ak, an⟩ := x0
  obtain ⟨bk, bn⟩ := x1
  obtain ⟨ck, cn⟩ := x2
  simp only at p1 p2 p3 p4 ⊢
  have H1 := Lib.hid p1
  have H2 := Lib.hid p2
  have H3 := Lib.hid p3
  have H4 := Lib.hid p4
  clear p1 p2 p3 p4
  clear K0 K1 K2
  go_enter Try.func3, Try.ntmps3
  go_upto_region 1 with fail
  have hX := blk_alloc (blk_alloc (blk_new w (Obj.cells #[.int .i64 ak, .int .i64 an] 23)) (Obj.cells #[.int .i64 bk, .int .i64 bn] 23)) (Obj.cells #[.int .i64 ck, .int .i64 cn] 23)
  have hY := blk_alloc (blk_new2 w (Obj.cells #[.int .i64 ak, .int .i64 an] 23) (Obj.cells #[.int .i64 bk, .int .i64 bn] 23)) (Obj.cells #[.int .i64 ck, .int .i64 cn] 23)
  have hZ := blk_new3 w (Obj.cells #[.int .i64 ak, .int .i64 an] 23) (Obj.cells #[.int .i64 bk, .int .i64 bn] 23) (Obj.cells #[.int .i64 ck, .int .i64 cn] 23)
  have hB := Lib.hid ((((Below.refl w.heap.size w).alloc (Nat.le_refl _) (Obj.cells #[.int .i64 ak, .int .i64 an] 23)).alloc (by simp) (Obj.cells #[.int .i64 bk, .int .i64 bn] 23)).alloc (by simp <;> omega) (Obj.cells #[.int .i64 ck, .int .i64 cn] 23))
  generalize ((w.alloc (Obj.cells #[.int .i64 ak, .int .i64 an] 23)).alloc (Obj.cells #[.int .i64 bk, .int .i64 bn] 23)).alloc (Obj.cells #[.int .i64 ck, .int .i64 cn] 23) = W at hX hY hZ hB ⊢
  have c0 := blk_cell hX
  have c1 := blk_cell hY
  have c2 := blk_cell hZ
  have HX := Lib.hid hX
  have HY := Lib.hid hY
  have HZ := Lib.hid hZ
  clear hX hY hZ
  have p1 := H1.out
  have p2 := H2.out
  have p3 := H3.out
  have p4 := H4.out
  have q1 : decide (ak < 1) = false := decide_eq_false (by omega)
  have q2 : decide (8 < ak) = false := decide_eq_false (by omega)
  have q3 : decide (bk < 1) = false := decide_eq_false (by omega)
  have q4 : decide (8 < bk) = true := decide_eq_true (by omega)
  clear p1 p2 p3 p4
  have r0 := cell_regrown (c0 0 : _ = some (Value.int .i64 ak))
  have r1 := cell_regrown (c0 1 : _ = some (Value.int .i64 an))
  have r2 := cell_regrown (c1 0 : _ = some (Value.int .i64 bk))
  have r3 := cell_regrown (c1 1 : _ = some (Value.int .i64 bn))
  have r4 := cell_regrown (c2 0 : _ = some (Value.int .i64 ck))
  have r5 := cell_regrown (c2 1 : _ = some (Value.int .i64 cn))
  dsimp only [List.append]
  refine wp_region_quiet_lit ?_
  repeat (first | go_big_quiet_step (fail) | quiet_step (fail))
  refine wpQuiet_nil ?_
  intro _ hw'
  obtain ⟨⟨dq, osq⟩, hw''⟩ := hw'
  subst hw''
  clear r0 r1 r2 r3 r4 r5
  have HBq := Lib.hid (hB.out.trans ((below_regrown W dq osq).mono hB.out.size))
  generalize grow (redrawn W dq) osq = wq at *
  go_wp2_with (go_at_call 4; refine (kindAnswers_calls _).mono ?_; rintro e w5 ⟨rfl, hb5⟩)
  all_goals go_ret
  all_goals exact ⟨rfl, HBq.out.trans (hb5.mono HBq.out.size)⟩
set_option maxRecDepth 100000 in
set_option maxHeartbeats 16000000 in
theorem kindLeast_bad4 (w : World) (cs0 : List Value) (x0 : Ty) (K0 : k_ty.K (· < w.heap.size) w x0 cs0) (cs1 : List Value) (x1 : Ty) (K1 : k_ty.K (· < w.heap.size) w x1 cs1) (cs2 : List Value) (x2 : Ty) (K2 : k_ty.K (· < w.heap.size) w x2 cs2) (p1 : ¬ (x0.kind < 1)) (p2 : ¬ (8 < x0.kind)) (p3 : ¬ (x1.kind < 1)) (p4 : ¬ (8 < x1.kind)) (p5 : x2.kind < 1) :
    Calls Try.prog 3 #[.agg cs0.toArray, .agg cs1.toArray, .agg cs2.toArray] w fun e w' => e = .returned (.bool true) ∧ Below w.heap.size w w' := by
  obtain ⟨rfl, _, _⟩ := k_ty_open K0
  obtain ⟨rfl, _, _⟩ := k_ty_open K1
  obtain ⟨rfl, _, _⟩ := k_ty_open K2
  obtain ⟨ak, an⟩ := x0
  obtain ⟨bk, bn⟩ := x1
  obtain ⟨ck, cn⟩ := x2
  simp only at p1 p2 p3 p4 p5 ⊢
  have H1 := Lib.hid p1
  have H2 := Lib.hid p2
  have H3 := Lib.hid p3
  have H4 := Lib.hid p4
  have H5 := Lib.hid p5
  clear p1 p2 p3 p4 p5
  clear K0 K1 K2
  go_enter Try.func3, Try.ntmps3
  go_upto_region 1 with fail
  have hX := blk_alloc (blk_alloc (blk_new w (Obj.cells #[.int .i64 ak, .int .i64 an] 23)) (Obj.cells #[.int .i64 bk, .int .i64 bn] 23)) (Obj.cells #[.int .i64 ck, .int .i64 cn] 23)
  have hY := blk_alloc (blk_new2 w (Obj.cells #[.int .i64 ak, .int .i64 an] 23) (Obj.cells #[.int .i64 bk, .int .i64 bn] 23)) (Obj.cells #[.int .i64 ck, .int .i64 cn] 23)
  have hZ := blk_new3 w (Obj.cells #[.int .i64 ak, .int .i64 an] 23) (Obj.cells #[.int .i64 bk, .int .i64 bn] 23) (Obj.cells #[.int .i64 ck, .int .i64 cn] 23)
  have hB := Lib.hid ((((Below.refl w.heap.size w).alloc (Nat.le_refl _) (Obj.cells #[.int .i64 ak, .int .i64 an] 23)).alloc (by simp) (Obj.cells #[.int .i64 bk, .int .i64 bn] 23)).alloc (by simp <;> omega) (Obj.cells #[.int .i64 ck, .int .i64 cn] 23))
  generalize ((w.alloc (Obj.cells #[.int .i64 ak, .int .i64 an] 23)).alloc (Obj.cells #[.int .i64 bk, .int .i64 bn] 23)).alloc (Obj.cells #[.int .i64 ck, .int .i64 cn] 23) = W at hX hY hZ hB ⊢
  have c0 := blk_cell hX
  have c1 := blk_cell hY
  have c2 := blk_cell hZ
  have HX := Lib.hid hX
  have HY := Lib.hid hY
  have HZ := Lib.hid hZ
  clear hX hY hZ
  have p1 := H1.out
  have p2 := H2.out
  have p3 := H3.out
  have p4 := H4.out
  have p5 := H5.out
  have q1 : decide (ak < 1) = false := decide_eq_false (by omega)
  have q2 : decide (8 < ak) = false := decide_eq_false (by omega)
  have q3 : decide (bk < 1) = false := decide_eq_false (by omega)
  have q4 : decide (8 < bk) = false := decide_eq_false (by omega)
  have q5 : decide (ck < 1) = true := decide_eq_true (by omega)
  clear p1 p2 p3 p4 p5
  have r0 := cell_regrown (c0 0 : _ = some (Value.int .i64 ak))
  have r1 := cell_regrown (c0 1 : _ = some (Value.int .i64 an))
  have r2 := cell_regrown (c1 0 : _ = some (Value.int .i64 bk))
  have r3 := cell_regrown (c1 1 : _ = some (Value.int .i64 bn))
  have r4 := cell_regrown (c2 0 : _ = some (Value.int .i64 ck))
  have r5 := cell_regrown (c2 1 : _ = some (Value.int .i64 cn))
  dsimp only [List.append]
  refine wp_region_quiet_lit ?_
  repeat (first | go_big_quiet_step (fail) | quiet_step (fail))
  refine wpQuiet_nil ?_
  intro _ hw'
  obtain ⟨⟨dq, osq⟩, hw''⟩ := hw'
  subst hw''
  clear r0 r1 r2 r3 r4 r5
  have HBq := Lib.hid (hB.out.trans ((below_regrown W dq osq).mono hB.out.size))
  generalize grow (redrawn W dq) osq = wq at *
  go_wp2_with (go_at_call 4; refine (kindAnswers_calls _).mono ?_; rintro e w5 ⟨rfl, hb5⟩)
  all_goals go_ret
  all_goals exact ⟨rfl, HBq.out.trans (hb5.mono HBq.out.size)⟩
end Go.Proofs.Ytikidknmfbhilaa
