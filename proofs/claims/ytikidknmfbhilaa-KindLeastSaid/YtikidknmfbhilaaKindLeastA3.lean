/- The walk of KindLeast: what may not be (part 3). Printed by gen_kl.py of this repo. -/
import Derived.Test.YtikidknmfbhilaaKlPure
import Derived.Lib.QuietBelow
import Derived.BigQuiet
import Derived.Deep.DeepCutAuto
namespace Go.Proofs.Ytikidknmfbhilaa
open Go.RowKit Go.Sort
set_option linter.unusedVariables false
attribute [local irreducible] sub join good isRef
set_option maxRecDepth 100000 in
set_option maxHeartbeats 16000000 in
theorem kindLeast_bad15 (w : World) (cs0 : List Value) (x0 : Ty) (K0 : k_ty.K (· < w.heap.size) w x0 cs0) (cs1 : List Value) (x1 : Ty) (K1 : k_ty.K (· < w.heap.size) w x1 cs1) (cs2 : List Value) (x2 : Ty) (K2 : k_ty.K (· < w.heap.size) w x2 cs2) (p1 : ¬ (x0.kind < 1)) (p2 : ¬ (8 < x0.kind)) (p3 : ¬ (x1.kind < 1)) (p4 : ¬ (8 < x1.kind)) (p5 : ¬ (x2.kind < 1)) (p6 : ¬ (8 < x2.kind)) (p7 : ¬ (¬ x0.kind = 4)) (p8 : ¬ x1.kind = 4) (p9 : ¬ x1.kind = 5) (p10 : ¬ x1.n = 0) :
    Calls Try.prog 3 #[.agg cs0.toArray, .agg cs1.toArray, .agg cs2.toArray] w fun e w' => e = .returned (.bool true) ∧ Below w.heap.size w w' := by
  obtain ⟨rfl, _, _⟩ := k_ty_open K0
  obtain ⟨rfl, _, _⟩ := k_ty_open K1
  obtain ⟨rfl, _, _⟩ := k_ty_open K2
  obtain ⟨ak, an⟩ := x0
  obtain ⟨bk, bn⟩ := x1
  obtain ⟨ck, cn⟩ := x2
  simp only at p1 p2 p3 p4 p5 p6 p7 p8 p9 p10 ⊢
  have H1 := Lib.hid p1
  have H2 := Lib.hid p2
  have H3 := Lib.hid p3
  have H4 := Lib.hid p4
  have H5 := Lib.hid p5
  have H6 := Lib.hid p6
  have H7 := Lib.hid p7
  have H8 := Lib.hid p8
  have H9 := Lib.hid p9
  have H10 := Lib.hid p10
  clear p1 p2 p3 p4 p5 p6 p7 p8 p9 p10
  clear K0 K1 K2
  go_enter Try.func3, Try.ntmps3
  go_upto_region 1 with fail
  have hX := blk_alloc (blk_alloc (blk_new w (Obj.cells #[.int .i64 ak, .int .i64 an] 23)) (Obj.cells #[.int .i64 bk, .int .i64 bn] 23)) (Obj.cells #[.int .i64 ck, .int .i64 cn] 23)
  have hY := blk_alloc (blk_new2 w (Obj.cells #[.int .i64 ak, .int .i64 an] 23) (Obj.cells #[.int .i64 bk, .int .i64 bn] 23)) (Obj.cells #[.int .i64 ck, .int .i64 cn] 23)
  have hZ := blk_new3 w (Obj.cells #[.int .i64 ak, .int .i64 an] 23) (Obj.cells #[.int .i64 bk, .int .i64 bn] 23) (Obj.cells #[.int .i64 ck, .int .i64 cn] 23)
  have hB := Lib.hid ((((Below.refl w.heap.size w).alloc (Nat.le_refl _) (Obj.cells #[.int .i64 ak, .int .i64 an] 23)).alloc (by simp) (Obj.cells #[.int .i64 bk, .int .i64 bn] 23)).alloc (by simp <;> omega) (Obj.cells #[.int .i64 ck, .int .i64 cn] 23))
  generalize ((w.alloc (Obj.cells #[.int .i64 ak, .int .i64 an] 23)).alloc (Obj.cells #[.int .i64 bk, .int .i64 bn] 23)).alloc (Obj.cells #[.int .i64 ck, .int .i64 cn] 23) = W at hX hY hZ hB ⊢
  have c0 := blk_cell hX
  have c1 := blk_cell hY
  have c2 := blk_cell hZ
  have HX := Lib.hid hX
  have HY := Lib.hid hY
  have HZ := Lib.hid hZ
  clear hX hY hZ
  have p1 := H1.out
  have p2 := H2.out
  have p3 := H3.out
  have p4 := H4.out
  have p5 := H5.out
  have p6 := H6.out
  have p7 := H7.out
  have p8 := H8.out
  have p9 := H9.out
  have p10 := H10.out
  have q1 : decide (ak < 1) = false := decide_eq_false (by omega)
  have q2 : decide (8 < ak) = false := decide_eq_false (by omega)
  have q3 : decide (bk < 1) = false := decide_eq_false (by omega)
  have q4 : decide (8 < bk) = false := decide_eq_false (by omega)
  have q5 : decide (ck < 1) = false := decide_eq_false (by omega)
  have q6 : decide (8 < ck) = false := decide_eq_false (by omega)
  have q7a : (ak != 4) = false := by rw [bne_eq_false_iff_eq]; omega
  have q7b : (ak == 4) = true := by rw [beq_iff_eq]; omega
  have q7c : decide (ak = 4) = true := decide_eq_true (by omega)
  have q8 : ¬ bk = 4 := by omega
  have q8a : (bk != 4) = true := bne_iff_ne.2 q8
  have q8b : (bk == 4) = false := beq_eq_false_iff_ne.2 q8
  have q9 : ¬ bk = 5 := by omega
  have q9a : (bk != 5) = true := bne_iff_ne.2 q9
  have q9b : (bk == 5) = false := beq_eq_false_iff_ne.2 q9
  have q10 : ¬ bn = 0 := by omega
  have q10a : (bn != 0) = true := bne_iff_ne.2 q10
  have q10b : (bn == 0) = false := beq_eq_false_iff_ne.2 q10
  clear p1 p2 p3 p4 p5 p6 p7 p8 p9 p10
  go_wp2_with (go_at_call 4; refine (kindAnswers_calls _).mono ?_; rintro e w5 ⟨rfl, hb5⟩)
  all_goals go_ret
  all_goals exact ⟨rfl, hB.out.trans (hb5.mono hB.out.size)⟩
set_option maxRecDepth 100000 in
set_option maxHeartbeats 16000000 in
theorem kindLeast_bad16 (w : World) (cs0 : List Value) (x0 : Ty) (K0 : k_ty.K (· < w.heap.size) w x0 cs0) (cs1 : List Value) (x1 : Ty) (K1 : k_ty.K (· < w.heap.size) w x1 cs1) (cs2 : List Value) (x2 : Ty) (K2 : k_ty.K (· < w.heap.size) w x2 cs2) (p1 : ¬ (x0.kind < 1)) (p2 : ¬ (8 < x0.kind)) (p3 : ¬ (x1.kind < 1)) (p4 : ¬ (8 < x1.kind)) (p5 : ¬ (x2.kind < 1)) (p6 : ¬ (8 < x2.kind)) (p7 : ¬ (¬ x0.kind = 4)) (p8 : ¬ x1.kind = 4) (p9 : ¬ x1.kind = 5) (p10 : ¬ (¬ x1.n = 0)) (p11 : ¬ x2.kind = 4) (p12 : ¬ x2.kind = 5) (p13 : ¬ x2.n = 0) :
    Calls Try.prog 3 #[.agg cs0.toArray, .agg cs1.toArray, .agg cs2.toArray] w fun e w' => e = .returned (.bool true) ∧ Below w.heap.size w w' := by
  obtain ⟨rfl, _, _⟩ := k_ty_open K0
  obtain ⟨rfl, _, _⟩ := k_ty_open K1
  obtain ⟨rfl, _, _⟩ := k_ty_open K2
  obtain ⟨ak, an⟩ := x0
  obtain ⟨bk, bn⟩ := x1
  obtain ⟨ck, cn⟩ := x2
  simp only at p1 p2 p3 p4 p5 p6 p7 p8 p9 p10 p11 p12 p13 ⊢
  have H1 := Lib.hid p1
  have H2 := Lib.hid p2
  have H3 := Lib.hid p3
  have H4 := Lib.hid p4
  have H5 := Lib.hid p5
  have H6 := Lib.hid p6
  have H7 := Lib.hid p7
  have H8 := Lib.hid p8
  have H9 := Lib.hid p9
  have H10 := Lib.hid p10
  have H11 := Lib.hid p11
  have H12 := Lib.hid p12
  have H13 := Lib.hid p13
  clear p1 p2 p3 p4 p5 p6 p7 p8 p9 p10 p11 p12 p13
  clear K0 K1 K2
  go_enter Try.func3, Try.ntmps3
  go_upto_region 1 with fail
  have hX := blk_alloc (blk_alloc (blk_new w (Obj.cells #[.int .i64 ak, .int .i64 an] 23)) (Obj.cells #[.int .i64 bk, .int .i64 bn] 23)) (Obj.cells #[.int .i64 ck, .int .i64 cn] 23)
  have hY := blk_alloc (blk_new2 w (Obj.cells #[.int .i64 ak, .int .i64 an] 23) (Obj.cells #[.int .i64 bk, .int .i64 bn] 23)) (Obj.cells #[.int .i64 ck, .int .i64 cn] 23)
  have hZ := blk_new3 w (Obj.cells #[.int .i64 ak, .int .i64 an] 23) (Obj.cells #[.int .i64 bk, .int .i64 bn] 23) (Obj.cells #[.int .i64 ck, .int .i64 cn] 23)
  have hB := Lib.hid ((((Below.refl w.heap.size w).alloc (Nat.le_refl _) (Obj.cells #[.int .i64 ak, .int .i64 an] 23)).alloc (by simp) (Obj.cells #[.int .i64 bk, .int .i64 bn] 23)).alloc (by simp <;> omega) (Obj.cells #[.int .i64 ck, .int .i64 cn] 23))
  generalize ((w.alloc (Obj.cells #[.int .i64 ak, .int .i64 an] 23)).alloc (Obj.cells #[.int .i64 bk, .int .i64 bn] 23)).alloc (Obj.cells #[.int .i64 ck, .int .i64 cn] 23) = W at hX hY hZ hB ⊢
  have c0 := blk_cell hX
  have c1 := blk_cell hY
  have c2 := blk_cell hZ
  have HX := Lib.hid hX
  have HY := Lib.hid hY
  have HZ := Lib.hid hZ
  clear hX hY hZ
  have p1 := H1.out
  have p2 := H2.out
  have p3 := H3.out
  have p4 := H4.out
  have p5 := H5.out
  have p6 := H6.out
  have p7 := H7.out
  have p8 := H8.out
  have p9 := H9.out
  have p10 := H10.out
  have p11 := H11.out
  have p12 := H12.out
  have p13 := H13.out
  have q1 : decide (ak < 1) = false := decide_eq_false (by omega)
  have q2 : decide (8 < ak) = false := decide_eq_false (by omega)
  have q3 : decide (bk < 1) = false := decide_eq_false (by omega)
  have q4 : decide (8 < bk) = false := decide_eq_false (by omega)
  have q5 : decide (ck < 1) = false := decide_eq_false (by omega)
  have q6 : decide (8 < ck) = false := decide_eq_false (by omega)
  have q7a : (ak != 4) = false := by rw [bne_eq_false_iff_eq]; omega
  have q7b : (ak == 4) = true := by rw [beq_iff_eq]; omega
  have q7c : decide (ak = 4) = true := decide_eq_true (by omega)
  have q8 : ¬ bk = 4 := by omega
  have q8a : (bk != 4) = true := bne_iff_ne.2 q8
  have q8b : (bk == 4) = false := beq_eq_false_iff_ne.2 q8
  have q9 : ¬ bk = 5 := by omega
  have q9a : (bk != 5) = true := bne_iff_ne.2 q9
  have q9b : (bk == 5) = false := beq_eq_false_iff_ne.2 q9
  have q10a : (bn != 0) = false := by rw [bne_eq_false_iff_eq]; omega
  have q10b : (bn == 0) = true := by rw [beq_iff_eq]; omega
  have q10c : decide (bn = 0) = true := decide_eq_true (by omega)
  have q11 : ¬ ck = 4 := by omega
  have q11a : (ck != 4) = true := bne_iff_ne.2 q11
  have q11b : (ck == 4) = false := beq_eq_false_iff_ne.2 q11
  have q12 : ¬ ck = 5 := by omega
  have q12a : (ck != 5) = true := bne_iff_ne.2 q12
  have q12b : (ck == 5) = false := beq_eq_false_iff_ne.2 q12
  have q13 : ¬ cn = 0 := by omega
  have q13a : (cn != 0) = true := bne_iff_ne.2 q13
  have q13b : (cn == 0) = false := beq_eq_false_iff_ne.2 q13
  clear p1 p2 p3 p4 p5 p6 p7 p8 p9 p10 p11 p12 p13
  go_wp2_with (go_at_call 4; refine (kindAnswers_calls _).mono ?_; rintro e w5 ⟨rfl, hb5⟩)
  all_goals go_ret
  all_goals exact ⟨rfl, hB.out.trans (hb5.mono hB.out.size)⟩
set_option maxRecDepth 100000 in
set_option maxHeartbeats 16000000 in
theorem kindLeast_bad17 (w : World) (cs0 : List Value) (x0 : Ty) (K0 : k_ty.K (· < w.heap.size) w x0 cs0) (cs1 : List Value) (x1 : Ty) (K1 : k_ty.K (· < w.heap.size) w x1 cs1) (cs2 : List Value) (x2 : Ty) (K2 : k_ty.K (· < w.heap.size) w x2 cs2) (p1 : ¬ (x0.kind < 1)) (p2 : ¬ (8 < x0.kind)) (p3 : ¬ (x1.kind < 1)) (p4 : ¬ (8 < x1.kind)) (p5 : ¬ (x2.kind < 1)) (p6 : ¬ (8 < x2.kind)) (p7 : ¬ (¬ x0.kind = 4)) (p8 : ¬ x1.kind = 4) (p9 : ¬ (¬ x1.kind = 5)) (p10 : ¬ x2.kind = 4) (p11 : ¬ x2.kind = 5) (p12 : ¬ x2.n = 0) :
    Calls Try.prog 3 #[.agg cs0.toArray, .agg cs1.toArray, .agg cs2.toArray] w fun e w' => e = .returned (.bool true) ∧ Below w.heap.size w w' := by
  obtain ⟨rfl, _, _⟩ := k_ty_open K0
  obtain ⟨rfl, _, _⟩ := k_ty_open K1
  obtain ⟨rfl, _, _⟩ := k_ty_open K2
  obtain ⟨ak, an⟩ := x0
  obtain ⟨bk, bn⟩ := x1
  obtain ⟨ck, cn⟩ := x2
  simp only at p1 p2 p3 p4 p5 p6 p7 p8 p9 p10 p11 p12 ⊢
  have H1 := Lib.hid p1
  have H2 := Lib.hid p2
  have H3 := Lib.hid p3
  have H4 := Lib.hid p4
  have H5 := Lib.hid p5
  have H6 := Lib.hid p6
  have H7 := Lib.hid p7
  have H8 := Lib.hid p8
  have H9 := Lib.hid p9
  have H10 := Lib.hid p10
  have H11 := Lib.hid p11
  have H12 := Lib.hid p12
  clear p1 p2 p3 p4 p5 p6 p7 p8 p9 p10 p11 p12
  clear K0 K1 K2
  go_enter Try.func3, Try.ntmps3
  go_upto_region 1 with fail
  have hX := blk_alloc (blk_alloc (blk_new w (Obj.cells #[.int .i64 ak, .int .i64 an] 23)) (Obj.cells #[.int .i64 bk, .int .i64 bn] 23)) (Obj.cells #[.int .i64 ck, .int .i64 cn] 23)
  have hY := blk_alloc (blk_new2 w (Obj.cells #[.int .i64 ak, .int .i64 an] 23) (Obj.cells #[.int .i64 bk, .int .i64 bn] 23)) (Obj.cells #[.int .i64 ck, .int .i64 cn] 23)
  have hZ := blk_new3 w (Obj.cells #[.int .i64 ak, .int .i64 an] 23) (Obj.cells #[.int .i64 bk, .int .i64 bn] 23) (Obj.cells #[.int .i64 ck, .int .i64 cn] 23)
  have hB := Lib.hid ((((Below.refl w.heap.size w).alloc (Nat.le_refl _) (Obj.cells #[.int .i64 ak, .int .i64 an] 23)).alloc (by simp) (Obj.cells #[.int .i64 bk, .int .i64 bn] 23)).alloc (by simp <;> omega) (Obj.cells #[.int .i64 ck, .int .i64 cn] 23))
  generalize ((w.alloc (Obj.cells #[.int .i64 ak, .int .i64 an] 23)).alloc (Obj.cells #[.int .i64 bk, .int .i64 bn] 23)).alloc (Obj.cells #[.int .i64 ck, .int .i64 cn] 23) = W at hX hY hZ hB ⊢
  have c0 := blk_cell hX
  have c1 := blk_cell hY
  have c2 := blk_cell hZ
  have HX := Lib.hid hX
  have HY := Lib.hid hY
  have HZ := Lib.hid hZ
  clear hX hY hZ
  have p1 := H1.out
  have p2 := H2.out
  have p3 := H3.out
  have p4 := H4.out
  have p5 := H5.out
  have p6 := H6.out
  have p7 := H7.out
  have p8 := H8.out
  have p9 := H9.out
  have p10 := H10.out
  have p11 := H11.out
  have p12 := H12.out
  have q1 : decide (ak < 1) = false := decide_eq_false (by omega)
  have q2 : decide (8 < ak) = false := decide_eq_false (by omega)
  have q3 : decide (bk < 1) = false := decide_eq_false (by omega)
  have q4 : decide (8 < bk) = false := decide_eq_false (by omega)
  have q5 : decide (ck < 1) = false := decide_eq_false (by omega)
  have q6 : decide (8 < ck) = false := decide_eq_false (by omega)
  have q7a : (ak != 4) = false := by rw [bne_eq_false_iff_eq]; omega
  have q7b : (ak == 4) = true := by rw [beq_iff_eq]; omega
  have q7c : decide (ak = 4) = true := decide_eq_true (by omega)
  have q8 : ¬ bk = 4 := by omega
  have q8a : (bk != 4) = true := bne_iff_ne.2 q8
  have q8b : (bk == 4) = false := beq_eq_false_iff_ne.2 q8
  have q9a : (bk != 5) = false := by rw [bne_eq_false_iff_eq]; omega
  have q9b : (bk == 5) = true := by rw [beq_iff_eq]; omega
  have q9c : decide (bk = 5) = true := decide_eq_true (by omega)
  have q10 : ¬ ck = 4 := by omega
  have q10a : (ck != 4) = true := bne_iff_ne.2 q10
  have q10b : (ck == 4) = false := beq_eq_false_iff_ne.2 q10
  have q11 : ¬ ck = 5 := by omega
  have q11a : (ck != 5) = true := bne_iff_ne.2 q11
  have q11b : (ck == 5) = false := beq_eq_false_iff_ne.2 q11
  have q12 : ¬ cn = 0 := by omega
  have q12a : (cn != 0) = true := bne_iff_ne.2 q12
  have q12b : (cn == 0) = false := beq_eq_false_iff_ne.2 q12
  clear p1 p2 p3 p4 p5 p6 p7 p8 p9 p10 p11 p12
  go_wp2_with (go_at_call 4; refine (kindAnswers_calls _).mono ?_; rintro e w5 ⟨rfl, hb5⟩)
  all_goals go_ret
  all_goals exact ⟨rfl, hB.out.trans (hb5.mono hB.out.size)⟩
set_option maxRecDepth 100000 in
set_option maxHeartbeats 16000000 in
theorem kindLeast_bad18 (w : World) (cs0 : List Value) (x0 : Ty) (K0 : k_ty.K (· < w.heap.size) w x0 cs0) (cs1 : List Value) (x1 : Ty) (K1 : k_ty.K (· < w.heap.size) w x1 cs1) (cs2 : List Value) (x2 : Ty) (K2 : k_ty.K (· < w.heap.size) w x2 cs2) (p1 : ¬ (x0.kind < 1)) (p2 : ¬ (8 < x0.kind)) (p3 : ¬ (x1.kind < 1)) (p4 : ¬ (8 < x1.kind)) (p5 : ¬ (x2.kind < 1)) (p6 : ¬ (8 < x2.kind)) (p7 : ¬ (¬ x0.kind = 4)) (p8 : ¬ (¬ x1.kind = 4)) (p9 : ¬ x2.kind = 4) (p10 : ¬ x2.kind = 5) (p11 : ¬ x2.n = 0) :
    Calls Try.prog 3 #[.agg cs0.toArray, .agg cs1.toArray, .agg cs2.toArray] w fun e w' => e = .returned (.bool true) ∧ Below w.heap.size w w' := by
  obtain ⟨rfl, _, _⟩ := k_ty_open K0
  obtain ⟨rfl, _, _⟩ := k_ty_open K1
  obtain ⟨rfl, _, _⟩ := k_ty_open K2
  obtain ⟨ak, an⟩ := x0
  obtain ⟨bk, bn⟩ := x1
  obtain ⟨ck, cn⟩ := x2
  simp only at p1 p2 p3 p4 p5 p6 p7 p8 p9 p10 p11 ⊢
  have H1 := Lib.hid p1
  have H2 := Lib.hid p2
  have H3 := Lib.hid p3
  have H4 := Lib.hid p4
  have H5 := Lib.hid p5
  have H6 := Lib.hid p6
  have H7 := Lib.hid p7
  have H8 := Lib.hid p8
  have H9 := Lib.hid p9
  have H10 := Lib.hid p10
  have H11 := Lib.hid p11
  clear p1 p2 p3 p4 p5 p6 p7 p8 p9 p10 p11
  clear K0 K1 K2
  go_enter Try.func3, Try.ntmps3
  go_upto_region 1 with fail
  have hX := blk_alloc (blk_alloc (blk_new w (Obj.cells #[.int .i64 ak, .int .i64 an] 23)) (Obj.cells #[.int .i64 bk, .int .i64 bn] 23)) (Obj.cells #[.int .i64 ck, .int .i64 cn] 23)
  have hY := blk_alloc (blk_new2 w (Obj.cells #[.int .i64 ak, .int .i64 an] 23) (Obj.cells #[.int .i64 bk, .int .i64 bn] 23)) (Obj.cells #[.int .i64 ck, .int .i64 cn] 23)
  have hZ := blk_new3 w (Obj.cells #[.int .i64 ak, .int .i64 an] 23) (Obj.cells #[.int .i64 bk, .int .i64 bn] 23) (Obj.cells #[.int .i64 ck, .int .i64 cn] 23)
  have hB := Lib.hid ((((Below.refl w.heap.size w).alloc (Nat.le_refl _) (Obj.cells #[.int .i64 ak, .int .i64 an] 23)).alloc (by simp) (Obj.cells #[.int .i64 bk, .int .i64 bn] 23)).alloc (by simp <;> omega) (Obj.cells #[.int .i64 ck, .int .i64 cn] 23))
  generalize ((w.alloc (Obj.cells #[.int .i64 ak, .int .i64 an] 23)).alloc (Obj.cells #[.int .i64 bk, .int .i64 bn] 23)).alloc (Obj.cells #[.int .i64 ck, .int .i64 cn] 23) = W at hX hY hZ hB ⊢
  have c0 := blk_cell hX
  have c1 := blk_cell hY
  have c2 := blk_cell hZ
  have HX := Lib.hid hX
  have HY := Lib.hid hY
  have HZ := Lib.hid hZ
  clear hX hY hZ
  have p1 := H1.out
  have p2 := H2.out
  have p3 := H3.out
  have p4 := H4.out
  have p5 := H5.out
  have p6 := H6.out
  have p7 := H7.out
  have p8 := H8.out
  have p9 := H9.out
  have p10 := H10.out
  have p11 := H11.out
  have q1 : decide (ak < 1) = false := decide_eq_false (by omega)
  have q2 : decide (8 < ak) = false := decide_eq_false (by omega)
  have q3 : decide (bk < 1) = false := decide_eq_false (by omega)
  have q4 : decide (8 < bk) = false := decide_eq_false (by omega)
  have q5 : decide (ck < 1) = false := decide_eq_false (by omega)
  have q6 : decide (8 < ck) = false := decide_eq_false (by omega)
  have q7a : (ak != 4) = false := by rw [bne_eq_false_iff_eq]; omega
  have q7b : (ak == 4) = true := by rw [beq_iff_eq]; omega
  have q7c : decide (ak = 4) = true := decide_eq_true (by omega)
  have q8a : (bk != 4) = false := by rw [bne_eq_false_iff_eq]; omega
  have q8b : (bk == 4) = true := by rw [beq_iff_eq]; omega
  have q8c : decide (bk = 4) = true := decide_eq_true (by omega)
  have q9 : ¬ ck = 4 := by omega
  have q9a : (ck != 4) = true := bne_iff_ne.2 q9
  have q9b : (ck == 4) = false := beq_eq_false_iff_ne.2 q9
  have q10 : ¬ ck = 5 := by omega
  have q10a : (ck != 5) = true := bne_iff_ne.2 q10
  have q10b : (ck == 5) = false := beq_eq_false_iff_ne.2 q10
  have q11 : ¬ cn = 0 := by omega
  have q11a : (cn != 0) = true := bne_iff_ne.2 q11
  have q11b : (cn == 0) = false := beq_eq_false_iff_ne.2 q11
  clear p1 p2 p3 p4 p5 p6 p7 p8 p9 p10 p11
  go_wp2_with (go_at_call 4; refine (kindAnswers_calls _).mono ?_; rintro e w5 ⟨rfl, hb5⟩)
  all_goals go_ret
  all_goals exact ⟨rfl, hB.out.trans (hb5.mono hB.out.size)⟩
end Go.Proofs.Ytikidknmfbhilaa
