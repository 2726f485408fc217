/- The walk of KindLeast: what may be, the first one of kind 1 of three. Printed by gen_kl.py of this repo. -/
import Derived.Test.YtikidknmfbhilaaKlPure
import Derived.Test.YtikidknmfbhilaaKlLem
import Derived.Lib.QuietBelow
import Derived.BigQuiet
import Derived.Deep.DeepCutAuto
namespace Go.Proofs.Ytikidknmfbhilaa
open Go.RowKit Go.Sort
set_option linter.unusedVariables false
attribute [local irreducible] sub join good isRef
set_option maxRecDepth 100000 in
set_option maxHeartbeats 16000000 in
theorem kindLeast_good1 (w : World) (cs0 : List Value) (x0 : Ty) (K0 : k_ty.K (· < w.heap.size) w x0 cs0) (cs1 : List Value) (x1 : Ty) (K1 : k_ty.K (· < w.heap.size) w x1 cs1) (cs2 : List Value) (x2 : Ty) (K2 : k_ty.K (· < w.heap.size) w x2 cs2) (ha : x0.kind = 4) (oa0 : okT x0.kind x0.n) (ob0 : okT x1.kind x1.n) (oc0 : okT x2.kind x2.n) :
    Calls Try.prog 3 #[.agg cs0.toArray, .agg cs1.toArray, .agg cs2.toArray] w fun e w' => e = .returned (.bool true) ∧ Below w.heap.size w w' := by
  obtain ⟨rfl, _, _⟩ := k_ty_open K0
  obtain ⟨rfl, _, _⟩ := k_ty_open K1
  obtain ⟨rfl, _, _⟩ := k_ty_open K2
  obtain ⟨ak, an⟩ := x0
  obtain ⟨bk, bn⟩ := x1
  obtain ⟨ck, cn⟩ := x2
  simp only at ha oa0 ob0 oc0 ⊢
  have Ha := Lib.hid ha
  clear ha
  clear K0 K1 K2
  go_enter Try.func3, Try.ntmps3
  go_upto_region 1 with fail
  have hX := blk_alloc (blk_alloc (blk_new w (Obj.cells #[.int .i64 ak, .int .i64 an] 23)) (Obj.cells #[.int .i64 bk, .int .i64 bn] 23)) (Obj.cells #[.int .i64 ck, .int .i64 cn] 23)
  have hY := blk_alloc (blk_new2 w (Obj.cells #[.int .i64 ak, .int .i64 an] 23) (Obj.cells #[.int .i64 bk, .int .i64 bn] 23)) (Obj.cells #[.int .i64 ck, .int .i64 cn] 23)
  have hZ := blk_new3 w (Obj.cells #[.int .i64 ak, .int .i64 an] 23) (Obj.cells #[.int .i64 bk, .int .i64 bn] 23) (Obj.cells #[.int .i64 ck, .int .i64 cn] 23)
  have hB := Lib.hid ((((Below.refl w.heap.size w).alloc (Nat.le_refl _) (Obj.cells #[.int .i64 ak, .int .i64 an] 23)).alloc (by simp) (Obj.cells #[.int .i64 bk, .int .i64 bn] 23)).alloc (by simp <;> omega) (Obj.cells #[.int .i64 ck, .int .i64 cn] 23))
  generalize ((w.alloc (Obj.cells #[.int .i64 ak, .int .i64 an] 23)).alloc (Obj.cells #[.int .i64 bk, .int .i64 bn] 23)).alloc (Obj.cells #[.int .i64 ck, .int .i64 cn] 23) = W at hX hY hZ hB ⊢
  have c0 := blk_cell hX
  have c1 := blk_cell hY
  have c2 := blk_cell hZ
  have HX := Lib.hid hX
  have HY := Lib.hid hY
  have HZ := Lib.hid hZ
  clear hX hY hZ
  have Oa := Lib.hid oa0
  have Ob := Lib.hid ob0
  have Oc := Lib.hid oc0
  unfold okT at oa0 ob0 oc0
  go_cut [80] (fun s80 w' => w' = W ∧ s80 = .bool false)
  case first =>
    by_cases p1 : ¬ bk = 4
    · by_cases p2 : ¬ bk = 5
      · by_cases p3 : ¬ bn = 0
        · exfalso
          omega
        · by_cases p4 : ¬ ck = 4
          · by_cases p5 : ¬ ck = 5
            · by_cases p6 : ¬ cn = 0
              · exfalso
                omega
              · have ha := Ha.out
                have q1 : decide (ak < 1) = false := decide_eq_false (by omega)
                have q2 : decide (8 < ak) = false := decide_eq_false (by omega)
                have q3 : decide (bk < 1) = false := decide_eq_false (by omega)
                have q4 : decide (8 < bk) = false := decide_eq_false (by omega)
                have q5 : decide (ck < 1) = false := decide_eq_false (by omega)
                have q6 : decide (8 < ck) = false := decide_eq_false (by omega)
                have q7a : (ak != 4) = false := by rw [bne_eq_false_iff_eq]; omega
                have q7b : (ak == 4) = true := by rw [beq_iff_eq]; omega
                have q7c : decide (ak = 4) = true := decide_eq_true (by omega)
                have q8 : ¬ bk = 4 := by omega
                have q8a : (bk != 4) = true := bne_iff_ne.2 q8
                have q8b : (bk == 4) = false := beq_eq_false_iff_ne.2 q8
                have q9 : ¬ bk = 5 := by omega
                have q9a : (bk != 5) = true := bne_iff_ne.2 q9
                have q9b : (bk == 5) = false := beq_eq_false_iff_ne.2 q9
                have q10a : (bn != 0) = false := by rw [bne_eq_false_iff_eq]; omega
                have q10b : (bn == 0) = true := by rw [beq_iff_eq]; omega
                have q10c : decide (bn = 0) = true := decide_eq_true (by omega)
                have q11 : ¬ ck = 4 := by omega
                have q11a : (ck != 4) = true := bne_iff_ne.2 q11
                have q11b : (ck == 4) = false := beq_eq_false_iff_ne.2 q11
                have q12 : ¬ ck = 5 := by omega
                have q12a : (ck != 5) = true := bne_iff_ne.2 q12
                have q12b : (ck == 5) = false := beq_eq_false_iff_ne.2 q12
                have q13a : (cn != 0) = false := by rw [bne_eq_false_iff_eq]; omega
                have q13b : (cn == 0) = true := by rw [beq_iff_eq]; omega
                have q13c : decide (cn = 0) = true := decide_eq_true (by omega)
                clear ha oa0 ob0 oc0 p1 p2 p3 p4 p5 p6
                go_wp2_with fail
                all_goals go_meet
                exact ⟨rfl, rfl⟩
            · have ha := Ha.out
              have q1 : decide (ak < 1) = false := decide_eq_false (by omega)
              have q2 : decide (8 < ak) = false := decide_eq_false (by omega)
              have q3 : decide (bk < 1) = false := decide_eq_false (by omega)
              have q4 : decide (8 < bk) = false := decide_eq_false (by omega)
              have q5 : decide (ck < 1) = false := decide_eq_false (by omega)
              have q6 : decide (8 < ck) = false := decide_eq_false (by omega)
              have q7a : (ak != 4) = false := by rw [bne_eq_false_iff_eq]; omega
              have q7b : (ak == 4) = true := by rw [beq_iff_eq]; omega
              have q7c : decide (ak = 4) = true := decide_eq_true (by omega)
              have q8 : ¬ bk = 4 := by omega
              have q8a : (bk != 4) = true := bne_iff_ne.2 q8
              have q8b : (bk == 4) = false := beq_eq_false_iff_ne.2 q8
              have q9 : ¬ bk = 5 := by omega
              have q9a : (bk != 5) = true := bne_iff_ne.2 q9
              have q9b : (bk == 5) = false := beq_eq_false_iff_ne.2 q9
              have q10a : (bn != 0) = false := by rw [bne_eq_false_iff_eq]; omega
              have q10b : (bn == 0) = true := by rw [beq_iff_eq]; omega
              have q10c : decide (bn = 0) = true := decide_eq_true (by omega)
              have q11 : ¬ ck = 4 := by omega
              have q11a : (ck != 4) = true := bne_iff_ne.2 q11
              have q11b : (ck == 4) = false := beq_eq_false_iff_ne.2 q11
              have q12a : (ck != 5) = false := by rw [bne_eq_false_iff_eq]; omega
              have q12b : (ck == 5) = true := by rw [beq_iff_eq]; omega
              have q12c : decide (ck = 5) = true := decide_eq_true (by omega)
              clear ha oa0 ob0 oc0 p1 p2 p3 p4 p5
              go_wp2_with fail
              all_goals go_meet
              exact ⟨rfl, rfl⟩
          · have ha := Ha.out
            have q1 : decide (ak < 1) = false := decide_eq_false (by omega)
            have q2 : decide (8 < ak) = false := decide_eq_false (by omega)
            have q3 : decide (bk < 1) = false := decide_eq_false (by omega)
            have q4 : decide (8 < bk) = false := decide_eq_false (by omega)
            have q5 : decide (ck < 1) = false := decide_eq_false (by omega)
            have q6 : decide (8 < ck) = false := decide_eq_false (by omega)
            have q7a : (ak != 4) = false := by rw [bne_eq_false_iff_eq]; omega
            have q7b : (ak == 4) = true := by rw [beq_iff_eq]; omega
            have q7c : decide (ak = 4) = true := decide_eq_true (by omega)
            have q8 : ¬ bk = 4 := by omega
            have q8a : (bk != 4) = true := bne_iff_ne.2 q8
            have q8b : (bk == 4) = false := beq_eq_false_iff_ne.2 q8
            have q9 : ¬ bk = 5 := by omega
            have q9a : (bk != 5) = true := bne_iff_ne.2 q9
            have q9b : (bk == 5) = false := beq_eq_false_iff_ne.2 q9
            have q10a : (bn != 0) = false := by rw [bne_eq_false_iff_eq]; omega
            have q10b : (bn == 0) = true := by rw [beq_iff_eq]; omega
            have q10c : decide (bn = 0) = true := decide_eq_true (by omega)
            have q11a : (ck != 4) = false := by rw [bne_eq_false_iff_eq]; omega
            have q11b : (ck == 4) = true := by rw [beq_iff_eq]; omega
            have q11c : decide (ck = 4) = true := decide_eq_true (by omega)
            clear ha oa0 ob0 oc0 p1 p2 p3 p4
            go_wp2_with fail
            all_goals go_meet
            exact ⟨rfl, rfl⟩
      · by_cases p3 : ¬ ck = 4
        · by_cases p4 : ¬ ck = 5
          · by_cases p5 : ¬ cn = 0
            · exfalso
              omega
            · have ha := Ha.out
              have q1 : decide (ak < 1) = false := decide_eq_false (by omega)
              have q2 : decide (8 < ak) = false := decide_eq_false (by omega)
              have q3 : decide (bk < 1) = false := decide_eq_false (by omega)
              have q4 : decide (8 < bk) = false := decide_eq_false (by omega)
              have q5 : decide (ck < 1) = false := decide_eq_false (by omega)
              have q6 : decide (8 < ck) = false := decide_eq_false (by omega)
              have q7a : (ak != 4) = false := by rw [bne_eq_false_iff_eq]; omega
              have q7b : (ak == 4) = true := by rw [beq_iff_eq]; omega
              have q7c : decide (ak = 4) = true := decide_eq_true (by omega)
              have q8 : ¬ bk = 4 := by omega
              have q8a : (bk != 4) = true := bne_iff_ne.2 q8
              have q8b : (bk == 4) = false := beq_eq_false_iff_ne.2 q8
              have q9a : (bk != 5) = false := by rw [bne_eq_false_iff_eq]; omega
              have q9b : (bk == 5) = true := by rw [beq_iff_eq]; omega
              have q9c : decide (bk = 5) = true := decide_eq_true (by omega)
              have q10 : ¬ ck = 4 := by omega
              have q10a : (ck != 4) = true := bne_iff_ne.2 q10
              have q10b : (ck == 4) = false := beq_eq_false_iff_ne.2 q10
              have q11 : ¬ ck = 5 := by omega
              have q11a : (ck != 5) = true := bne_iff_ne.2 q11
              have q11b : (ck == 5) = false := beq_eq_false_iff_ne.2 q11
              have q12a : (cn != 0) = false := by rw [bne_eq_false_iff_eq]; omega
              have q12b : (cn == 0) = true := by rw [beq_iff_eq]; omega
              have q12c : decide (cn = 0) = true := decide_eq_true (by omega)
              clear ha oa0 ob0 oc0 p1 p2 p3 p4 p5
              go_wp2_with fail
              all_goals go_meet
              exact ⟨rfl, rfl⟩
          · have ha := Ha.out
            have q1 : decide (ak < 1) = false := decide_eq_false (by omega)
            have q2 : decide (8 < ak) = false := decide_eq_false (by omega)
            have q3 : decide (bk < 1) = false := decide_eq_false (by omega)
            have q4 : decide (8 < bk) = false := decide_eq_false (by omega)
            have q5 : decide (ck < 1) = false := decide_eq_false (by omega)
            have q6 : decide (8 < ck) = false := decide_eq_false (by omega)
            have q7a : (ak != 4) = false := by rw [bne_eq_false_iff_eq]; omega
            have q7b : (ak == 4) = true := by rw [beq_iff_eq]; omega
            have q7c : decide (ak = 4) = true := decide_eq_true (by omega)
            have q8 : ¬ bk = 4 := by omega
            have q8a : (bk != 4) = true := bne_iff_ne.2 q8
            have q8b : (bk == 4) = false := beq_eq_false_iff_ne.2 q8
            have q9a : (bk != 5) = false := by rw [bne_eq_false_iff_eq]; omega
            have q9b : (bk == 5) = true := by rw [beq_iff_eq]; omega
            have q9c : decide (bk = 5) = true := decide_eq_true (by omega)
            have q10 : ¬ ck = 4 := by omega
            have q10a : (ck != 4) = true := bne_iff_ne.2 q10
            have q10b : (ck == 4) = false := beq_eq_false_iff_ne.2 q10
            have q11a : (ck != 5) = false := by rw [bne_eq_false_iff_eq]; omega
            have q11b : (ck == 5) = true := by rw [beq_iff_eq]; omega
            have q11c : decide (ck = 5) = true := decide_eq_true (by omega)
            clear ha oa0 ob0 oc0 p1 p2 p3 p4
            go_wp2_with fail
            all_goals go_meet
            exact ⟨rfl, rfl⟩
        · have ha := Ha.out
          have q1 : decide (ak < 1) = false := decide_eq_false (by omega)
          have q2 : decide (8 < ak) = false := decide_eq_false (by omega)
          have q3 : decide (bk < 1) = false := decide_eq_false (by omega)
          have q4 : decide (8 < bk) = false := decide_eq_false (by omega)
          have q5 : decide (ck < 1) = false := decide_eq_false (by omega)
          have q6 : decide (8 < ck) = false := decide_eq_false (by omega)
          have q7a : (ak != 4) = false := by rw [bne_eq_false_iff_eq]; omega
          have q7b : (ak == 4) = true := by rw [beq_iff_eq]; omega
          have q7c : decide (ak = 4) = true := decide_eq_true (by omega)
          have q8 : ¬ bk = 4 := by omega
          have q8a : (bk != 4) = true := bne_iff_ne.2 q8
          have q8b : (bk == 4) = false := beq_eq_false_iff_ne.2 q8
          have q9a : (bk != 5) = false := by rw [bne_eq_false_iff_eq]; omega
          have q9b : (bk == 5) = true := by rw [beq_iff_eq]; omega
          have q9c : decide (bk = 5) = true := decide_eq_true (by omega)
          have q10a : (ck != 4) = false := by rw [bne_eq_false_iff_eq]; omega
          have q10b : (ck == 4) = true := by rw [beq_iff_eq]; omega
          have q10c : decide (ck = 4) = true := decide_eq_true (by omega)
          clear ha oa0 ob0 oc0 p1 p2 p3
          go_wp2_with fail
          all_goals go_meet
          exact ⟨rfl, rfl⟩
    · by_cases p2 : ¬ ck = 4
      · by_cases p3 : ¬ ck = 5
        · by_cases p4 : ¬ cn = 0
          · exfalso
            omega
          · have ha := Ha.out
            have q1 : decide (ak < 1) = false := decide_eq_false (by omega)
            have q2 : decide (8 < ak) = false := decide_eq_false (by omega)
            have q3 : decide (bk < 1) = false := decide_eq_false (by omega)
            have q4 : decide (8 < bk) = false := decide_eq_false (by omega)
            have q5 : decide (ck < 1) = false := decide_eq_false (by omega)
            have q6 : decide (8 < ck) = false := decide_eq_false (by omega)
            have q7a : (ak != 4) = false := by rw [bne_eq_false_iff_eq]; omega
            have q7b : (ak == 4) = true := by rw [beq_iff_eq]; omega
            have q7c : decide (ak = 4) = true := decide_eq_true (by omega)
            have q8a : (bk != 4) = false := by rw [bne_eq_false_iff_eq]; omega
            have q8b : (bk == 4) = true := by rw [beq_iff_eq]; omega
            have q8c : decide (bk = 4) = true := decide_eq_true (by omega)
            have q9 : ¬ ck = 4 := by omega
            have q9a : (ck != 4) = true := bne_iff_ne.2 q9
            have q9b : (ck == 4) = false := beq_eq_false_iff_ne.2 q9
            have q10 : ¬ ck = 5 := by omega
            have q10a : (ck != 5) = true := bne_iff_ne.2 q10
            have q10b : (ck == 5) = false := beq_eq_false_iff_ne.2 q10
            have q11a : (cn != 0) = false := by rw [bne_eq_false_iff_eq]; omega
            have q11b : (cn == 0) = true := by rw [beq_iff_eq]; omega
            have q11c : decide (cn = 0) = true := decide_eq_true (by omega)
            clear ha oa0 ob0 oc0 p1 p2 p3 p4
            go_wp2_with fail
            all_goals go_meet
            exact ⟨rfl, rfl⟩
        · have ha := Ha.out
          have q1 : decide (ak < 1) = false := decide_eq_false (by omega)
          have q2 : decide (8 < ak) = false := decide_eq_false (by omega)
          have q3 : decide (bk < 1) = false := decide_eq_false (by omega)
          have q4 : decide (8 < bk) = false := decide_eq_false (by omega)
          have q5 : decide (ck < 1) = false := decide_eq_false (by omega)
          have q6 : decide (8 < ck) = false := decide_eq_false (by omega)
          have q7a : (ak != 4) = false := by rw [bne_eq_false_iff_eq]; omega
          have q7b : (ak == 4) = true := by rw [beq_iff_eq]; omega
          have q7c : decide (ak = 4) = true := decide_eq_true (by omega)
          have q8a : (bk != 4) = false := by rw [bne_eq_false_iff_eq]; omega
          have q8b : (bk == 4) = true := by rw [beq_iff_eq]; omega
          have q8c : decide (bk = 4) = true := decide_eq_true (by omega)
          have q9 : ¬ ck = 4 := by omega
          have q9a : (ck != 4) = true := bne_iff_ne.2 q9
          have q9b : (ck == 4) = false := beq_eq_false_iff_ne.2 q9
          have q10a : (ck != 5) = false := by rw [bne_eq_false_iff_eq]; omega
          have q10b : (ck == 5) = true := by rw [beq_iff_eq]; omega
          have q10c : decide (ck = 5) = true := decide_eq_true (by omega)
          clear ha oa0 ob0 oc0 p1 p2 p3
          go_wp2_with fail
          all_goals go_meet
          exact ⟨rfl, rfl⟩
      · have ha := Ha.out
        have q1 : decide (ak < 1) = false := decide_eq_false (by omega)
        have q2 : decide (8 < ak) = false := decide_eq_false (by omega)
        have q3 : decide (bk < 1) = false := decide_eq_false (by omega)
        have q4 : decide (8 < bk) = false := decide_eq_false (by omega)
        have q5 : decide (ck < 1) = false := decide_eq_false (by omega)
        have q6 : decide (8 < ck) = false := decide_eq_false (by omega)
        have q7a : (ak != 4) = false := by rw [bne_eq_false_iff_eq]; omega
        have q7b : (ak == 4) = true := by rw [beq_iff_eq]; omega
        have q7c : decide (ak = 4) = true := decide_eq_true (by omega)
        have q8a : (bk != 4) = false := by rw [bne_eq_false_iff_eq]; omega
        have q8b : (bk == 4) = true := by rw [beq_iff_eq]; omega
        have q8c : decide (bk = 4) = true := decide_eq_true (by omega)
        have q9a : (ck != 4) = false := by rw [bne_eq_false_iff_eq]; omega
        have q9b : (ck == 4) = true := by rw [beq_iff_eq]; omega
        have q9c : decide (ck = 4) = true := decide_eq_true (by omega)
        clear ha oa0 ob0 oc0 p1 p2
        go_wp2_with fail
        all_goals go_meet
        exact ⟨rfl, rfl⟩
  case rest =>
    obtain ⟨rfl, rfl⟩ := hcut
    have oa := Oa.out
    have ob := Ob.out
    have oc := Oc.out
    clear oa0 ob0 oc0
    obtain ⟨jk, jn, hj⟩ : ∃ jk jn, join ⟨ak, an⟩ ⟨bk, bn⟩ = ⟨jk, jn⟩ := ⟨_, _, rfl⟩
    have EJ1 := Lib.hid hj
    have EJ2 := Lib.hid (show join ⟨bk, bn⟩ ⟨ak, an⟩ = ⟨jk, jn⟩ by rw [← join_comm_ok (a := ⟨ak, an⟩) (b := ⟨bk, bn⟩) oa ob]; exact hj)
    have EJ3 := Lib.hid (join_refl ⟨ak, an⟩)
    have ES1 := Lib.hid (show sub ⟨ak, an⟩ ⟨jk, jn⟩ = true by rw [← hj]; exact sub_join_left)
    have ES2 := Lib.hid (show sub ⟨bk, bn⟩ ⟨jk, jn⟩ = true by rw [← hj]; exact sub_join_right)
    have hS : ∃ s1 s2 s3, Hid (sub ⟨ak, an⟩ ⟨ck, cn⟩ = s1) ∧ Hid (sub ⟨bk, bn⟩ ⟨ck, cn⟩ = s2) ∧ Hid (sub ⟨jk, jn⟩ ⟨ck, cn⟩ = s3) ∧ ((s1 = false) ∨ (s1 = true ∧ s2 = false) ∨ (s1 = true ∧ s2 = true ∧ s3 = true)) := by
      refine ⟨_, _, _, Lib.hid rfl, Lib.hid rfl, Lib.hid rfl, ?_⟩
      cases h1 : sub ⟨ak, an⟩ ⟨ck, cn⟩ with
      | false => exact .inl rfl
      | true =>
        cases h2 : sub ⟨bk, bn⟩ ⟨ck, cn⟩ with
        | false => exact .inr (.inl ⟨rfl, rfl⟩)
        | true => exact .inr (.inr ⟨rfl, rfl, by rw [← hj]; exact join_least (a := ⟨ak, an⟩) (b := ⟨bk, bn⟩) (c := ⟨ck, cn⟩) oa ob oc h1 h2⟩)
    obtain ⟨s1, s2, s3, ES3, ES4, ES5, hway⟩ := hS
    clear oa ob oc hj
    rcases hway with rfl | ⟨rfl, rfl⟩ | ⟨rfl, rfl, rfl⟩
    all_goals
      go_upto_region 4 with (go_at_call 5; refine (join_any _ _ _ _ _).mono ?_; rintro e w1 ⟨he, hb1⟩; obtain rfl := he.trans (ret_join EJ1.out); clear he; have HX1 := Lib.hid (blk_alloc (blk_below HX.out hb1 (blk_lt HX.out)) (Obj.cells #[.int .i64 jk, .int .i64 jn] 23)); have HY1 := Lib.hid (blk_alloc (blk_below HY.out hb1 (blk_lt HY.out)) (Obj.cells #[.int .i64 jk, .int .i64 jn] 23)); have HZ1 := Lib.hid (blk_alloc (blk_below HZ.out hb1 (blk_lt HZ.out)) (Obj.cells #[.int .i64 jk, .int .i64 jn] 23)); have HJ := Lib.hid (blk_new w1 (Obj.cells #[.int .i64 jk, .int .i64 jn] 23)); have hB1 := hB.out.trans (hb1.mono hB.out.size); have HB1 := Lib.hid (hB1.alloc hB1.size (Obj.cells #[.int .i64 jk, .int .i64 jn] 23)); clear hb1 hB1)
      generalize w1.alloc (Obj.cells #[.int .i64 jk, .int .i64 jn] 23) = V at HX1 HY1 HZ1 HJ HB1 ⊢
      clear c0 c1 c2 HX HY HZ
      have r0 := cell_regrown (blk_cell HX1.out 0 : _ = some (Value.int .i64 ak))
      have r1 := cell_regrown (blk_cell HX1.out 1 : _ = some (Value.int .i64 an))
      have r2 := cell_regrown (blk_cell HY1.out 0 : _ = some (Value.int .i64 bk))
      have r3 := cell_regrown (blk_cell HY1.out 1 : _ = some (Value.int .i64 bn))
      have r4 := cell_regrown (blk_cell HZ1.out 0 : _ = some (Value.int .i64 ck))
      have r5 := cell_regrown (blk_cell HZ1.out 1 : _ = some (Value.int .i64 cn))
      have r6 := cell_regrown (blk_cell HJ.out 0 : _ = some (Value.int .i64 jk))
      have r7 := cell_regrown (blk_cell HJ.out 1 : _ = some (Value.int .i64 jn))
      have KA := Lib.hid (fun W => kindAnswers_calls W)
      have KJ2 := Lib.hid (fun W => join_at W bk bn ak an jk jn EJ2.out)
      have KJ3 := Lib.hid (fun W => join_at W ak an ak an ak an EJ3.out)
      have KS1 := Lib.hid (fun W => sub_at W ak an jk jn _ ES1.out)
      have KS2 := Lib.hid (fun W => sub_at W bk bn jk jn _ ES2.out)
      have KS3 := Lib.hid (fun W => sub_at W ak an ck cn _ ES3.out)
      have KS4 := Lib.hid (fun W => sub_at W bk bn ck cn _ ES4.out)
      have KS5 := Lib.hid (fun W => sub_at W jk jn ck cn _ ES5.out)
      go_wp2_with fail
      refine wp_region_quiet_below (by kernel_rfl) (by kernel_rfl) ?_
      repeat (first | go_big_quiet_step (first | with_reducible exact calls_regrown KA.out _ _ | with_reducible exact calls_regrown KJ2.out _ _ | with_reducible exact calls_regrown KJ3.out _ _ | with_reducible exact calls_regrown KS1.out _ _ | with_reducible exact calls_regrown KS2.out _ _ | with_reducible exact calls_regrown KS3.out _ _ | with_reducible exact calls_regrown KS4.out _ _ | with_reducible exact calls_regrown KS5.out _ _) | quiet_step (first | with_reducible exact calls_regrown KA.out _ _ | with_reducible exact calls_regrown KJ2.out _ _ | with_reducible exact calls_regrown KJ3.out _ _ | with_reducible exact calls_regrown KS1.out _ _ | with_reducible exact calls_regrown KS2.out _ _ | with_reducible exact calls_regrown KS3.out _ _ | with_reducible exact calls_regrown KS4.out _ _ | with_reducible exact calls_regrown KS5.out _ _))
      refine wpQuiet_nil ?_
      intro _ hw'
      obtain ⟨⟨dq, osq⟩, hw''⟩ := hw'
      subst hw''
      clear r0 r1 r2 r3 r4 r5 r6 r7
      have HBq := Lib.hid (HB1.out.trans ((below_regrown V dq osq).mono HB1.out.size))
      generalize grow (redrawn V dq) osq = wq at *
      go_wp2
      go_ret
      exact ⟨rfl, HBq.out⟩
end Go.Proofs.Ytikidknmfbhilaa
