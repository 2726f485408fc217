/- inst.Args, inst.may and the reference's Args. -/
import Derived.Test.YtjcceabdphkalaaInstPure
import Derived.Test.YtjcceabdphkalaaRefVar
namespace Go.Proofs.Ytjcceabdphkalaa
open Go.RowKit
set_option linter.unusedVariables false
theorem args_calls (w : World) (op : Int) : Calls Try.prog 36 #[.int .i64 op] w fun e w' => e = .returned (.int .i64 (argsN op)) ∧ w' = w := by
  by_cases hin : op = 29 ∨ op = 30 ∨ op = 0 ∨ op = 1 ∨ op = 3 ∨ op = 4 ∨ op = 23 ∨ op = 24 ∨ op = 25 ∨ op = 27 ∨ op = 28
  · rcases hin with rfl | rfl | rfl | rfl | rfl | rfl | rfl | rfl | rfl | rfl | rfl
    all_goals
      go_enter Try.func36, Try.ntmps36
      go_wp2
      go_ret
      exact ⟨rfl, rfl⟩
  · have ha : argsN op = if op < 0 ∨ 42 ≤ op then -1 else 0 := by unfold argsN; rw [if_neg (by omega), if_neg (by omega)]
    have q0 : (op == 29) = false := beq_eq_false_iff_ne.2 (by omega)
    have q1 : (op == 30) = false := beq_eq_false_iff_ne.2 (by omega)
    have q2 : (op == 0) = false := beq_eq_false_iff_ne.2 (by omega)
    have q3 : (op == 1) = false := beq_eq_false_iff_ne.2 (by omega)
    have q4 : (op == 3) = false := beq_eq_false_iff_ne.2 (by omega)
    have q5 : (op == 4) = false := beq_eq_false_iff_ne.2 (by omega)
    have q6 : (op == 23) = false := beq_eq_false_iff_ne.2 (by omega)
    have q7 : (op == 24) = false := beq_eq_false_iff_ne.2 (by omega)
    have q8 : (op == 25) = false := beq_eq_false_iff_ne.2 (by omega)
    have q9 : (op == 27) = false := beq_eq_false_iff_ne.2 (by omega)
    have q10 : (op == 28) = false := beq_eq_false_iff_ne.2 (by omega)
    have hway : op < 0 ∨ (¬ op < 0 ∧ 42 ≤ op) ∨ (¬ op < 0 ∧ ¬ 42 ≤ op) := by omega
    have HA := Lib.hid ha
    clear hin ha
    rcases hway with h | ⟨h1, h2⟩ | ⟨h1, h2⟩
    all_goals
      go_enter Try.func36, Try.ntmps36
      go_wp2
      go_ret
      rw [HA.out]
      first
        | rw [if_pos (by omega)]
        | rw [if_neg (by omega)]
      exact ⟨rfl, rfl⟩
theorem may_calls (w : World) (n : Int) (has : Bool) : Calls Try.prog 59 #[.int .i64 n, .bool has] w fun e w' => e = .returned (.bool (mayN n has)) ∧ w' = w := by
  have hway : n < 0 ∨ (0 ≤ n ∧ 255 < n) ∨ (0 ≤ n ∧ n ≤ 255 ∧ n = 0) ∨ (0 ≤ n ∧ n ≤ 255 ∧ ¬ n = 0) := by omega
  rcases hway with h | ⟨h1, h2⟩ | ⟨h1, h2, rfl⟩ | ⟨h1, h2, h3⟩
  · have hm := Lib.hid (show mayN n has = false by simp [mayN]; omega)
    go_enter Try.func59, Try.ntmps59
    go_wp2
    go_ret
    rw [hm.out]
    exact ⟨rfl, rfl⟩
  · have hm := Lib.hid (show mayN n has = false by simp [mayN]; omega)
    go_enter Try.func59, Try.ntmps59
    go_wp2
    go_ret
    rw [hm.out]
    exact ⟨rfl, rfl⟩
  · cases has
    all_goals
      go_enter Try.func59, Try.ntmps59
      go_wp2
      go_ret
      exact ⟨rfl, rfl⟩
  · have q : (n == 0) = false := beq_eq_false_iff_ne.2 h3
    have hm := Lib.hid (show mayN n has = has by simp [mayN, h1, h2, h3])
    cases has
    all_goals
      go_enter Try.func59, Try.ntmps59
      go_wp2
      go_ret
      rw [hm.out]
      exact ⟨rfl, rfl⟩
def oneL : List Int := [0, 1, 3, 4, 23, 24, 25, 27, 28]
theorem oneL_args : ∀ x ∈ oneL, argsN x = 1 := by decide +kernel
theorem oneL_none {op : Int} (h0 : 0 ≤ op) (h1 : op < 42) (h2 : op ≠ 29) (h3 : op ≠ 30) (h : ∀ j, j < 9 → ∀ x, oneL[j]? = some x → x ≠ op) : argsN op = 0 := by
  have g0 := h 0 (by decide) 0 rfl
  have g1 := h 1 (by decide) 1 rfl
  have g2 := h 2 (by decide) 3 rfl
  have g3 := h 3 (by decide) 4 rfl
  have g4 := h 4 (by decide) 23 rfl
  have g5 := h 5 (by decide) 24 rfl
  have g6 := h 6 (by decide) 25 rfl
  have g7 := h 7 (by decide) 27 rfl
  have g8 := h 8 (by decide) 28 rfl
  unfold argsN
  rw [if_neg (by omega), if_neg (by omega), if_neg (by omega)]
theorem refArgs_calls (w : World) (op : Int) : Calls Try.prog 30 #[.int .i64 op] w fun e w' => e = .returned (.int .i64 (argsN op)) ∧ Below w.heap.size w w' := by
  have hway : op < 0 ∨ (¬ op < 0 ∧ 42 ≤ op) ∨ op = 29 ∨ op = 30 ∨ (¬ op < 0 ∧ ¬ 42 ≤ op ∧ op ≠ 29 ∧ op ≠ 30) := by omega
  rcases hway with h | ⟨h1, h2⟩ | rfl | rfl | ⟨h1, h2, h3, h4⟩
  · have hm := Lib.hid (show argsN op = -1 by unfold argsN; rw [if_neg (by omega), if_neg (by omega), if_pos (by omega)])
    go_enter Try.func30, Try.ntmps30
    go_wp2
    go_ret
    rw [hm.out]
    exact ⟨rfl, Below.refl _ _⟩
  · have hm := Lib.hid (show argsN op = -1 by unfold argsN; rw [if_neg (by omega), if_neg (by omega), if_pos (by omega)])
    go_enter Try.func30, Try.ntmps30
    go_wp2
    go_ret
    rw [hm.out]
    exact ⟨rfl, Below.refl _ _⟩
  · go_enter Try.func30, Try.ntmps30
    go_wp2
    go_ret
    exact ⟨rfl, Below.refl _ _⟩
  · go_enter Try.func30, Try.ntmps30
    go_wp2
    go_ret
    exact ⟨rfl, Below.refl _ _⟩
  · have q0 : (op == 29) = false := beq_eq_false_iff_ne.2 h3
    have q1 : (op == 30) = false := beq_eq_false_iff_ne.2 h4
    go_enter Try.func30, Try.ntmps30
    go_wp2
    have hblk := Lib.hid (blk_new w (.cells (oneL.map (Value.int .i64)).toArray 3))
    go_loop [4] (fun i => ∃ k : Nat, k ≤ 9 ∧ i = .int .i64 k ∧ Hid (∀ j, j < k → ∀ x, oneL[j]? = some x → x ≠ op)) (fun i => 9 - (intOf i).toNat)
    case atStart => exact ⟨0, by omega, rfl, Lib.hid (fun j hj => absurd hj (by omega))⟩
    case round =>
      obtain ⟨k, hk, rfl, HN⟩ := hrel
      by_cases hlt : k < 9
      · obtain ⟨x, hx⟩ : ∃ x, oneL[k]? = some x := ⟨_, List.getElem?_eq_getElem (show k < oneL.length from hlt)⟩
        have hcell : (w.alloc (.cells #[.int .i64 0, .int .i64 1, .int .i64 3, .int .i64 4, .int .i64 23, .int .i64 24, .int .i64 25, .int .i64 27, .int .i64 28] 3)).cell? ⟨w.heap.size, k, none⟩ = some (.int .i64 x) := by
          refine (blk_cell hblk.out k).trans ?_
          show ((oneL.map (Value.int .i64)).toArray)[k]? = _
          rw [List.getElem?_toArray, List.getElem?_map, hx]
          rfl
        have HX := Lib.hid hx
        clear hx
        by_cases he : x = op
        · subst he
          have hm := Lib.hid (oneL_args x (List.mem_of_getElem? HX.out))
          go_wp2
          go_ret
          rw [hm.out]
          exact ⟨rfl, (Below.refl _ _).alloc (Nat.le_refl _) _⟩
        · have q : (x == op) = false := beq_eq_false_iff_ne.2 he
          have HE := Lib.hid he
          clear he
          go_wp2
          go_round
          case rel => exact ⟨k + 1, by omega, by go_num, Lib.hid (fun j hj y hy => by
            by_cases hjk : j = k
            · subst hjk; rw [HX.out] at hy; cases hy; exact HE.out
            · exact HN.out j (by omega) y hy)⟩
          case measure => simp [intOf]; omega
      · obtain rfl : k = 9 := by omega
        have hm := Lib.hid (oneL_none (op := op) (by omega) (by omega) h3 h4 HN.out)
        go_wp2
        go_ret
        rw [hm.out]
        exact ⟨rfl, (Below.refl _ _).alloc (Nat.le_refl _) _⟩
end Go.Proofs.Ytjcceabdphkalaa
