/- The walks of the laws on arith that the reference has no part in. -/
import Derived.Test.YtdgeofeijgflcaaArith
namespace Go.Proofs.Ytdgeofeijgflcaa
open Go.RowKit
set_option linter.unusedVariables false
theorem do_eq (w : World) (op a b x y : Int) (ok : Bool) (ha : 0 ≤ a ∧ a ≤ 18446744073709551615) (hb : 0 ≤ b ∧ b ≤ 18446744073709551615) (h : arithD op a b = ⟨x, y, ok⟩) : Calls Try.prog 15 #[.int .i64 op, .int .u64 a, .int .u64 b] w fun e w' => e = .returned (.tuple #[.int .u64 x, .int .u64 y, .bool ok]) ∧ w' = w :=
  (do_calls w op a b ha hb).mono fun e w' h2 => by rw [h] at h2; exact h2
theorem did1 : arithD 22 65536 65536 = ⟨18446744073709551615, 0, true⟩ := by kernel_rfl
theorem did2 : arithD 8 2 3 = ⟨5, 0, true⟩ := by kernel_rfl
theorem didAdd (a b : Int) : arithD 8 a b = ⟨IntKind.u64.wrap (a + b), 0, true⟩ := rfl
theorem didSub (a b : Int) : arithD 9 a b = ⟨IntKind.u64.wrap (a - b), 0, true⟩ := rfl
theorem didShl (a b : Int) : arithD 16 a b = ⟨IntKind.u64.wrap (a * 2 ^ (b % 64).toNat), 0, true⟩ := rfl
theorem didShr (a b : Int) : arithD 17 a b = ⟨a / 2 ^ (b % 64).toNat, 0, true⟩ := rfl
theorem didAdd32 (a b : Int) : arithD 18 a b = ⟨(a + b) % 4294967296, 0, true⟩ := rfl
theorem didMul32 (a b : Int) : arithD 19 a b = ⟨a % 4294967296 * (b % 4294967296) % 4294967296, 0, true⟩ := rfl
theorem didEq (a b : Int) : arithD 20 a b = ⟨if a = b then 1 else 0, 0, true⟩ := rfl
theorem didLt (a b : Int) : arithD 21 a b = ⟨if a < b then 1 else 0, 0, true⟩ := rfl
theorem didTwist (a b : Int) : arithD 22 a b = ⟨twX a b, twY a b, true⟩ := rfl
theorem didDiv (a b : Int) (h : ¬ b = 0) : arithD 11 a b = ⟨a / b, 0, true⟩ := by simp [arithD, arithS, divOf, h]
theorem didRem (a b : Int) (h : ¬ b = 0) : arithD 12 a b = ⟨a % b, 0, true⟩ := by simp [arithD, arithS, divOf, h]
theorem didDiv0 (a : Int) : arithD 11 a 0 = ⟨0, 0, false⟩ := rfl
theorem didRem0 (a : Int) : arithD 12 a 0 = ⟨0, 0, false⟩ := rfl
theorem u64_b (n : Int) : 0 ≤ IntKind.u64.wrap n ∧ IntKind.u64.wrap n ≤ 18446744073709551615 := bounds_u64 (wf_wrap .u64 n)
attribute [local irreducible] arithD
theorem arithAnswers_calls (w : World) : Calls Try.prog 17 #[] w fun e w' => e = .returned (.bool true) ∧ w' = w := by
  go_enter Try.func17, Try.ntmps17
  go_wp2_with (go_at_call 15; refine (do_calls _ _ _ _ (by omega) (by omega)).mono ?_; rintro e w1 ⟨he, rfl⟩; (first | rw [did1] at he | rw [did2] at he); subst he)
  go_ret
  exact ⟨rfl, rfl⟩

theorem arithRound_walk (w : World) (a : Int) (w0 : (Lit.int .u64 a).wf = true) (b : Int) (w1 : (Lit.int .u64 b).wf = true) :
    Calls Try.prog 4 #[.int .u64 a, .int .u64 b] w fun e w' => e = .returned (.bool true) ∧ Below w.heap.size w w' := by
  have ha := bounds_u64 w0
  have hb := bounds_u64 w1
  have hs := u64_b (a + b)
  have hd : IntKind.u64.wrap (IntKind.u64.wrap (a + b) - b) = a := by rw [IntKind.wrap_u64, IntKind.wrap_u64]; omega
  by_cases h0 : b = 0
  · subst h0
    go_enter Try.func4, Try.ntmps4
    go_wp2_with (first
      | (go_at_call 15; refine (do_calls _ _ _ _ (by assumption) (by assumption)).mono ?_; rintro e w1 ⟨he, rfl⟩; (first | rw [didAdd] at he | rw [didSub] at he | rw [didDiv0] at he | rw [didRem0] at he); subst he)
      | (go_at_call 17; refine (arithAnswers_calls _).mono ?_; rintro e w1 ⟨rfl, rfl⟩))
    go_ret
    exact ⟨rfl, Below.refl _ _⟩
  · have hq : IntKind.u64.wrap (IntKind.u64.wrap (a / b * b) + a % b) = a := by
      have h1 := Int.mul_ediv_add_emod a b
      have h2 : a / b * b = b * (a / b) := Int.mul_comm _ _
      rw [IntKind.wrap_u64, IntKind.wrap_u64, h2]
      omega
    have hr : a % b < b := Int.emod_lt_of_pos _ (by omega)
    go_enter Try.func4, Try.ntmps4
    go_wp2_with (first
      | (go_at_call 15; refine (do_calls _ _ _ _ (by assumption) (by assumption)).mono ?_; rintro e w1 ⟨he, rfl⟩; (first | rw [didAdd] at he | rw [didSub] at he | rw [didDiv _ _ h0] at he | rw [didRem _ _ h0] at he); subst he)
      | (go_at_call 17; refine (arithAnswers_calls _).mono ?_; rintro e w1 ⟨rfl, rfl⟩))
    go_ret
    exact ⟨rfl, Below.refl _ _⟩
end Go.Proofs.Ytdgeofeijgflcaa
