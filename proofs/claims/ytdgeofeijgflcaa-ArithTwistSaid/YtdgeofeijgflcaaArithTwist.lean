/- The walks of ArithTwist, ArithShifts, Arith32. -/
import Derived.Test.YtdgeofeijgflcaaArithL
namespace Go.Proofs.Ytdgeofeijgflcaa
open Go.RowKit
set_option linter.unusedVariables false
attribute [local irreducible] arithD
theorem twX_comm (a b : Int) : twX a b = twX b a := by unfold twX; rw [Int.mul_comm (lo16 a), Int.mul_comm (hi16 a)]
theorem twY_comm (a b : Int) : twY a b = twY b a := by unfold twY; rw [Int.mul_comm (lo16 a), Int.mul_comm (hi16 a), Int.add_comm]
theorem lo16_one : lo16 1 = 1 := by kernel_rfl
theorem hi16_one : hi16 1 = 0 := by kernel_rfl
theorem twX_one (a : Int) : twX a 1 = IntKind.u64.wrap (lo16 a) := by unfold twX; rw [lo16_one, hi16_one]; simp
theorem twY_one (a : Int) : twY a 1 = IntKind.u64.wrap (hi16 a) := by unfold twY; rw [lo16_one, hi16_one]; simp
theorem arithTwist_walk (w : World) (a : Int) (w0 : (Lit.int .u32 a).wf = true) (b : Int) (w1 : (Lit.int .u32 b).wf = true) :
    Calls Try.prog 5 #[.int .u32 a, .int .u32 b] w fun e w' => e = .returned (.bool true) ∧ Below w.heap.size w w' := by
  have ha := bounds_u32 w0
  have hb := bounds_u32 w1
  have h1 := twX_comm b a
  have h2 := twY_comm b a
  have h3 := twX_one a
  have h4 := twY_one a
  have hw1 : wrap64 (lo16 a) = lo16 a := by have := lo16_b a; unfold wrap64; omega
  have hw2 : wrap64 (hi16 a) = hi16 a := by have := hi16_b a; unfold wrap64; omega
  have h5 : IntKind.u64.wrap (wrap64 (IntKind.i16.wrap a)) = IntKind.u64.wrap (lo16 a) := congrArg IntKind.u64.wrap hw1
  have h6 : IntKind.u64.wrap (wrap64 (IntKind.i16.wrap (a / 65536))) = IntKind.u64.wrap (hi16 a) := congrArg IntKind.u64.wrap hw2
  clear hw1 hw2
  go_enter Try.func5, Try.ntmps5
  go_wp2_with (first
    | (go_at_call 15; refine (do_calls _ _ _ _ (by omega) (by omega)).mono ?_; rintro e w1 ⟨he, rfl⟩; rw [didTwist] at he; subst he)
    | (go_at_call 17; refine (arithAnswers_calls _).mono ?_; rintro e w1 ⟨rfl, rfl⟩))
  go_ret
  exact ⟨rfl, Below.refl _ _⟩
set_option maxRecDepth 20000 in
theorem shift_back (a : Int) (ha : 0 ≤ a ∧ a ≤ 18446744073709551615) (s : Nat) (hs : s < 64) : IntKind.u64.wrap (a * 2 ^ s) / 2 ^ s = Go.bits .and .u64 a (18446744073709551615 / 2 ^ s) := by
  obtain ⟨x, rfl⟩ := Int.eq_ofNat_of_zero_le ha.1
  have hp := Nat.two_pow_pos s
  have hq := Nat.two_pow_pos (64 - s)
  have e64 : 2 ^ (64 - s) * 2 ^ s = 18446744073709551616 := by rw [← Nat.pow_add, show 64 - s + s = 64 by omega]
  have hl : IntKind.u64.wrap ((x : Int) * 2 ^ s) / 2 ^ s = ((x % 2 ^ (64 - s) : Nat) : Int) := by
    have e1 : IntKind.u64.wrap ((x : Int) * 2 ^ s) = ((x * 2 ^ s % 18446744073709551616 : Nat) : Int) := by
      rw [IntKind.wrap_u64, Int.natCast_emod, Int.natCast_mul, Int.natCast_pow]; rfl
    rw [e1, ← e64, Nat.mul_mod_mul_right]
    have : ((2 : Int) ^ s) = ((2 ^ s : Nat) : Int) := by rw [Int.natCast_pow]; rfl
    rw [this, ← Int.natCast_ediv, Nat.mul_div_cancel _ hp]
  have hr : Go.bits .and .u64 (x : Int) (18446744073709551615 / 2 ^ s) = ((x % 2 ^ (64 - s) : Nat) : Int) := by
    have e1 : (18446744073709551615 : Int) / 2 ^ s = ((2 ^ (64 - s) - 1 : Nat) : Int) := by
      have h1 : (18446744073709551615 : Nat) / 2 ^ s = 2 ^ (64 - s) - 1 := by
        rw [Nat.div_eq_iff hp, Nat.sub_mul, e64]
        omega
      rw [← h1, Int.natCast_ediv, Int.natCast_pow]; rfl
    have e2 : (BitVec.ofInt 64 (x : Int) &&& BitVec.ofInt 64 ((2 ^ (64 - s) - 1 : Nat) : Int)).toNat = x % 2 ^ (64 - s) := by
      have hlt : 2 ^ (64 - s) - 1 < 18446744073709551616 := by
        have : 2 ^ (64 - s) ≤ 2 ^ (64 - s) * 2 ^ s := Nat.le_mul_of_pos_right _ hp
        omega
      have h1 : (BitVec.ofInt 64 (x : Int)).toNat = x := by rw [BitVec.toNat_ofInt]; omega
      have h2 : (BitVec.ofInt 64 ((2 ^ (64 - s) - 1 : Nat) : Int)).toNat = 2 ^ (64 - s) - 1 := by
        generalize 2 ^ (64 - s) - 1 = m at *
        rw [BitVec.toNat_ofInt]; omega
      rw [BitVec.toNat_and, h1, h2, Nat.and_two_pow_sub_one_eq_mod]
    rw [e1]
    show IntKind.u64.wrap (((BitVec.ofInt 64 (x : Int) &&& BitVec.ofInt 64 ((2 ^ (64 - s) - 1 : Nat) : Int)).toNat : Nat) : Int) = _
    rw [e2, IntKind.wrap_u64]
    have : x % 2 ^ (64 - s) ≤ x := Nat.mod_le _ _
    omega
  rw [hl, hr]
theorem arithShifts_walk (w : World) (a : Int) (w0 : (Lit.int .u64 a).wf = true) (n : Int) (w1 : (Lit.int .u64 n).wf = true) :
    Calls Try.prog 6 #[.int .u64 a, .int .u64 n] w fun e w' => e = .returned (.bool true) ∧ Below w.heap.size w w' := by
  have ha := bounds_u64 w0
  have hn := bounds_u64 w1
  have hx := u64_b (a * 2 ^ (n % 64).toNat)
  have hsb := shift_back a ha (n % 64).toNat (by omega)
  have hmm : n % 64 % 64 = n % 64 := by omega
  go_enter Try.func6, Try.ntmps6
  go_wp2_with (first
    | (go_at_call 15; refine (do_calls _ _ _ _ (by assumption) (by first | assumption | omega)).mono ?_; rintro e w1 ⟨he, rfl⟩; (first | rw [didShl] at he | rw [didShr] at he); subst he)
    | (go_at_call 17; refine (arithAnswers_calls _).mono ?_; rintro e w1 ⟨rfl, rfl⟩))
  go_ret
  exact ⟨rfl, Below.refl _ _⟩
theorem arith32_walk (w : World) (a : Int) (w0 : (Lit.int .u64 a).wf = true) (b : Int) (w1 : (Lit.int .u64 b).wf = true) (h : Int) (w2 : (Lit.int .u32 h).wf = true) :
    Calls Try.prog 7 #[.int .u64 a, .int .u64 b, .int .u32 h] w fun e w' => e = .returned (.bool true) ∧ Below w.heap.size w w' := by
  have ha := bounds_u64 w0
  have hb := bounds_u64 w1
  have hh := bounds_u32 w2
  go_enter Try.func7, Try.ntmps7
  go_wp2_with (first
    | (go_at_call 15; refine (do_calls _ _ _ _ (by first | assumption | omega) (by first | assumption | omega)).mono ?_; rintro e w1 ⟨he, rfl⟩; (first | rw [didAdd32] at he | rw [didMul32] at he); subst he)
    | (go_at_call 17; refine (arithAnswers_calls _).mono ?_; rintro e w1 ⟨rfl, rfl⟩))
  go_ret
  exact ⟨rfl, Below.refl _ _⟩
end Go.Proofs.Ytdgeofeijgflcaa
