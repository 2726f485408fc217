/- arith.Do and the reference's Arith. -/
import Derived.Test.YtdgeofeijgflcaaBase
import Derived.Test.YtdgeofeijgflcaaFloat
namespace Go.Proofs.Ytdgeofeijgflcaa
open Go.RowKit
set_option linter.unusedVariables false
/-- The two parts of a small complex number. -/
def lo16 (v : Int) : Int := IntKind.i16.wrap v
def hi16 (v : Int) : Int := IntKind.i16.wrap (v / 65536)
theorem small_calls (w : World) (v : Int) (hv : 0 ≤ v ∧ v ≤ 18446744073709551615) : Calls Try.prog 36 #[.int .u64 v] w fun e w' => e = .returned (.complex .f64 (floatOfInt .f64 (lo16 v)) (floatOfInt .f64 (hi16 v))) ∧ w' = w := by
  go_enter Try.func36, Try.ntmps36
  go_wp2
  go_ret
  exact ⟨rfl, rfl⟩
theorem lo16_b (v : Int) : -32768 ≤ lo16 v ∧ lo16 v ≤ 32767 := bounds_i16 (wf_wrap .i16 v)
theorem hi16_b (v : Int) : -32768 ≤ hi16 v ∧ hi16 v ≤ 32767 := bounds_i16 (wf_wrap .i16 (v / 65536))
def twX (a b : Int) : Int := IntKind.u64.wrap (lo16 a * lo16 b - hi16 a * hi16 b)
def twY (a b : Int) : Int := IntKind.u64.wrap (lo16 a * hi16 b + hi16 a * lo16 b)
theorem twist_calls (w : World) (a b : Int) (ha : 0 ≤ a ∧ a ≤ 18446744073709551615) (hb : 0 ≤ b ∧ b ≤ 18446744073709551615) : Calls Try.prog 31 #[.int .u64 a, .int .u64 b] w fun e w' => e = .returned (.tuple #[.int .u64 (twX a b), .int .u64 (twY a b)]) ∧ w' = w := by
  obtain ⟨re, im, hm, h1, h2⟩ := mul_small (lo16_b a) (hi16_b a) (lo16_b b) (hi16_b b)
  have hmul := fun w' => run_complex_mul (P := Try.prog) w' 65 _ _ _ _ re im hm
  have hre := fun w' => run_convert_float_int (P := Try.prog) w' 67 2 .f64 .i64 re _ (by kernel_rfl) Try.underlying2 h1
  have him := fun w' => run_convert_float_int (P := Try.prog) w' 67 2 .f64 .i64 im _ (by kernel_rfl) Try.underlying2 h2
  clear hm h1 h2
  go_enter Try.func31, Try.ntmps31
  go_wp2_with (go_at_call 36; refine (small_calls _ _ (by assumption)).mono ?_; rintro e w1 ⟨rfl, rfl⟩)
  go_ret2
  exact ⟨rfl, rfl⟩
theorem one_calls (w : World) (b : Bool) : Calls Try.prog 38 #[.bool b] w fun e w' => e = .returned (.int .u64 (if b then 1 else 0)) ∧ w' = w := by
  cases b
  all_goals
    go_enter Try.func38, Try.ntmps38
    go_wp2
    go_ret
    exact ⟨rfl, rfl⟩
def divOf (op a b : Int) : Int × Bool := if b = 0 then (0, false) else if op = 11 then (a / b, true) else (a % b, true)
theorem divided_calls (w : World) (op a b : Int) (ha : 0 ≤ a ∧ a ≤ 18446744073709551615) (hb : 0 ≤ b ∧ b ≤ 18446744073709551615) : Calls Try.prog 37 #[.int .i64 op, .int .u64 a, .int .u64 b] w fun e w' => e = .returned (.tuple #[.int .u64 (divOf op a b).1, .bool (divOf op a b).2]) ∧ w' = w := by
  unfold divOf
  by_cases h0 : b = 0
  · subst h0
    go_enter Try.func37, Try.ntmps37
    go_wp2
    go_ret2
    exact ⟨rfl, rfl⟩
  · rw [if_neg h0]
    by_cases h1 : op = 11
    all_goals
      (first | rw [if_pos h1] | rw [if_neg h1])
      go_enter Try.func37, Try.ntmps37
      go_wp2
      go_ret2
      exact ⟨rfl, rfl⟩
theorem and63 (b : Int) (hb : 0 ≤ b ∧ b ≤ 18446744073709551615) : Go.bits .and .u64 b 63 = b % 64 := by
  have e : (BitVec.ofInt 64 b &&& BitVec.ofInt 64 63).toNat = (b % 64).toNat := by
    rw [BitVec.toNat_and, BitVec.toNat_ofInt, show (BitVec.ofInt 64 63).toNat = 2 ^ 6 - 1 from rfl, Nat.and_two_pow_sub_one_eq_mod]
    omega
  show IntKind.u64.wrap (((BitVec.ofInt 64 b &&& BitVec.ofInt 64 63).toNat : Nat) : Int) = _
  rw [e]
  have h1 : (((b % 64).toNat : Nat) : Int) = b % 64 := by omega
  rw [h1, IntKind.wrap_u64]
  omega
def arithS (op a b : Int) : Int × Bool :=
  if op = 8 then (IntKind.u64.wrap (a + b), true) else if op = 9 then (IntKind.u64.wrap (a - b), true) else if op = 10 then (IntKind.u64.wrap (a * b), true)
  else if op = 11 ∨ op = 12 then divOf op a b else if op = 13 then (Go.bits .and .u64 a b, true) else if op = 14 then (Go.bits .or .u64 a b, true) else if op = 15 then (Go.bits .xor .u64 a b, true)
  else if op = 16 then (IntKind.u64.wrap (a * 2 ^ (b % 64).toNat), true) else if op = 17 then (a / 2 ^ (b % 64).toNat, true)
  else if op = 18 then ((a + b) % 4294967296, true) else if op = 19 then (a % 4294967296 * (b % 4294967296) % 4294967296, true)
  else if op = 20 then (if a = b then 1 else 0, true) else if op = 21 then (if a < b then 1 else 0, true) else (0, false)
theorem simple_calls (w : World) (op a b : Int) (ha : 0 ≤ a ∧ a ≤ 18446744073709551615) (hb : 0 ≤ b ∧ b ≤ 18446744073709551615) : Calls Try.prog 32 #[.int .i64 op, .int .u64 a, .int .u64 b] w fun e w' => e = .returned (.tuple #[.int .u64 (arithS op a b).1, .bool (arithS op a b).2]) ∧ w' = w := by
  have hand := and63 b hb
  by_cases hop : op = 8 ∨ op = 9 ∨ op = 10 ∨ op = 13 ∨ op = 14 ∨ op = 15 ∨ op = 16 ∨ op = 17 ∨ op = 18 ∨ op = 19
  · rcases hop with rfl | rfl | rfl | rfl | rfl | rfl | rfl | rfl | rfl | rfl
    all_goals
      go_enter Try.func32, Try.ntmps32
      go_wp2
      go_ret2
      exact ⟨rfl, rfl⟩
  · by_cases h20 : op = 20
    · subst h20
      by_cases he : a = b
      all_goals
        go_enter Try.func32, Try.ntmps32
        go_wp2_with (go_at_call 38; refine (one_calls _ _).mono ?_; rintro e w1 ⟨rfl, rfl⟩)
        go_ret2
        exact ⟨by simp [arithS, he], rfl⟩
    · by_cases h21 : op = 21
      · subst h21
        by_cases he : a < b
        all_goals
          go_enter Try.func32, Try.ntmps32
          go_wp2_with (go_at_call 38; refine (one_calls _ _).mono ?_; rintro e w1 ⟨rfl, rfl⟩)
          go_ret2
          exact ⟨by simp [arithS, he], rfl⟩
      · by_cases hd : op = 11 ∨ op = 12
        · have hs : arithS op a b = divOf op a b := by rcases hd with rfl | rfl <;> rfl
          rw [hs]
          have hsplit : op = 11 ∨ (¬ op = 11 ∧ op = 12) := by omega
          clear hs hd
          rcases hsplit with h | ⟨h, h2⟩
          all_goals
            go_enter Try.func32, Try.ntmps32
            go_wp2_with (go_at_call 37; refine (divided_calls _ _ _ _ (by assumption) (by assumption)).mono ?_; rintro e w1 ⟨rfl, rfl⟩)
            go_ret2
            exact ⟨by first | (rw [h]; rfl) | (rw [h2]; rfl), rfl⟩
        · have hs : arithS op a b = (0, false) := by
            unfold arithS
            rw [if_neg (by omega), if_neg (by omega), if_neg (by omega), if_neg (by omega), if_neg (by omega), if_neg (by omega), if_neg (by omega), if_neg (by omega), if_neg (by omega), if_neg (by omega), if_neg (by omega), if_neg (by omega), if_neg (by omega)]
          rw [hs]
          clear hs
          go_enter Try.func32, Try.ntmps32
          go_wp2
          go_ret2
          exact ⟨rfl, rfl⟩
structure Did where
  x : Int
  y : Int
  ok : Bool
def arithD (op a b : Int) : Did := if op = 22 then ⟨twX a b, twY a b, true⟩ else ⟨(arithS op a b).1, 0, (arithS op a b).2⟩
theorem do_calls (w : World) (op a b : Int) (ha : 0 ≤ a ∧ a ≤ 18446744073709551615) (hb : 0 ≤ b ∧ b ≤ 18446744073709551615) : Calls Try.prog 15 #[.int .i64 op, .int .u64 a, .int .u64 b] w fun e w' => e = .returned (.tuple #[.int .u64 (arithD op a b).x, .int .u64 (arithD op a b).y, .bool (arithD op a b).ok]) ∧ w' = w := by
  unfold arithD
  by_cases h : op = 22
  · rw [if_pos h]
    go_enter Try.func15, Try.ntmps15
    go_wp2_with (go_at_call 31; refine (twist_calls _ _ _ ha hb).mono ?_; rintro e w1 ⟨rfl, rfl⟩)
    go_ret3
    exact ⟨rfl, rfl⟩
  · rw [if_neg h]
    go_enter Try.func15, Try.ntmps15
    go_wp2_with (go_at_call 32; refine (simple_calls _ _ _ _ ha hb).mono ?_; rintro e w1 ⟨rfl, rfl⟩)
    go_ret3
    exact ⟨rfl, rfl⟩
end Go.Proofs.Ytdgeofeijgflcaa
