/- The reference's Arith. -/
import Derived.Test.YtdgeofeijgflcaaArithL
import Derived.BigQuiet
namespace Go.Proofs.Ytdgeofeijgflcaa
open Go.RowKit
set_option linter.unusedVariables false
theorem part_lo (v : Int) (hv : 0 ≤ v ∧ v ≤ 18446744073709551615) : lo16 v = if v % 65536 < 32768 then v % 65536 else v % 65536 - 65536 := by
  have h1 := lo16_b v
  have h2 : IntKind.i16.wrap v = (v + 32768) % 65536 - 32768 := by
    simp [IntKind.wrap, IntKind.bits, IntKind.signed]
    split <;> omega
  unfold lo16
  rw [h2]
  split <;> omega
theorem part_calls (w : World) (v : Int) (hv : 0 ≤ v ∧ v ≤ 18446744073709551615) : Calls Try.prog 33 #[.int .u64 v] w fun e w' => e = .returned (.int .i64 (lo16 v)) ∧ w' = w := by
  rw [part_lo v hv]
  by_cases h : v % 65536 < 32768
  all_goals
    (first | rw [if_pos h] | rw [if_neg h])
    go_enter Try.func33, Try.ntmps33
    go_wp2
    go_ret
    exact ⟨rfl, rfl⟩
theorem below_drewN {B : Nat} {w W : World} (h : Below B w W) (n : Nat) : Below B w (W.drewN n) := ⟨h.os, h.tape, h.output, h.size, h.block⟩
theorem ret3 {a a' b b' : Int} {c c' : Bool} (h1 : a = a') (h2 : b = b') (h3 : c = c') : Ending.returned (.tuple #[.int .u64 a, .int .u64 b, .bool c]) = .returned (.tuple #[.int .u64 a', .int .u64 b', .bool c']) := by rw [h1, h2, h3]
set_option maxRecDepth 100000 in
set_option maxHeartbeats 4000000 in
theorem refArith_calls (w : World) (op a b : Int) (ha : 0 ≤ a ∧ a ≤ 18446744073709551615) (hb : 0 ≤ b ∧ b ≤ 18446744073709551615) : Calls Try.prog 16 #[.int .i64 op, .int .u64 a, .int .u64 b] w fun e w' => e = .returned (.tuple #[.int .u64 (arithD op a b).x, .int .u64 (arithD op a b).y, .bool (arithD op a b).ok]) ∧ Below w.heap.size w w' := by
  by_cases hop : op = 8 ∨ op = 9 ∨ op = 10 ∨ op = 13 ∨ op = 14 ∨ op = 15 ∨ op = 16 ∨ op = 17
  · rcases hop with rfl | rfl | rfl | rfl | rfl | rfl | rfl | rfl
    all_goals
      go_enter Try.func16, Try.ntmps16
      go_wp2
      go_ret3
      exact ⟨rfl, Below.refl _ _⟩
  · by_cases h18 : op = 18 ∨ op = 19
    · have e18 : (a % 4294967296 + b % 4294967296) % 4294967296 = (a + b) % 4294967296 := by omega
      have e19 : (IntKind.u64.wrap (a % 4294967296 * (b % 4294967296))).tmod 4294967296 = a % 4294967296 * (b % 4294967296) % 4294967296 := by
        have h1 : 0 ≤ a % 4294967296 * (b % 4294967296) := Int.mul_nonneg (by omega) (by omega)
        have h2 : a % 4294967296 * (b % 4294967296) ≤ 4294967295 * 4294967295 := Int.mul_le_mul (by omega) (by omega) (by omega) (by omega)
        generalize a % 4294967296 * (b % 4294967296) = p at *
        rw [IntKind.wrap_u64, Int.tmod_eq_emod_of_nonneg (by omega)]
        omega
      rcases h18 with rfl | rfl
      · go_enter Try.func16, Try.ntmps16
        go_wp2_with (go_quiet (fail))
        go_ret3
        exact ⟨ret3 e18 rfl rfl, below_drewN (Below.refl _ _) _⟩
      · go_enter Try.func16, Try.ntmps16
        go_wp2_with (go_quiet (fail))
        go_ret3
        exact ⟨rfl, below_drewN (Below.refl _ _) _⟩
    · by_cases hd : op = 11 ∨ op = 12
      · by_cases hb0 : b = 0
        · subst hb0
          rcases hd with rfl | rfl
          all_goals
            go_enter Try.func16, Try.ntmps16
            go_wp2
            go_ret3
            exact ⟨rfl, Below.refl _ _⟩
        · have er : IntKind.u64.wrap (a - IntKind.u64.wrap (a / b * b)) = a % b := by
            have h1 := Int.mul_ediv_add_emod a b
            have h2 : a / b * b = b * (a / b) := Int.mul_comm _ _
            have h3 : a % b < b := Int.emod_lt_of_pos _ (by omega)
            have h4 : 0 ≤ a % b := Int.emod_nonneg _ hb0
            rw [IntKind.wrap_u64, IntKind.wrap_u64, h2]
            omega
          rcases hd with rfl | rfl
          · go_enter Try.func16, Try.ntmps16
            go_wp2
            go_ret3
            exact ⟨by rw [didDiv a b hb0]; rfl, Below.refl _ _⟩
          · go_enter Try.func16, Try.ntmps16
            go_wp2
            go_ret3
            exact ⟨by rw [didRem a b hb0]; rfl, Below.refl _ _⟩
      · by_cases h2 : op = 20 ∨ op = 21
        · rcases h2 with rfl | rfl
          · by_cases he : a = b
            all_goals
              have hx : (arithD 20 a b) = ⟨if a = b then 1 else 0, 0, true⟩ := rfl
              (first | rw [if_pos he] at hx | rw [if_neg he] at hx)
              rw [hx]
              clear hx
              go_enter Try.func16, Try.ntmps16
              go_wp2
              go_ret3
              exact ⟨rfl, Below.refl _ _⟩
          · by_cases he : a < b
            all_goals
              have hx : (arithD 21 a b) = ⟨if a < b then 1 else 0, 0, true⟩ := rfl
              (first | rw [if_pos he] at hx | rw [if_neg he] at hx)
              rw [hx]
              clear hx
              go_enter Try.func16, Try.ntmps16
              go_wp2
              go_ret3
              exact ⟨rfl, Below.refl _ _⟩
        · by_cases h22 : op = 22
          · subst h22
            have m1 := mul_low (lo16_b a).1 (lo16_b a).2 (lo16_b b).1 (lo16_b b).2
            have m2 := mul_low (hi16_b a).1 (hi16_b a).2 (hi16_b b).1 (hi16_b b).2
            have m3 := mul_low (lo16_b a).1 (lo16_b a).2 (hi16_b b).1 (hi16_b b).2
            have m4 := mul_low (hi16_b a).1 (hi16_b a).2 (lo16_b b).1 (lo16_b b).2
            have q1 : lo16 (a / 65536) = hi16 a := rfl
            have q2 : lo16 (b / 65536) = hi16 b := rfl
            rw [didTwist]
            unfold twX twY
            go_enter Try.func16, Try.ntmps16
            go_wp2_with (go_at_call 33; refine (part_calls _ _ (by omega)).mono ?_; rintro e w1 ⟨rfl, rfl⟩)
            go_ret3
            exact ⟨rfl, Below.refl _ _⟩
          · have hs : arithD op a b = ⟨0, 0, false⟩ := by
              unfold arithD arithS
              rw [if_neg h22, if_neg (by omega), if_neg (by omega), if_neg (by omega), if_neg (by omega), if_neg (by omega), if_neg (by omega), if_neg (by omega), if_neg (by omega), if_neg (by omega), if_neg (by omega), if_neg (by omega), if_neg (by omega), if_neg (by omega)]
            rw [hs]
            clear hs
            go_enter Try.func16, Try.ntmps16
            go_wp2
            go_ret3
            exact ⟨rfl, Below.refl _ _⟩
end Go.Proofs.Ytdgeofeijgflcaa
