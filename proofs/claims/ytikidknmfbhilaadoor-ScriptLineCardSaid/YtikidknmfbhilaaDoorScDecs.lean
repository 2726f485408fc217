/- Script: the reference's Dec is the numeral. -/
import Derived.Test.YtikidknmfbhilaaDoorScDec
namespace Go.Proofs.YtikidknmfbhilaaDoor
open Go.RowKit
set_option linter.unusedVariables false
set_option maxRecDepth 100000 in
set_option maxHeartbeats 4000000 in
theorem Dec_calls (n : Int) (h0 : -9223372036854775808 ≤ n) (h1 : n ≤ 9223372036854775807) (w : World) : Calls Tryd.prog 21 #[.int .i64 n] w fun e w' => e = .returned (.string ⟨(Lib.itoa n).toArray⟩) ∧ Below w.heap.size w w' := by
  by_cases h : n < 0
  · obtain ⟨m, rfl⟩ : ∃ m : Nat, n = -(m : Int) := ⟨n.natAbs, by omega⟩
    have e1 : IntKind.i64.wrap (-(m : Int) + 1) = -(m : Int) + 1 := IntWalk.i64_in _ (by omega)
    have e2 : IntKind.i64.wrap (-(-(m : Int) + 1)) = m - 1 := by rw [IntWalk.i64_in _ (by omega)]; omega
    have e3 : IntKind.u64.wrap ((m : Int) - 1) = m - 1 := IntWalk.u64_in _ (by omega)
    have e4 : IntKind.u64.wrap ((m : Int) - 1 + 1) = m := by rw [IntWalk.u64_in _ (by omega)]; omega
    have e5 : IntKind.u64.wrap (m : Int) = m := IntWalk.u64_in _ (by omega)
    have I := Lib.hid (dec_calls m (by omega))
    have E : (⟨#[45]⟩ : ByteArray) ++ ⟨(Lib.decDigits m).toArray⟩ = ⟨(Lib.itoa (-(m : Int))).toArray⟩ := by
      rw [show (⟨#[45]⟩ : ByteArray) = ⟨[45].toArray⟩ from rfl, str_app]
      unfold Lib.itoa
      rw [if_pos h]
      simp
    have hs : ¬ 9223372036854775807 < (⟨#[45]⟩ : ByteArray).size + (⟨(Lib.decDigits m).toArray⟩ : ByteArray).size := by
      have h1 : (⟨(Lib.decDigits m).toArray⟩ : ByteArray).size = (Lib.decDigits m).length := by simp [ByteArray.size]
      have h2 : (⟨#[45]⟩ : ByteArray).size = 1 := rfl
      have h3 := nDigits_le m
      have h4 : Lib.nDigits m ≤ Lib.nDigits (m / 10) + 1 := by
        by_cases hx : m < 10
        · rw [Lib.nDigits_small hx]; omega
        · rw [Lib.nDigits_big hx]; omega
      have h5 := nDigits_le (m / 10)
      rw [← Lib.decDigits_length] at h4
      omega
    generalize (⟨(Lib.decDigits m).toArray⟩ : ByteArray) = s1 at E hs I
    generalize (⟨(Lib.itoa (-(m : Int))).toArray⟩ : ByteArray) = s3 at E ⊢
    subst E
    clear h0 h1
    go_enter Tryd.func21, Tryd.ntmps21
    go_wp2_with (go_at_call 27; refine (I.out _).mono ?_; rintro e w2 ⟨rfl, hb2⟩)
    go_ret
    exact ⟨rfl, hb2⟩
  · obtain ⟨m, rfl⟩ : ∃ m : Nat, n = (m : Int) := ⟨n.toNat, by omega⟩
    have e1 : IntKind.u64.wrap (m : Int) = m := IntWalk.u64_in _ (by omega)
    have I := Lib.hid (dec_calls m (by omega))
    have E : (⟨(Lib.itoa (m : Int)).toArray⟩ : ByteArray) = ⟨(Lib.decDigits m).toArray⟩ := by
      unfold Lib.itoa
      rw [if_neg h]
      simp
    rw [E]
    clear h0 h1 E
    go_enter Tryd.func21, Tryd.ntmps21
    go_wp2_with (go_at_call 27; refine (I.out _).mono ?_; rintro e w2 ⟨rfl, hb2⟩)
    go_ret
    exact ⟨rfl, hb2⟩
end Go.Proofs.YtikidknmfbhilaaDoor
