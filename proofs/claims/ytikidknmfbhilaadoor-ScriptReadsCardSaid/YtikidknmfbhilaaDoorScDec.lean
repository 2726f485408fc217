/- Script: the reference's dec. -/
import Derived.Test.YtikidknmfbhilaaDoorScA
import Derived.Deep.RegionHeld3
import Derived.Deep.DeepCutAuto
namespace Go.Proofs.YtikidknmfbhilaaDoor
open Go.RowKit
set_option linter.unusedVariables false
theorem nDigits_le (u : Nat) : Lib.nDigits u ≤ u + 1 := by
  induction u using Nat.strongRecOn with
  | _ u ih =>
    by_cases h : u < 10
    · rw [Lib.nDigits_small h]; omega
    · rw [Lib.nDigits_big h]
      have := ih (u / 10) (by omega)
      omega
set_option maxRecDepth 100000 in
set_option maxHeartbeats 4000000 in
theorem dec_big (n : Nat) (h : ¬ n < 10) (hn : n < 18446744073709551616) (I0 : ∀ (w : World), Calls Tryd.prog 27 #[.int .u64 ((n / 10 : Nat) : Int)] w fun e w' => e = .returned (.string ⟨(Lib.decDigits (n / 10)).toArray⟩) ∧ Below w.heap.size w w') (w : World) : Calls Tryd.prog 27 #[.int .u64 n] w fun e w' => e = .returned (.string ⟨(Lib.decDigits n).toArray⟩) ∧ Below w.heap.size w w' := by
  have hi : ¬ (n : Int) < 10 := by omega
  have hq : IntKind.u64.wrap ((n : Int) / 10) = ((n / 10 : Nat) : Int) := by
    rw [IntWalk.u64_in _ (by omega)]
    omega
  have hr : (n : Int).tmod 10 = ((n % 10 : Nat) : Int) := by
    rw [Int.tmod_eq_emod_of_nonneg (by omega)]
    omega
  have hm : IntKind.u8.wrap ((n % 10 : Nat) : Int) = ((n % 10 : Nat) : Int) := IntWalk.u8_in _ (by omega)
  have hm2 : IntKind.u8.wrap (48 + ((n % 10 : Nat) : Int)) = 48 + ((n % 10 : Nat) : Int) := IntWalk.u8_in _ (by omega)
  have hc := fun W b => conv1 W b (n % 10) (by omega)
  have E : (⟨(Lib.decDigits (n / 10)).toArray⟩ : ByteArray) ++ ⟨[UInt8.ofNat (48 + n % 10)].toArray⟩ = ⟨(Lib.decDigits n).toArray⟩ := by
    rw [str_app, show Lib.decDigits n = Lib.decDigits (n / 10) ++ [UInt8.ofNat (48 + n % 10)] by rw [Lib.decDigits, dif_neg h]]
  have hs : ¬ 9223372036854775807 < (⟨(Lib.decDigits (n / 10)).toArray⟩ : ByteArray).size + (⟨[UInt8.ofNat (48 + n % 10)].toArray⟩ : ByteArray).size := by
    have h1 : (⟨(Lib.decDigits (n / 10)).toArray⟩ : ByteArray).size = (Lib.decDigits (n / 10)).length := by simp [ByteArray.size]
    have h2 : (⟨[UInt8.ofNat (48 + n % 10)].toArray⟩ : ByteArray).size = 1 := rfl
    have h3 := nDigits_le (n / 10)
    rw [← Lib.decDigits_length] at h3
    omega
  generalize ((n / 10 : Nat) : Int) = q1 at hq I0
  generalize ((n % 10 : Nat) : Int) = r1 at hr hm hm2 hc
  generalize (⟨(Lib.decDigits (n / 10)).toArray⟩ : ByteArray) = s1 at E I0 hs
  generalize (⟨[UInt8.ofNat (48 + n % 10)].toArray⟩ : ByteArray) = s2 at E hc hs
  generalize (⟨(Lib.decDigits n).toArray⟩ : ByteArray) = s3 at E ⊢
  subst E
  have I := Lib.hid I0
  clear I0 h hn
  go_enter Tryd.func27, Tryd.ntmps27
  go_upto_region 3 with fail
  go_region_with (first
    | (go_at_call 27; refine (I.out _).mono ?_; rintro e w2 ⟨rfl, hb2⟩; obtain ⟨hc2, hf2⟩ := bcell hb2)
    | fail)
  all_goals go_wp2
  all_goals go_ret
  all_goals have hd : Below w.heap.size w w.drew := ⟨rfl, rfl, rfl, Nat.le_refl _, fun _ _ => rfl⟩
  all_goals first
    | exact ⟨rfl, (hd.trans hb2).alloc hb2.size _⟩
    | exact ⟨rfl, (hd.alloc (Nat.le_refl _) _).trans (hb2.mono (by simp))⟩
theorem dec_calls : ∀ (n : Nat), n < 18446744073709551616 → ∀ (w : World), Calls Tryd.prog 27 #[.int .u64 n] w fun e w' => e = .returned (.string ⟨(Lib.decDigits n).toArray⟩) ∧ Below w.heap.size w w' := by
  intro n
  induction n using Nat.strongRecOn with
  | _ n ih =>
    intro hn w
    by_cases h : n < 10
    · exact dec_small n h w
    · exact dec_big n h hn (ih (n / 10) (by omega) (by omega)) w
end Go.Proofs.YtikidknmfbhilaaDoor
