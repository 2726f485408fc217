/- pack.count: a number that is not above another one. -/
import Derived.Test.YtmcjjikhdjoopaaPackPure
import Derived.Test.YtmcjjikhdjoopaaRdVar
namespace Go.Proofs.Ytmcjjikhdjoopaa
open Go.RowKit
set_option linter.unusedVariables false
set_option maxRecDepth 100000 in
theorem count_ok (w : World) (p : Nat) (S : Nat → Prop) (bs : List Int) (h : Rdr w p S bs false) (m v : Nat) (hm : m < 9223372036854775808) (hb : (readV 0 0 bs).bad = false) (hv : (readV 0 0 bs).val = v) (hvm : v ≤ m) : Calls Try.prog 40 #[.pointer (some ⟨p, 0, none⟩), .int .i64 m] w fun e w' => e = .returned (.tuple #[.int .i64 v, .bool true]) ∧ Rdr w' p S (readV 0 0 bs).rest false ∧ Keeps (· = p) w w' := by
  have H := Lib.hid h
  have HB := Lib.hid hb
  have HV := Lib.hid hv
  clear h hb hv
  have h1 : decide ((v : Int) ≤ (m : Int)) = true := decide_eq_true (by omega)
  have hn1 : ¬ (m : Int) < 0 := by omega
  go_enter Try.func40, Try.ntmps40
  go_wp2_with (first
    | (go_at_call 55; refine (rdVar_calls _ _ _ _ H.out).mono ?_; rw [HV.out, HB.out]; rintro e w2 ⟨rfl, hR, hK⟩; have HR := Lib.hid hR; have HK := Lib.hid hK; clear hR hK)
    | (go_at_call 43; refine (bad_calls _ _ _ _ _ HR.out).mono ?_; rintro e w3 ⟨rfl, rfl⟩))
  exact bodyPost_ret (v := .tuple #[.int .i64 v, .bool true]) (by simp [results, Try.results40, go_sem]) rfl ⟨rfl, HR.out, HK.out⟩
set_option maxRecDepth 100000 in
theorem count_no (w : World) (p : Nat) (S : Nat → Prop) (bs : List Int) (h : Rdr w p S bs false) (most : Int) (hm : -9223372036854775808 ≤ most ∧ most ≤ 9223372036854775807) (hno : (readV 0 0 bs).bad = true ∨ most < 0 ∨ most < (readV 0 0 bs).val) (hv64 : (readV 0 0 bs).val < 18446744073709551616) : Calls Try.prog 40 #[.pointer (some ⟨p, 0, none⟩), .int .i64 most] w fun e w' => (∃ x, e = .returned (.tuple #[.int .i64 x, .bool false])) ∧ Keeps (· = p) w w' := by
  have H := Lib.hid h
  clear h
  obtain ⟨v, hv⟩ : ∃ v, (readV 0 0 bs).val = v := ⟨_, rfl⟩
  have HV := Lib.hid hv
  rw [hv] at hno hv64
  have hways : (Hid ((readV 0 0 bs).bad = true)) ∨ (Hid ((readV 0 0 bs).bad = false) ∧ most < 0) ∨ (Hid ((readV 0 0 bs).bad = false) ∧ ∃ m : Nat, most = (m : Int) ∧ m < v) := by
    cases hb : (readV 0 0 bs).bad with
    | true => exact .inl (Lib.hid rfl)
    | false =>
      rw [hb] at hno
      rcases Int.lt_or_le most 0 with h0 | h0
      · exact .inr (.inl ⟨Lib.hid rfl, h0⟩)
      · exact .inr (.inr ⟨Lib.hid rfl, most.toNat, by omega, by rcases hno with h | h | h <;> first | (cases h; done) | omega⟩)
  clear hno hv
  have hlt : most < 0 ∨ ∃ m : Nat, most = (m : Int) := by
    rcases Int.lt_or_le most 0 with h0 | h0
    · exact .inl h0
    · exact .inr ⟨most.toNat, by omega⟩
  rcases hways with HB | ⟨HB, h0⟩ | ⟨HB, m, rfl, h0⟩
  · have h00 := Lib.hid (readV_bad bs 0 0 HB.out)
    have hv0 : v = 0 := by rw [← HV.out]; exact h00.out
    subst hv0
    rcases hlt with h0 | ⟨m, rfl⟩
    all_goals
      go_enter Try.func40, Try.ntmps40
      go_wp2_with (first
        | (go_at_call 55; refine (rdVar_calls _ _ _ _ H.out).mono ?_; rw [HV.out, HB.out]; rintro e w2 ⟨rfl, hR, hK⟩; have HR := Lib.hid hR; have HK := Lib.hid hK; clear hR hK)
        | (go_at_call 43; refine (bad_calls _ _ _ _ _ HR.out).mono ?_; rintro e w3 ⟨rfl, rfl⟩))
      all_goals exact bodyPost_ret (by simp [results, Try.results40, go_sem]; rfl) rfl ⟨⟨_, rfl⟩, HK.out⟩
  · have h1 : decide (0 ≤ most) = false := decide_eq_false (by omega)
    go_enter Try.func40, Try.ntmps40
    go_wp2_with (first
      | (go_at_call 55; refine (rdVar_calls _ _ _ _ H.out).mono ?_; rw [HV.out, HB.out]; rintro e w2 ⟨rfl, hR, hK⟩; have HR := Lib.hid hR; have HK := Lib.hid hK; clear hR hK)
      | (go_at_call 43; refine (bad_calls _ _ _ _ _ HR.out).mono ?_; rintro e w3 ⟨rfl, rfl⟩))
    all_goals exact bodyPost_ret (by simp [results, Try.results40, go_sem]; rfl) rfl ⟨⟨_, rfl⟩, HK.out⟩
  · have h1 : decide ((v : Int) ≤ (m : Int)) = false := decide_eq_false (by omega)
    have hn1 : ¬ (m : Int) < 0 := by omega
    go_enter Try.func40, Try.ntmps40
    go_wp2_with (first
      | (go_at_call 55; refine (rdVar_calls _ _ _ _ H.out).mono ?_; rw [HV.out, HB.out]; rintro e w2 ⟨rfl, hR, hK⟩; have HR := Lib.hid hR; have HK := Lib.hid hK; clear hR hK)
      | (go_at_call 43; refine (bad_calls _ _ _ _ _ HR.out).mono ?_; rintro e w3 ⟨rfl, rfl⟩))
    all_goals exact bodyPost_ret (v := .tuple #[.int .i64 (m : Int), .bool false]) (by simp [results, Try.results40, go_sem]; omega) rfl ⟨⟨_, rfl⟩, HK.out⟩
end Go.Proofs.Ytmcjjikhdjoopaa
