/- num.Reader.Var. -/
import Derived.Test.YtmcjjikhdjoopaaTake
namespace Go.Proofs.Ytmcjjikhdjoopaa
open Go.RowKit
set_option linter.unusedVariables false
structure Got where
  val : Nat
  rest : List Int
  bad : Bool
/-- What Var reads, from the k-th byte on. -/
def readV (k acc : Nat) : List Int → Got
  | [] => ⟨0, [], true⟩
  | c :: r => if k = 9 ∧ 1 < c ∨ 0 < k ∧ c = 0 then ⟨0, r, true⟩ else if c < 128 then ⟨acc + c.toNat * 2 ^ (7 * k), r, false⟩ else readV (k + 1) (acc + c.toNat % 128 * 2 ^ (7 * k)) r
theorem andNot128 (x : Int) (h : 0 ≤ x ∧ x ≤ 255) : Go.bits .andNot .u8 x 128 = x % 128 := by
  have : ∀ n : Fin 256, Go.bits .andNot .u8 (n.val : Int) 128 = (n.val : Int) % 128 := by decide +kernel
  have h2 := this ⟨x.toNat, by omega⟩
  simp only at h2
  rwa [show ((x.toNat : Nat) : Int) = x by omega] at h2
theorem or_shift (acc d s : Nat) (ha : acc < 2 ^ s) (ht : acc + d * 2 ^ s < 18446744073709551616) : Go.bits .or .u64 (acc : Int) (IntKind.u64.wrap ((d : Int) * 2 ^ s)) = ((acc + d * 2 ^ s : Nat) : Int) := by
  have e1 : IntKind.u64.wrap ((d : Int) * 2 ^ s) = ((d * 2 ^ s : Nat) : Int) := by
    have h1 : ((d : Int) * 2 ^ s) = ((d * 2 ^ s : Nat) : Int) := by rw [Int.natCast_mul, Int.natCast_pow]; rfl
    rw [h1, IntKind.wrap_u64]
    omega
  rw [e1]
  have h1 : (BitVec.ofInt 64 (acc : Int)).toNat = acc := by rw [BitVec.toNat_ofInt]; omega
  have h2 : (BitVec.ofInt 64 ((d * 2 ^ s : Nat) : Int)).toNat = d * 2 ^ s := by
    generalize d * 2 ^ s = m at *
    rw [BitVec.toNat_ofInt]; omega
  have e2 : (BitVec.ofInt 64 (acc : Int) ||| BitVec.ofInt 64 ((d * 2 ^ s : Nat) : Int)).toNat = acc + d * 2 ^ s := by
    rw [BitVec.toNat_or, h1, h2, Nat.or_comm, Nat.mul_comm, ← Nat.two_pow_add_eq_or_of_lt ha, Nat.add_comm]
  show IntKind.u64.wrap (((BitVec.ofInt 64 (acc : Int) ||| BitVec.ofInt 64 ((d * 2 ^ s : Nat) : Int)).toNat : Nat) : Int) = _
  rw [e2, IntKind.wrap_u64]
  omega
theorem pow_le (k : Nat) (hk : k ≤ 8) : 2 ^ (7 * (k + 1)) = 128 * 2 ^ (7 * k) := by
  rw [Nat.mul_add, Nat.pow_add, Nat.mul_comm]
theorem own_addr1 {w : World} {base : Nat} {e : TypeId} {c : Nat} {A : Option Addr} {xs : List Value} (h : w.ownsRow base e 1 (.slice A 1 c) 1 xs) : ∃ g, A = some ⟨g, 0, none⟩ ∧ base ≤ g ∧ g < w.heap.size := by
  obtain ⟨A', c', e, _, _, h5⟩ := own_shape h
  cases e
  exact h5 (by decide)
theorem own_cell1 {w : World} {base : Nat} {e : TypeId} {c g : Nat} {x : Int} {r : List Int} (h : w.ownsRow base e 1 (.slice (some ⟨g, 0, none⟩) 1 c) 1 (bcells ((x :: r).take 1))) : w.cell? ⟨g, 0, none⟩ = some (.int .u8 x) := by
  have h1 := h.cellAt 0 (by simp)
  have h2 : (bcells ((x :: r).take 1))[0]? = some (.int .u8 x) := rfl
  exact h1.trans h2
theorem rdVar_bad (w : World) (p : Nat) (S : Nat → Prop) (bs : List Int) (h : Rdr w p S bs true) : Calls Try.prog 55 #[.pointer (some ⟨p, 0, none⟩)] w fun e w' => e = .returned (.int .u64 0) ∧ Rdr w' p S bs true ∧ Keeps (· = p) w w' := by
  go_enter Try.func55, Try.ntmps55
  go_wp2
  go_loopw [3, 4] (fun v k wr => v = .int .u64 0 ∧ k = .int .i64 0 ∧ wr = w) (fun _ _ _ => 0)
  case atStart => exact ⟨rfl, rfl, rfl⟩
  case round =>
    obtain ⟨rfl, rfl, rfl⟩ := hrel
    have H := Lib.hid h
    clear h
    go_wp2_with (go_at_call 42; refine (take_no _ _ _ _ _ H.out _ (.inl rfl)).mono ?_; rintro e w2 ⟨rfl, hR, hK⟩; have HR := Lib.hid hR; clear hR)
    go_ret
    exact ⟨rfl, HR.out, hK⟩
theorem rdVar_none (w : World) : Calls Try.prog 55 #[.pointer none] w fun e w' => e = .returned (.int .u64 0) ∧ w' = w := by
  go_enter Try.func55, Try.ntmps55
  go_wp2
  go_loopw [3, 4] (fun v k wr => v = .int .u64 0 ∧ k = .int .i64 0 ∧ wr = w) (fun _ _ _ => 0)
  case atStart => exact ⟨rfl, rfl, rfl⟩
  case round =>
    obtain ⟨rfl, rfl, rfl⟩ := hrel
    go_wp2_with (go_at_call 42; refine (take_none _ _).mono ?_; rintro e w2 ⟨rfl, rfl⟩)
    go_ret
    exact ⟨rfl, rfl⟩
set_option maxRecDepth 100000 in
theorem rdVar_calls (w : World) (p : Nat) (S : Nat → Prop) (bs : List Int) (h : Rdr w p S bs false) : Calls Try.prog 55 #[.pointer (some ⟨p, 0, none⟩)] w fun e w' => e = .returned (.int .u64 (readV 0 0 bs).val) ∧ Rdr w' p S (readV 0 0 bs).rest (readV 0 0 bs).bad ∧ Keeps (· = p) w w' := by
  have H0 := Lib.hid h
  clear h
  go_enter Try.func55, Try.ntmps55
  go_wp2
  go_loopw [3, 4] (fun v k wr => ∃ (j acc : Nat) (rest : List Int), j ≤ 9 ∧ v = .int .u64 acc ∧ k = .int .i64 j ∧ acc < 2 ^ (7 * j) ∧ Hid (readV j acc rest = readV 0 0 bs) ∧ Hid (Rdr wr p S rest false) ∧ Hid (Keeps (· = p) w wr)) (fun _ k _ => 10 - (intOf k).toNat)
  case atStart => exact ⟨0, 0, bs, by omega, rfl, rfl, by decide, Lib.hid rfl, H0, Lib.hid (Keeps.refl _ _)⟩
  case round =>
    obtain ⟨j, acc, rest, hj, rfl, rfl, hacc, HE, HR, HK⟩ := hrel
    cases rest with
    | nil =>
      have hv := Lib.hid (show readV 0 0 bs = ⟨0, [], true⟩ from HE.out.symm)
      go_wp2_with (go_at_call 42; refine (take_no _ _ _ _ _ HR.out 1 (.inr (.inr (by simp)))).mono ?_; rintro e w2 ⟨rfl, hR, hK⟩; have HR2 := Lib.hid hR; have HK2 := Lib.hid hK; clear hR hK)
      go_ret
      rw [hv.out]
      exact ⟨rfl, HR2.out, HK.out.trans HK2.out⟩
    | cons c r =>
      have hc := HR.out.isb c (by simp)
      have ht := Lib.hid (take_ok wr p S (c :: r) HR.out 1 (by simp))
      by_cases hbad : j = 9 ∧ 1 < c ∨ 0 < j ∧ c = 0
      · have hv := Lib.hid (show readV 0 0 bs = ⟨0, r, true⟩ by rw [← HE.out, readV, if_pos hbad])
        have hway : (j = 9 ∧ 1 < c) ∨ (¬ (j = 9 ∧ 1 < c) ∧ 0 < j ∧ c = 0) := by omega
        clear hbad
        rcases hway with hb | ⟨hb1, hb2, hb3⟩
        all_goals
          go_wp2_with (first
            | (go_at_call 42; refine ht.out.mono ?_; rintro e w2 ⟨A, c3, rfl, ho, hR, hK⟩; obtain ⟨g, rfl, _, _⟩ := own_addr1 ho; have hcell := own_cell1 ho; have HR2 := Lib.hid hR; have HK2 := Lib.hid hK; clear ho hR hK)
            | (go_at_call 56; refine (fail_calls _ _ _ _ _ HR2.out).mono ?_; rintro e w3 ⟨rfl, hR, hK⟩; have HR3 := Lib.hid hR; have HK3 := Lib.hid hK; clear hR hK))
          all_goals go_ret
          all_goals rw [hv.out]
          all_goals exact ⟨rfl, HR3.out, (HK.out.trans HK2.out).trans HK3.out⟩
      · obtain ⟨d, rfl⟩ := Int.eq_ofNat_of_zero_le hc.1
        have hand := andNot128 (d : Int) hc
        have hP : acc + (d % 128) * 2 ^ (7 * j) < 18446744073709551616 ∧ (j ≤ 8 → acc + (d % 128) * 2 ^ (7 * j) < 2 ^ (7 * (j + 1))) := by
          by_cases h8 : j ≤ 8
          · have h1 : 2 ^ (7 * j) ≤ 2 ^ 56 := Nat.pow_le_pow_right (by decide) (by omega)
            have h2 := pow_le j h8
            have h3 : d % 128 * 2 ^ (7 * j) ≤ 127 * 2 ^ (7 * j) := Nat.mul_le_mul_right _ (by omega)
            rw [h2]
            generalize 2 ^ (7 * j) = P at *
            generalize d % 128 * P = Q at *
            have h4 : (2 : Nat) ^ 56 = 72057594037927936 := by decide
            omega
          · have h9 : j = 9 := by omega
            subst h9
            have h3 : d % 128 ≤ 1 := by omega
            have h4 : d % 128 * 2 ^ (7 * 9) ≤ 1 * 2 ^ (7 * 9) := Nat.mul_le_mul_right _ h3
            have h5 : (2 : Nat) ^ (7 * 9) = 9223372036854775808 := by decide
            rw [h5] at *
            omega
        have hway : (j = 9 ∧ d = 1) ∨ j < 1 ∨ (j < 9 ∧ 0 < j ∧ ¬ (d : Int) = 0) := by omega
        have hor := or_shift acc (d % 128) (7 * j) hacc hP.1
        by_cases h128 : d < 128
        · have hv := Lib.hid (show readV 0 0 bs = ⟨acc + d * 2 ^ (7 * j), r, false⟩ by rw [← HE.out, readV, if_neg hbad, if_pos (by omega)]; rfl)
          have hmod : (d : Int) % 128 = d := by omega
          have hmod2 : d % 128 = d := by omega
          rw [hmod] at hand
          rw [hmod2] at hor
          clear hbad hmod hmod2 hP
          rcases hway with ⟨rfl, rfl⟩ | h0 | ⟨h1, h2, h3⟩
          · have h9 : Go.bits .or .u64 (acc : Int) 9223372036854775808 = (acc : Int) + 9223372036854775808 := by
              have e1 : IntKind.u64.wrap (((1 : Nat) : Int) * 2 ^ (7 * 9)) = 9223372036854775808 := by decide +kernel
              have e2 : ((acc + 1 * 2 ^ (7 * 9) : Nat) : Int) = (acc : Int) + 9223372036854775808 := by
                have : (1 : Nat) * 2 ^ (7 * 9) = 9223372036854775808 := by decide +kernel
                rw [this]; omega
              rw [e1, e2] at hor
              exact hor
            have h10 : ((acc + 1 * 2 ^ (7 * 9) : Nat) : Int) = (acc : Int) + 9223372036854775808 := by
              have : (1 : Nat) * 2 ^ (7 * 9) = 9223372036854775808 := by decide +kernel
              rw [this]; omega
            have hand1 : Go.bits .andNot .u8 1 128 = 1 := by decide +kernel
            have H10 := Lib.hid h10
            clear hor h10 hand
            go_wp2_with (first
              | (go_at_call 42; refine ht.out.mono ?_; rintro e w2 ⟨A, c3, rfl, ho, hR, hK⟩; obtain ⟨g, rfl, _, _⟩ := own_addr1 ho; have hcell := own_cell1 ho; have HR2 := Lib.hid hR; have HK2 := Lib.hid hK; clear ho hR hK))
            go_ret
            rw [hv.out]
            exact ⟨ret_int H10.out.symm, HR2.out, HK.out.trans HK2.out⟩
          all_goals
            go_wp2_with (first
              | (go_at_call 42; refine ht.out.mono ?_; rintro e w2 ⟨A, c3, rfl, ho, hR, hK⟩; obtain ⟨g, rfl, _, _⟩ := own_addr1 ho; have hcell := own_cell1 ho; have HR2 := Lib.hid hR; have HK2 := Lib.hid hK; clear ho hR hK))
            all_goals go_ret
            all_goals rw [hv.out]
            all_goals exact ⟨ret_int (by push_cast; rfl), HR2.out, HK.out.trans HK2.out⟩
        · have hor : Go.bits .or .u64 (acc : Int) (IntKind.u64.wrap ((d : Int) % 128 * 2 ^ (7 * j))) = (acc : Int) + (d : Int) % 128 * 2 ^ (7 * j) := by
            have h := hor
            push_cast at h
            exact h
          have hv := Lib.hid (show readV j acc ((d : Int) :: r) = readV (j + 1) (acc + d % 128 * 2 ^ (7 * j)) r by rw [readV, if_neg hbad, if_neg (by omega)]; rfl)
          have hP2 := Lib.hid hP.2
          clear hP
          rcases hway with ⟨h0, h1⟩ | h0 | ⟨h1, h2, h3⟩
          · omega
          all_goals
            clear hbad
            go_wp2_with (first
              | (go_at_call 42; refine ht.out.mono ?_; rintro e w2 ⟨A, c3, rfl, ho, hR, hK⟩; obtain ⟨g, rfl, _, _⟩ := own_addr1 ho; have hcell := own_cell1 ho; have HR2 := Lib.hid hR; have HK2 := Lib.hid hK; clear ho hR hK))
            go_roundw
            case rel => exact ⟨j + 1, acc + d % 128 * 2 ^ (7 * j), r, by omega, congrArg (Value.int .u64) (by push_cast; rfl), by go_num, hP2.out (by omega), Lib.hid (hv.out.symm.trans HE.out), HR2, Lib.hid (HK.out.trans HK2.out)⟩
            case measure => simp [intOf]; omega
end Go.Proofs.Ytmcjjikhdjoopaa
