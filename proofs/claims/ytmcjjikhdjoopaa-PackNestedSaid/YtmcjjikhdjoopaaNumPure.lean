/- Plain laws of Var's bytes: what is written is read again; what is cut off is bad. -/
import Derived.Test.YtmcjjikhdjoopaaReadPure
namespace Go.Proofs.Ytmcjjikhdjoopaa
set_option linter.unusedVariables false
theorem readV_bad (bs : List Int) : ∀ (k acc : Nat), (readV k acc bs).bad = true → (readV k acc bs).val = 0 := by
  induction bs with
  | nil => intro k acc _; rfl
  | cons c r ih =>
    intro k acc h
    rw [readV] at h ⊢
    split at h
    · rw [if_pos (by assumption)]
    · rw [if_neg (by assumption)]
      split at h
      · simp at h
      · rw [if_neg (by assumption)]; exact ih _ _ h
theorem readV_cont (bs : List Int) : ∀ (k acc : Nat), (∀ x ∈ bs, 128 ≤ x) → (readV k acc bs).bad = true := by
  induction bs with
  | nil => intro k acc _; rfl
  | cons c r ih =>
    intro k acc h
    rw [readV]
    split
    · rfl
    · have := h c (by simp)
      rw [if_neg (by omega)]
      exact ih _ _ (fun x hx => h x (by simp [hx]))
theorem varB_init (v : Nat) : ∀ (k : Nat), k < (varB v).length → ∀ x ∈ (varB v).take k, 128 ≤ x := by
  induction v using Nat.strongRecOn with
  | _ v ih =>
    intro k hk x hx
    by_cases h : v < 128
    · rw [varB_small h] at hk hx
      obtain rfl : k = 0 := by simpa using hk
      simp at hx
    · rw [varB_big h] at hk hx
      cases k with
      | zero => simp at hx
      | succ k =>
        rw [List.take_succ_cons] at hx
        rcases List.mem_cons.1 hx with rfl | hx
        · omega
        · exact ih _ (by omega) k (by simpa using hk) x hx
theorem readV_varB (v : Nat) : ∀ (k acc : Nat) (rest : List Int), k ≤ 9 → acc + v * 2 ^ (7 * k) < 18446744073709551616 → (0 < k → v ≠ 0) → readV k acc (varB v ++ rest) = ⟨acc + v * 2 ^ (7 * k), rest, false⟩ := by
  induction v using Nat.strongRecOn with
  | _ v ih =>
    intro k acc rest hk hb hz
    have h9 : k = 9 → v ≤ 1 := fun e => by
      subst e
      have e : (2 : Nat) ^ (7 * 9) = 9223372036854775808 := by decide +kernel
      rw [e] at hb
      omega
    by_cases h : v < 128
    · rw [varB_small h, List.singleton_append, readV, if_neg (by omega), if_pos (by omega)]
      rfl
    · rw [varB_big h, List.cons_append, readV, if_neg (by omega), if_neg (by omega)]
      have e1 : ((128 + v % 128 : Nat) : Int).toNat % 128 = v % 128 := by omega
      have e2 : 2 ^ (7 * (k + 1)) = 128 * 2 ^ (7 * k) := by rw [Nat.mul_add, Nat.pow_add, Nat.mul_comm]
      have e3 : acc + v % 128 * 2 ^ (7 * k) + v / 128 * 2 ^ (7 * (k + 1)) = acc + v * 2 ^ (7 * k) := by
        rw [e2, ← Nat.mul_assoc, Nat.add_assoc, ← Nat.add_mul]
        congr 2
        omega
      rw [e1, ih (v / 128) (by omega) (k + 1) _ rest (by omega) (by rw [e3]; exact hb) (by omega), e3]
theorem readV_back (v : Nat) (rest : List Int) (hv : v < 18446744073709551616) : readV 0 0 (varB v ++ rest) = ⟨v, rest, false⟩ := by
  have := readV_varB v 0 0 rest (by omega) (by simpa using hv) (by omega)
  simpa using this
theorem readV_ok (rest : List Int) : ∀ (p : List Int), p.length ≤ 9 → (∀ x ∈ p, 128 ≤ x ∧ x ≤ 255) → isB rest → (readV p.length (valB p) rest).bad = false →
    ∃ n, n < (p ++ rest).length ∧ varB (readV p.length (valB p) rest).val = (p ++ rest).take (n + 1) ∧ (readV p.length (valB p) rest).rest = (p ++ rest).drop (n + 1) ∧ (readV p.length (valB p) rest).val < 18446744073709551616 := by
  induction rest with
  | nil => intro p hp hb hr h; simp [readV] at h
  | cons c r ih =>
    intro p hp hb hr h
    have hc := hr c (by simp)
    have hsn := valB_snoc p c
    have hlt := valB_lt p
    have hrw : p ++ c :: r = (p ++ [c]) ++ r := by simp
    have htake : (p ++ c :: r).take (p.length + 1) = p ++ [c] := by rw [hrw]; exact List.take_left' (by simp)
    have hdrop : (p ++ c :: r).drop (p.length + 1) = r := by rw [hrw]; exact List.drop_left' (by simp)
    have hl2 : (p ++ [c]).length = p.length + 1 := by simp
    rw [readV] at h ⊢
    by_cases hbad : p.length = 9 ∧ 1 < c ∨ 0 < p.length ∧ c = 0
    · rw [if_pos hbad] at h; simp at h
    · rw [if_neg hbad] at h ⊢
      by_cases h128 : c < 128
      · rw [if_pos h128]
        have e : valB p + c.toNat * 2 ^ (7 * p.length) = valB (p ++ [c]) := by rw [hsn, pow7, show c.toNat % 128 = c.toNat by omega]
        refine ⟨p.length, by simp, ?_, hdrop.symm, ?_⟩
        · show varB (valB p + c.toNat * 2 ^ (7 * p.length)) = _
          rw [e, htake, varB_valB p c hb ⟨hc.1, h128⟩ (by
            rcases Nat.eq_zero_or_pos p.length with h | h
            · exact .inl (List.eq_nil_of_length_eq_zero h)
            · exact .inr (by omega))]
        · show valB p + c.toNat * 2 ^ (7 * p.length) < _
          rw [e]
          have hlt2 := valB_lt (p ++ [c])
          by_cases h8 : p.length ≤ 8
          · have : (128 : Nat) ^ (p ++ [c]).length ≤ 128 ^ 9 := Nat.pow_le_pow_right (by decide) (by rw [hl2]; omega)
            have e : (128 : Nat) ^ 9 = 9223372036854775808 := by decide +kernel
            omega
          · have h9 : 128 ^ p.length = 9223372036854775808 := by rw [show p.length = 9 by omega]
            rw [hsn, h9]
            rw [h9] at hlt
            omega
      · rw [if_neg h128] at h ⊢
        have hv2 : valB p + c.toNat % 128 * 2 ^ (7 * p.length) = valB (p ++ [c]) := by rw [pow7, hsn]
        rw [hv2, ← hl2] at h ⊢
        rw [hrw]
        exact ih (p ++ [c]) (by rw [hl2]; omega) (fun x hx => by
          rcases List.mem_append.1 hx with hx | hx
          · exact hb x hx
          · rw [List.mem_singleton.1 hx]; omega) (fun x hx => hr x (by simp [hx])) h
theorem readV_good {bs : List Int} (h : isB bs) (hb : (readV 0 0 bs).bad = false) : ∃ n, n < bs.length ∧ varB (readV 0 0 bs).val = bs.take (n + 1) ∧ (readV 0 0 bs).rest = bs.drop (n + 1) ∧ (readV 0 0 bs).val < 18446744073709551616 :=
  readV_ok bs [] (by simp) (by simp) h hb
theorem readV_isB {bs : List Int} (h : isB bs) : ∀ (k acc : Nat), isB (readV k acc bs).rest := by
  induction bs with
  | nil => intro k acc x hx; simp [readV] at hx
  | cons c r ih =>
    intro k acc
    have hr : isB r := fun x hx => h x (by simp [hx])
    rw [readV]
    split
    · exact hr
    · split
      · exact hr
      · exact ih hr _ _
end Go.Proofs.Ytmcjjikhdjoopaa
