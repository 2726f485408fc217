/- What Var reads is what the reference reads. -/
import Derived.Test.YtmcjjikhdjoopaaRdVar
namespace Go.Proofs.Ytmcjjikhdjoopaa
set_option linter.unusedVariables false
def valB : List Int → Nat
  | [] => 0
  | c :: r => c.toNat % 128 + 128 * valB r
theorem valB_varB (v : Nat) : valB (varB v) = v := by
  induction v using Nat.strongRecOn with
  | _ v ih =>
    by_cases h : v < 128
    · rw [varB_small h]; simp [valB]; omega
    · rw [varB_big h]
      show ((128 + v % 128 : Nat) : Int).toNat % 128 + 128 * valB (varB (v / 128)) = v
      rw [ih _ (by omega)]
      omega
theorem valB_snoc (p : List Int) (c : Int) : valB (p ++ [c]) = valB p + c.toNat % 128 * 128 ^ p.length := by
  induction p with
  | nil => simp [valB]
  | cons b p ih =>
    show b.toNat % 128 + 128 * valB (p ++ [c]) = b.toNat % 128 + 128 * valB p + _
    rw [ih, List.length_cons, Nat.pow_succ, Nat.mul_add]
    have : 128 * (c.toNat % 128 * 128 ^ p.length) = c.toNat % 128 * (128 ^ p.length * 128) := by ac_rfl
    omega
theorem varB_valB (p : List Int) (c : Int) (hp : ∀ x ∈ p, 128 ≤ x ∧ x ≤ 255) (hc : 0 ≤ c ∧ c < 128) (h : p = [] ∨ c ≠ 0) : varB (valB (p ++ [c])) = p ++ [c] := by
  induction p with
  | nil =>
    have e : valB [c] = c.toNat := by simp [valB]; omega
    rw [List.nil_append, e, varB_small (by omega)]
    congr 1
    omega
  | cons b p ih =>
    have hb := hp b (by simp)
    have hcn : c ≠ 0 := h.resolve_left (by simp)
    have ih2 := ih (fun x hx => hp x (by simp [hx])) (.inr hcn)
    have hpos : 0 < valB (p ++ [c]) := by
      rw [valB_snoc]
      have : 0 < c.toNat % 128 * 128 ^ p.length := Nat.mul_pos (by omega) (Nat.pow_pos (by decide))
      omega
    have e : valB (b :: p ++ [c]) = b.toNat % 128 + 128 * valB (p ++ [c]) := rfl
    rw [e, varB_big (by omega)]
    have e1 : (b.toNat % 128 + 128 * valB (p ++ [c])) / 128 = valB (p ++ [c]) := by omega
    have e2 : ((128 + (b.toNat % 128 + 128 * valB (p ++ [c])) % 128 : Nat) : Int) = b := by omega
    rw [e1, e2, ih2]
    rfl
theorem varB_last (v : Nat) (p : List Int) (h : varB v = p ++ [0]) : p = [] := by
  induction v using Nat.strongRecOn generalizing p with
  | _ v ih =>
    by_cases hv : v < 128
    · rw [varB_small hv] at h
      cases p with
      | nil => rfl
      | cons a p => simp at h
    · rw [varB_big hv] at h
      cases p with
      | nil =>
        simp only [List.nil_append, List.cons.injEq] at h
        have := h.1
        omega
      | cons a p =>
        simp only [List.cons_append, List.cons.injEq] at h
        have hp := ih _ (by omega) p h.2
        subst hp
        have h3 := valB_varB (v / 128)
        rw [h.2] at h3
        simp [valB] at h3
        omega
/-- The reference's loop, from the k-th byte on. -/
def refV (all : List Int) (k acc : Nat) : List Int → Nat × Nat
  | [] => (0, 0)
  | c :: r => if 10 ≤ k then (0, 0) else if c < 128 then (if varB ((acc + c.toNat % 128 * 2 ^ (7 * k)) % 18446744073709551616) = all.take (k + 1) then ((acc + c.toNat % 128 * 2 ^ (7 * k)) % 18446744073709551616, k + 1) else (0, 0)) else refV all (k + 1) ((acc + c.toNat % 128 * 2 ^ (7 * k)) % 18446744073709551616) r
/-- What a reader tells of what the reference tells. -/
def gotOf (all : List Int) (x : Nat × Nat) : Nat × Bool := if x.2 = 0 then (0, true) else (x.1, false)
theorem pow7 (k : Nat) : 2 ^ (7 * k) = 128 ^ k := by rw [Nat.pow_mul]
theorem valB_lt (p : List Int) : valB p < 128 ^ p.length := by
  induction p with
  | nil => simp [valB]
  | cons b p ih =>
    show b.toNat % 128 + 128 * valB p < _
    rw [List.length_cons, Nat.pow_succ]
    omega
theorem read_ref (rest : List Int) : ∀ (p : List Int), p.length ≤ 9 → (∀ x ∈ p, 128 ≤ x ∧ x ≤ 255) → isB rest →
    (refV (p ++ rest) p.length (valB p) rest).2 = 0 ∧ (readV p.length (valB p) rest).val = 0 ∧ (readV p.length (valB p) rest).bad = true ∨
    (∃ n, (refV (p ++ rest) p.length (valB p) rest).2 = n + 1 ∧ (readV p.length (valB p) rest).val = (refV (p ++ rest) p.length (valB p) rest).1 ∧ (readV p.length (valB p) rest).bad = false ∧ (readV p.length (valB p) rest).rest = (p ++ rest).drop (n + 1) ∧ n < (p ++ rest).length) := by
  induction rest with
  | nil => intro p hp hb hr; exact .inl ⟨rfl, rfl, rfl⟩
  | cons c r ih =>
    intro p hp hb hr
    have hc := hr c (by simp)
    have hlt := valB_lt p
    have hsn := valB_snoc p c
    have hrw : p ++ c :: r = (p ++ [c]) ++ r := by simp
    have htake : (p ++ c :: r).take (p.length + 1) = p ++ [c] := by rw [hrw]; exact List.take_left' (by simp)
    have hdrop : (p ++ c :: r).drop (p.length + 1) = r := by rw [hrw]; exact List.drop_left' (by simp)
    have hlenlt : p.length < (p ++ c :: r).length := by simp
    rw [refV, readV, if_neg (by omega)]
    have hbig : p.length = 9 → 128 ^ p.length = 9223372036854775808 := fun h => by rw [h]
    have hsmall : p.length ≤ 8 → 128 ^ (p.length + 1) ≤ 9223372036854775808 := fun h => by
      have : (128 : Nat) ^ (p.length + 1) ≤ 128 ^ 9 := Nat.pow_le_pow_right (by decide) (by omega)
      have e : (128 : Nat) ^ 9 = 9223372036854775808 := by decide +kernel
      omega
    have hlt2 := valB_lt (p ++ [c])
    have hl2 : (p ++ [c]).length = p.length + 1 := by simp
    rw [hl2] at hlt2
    by_cases hbad : p.length = 9 ∧ 1 < c ∨ 0 < p.length ∧ c = 0
    · refine .inl ?_
      rw [if_pos hbad]
      refine ⟨?_, rfl, rfl⟩
      by_cases h128 : c < 128
      · rw [if_pos h128, htake, if_neg]
        intro he
        rcases hbad with ⟨h9, h1⟩ | ⟨h0, hz⟩
        · have h := valB_varB ((valB p + c.toNat % 128 * 2 ^ (7 * p.length)) % 18446744073709551616)
          rw [he, hsn, pow7, hbig h9] at h
          omega
        · subst hz
          have := varB_last _ p he
          subst this
          simp at h0
      · rw [if_neg h128]
        have h9 : p.length = 9 := by omega
        rw [h9]
        cases r with
        | nil => rfl
        | cons d r => rw [refV, if_pos (by omega)]
    · rw [if_neg hbad]
      have hv : (valB p + c.toNat % 128 * 2 ^ (7 * p.length)) % 18446744073709551616 = valB (p ++ [c]) := by
        rw [pow7, ← hsn]
        by_cases h8 : p.length ≤ 8
        · have := hsmall h8
          omega
        · have h9 := hbig (by omega)
          rw [h9] at hsn hlt
          omega
      have hv2 : valB p + c.toNat % 128 * 2 ^ (7 * p.length) = valB (p ++ [c]) := by rw [pow7, hsn]
      by_cases h128 : c < 128
      · refine .inr ⟨p.length, ?_, ?_, ?_, ?_, hlenlt⟩
        all_goals rw [if_pos h128]
        · rw [htake, hv, if_pos (varB_valB p c hb ⟨hc.1, h128⟩ (by
            rcases Nat.eq_zero_or_pos p.length with h | h
            · exact .inl (List.eq_nil_of_length_eq_zero h)
            · exact .inr (by omega)))]
        · rw [if_pos h128, htake, hv, if_pos (varB_valB p c hb ⟨hc.1, h128⟩ (by
            rcases Nat.eq_zero_or_pos p.length with h | h
            · exact .inl (List.eq_nil_of_length_eq_zero h)
            · exact .inr (by omega)))]
          show valB p + c.toNat * 2 ^ (7 * p.length) = valB (p ++ [c])
          rw [← hv2, show c.toNat % 128 = c.toNat by omega]
        · exact hdrop.symm
      · rw [if_neg h128, if_neg h128, hv, hv2, hrw, ← hl2]
        exact ih (p ++ [c]) (by rw [hl2]; omega) (fun x hx => by
          rcases List.mem_append.1 hx with hx | hx
          · exact hb x hx
          · rw [List.mem_singleton.1 hx]; omega) (fun x hx => hr x (by simp [hx]))
end Go.Proofs.Ytmcjjikhdjoopaa
