/- Plain laws of parts: what is joined is split again; nothing else is. -/
import Derived.Test.YtmcjjikhdjoopaaNumPure
namespace Go.Proofs.Ytmcjjikhdjoopaa
set_option linter.unusedVariables false
/-- Parts, one behind the other. -/
def partsB (l : List (List Int)) : List Int := l.flatMap fun p => varB p.length ++ p
def joinB (l : List (List Int)) : List Int := varB l.length ++ partsB l
theorem partsB_cons (p : List Int) (l : List (List Int)) : partsB (p :: l) = varB p.length ++ p ++ partsB l := by simp [partsB]
theorem partsB_snoc (l : List (List Int)) (p : List Int) : partsB (l ++ [p]) = partsB l ++ (varB p.length ++ p) := by simp [partsB]
/-- So many parts of bytes, and what is left. -/
def splitP : Nat → List Int → Option (List (List Int) × List Int)
  | 0, bs => some ([], bs)
  | n + 1, bs =>
    if (readV 0 0 bs).bad = true ∨ (readV 0 0 bs).rest.length < (readV 0 0 bs).val then none
    else (splitP n ((readV 0 0 bs).rest.drop (readV 0 0 bs).val)).map fun x => ((readV 0 0 bs).rest.take (readV 0 0 bs).val :: x.1, x.2)
def splitB (bs : List Int) (most : Int) : Option (List (List Int)) :=
  if (readV 0 0 bs).bad = true ∨ most < 0 ∨ most < (readV 0 0 bs).val then none
  else match splitP (readV 0 0 bs).val (readV 0 0 bs).rest with
    | some (l, []) => some l
    | _ => none
theorem splitP_back (l : List (List Int)) (hl : ∀ p ∈ l, p.length < 18446744073709551616) (rest : List Int) : splitP l.length (partsB l ++ rest) = some (l, rest) := by
  induction l with
  | nil => rfl
  | cons p l ih =>
    have e : partsB (p :: l) ++ rest = varB p.length ++ (p ++ (partsB l ++ rest)) := by simp [partsB]
    have h := readV_back p.length (p ++ (partsB l ++ rest)) (hl p (by simp))
    rw [List.length_cons, splitP, e, h]
    rw [if_neg (by simp), List.drop_left, List.take_left, ih (fun q hq => hl q (by simp [hq]))]
    rfl
theorem splitB_back (l : List (List Int)) (hl : ∀ p ∈ l, p.length < 18446744073709551616) (hn : l.length < 18446744073709551616) (most : Int) : splitB (joinB l) most = if (l.length : Int) ≤ most then some l else none := by
  have h := readV_back l.length (partsB l) hn
  unfold splitB joinB
  rw [h]
  have h2 := splitP_back l hl []
  rw [List.append_nil] at h2
  by_cases hm : (l.length : Int) ≤ most
  · rw [if_neg (by simp; omega), if_pos hm]
    show (match splitP l.length (partsB l) with | some (l, []) => some l | _ => none) = _
    rw [h2]
  · rw [if_pos (by simp; omega), if_neg hm]
theorem readV_more (bs x : List Int) : ∀ (k acc : Nat), (readV k acc bs).bad = false → readV k acc (bs ++ x) = ⟨(readV k acc bs).val, (readV k acc bs).rest ++ x, false⟩ := by
  induction bs with
  | nil => intro k acc h; simp [readV] at h
  | cons c r ih =>
    intro k acc h
    rw [List.cons_append]
    rw [readV] at h ⊢
    conv => rhs; rw [readV]
    by_cases h1 : k = 9 ∧ 1 < c ∨ 0 < k ∧ c = 0
    · rw [if_pos h1] at h; simp at h
    · rw [if_neg h1] at h ⊢
      rw [if_neg h1]
      by_cases h2 : c < 128
      · rw [if_pos h2, if_pos h2]
      · rw [if_neg h2] at h ⊢
        rw [if_neg h2]
        exact ih _ _ h
theorem splitP_more (n : Nat) : ∀ (bs x : List Int) (l : List (List Int)) (rest : List Int), splitP n bs = some (l, rest) → splitP n (bs ++ x) = some (l, rest ++ x) := by
  induction n with
  | zero => intro bs x l rest h; simp [splitP] at h ⊢; exact ⟨h.1, by rw [h.2]⟩
  | succ n ih =>
    intro bs x l rest h
    rw [splitP] at h ⊢
    by_cases hb : (readV 0 0 bs).bad = true ∨ (readV 0 0 bs).rest.length < (readV 0 0 bs).val
    · rw [if_pos hb] at h; simp at h
    · rw [if_neg hb] at h
      have hb1 : (readV 0 0 bs).bad = false := by
        cases hh : (readV 0 0 bs).bad with
        | false => rfl
        | true => exact absurd (.inl hh) hb
      have hb2 : (readV 0 0 bs).val ≤ (readV 0 0 bs).rest.length := by omega
      rw [readV_more bs x 0 0 hb1, if_neg (by simp; omega)]
      simp only [Option.map_eq_some_iff] at h
      obtain ⟨⟨l', r'⟩, h1, h2⟩ := h
      simp only [Prod.mk.injEq] at h2
      obtain ⟨rfl, rfl⟩ := h2
      show (splitP n (((readV 0 0 bs).rest ++ x).drop (readV 0 0 bs).val)).map _ = _
      rw [List.drop_append_of_le_length hb2, ih _ x _ _ h1]
      simp [List.take_append_of_le_length hb2]
/-- What is split is what is joined. -/
theorem splitP_only (n : Nat) : ∀ (bs : List Int) (l : List (List Int)) (rest : List Int), isB bs → splitP n bs = some (l, rest) → l.length = n ∧ bs = partsB l ++ rest := by
  induction n with
  | zero => intro bs l rest _ h; simp [splitP] at h; obtain ⟨rfl, rfl⟩ := h; simp [partsB]
  | succ n ih =>
    intro bs l rest hB h
    rw [splitP] at h
    by_cases hb : (readV 0 0 bs).bad = true ∨ (readV 0 0 bs).rest.length < (readV 0 0 bs).val
    · rw [if_pos hb] at h; simp at h
    · rw [if_neg hb] at h
      have hb1 : (readV 0 0 bs).bad = false := by
        cases hh : (readV 0 0 bs).bad with
        | false => rfl
        | true => exact absurd (.inl hh) hb
      have hb2 : (readV 0 0 bs).val ≤ (readV 0 0 bs).rest.length := by omega
      obtain ⟨j, hj, h1, h2, h3⟩ := readV_good hB hb1
      simp only [Option.map_eq_some_iff] at h
      obtain ⟨⟨l', r'⟩, h4, h5⟩ := h
      simp only [Prod.mk.injEq] at h5
      obtain ⟨rfl, rfl⟩ := h5
      have hBr : isB (readV 0 0 bs).rest := readV_isB hB 0 0
      obtain ⟨h6, h7⟩ := ih _ _ _ (fun y hy => hBr y (List.mem_of_mem_drop hy)) h4
      refine ⟨by simp [h6], ?_⟩
      have hl : ((readV 0 0 bs).rest.take (readV 0 0 bs).val).length = (readV 0 0 bs).val := by rw [List.length_take]; omega
      rw [partsB_cons, hl, h1, List.append_assoc, List.append_assoc, ← h7, List.take_append_drop, h2, List.take_append_drop]
theorem splitB_only {bs : List Int} {most : Int} {l : List (List Int)} (hB : isB bs) (h : splitB bs most = some l) : bs = joinB l := by
  unfold splitB at h
  split at h
  · simp at h
  · rename_i hb
    have hb1 : (readV 0 0 bs).bad = false := by
      cases hh : (readV 0 0 bs).bad with
      | false => rfl
      | true => exact absurd (.inl hh) hb
    obtain ⟨j, hj, h1, h2, h3⟩ := readV_good hB hb1
    split at h
    · rename_i l' heq
      cases h
      obtain ⟨h4, h5⟩ := splitP_only _ _ _ _ (readV_isB hB 0 0) heq
      rw [List.append_nil] at h5
      unfold joinB
      rw [h4, ← h5, h1, h2, List.take_append_drop]
    · simp at h
theorem joinB_isB {l : List (List Int)} (h : ∀ p ∈ l, isB p) : isB (joinB l) := by
  unfold joinB
  refine isB_append (varB_isB _) ?_
  intro x hx
  simp only [partsB, List.mem_flatMap, List.mem_append] at hx
  obtain ⟨p, hp, hx | hx⟩ := hx
  · exact varB_isB _ x hx
  · exact h p hp x hx
/-- With something behind it a Join is none. -/
theorem splitB_behind (l : List (List Int)) (hl : ∀ p ∈ l, p.length < 18446744073709551616) (hn : l.length < 18446744073709551616) (x : List Int) (hx : x ≠ []) (most : Int) : splitB (joinB l ++ x) most = none := by
  have e : joinB l ++ x = varB l.length ++ (partsB l ++ x) := by unfold joinB; rw [List.append_assoc]
  unfold splitB
  rw [e, readV_back _ _ hn]
  split
  · rfl
  · show (match splitP l.length (partsB l ++ x) with | some (l, []) => some l | _ => none) = _
    rw [splitP_back l hl x]
    cases x with
    | nil => exact absurd rfl hx
    | cons a x => rfl
/-- Cut off anywhere it is none. -/
theorem splitB_cut (l : List (List Int)) (hB : ∀ p ∈ l, isB p) (hl : ∀ p ∈ l, p.length < 18446744073709551616) (hn : l.length < 18446744073709551616) (k : Nat) (hk : k < (joinB l).length) (most : Int) : splitB ((joinB l).take k) most = none := by
  cases h : splitB ((joinB l).take k) most with
  | none => rfl
  | some l' =>
    exfalso
    have hBt : isB ((joinB l).take k) := fun x hx => joinB_isB hB x (List.mem_of_mem_take hx)
    unfold splitB at h
    split at h
    · simp at h
    · rename_i hb
      have hb1 : (readV 0 0 ((joinB l).take k)).bad = false := by
        cases hh : (readV 0 0 ((joinB l).take k)).bad with
        | false => rfl
        | true => exact absurd (.inl hh) hb
      split at h
      · rename_i l'' heq
        have h1 := readV_more _ ((joinB l).drop k) 0 0 hb1
        rw [List.take_append_drop] at h1
        have h2 := readV_back l.length (partsB l) hn
        have h3 : readV 0 0 (joinB l) = ⟨l.length, partsB l, false⟩ := h2
        rw [h3] at h1
        simp only [Got.mk.injEq, and_true] at h1
        have h4 := splitP_more _ _ ((joinB l).drop k) _ _ heq
        rw [← h1.1, ← h1.2] at h4
        have h5 := splitP_back l hl []
        rw [List.append_nil] at h5
        rw [h5] at h4
        simp only [Option.some.injEq, Prod.mk.injEq, List.nil_append] at h4
        have h6 := congrArg List.length h4.2
        rw [List.length_drop] at h6
        simp at h6
        omega
      · simp at h
end Go.Proofs.Ytmcjjikhdjoopaa
