/- Script: the plain laws: what a line is, how a text parts into lines. No program in sight. -/
import Derived.Test.YtikidknmfbhilaaDoorScSame
import Derived.Lib.AtoiAllCases
import Derived.Lib.Split
namespace Go.Proofs.YtikidknmfbhilaaDoor
set_option linter.unusedVariables false

theorem ofNat_digit (d : Nat) (h : d < 10) : (UInt8.ofNat (48 + d)).toNat = 48 + d := by
  rw [UInt8.toNat_ofNat']; omega
theorem puint_digits (u : Nat) : u < 18446744073709551616 → ∀ l, Lib.parseUint10 0 (Lib.decDigits u ++ l) = Lib.parseUint10 u l := by
  induction u using Nat.strongRecOn with
  | _ u ih =>
    intro hu l
    by_cases h : u < 10
    · rw [Lib.decDigits, dif_pos h, List.singleton_append, Lib.parseUint10, ofNat_digit u h, if_pos (by omega), if_neg (by omega), if_neg (by omega)]
      congr 1; omega
    · rw [Lib.decDigits, dif_neg h, List.append_assoc, ih (u / 10) (by omega) (by omega), List.singleton_append, Lib.parseUint10, ofNat_digit (u % 10) (by omega), if_pos (by omega), if_neg (by omega), if_neg (by omega)]
      congr 1; omega
theorem decDigits_ne (u : Nat) : Lib.decDigits u ≠ [] := by
  intro h
  have h1 := Lib.decDigits_length u
  have h2 := Lib.nDigits_pos u
  rw [h] at h1
  simp at h1; omega
theorem decDigits_mem (u : Nat) : ∀ c ∈ Lib.decDigits u, 48 ≤ c.toNat ∧ c.toNat ≤ 57 := by
  induction u using Nat.strongRecOn with
  | _ u ih =>
    intro c hc
    by_cases h : u < 10
    · rw [Lib.decDigits, dif_pos h] at hc
      rw [List.mem_singleton] at hc
      subst hc
      rw [ofNat_digit u h]; omega
    · rw [Lib.decDigits, dif_neg h, List.mem_append, List.mem_singleton] at hc
      rcases hc with hc | hc
      · exact ih (u / 10) (by omega) c hc
      · subst hc
        rw [ofNat_digit (u % 10) (by omega)]; omega
theorem itoa_mem (n : Int) : ∀ c ∈ Lib.itoa n, c = 45 ∨ (48 ≤ c.toNat ∧ c.toNat ≤ 57) := by
  intro c hc
  unfold Lib.itoa at hc
  split at hc
  · rcases List.mem_cons.1 hc with h | h
    · exact .inl h
    · exact .inr (decDigits_mem _ _ h)
  · exact .inr (decDigits_mem _ _ hc)
theorem itoa_no10 (n : Int) : (10 : UInt8) ∉ Lib.itoa n := by
  intro h
  rcases itoa_mem n 10 h with h | ⟨h, _⟩
  · exact absurd h (by decide)
  · exact absurd h (by decide)
theorem itoa_no32 (n : Int) : (32 : UInt8) ∉ Lib.itoa n := by
  intro h
  rcases itoa_mem n 32 h with h | ⟨h, _⟩
  · exact absurd h (by decide)
  · exact absurd h (by decide)
theorem pmag_digits (u : Nat) (h : u < 18446744073709551616) : Lib.parseMag (Lib.decDigits u) = .ok u := by
  unfold Lib.parseMag
  rw [if_neg (decDigits_ne u)]
  have := puint_digits u h []
  rw [List.append_nil] at this
  rw [this]; rfl
theorem atoi_itoa (n : Int) (h0 : -9223372036854775808 ≤ n) (h1 : n ≤ 9223372036854775807) : Lib.atoiAll (Lib.itoa n) = .ok n := by
  unfold Lib.itoa
  split
  · rw [Lib.atoiAll_minus, pmag_digits _ (by omega)]
    unfold Lib.signed
    simp only []
    rw [if_neg (by omega)]
    congr 1; omega
  · have hm := decDigits_mem n.toNat
    have hp := pmag_digits n.toNat (by omega)
    cases e : Lib.decDigits n.toNat with
    | nil => exact absurd e (decDigits_ne _)
    | cons c r =>
      rw [e] at hm hp
      have := hm c (by simp)
      rw [Lib.atoiAll_plain c r (by omega) (by omega), hp]
      unfold Lib.signless
      simp only []
      rw [if_neg (by omega)]
      congr 1; omega
theorem itoa_inj {a b : Int} (ha : -9223372036854775808 ≤ a) (ha1 : a ≤ 9223372036854775807) (hb : -9223372036854775808 ≤ b) (hb1 : b ≤ 9223372036854775807) (h : Lib.itoa a = Lib.itoa b) : a = b := by
  have h1 := atoi_itoa a ha ha1
  rw [h, atoi_itoa b hb hb1] at h1
  injection h1 with h1
  exact h1.symm

/-- What a piece says: the number whose numeral it is. -/
def numP (s : List UInt8) : Option Int :=
  match Lib.atoiAll s with
  | .ok v => if Lib.itoa v = s ∧ fitsB v = true then some v else none
  | _ => none
theorem fits_in {v : Int} (h : fitsB v = true) : -4611686018427387904 ≤ v ∧ v ≤ 4611686018427387904 := by
  unfold fitsB at h
  simp only [Bool.and_eq_true, decide_eq_true_eq] at h
  exact h
theorem numP_iff (s : List UInt8) (v : Int) : numP s = some v ↔ s = Lib.itoa v ∧ fitsB v = true := by
  unfold numP
  constructor
  · intro h
    split at h
    · split at h
      · rename_i hh
        injection h with h
        subst h
        exact ⟨hh.1.symm, hh.2⟩
      · cases h
    · cases h
  · rintro ⟨rfl, hf⟩
    have := fits_in hf
    rw [atoi_itoa v (by omega) (by omega)]
    simp [hf]

/-- The pieces of a list between the instances of one byte. -/
def sp (c : UInt8) : List UInt8 → List (List UInt8)
  | [] => [[]]
  | x :: l => if x = c then [] :: sp c l else
    match sp c l with
    | p :: ps => (x :: p) :: ps
    | [] => [[x]]
theorem sp_none {c : UInt8} : ∀ {s : List UInt8}, c ∉ s → sp c s = [s]
  | [], _ => rfl
  | x :: l, h => by
    have h1 : x ≠ c := fun e => h (e ▸ List.mem_cons_self)
    have h2 := sp_none (s := l) (fun e => h (List.mem_cons_of_mem _ e))
    rw [sp, if_neg h1, h2]
theorem sp_hit {c : UInt8} (b : List UInt8) : ∀ {a : List UInt8}, c ∉ a → sp c (a ++ c :: b) = a :: sp c b
  | [], _ => by rw [List.nil_append, sp, if_pos rfl]
  | x :: l, h => by
    have h1 : x ≠ c := fun e => h (e ▸ List.mem_cons_self)
    have h2 := sp_hit b (a := l) (fun e => h (List.mem_cons_of_mem _ e))
    rw [List.cons_append, sp, if_neg h1, h2]
def jn (c : UInt8) : List (List UInt8) → List UInt8
  | [] => []
  | [p] => p
  | p :: q :: ps => p ++ c :: jn c (q :: ps)
theorem sp_ne (c : UInt8) (s : List UInt8) : sp c s ≠ [] := by
  cases s with
  | nil => simp [sp]
  | cons x l => rw [sp]; split; · simp
                · split <;> simp
theorem jn_sp (c : UInt8) : ∀ s : List UInt8, jn c (sp c s) = s
  | [] => rfl
  | x :: l => by
    have ih := jn_sp c l
    rw [sp]
    split
    · rename_i h
      subst h
      cases e : sp x l with
      | nil => exact absurd e (sp_ne _ _)
      | cons p ps => rw [e] at ih; rw [jn, ih]; rfl
    · cases e : sp c l with
      | nil => exact absurd e (sp_ne _ _)
      | cons p ps =>
        rw [e] at ih
        cases ps with
        | nil => simp [jn] at ih ⊢; exact ih
        | cons q qs => simp [jn] at ih ⊢; exact ih
/-- Parting at the first instance. -/
theorem index_one (s : List UInt8) (c : UInt8) : (Lib.index s [c] = -1 ∧ c ∉ s) ∨ ∃ a b, s = a ++ c :: b ∧ c ∉ a ∧ Lib.index s [c] = (a.length : Int) := by
  induction s with
  | nil => exact .inl ⟨rfl, by simp⟩
  | cons x l ih =>
    by_cases h : x = c
    · subst h
      refine .inr ⟨[], l, rfl, by simp, ?_⟩
      unfold Lib.index
      rw [if_pos (by simp)]
      rfl
    · have hp : ([c].isPrefixOf (x :: l)) = false := by
        show (c == x && [].isPrefixOf l) = false
        rw [beq_eq_false_iff_ne.2 (Ne.symm h)]; rfl
      rcases ih with ⟨h1, h2⟩ | ⟨a, b, rfl, h2, h3⟩
      · refine .inl ⟨?_, by simp [Ne.symm h, h2]⟩
        unfold Lib.index
        rw [hp, h1]; rfl
      · refine .inr ⟨x :: a, b, rfl, by simp [Ne.symm h, h2], ?_⟩
        unfold Lib.index
        rw [hp, h3]
        have : ((a.length : Int) == -1) = false := by rw [beq_eq_false_iff_ne]; omega
        simp [this]
theorem split_sp (c : UInt8) : ∀ (k : Nat) (s : List UInt8), s.length ≤ k → Lib.split s [c] = sp c s := by
  intro k
  induction k with
  | zero =>
    intro s hs
    have : s = [] := List.length_eq_zero_iff.1 (by omega)
    subst this; rfl
  | succ k ih =>
    intro s hs
    rcases index_one s c with ⟨h1, h2⟩ | ⟨a, b, rfl, h2, h3⟩
    · unfold Lib.split
      rw [Lib.count_miss h1, sp_none h2]; rfl
    · have ih' := ih b (by simp at hs; omega)
      rw [sp_hit b h2, ← ih']
      unfold Lib.split
      have e1 : (a ++ c :: b).drop (a.length + [c].length) = b := by
        rw [show a.length + [c].length = (a ++ [c]).length by simp, show a ++ c :: b = (a ++ [c]) ++ b by simp, List.drop_left]
      rw [Lib.count_hit (List.cons_ne_nil _ _) h3, e1, Nat.add_comm, Lib.splitK, h3]
      have : ((a.length : Int) == -1) = false := by rw [beq_eq_false_iff_ne]; omega
      rw [this]
      simp only [Bool.false_eq_true, if_false, Int.toNat_natCast, Nat.add_zero]
      rw [e1, List.take_left]
theorem cut_cases (s : List UInt8) (c : UInt8) : (c ∉ s ∧ Lib.cut s [c] = (s, [], false)) ∨ ∃ a b, s = a ++ c :: b ∧ c ∉ a ∧ Lib.cut s [c] = (a, b, true) := by
  rcases index_one s c with ⟨h1, h2⟩ | ⟨a, b, rfl, h2, h3⟩
  · refine .inl ⟨h2, ?_⟩
    unfold Lib.cut
    rw [h1, if_neg (by omega)]
  · refine .inr ⟨a, b, rfl, h2, ?_⟩
    unfold Lib.cut
    rw [h3, if_pos (by omega)]
    have e1 : (a ++ c :: b).drop (a.length + [c].length) = b := by
      rw [show a.length + [c].length = (a ++ [c]).length by simp, show a ++ c :: b = (a ++ [c]) ++ b by simp, List.drop_left]
    rw [Int.toNat_natCast, e1, List.take_left]

def goodO (o : Odr) : Bool := fitsB o.kind && fitsB o.a && fitsB o.b && fitsB o.c
theorem goodO_iff (o : Odr) : goodO o = true ↔ fitsB o.kind = true ∧ fitsB o.a = true ∧ fitsB o.b = true ∧ fitsB o.c = true := by
  unfold goodO
  simp only [Bool.and_eq_true, and_assoc]
def body (o : Odr) : List UInt8 := Lib.itoa o.kind ++ 32 :: (Lib.itoa o.a ++ 32 :: (Lib.itoa o.b ++ 32 :: Lib.itoa o.c))
theorem lineL_body (o : Odr) : lineL o = body o ++ [10] := by simp [lineL, body]
theorem body_no10 (o : Odr) : (10 : UInt8) ∉ body o := by
  unfold body
  simp [itoa_no10]
theorem sp_body (o : Odr) : sp 32 (body o) = [Lib.itoa o.kind, Lib.itoa o.a, Lib.itoa o.b, Lib.itoa o.c] := by
  unfold body
  rw [sp_hit _ (itoa_no32 _), sp_hit _ (itoa_no32 _), sp_hit _ (itoa_no32 _), sp_none (itoa_no32 _)]
/-- What script.order says of a line. -/
def orderP (line : List UInt8) : Option Odr :=
  match sp 32 line with
  | [p, q, r, s] =>
    match numP p, numP q, numP r, numP s with
    | some k, some a, some b, some c => some ⟨k, a, b, c⟩
    | _, _, _, _ => none
  | _ => none
theorem orderP_four {line : List UInt8} {p q r s : List UInt8} {k a b c : Int} (h : sp 32 line = [p, q, r, s]) (h0 : numP p = some k) (h1 : numP q = some a) (h2 : numP r = some b) (h3 : numP s = some c) : orderP line = some ⟨k, a, b, c⟩ := by
  unfold orderP
  rw [h]
  simp only [h0, h1, h2, h3]
theorem orderP_len {line : List UInt8} (h : (sp 32 line).length ≠ 4) : orderP line = none := by
  unfold orderP
  split
  · rename_i e
    exact absurd (by rw [e]; rfl) h
  · rfl
theorem orderP_no {line : List UInt8} {x : List UInt8} (hx : x ∈ sp 32 line) (h : numP x = none) : orderP line = none := by
  unfold orderP
  split
  · rename_i p q r s e
    rw [e] at hx
    simp only [List.mem_cons, List.not_mem_nil, or_false] at hx
    rcases hx with rfl | rfl | rfl | rfl <;> rw [h] <;> split <;> first | rfl | simp_all
  · rfl
theorem orderP_iff (line : List UInt8) (o : Odr) : orderP line = some o ↔ line = body o ∧ goodO o = true := by
  constructor
  · intro h
    unfold orderP at h
    split at h
    · rename_i p q r s e
      split at h
      · rename_i k a b c h0 h1 h2 h3
        injection h with h
        subst h
        rw [numP_iff] at h0 h1 h2 h3
        have hj := jn_sp 32 line
        rw [e] at hj
        refine ⟨?_, (goodO_iff _).2 ⟨h0.2, h1.2, h2.2, h3.2⟩⟩
        rw [← hj]
        simp only [jn, body]
        rw [h0.1, h1.1, h2.1, h3.1]
      · cases h
    · cases h
  · rintro ⟨rfl, hg⟩
    obtain ⟨g0, g1, g2, g3⟩ := (goodO_iff o).1 hg
    exact orderP_four (sp_body o) ((numP_iff _ _).2 ⟨rfl, g0⟩) ((numP_iff _ _).2 ⟨rfl, g1⟩) ((numP_iff _ _).2 ⟨rfl, g2⟩) ((numP_iff _ _).2 ⟨rfl, g3⟩)
theorem body_inj {o o' : Odr} (h : goodO o = true) (h' : goodO o' = true) (e : body o = body o') : o = o' := by
  have h1 := (orderP_iff (body o) o).2 ⟨rfl, h⟩
  rw [(orderP_iff (body o) o').2 ⟨e, h'⟩] at h1
  injection h1 with h1
  exact h1.symm

/-- No line of an order stands ahead. -/
def Stop (r : List UInt8) : Prop := ∀ o, goodO o = true → ∀ more, r ≠ lineL o ++ more
theorem Stop.nil : Stop [] := by
  intro o _ more h
  rw [lineL_body] at h
  simp at h
def goodL (l : List Odr) : Prop := ∀ o ∈ l, goodO o = true
theorem first10 {a b c d : List UInt8} (ha : (10 : UInt8) ∉ a) (hc : (10 : UInt8) ∉ c) (h : a ++ 10 :: b = c ++ 10 :: d) : a = c ∧ b = d := by
  have h1 := sp_hit b ha
  have h2 := sp_hit d hc
  rw [h, h2] at h1
  injection h1 with h1 _
  subst h1
  simpa using h
theorem line_inj {o o' : Odr} (h : goodO o = true) (h' : goodO o' = true) {x y : List UInt8} (e : lineL o ++ x = lineL o' ++ y) : o = o' ∧ x = y := by
  rw [lineL_body, lineL_body, List.append_assoc, List.append_assoc] at e
  obtain ⟨e1, e2⟩ := first10 (body_no10 o) (body_no10 o') e
  exact ⟨body_inj h h' e1, e2⟩
theorem textL_cons (o : Odr) (l : List Odr) : textL (o :: l) = lineL o ++ textL l := rfl
theorem textL_append (l m : List Odr) : textL (l ++ m) = textL l ++ textL m := by simp [textL]
theorem decode : ∀ {l m : List Odr} {r s : List UInt8}, goodL l → goodL m → Stop r → Stop s → textL l ++ r = textL m ++ s → l = m ∧ r = s
  | [], [], r, s, _, _, _, _, h => ⟨rfl, by simpa [textL] using h⟩
  | [], o :: m, r, s, _, hm, hr, _, h => by
    rw [textL_cons, List.append_assoc] at h
    exact absurd (by simpa [textL] using h) (hr o (hm o (by simp)) _)
  | o :: l, [], r, s, hl, _, _, hs, h => by
    rw [textL_cons, List.append_assoc] at h
    exact absurd (by simpa [textL] using h.symm) (hs o (hl o (by simp)) _)
  | o :: l, o' :: m, r, s, hl, hm, hr, hs, h => by
    rw [textL_cons, textL_cons, List.append_assoc, List.append_assoc] at h
    obtain ⟨h1, h2⟩ := line_inj (hl o (by simp)) (hm o' (by simp)) h
    obtain ⟨h3, h4⟩ := decode (fun x hx => hl x (by simp [hx])) (fun x hx => hm x (by simp [hx])) hr hs h2
    exact ⟨by rw [h1, h3], h4⟩
theorem stop_no10 {r : List UInt8} (h : (10 : UInt8) ∉ r) : Stop r := by
  rintro o _ more rfl
  rw [lineL_body] at h
  simp at h
theorem stop_bad {a b : List UInt8} (ha : (10 : UInt8) ∉ a) (h : orderP a = none) : Stop (a ++ 10 :: b) := by
  intro o ho more e
  rw [lineL_body, List.append_assoc] at e
  obtain ⟨e1, _⟩ := first10 ha (body_no10 o) e
  rw [(orderP_iff a o).2 ⟨e1, ho⟩] at h
  cases h
theorem stop_line {o : Odr} {b : List UInt8} (h : goodO o = true) : ¬ Stop (lineL o ++ b) := fun hs => hs o h b rfl
theorem count_line (o : Odr) : (lineL o).count 10 = 1 := by
  rw [lineL_body, List.count_append, List.count_eq_zero.2 (body_no10 o)]
  rfl
theorem count_text : ∀ l : List Odr, (textL l).count 10 = l.length
  | [] => rfl
  | o :: l => by rw [textL_cons, List.count_append, count_line, count_text l, List.length_cons]; omega
theorem textL_ne {l : List Odr} (h : l ≠ []) : textL l ≠ [] := by
  cases l with
  | nil => exact absurd rfl h
  | cons o l => rw [textL_cons, lineL_body]; simp
end Go.Proofs.YtikidknmfbhilaaDoor
