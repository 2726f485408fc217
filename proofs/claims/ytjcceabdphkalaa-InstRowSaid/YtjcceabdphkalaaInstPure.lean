/- Plain laws of instructions as bytes. -/
import Derived.Test.YtjcceabdphkalaaNumPure
import Derived.Test.YtjcceabdphkalaaData
namespace Go.Proofs.Ytjcceabdphkalaa
set_option linter.unusedVariables false
/-- How many numbers an instruction has. -/
def argsN (op : Int) : Int :=
  if op = 29 ∨ op = 30 then 2
  else if op = 0 ∨ op = 1 ∨ op = 3 ∨ op = 4 ∨ op = 23 ∨ op = 24 ∨ op = 25 ∨ op = 27 ∨ op = 28 then 1
  else if op < 0 ∨ 42 ≤ op then -1 else 0
theorem argsN_range (op : Int) : argsN op = -1 ∨ argsN op = 0 ∨ argsN op = 1 ∨ argsN op = 2 := by
  unfold argsN; split; simp; split; simp; split <;> simp
theorem argsN_op {op : Int} (h : 0 ≤ argsN op) : 0 ≤ op ∧ op < 42 := by
  unfold argsN at h; split at h; omega; split at h; omega; split at h <;> omega
def mayN (n : Int) (has : Bool) : Bool := decide (0 ≤ n) && (decide (n ≤ 255) && (has || decide (n = 0)))
def goodI (i : Ins) : Bool := decide (0 ≤ argsN i.op) && (mayN i.a (decide (0 < argsN i.op)) && mayN i.b (decide (1 < argsN i.op)))
def instB (i : Ins) : List Int :=
  if goodI i = true then i.op :: ((if 0 < argsN i.op then varB i.a.toNat else []) ++ (if 1 < argsN i.op then varB i.b.toNat else [])) else []
/-- The instruction at the front of bytes, and what is left. -/
def getI (bs : List Int) : Option (Ins × List Int) :=
  match bs with
  | [] => none
  | op :: r =>
    if argsN op < 0 then none
    else if argsN op = 0 then some (⟨op, 0, 0⟩, r)
    else if (readV 0 0 r).bad = true ∨ 255 < (readV 0 0 r).val then none
    else if argsN op = 1 then some (⟨op, (readV 0 0 r).val, 0⟩, (readV 0 0 r).rest)
    else if (readV 0 0 (readV 0 0 r).rest).bad = true ∨ 255 < (readV 0 0 (readV 0 0 r).rest).val then none
    else some (⟨op, (readV 0 0 r).val, (readV 0 0 (readV 0 0 r).rest).val⟩, (readV 0 0 (readV 0 0 r).rest).rest)
theorem instB_isB (i : Ins) : isB (instB i) := by
  unfold instB
  split
  · rename_i h
    have h0 : 0 ≤ argsN i.op := by unfold goodI at h; simp at h; exact h.1
    have := argsN_op h0
    intro x hx
    rcases List.mem_cons.1 hx with rfl | hx
    · omega
    · rcases List.mem_append.1 hx with hx | hx
      · split at hx
        · exact varB_isB _ x hx
        · simp at hx
      · split at hx
        · exact varB_isB _ x hx
        · simp at hx
  · intro x hx; simp at hx
theorem instB_nil {i : Ins} (h : instB i = []) : goodI i = false := by
  unfold instB at h
  split at h
  · simp at h
  · simp_all
theorem instB_good {i : Ins} (h : instB i ≠ []) : goodI i = true := by
  unfold instB at h
  split at h
  · assumption
  · simp at h
theorem goodI_open {i : Ins} (h : goodI i = true) : 0 ≤ argsN i.op ∧ 0 ≤ i.a ∧ i.a ≤ 255 ∧ 0 ≤ i.b ∧ i.b ≤ 255 ∧ (argsN i.op ≤ 0 → i.a = 0) ∧ (argsN i.op ≤ 1 → i.b = 0) := by
  unfold goodI mayN at h
  simp only [Bool.and_eq_true, Bool.or_eq_true, decide_eq_true_eq] at h
  obtain ⟨h1, ⟨h2, h3, h4⟩, h5, h6, h7⟩ := h
  refine ⟨h1, h2, h3, h5, h6, fun h => ?_, fun h => ?_⟩
  · rcases h4 with h4 | h4 <;> omega
  · rcases h7 with h7 | h7 <;> omega
theorem getI_back (i : Ins) (h : goodI i = true) (rest : List Int) : getI (instB i ++ rest) = some (i, rest) := by
  obtain ⟨h1, h2, h3, h4, h5, h6, h7⟩ := goodI_open h
  obtain ⟨op, a, b⟩ := i
  simp only at h1 h2 h3 h4 h5 h6 h7 h
  have ha : a.toNat < 18446744073709551616 := by omega
  have hb : b.toNat < 18446744073709551616 := by omega
  have ea : ((a.toNat : Nat) : Int) = a := by omega
  have eb : ((b.toNat : Nat) : Int) = b := by omega
  unfold instB
  rw [if_pos h]
  rcases argsN_range op with e | e | e | e
  · omega
  · simp only [getI, List.cons_append, e]
    rw [h6 (by omega), h7 (by omega)]
    simp
  · have hr := readV_back a.toNat rest ha
    simp only [getI, List.cons_append, e]
    simp [hr]
    refine ⟨by omega, by omega, (h7 (by omega)).symm⟩
  · have hr := readV_back a.toNat (varB b.toNat ++ rest) ha
    have hr2 := readV_back b.toNat rest hb
    simp only [getI, List.cons_append, e]
    simp [hr, hr2]
    refine ⟨by omega, by omega, by omega, by omega⟩
theorem getI_only {bs : List Int} {i : Ins} {rest : List Int} (hB : isB bs) (h : getI bs = some (i, rest)) : goodI i = true ∧ bs = instB i ++ rest := by
  cases bs with
  | nil => simp [getI] at h
  | cons op r =>
    have hBr : isB r := fun x hx => hB x (by simp [hx])
    unfold getI at h
    simp only at h
    split at h
    · simp at h
    rename_i h0
    split at h
    · rename_i h1
      simp only [Option.some.injEq, Prod.mk.injEq] at h
      obtain ⟨rfl, rfl⟩ := h
      have hg : goodI ⟨op, 0, 0⟩ = true := by simp [goodI, mayN, h1]
      refine ⟨hg, ?_⟩
      unfold instB
      rw [if_pos hg]
      simp [h1]
    rename_i h1
    split at h
    · simp at h
    rename_i h2
    have hb1 : (readV 0 0 r).bad = false := by
      cases hh : (readV 0 0 r).bad with
      | false => rfl
      | true => exact absurd (.inl hh) h2
    obtain ⟨j, hj, e1, e2, e3⟩ := readV_good hBr hb1
    split at h
    · rename_i h3
      simp only [Option.some.injEq, Prod.mk.injEq] at h
      obtain ⟨rfl, rfl⟩ := h
      have hg : goodI ⟨op, ((readV 0 0 r).val : Int), 0⟩ = true := by simp [goodI, mayN, h3]; omega
      refine ⟨hg, ?_⟩
      unfold instB
      rw [if_pos hg]
      simp only [h3]
      simp [e1, e2]
    rename_i h3
    split at h
    · simp at h
    rename_i h4
    have hB2 : isB (readV 0 0 r).rest := readV_isB hBr 0 0
    have hb2 : (readV 0 0 (readV 0 0 r).rest).bad = false := by
      cases hh : (readV 0 0 (readV 0 0 r).rest).bad with
      | false => rfl
      | true => exact absurd (.inl hh) h4
    obtain ⟨j2, hj2, e4, e5, e6⟩ := readV_good hB2 hb2
    have h5 : argsN op = 2 := by rcases argsN_range op with e | e | e | e <;> omega
    simp only [Option.some.injEq, Prod.mk.injEq] at h
    obtain ⟨rfl, rfl⟩ := h
    have hg : goodI ⟨op, ((readV 0 0 r).val : Int), ((readV 0 0 (readV 0 0 r).rest).val : Int)⟩ = true := by simp [goodI, mayN, h5]; omega
    refine ⟨hg, ?_⟩
    unfold instB
    rw [if_pos hg]
    simp only [h5]
    simp only [show (0 : Int) < 2 from by decide, show (1 : Int) < 2 from by decide, if_true, Int.toNat_natCast, e1, e4, e5]
    rw [List.cons_append, List.append_assoc, List.take_append_drop, e2, List.take_append_drop]
theorem getI_more {bs : List Int} {i : Ins} {rest : List Int} (x : List Int) (hB : isB bs) (h : getI bs = some (i, rest)) : getI (bs ++ x) = some (i, rest ++ x) := by
  obtain ⟨hg, rfl⟩ := getI_only hB h
  rw [List.append_assoc]
  exact getI_back i hg _
/-- Cut off anywhere it is none. -/
theorem getI_cut (i : Ins) (k : Nat) (hk : k < (instB i).length) : getI ((instB i).take k) = none := by
  cases h : getI ((instB i).take k) with
  | none => rfl
  | some x =>
    exfalso
    obtain ⟨j, rest⟩ := x
    have hg := instB_good (i := i) (by intro e; rw [e] at hk; simp at hk)
    have hBt : isB ((instB i).take k) := fun x hx => instB_isB i x (List.mem_of_mem_take hx)
    have h1 := getI_more ((instB i).drop k) hBt h
    rw [List.take_append_drop] at h1
    have h2 := getI_back i hg []
    rw [List.append_nil] at h2
    rw [h2] at h1
    simp only [Option.some.injEq, Prod.mk.injEq] at h1
    have h3 := congrArg List.length h1.2
    rw [List.length_append, List.length_drop] at h3
    simp at h3
    omega
/-- What is none at its first byte. -/
theorem getI_none {op : Int} {r : List Int} (h : getI (op :: r) = none) : argsN op ≠ 0 := by
  intro e
  simp [getI, e] at h
end Go.Proofs.Ytjcceabdphkalaa
