/- chrysalislaw15.StepDepth's module: it is right; its calls, one within another. -/
import Derived.Test.YtmceaeoeakkppaaGreatDoorMk6
import Derived.Test.YtmceaeoeakkppaaGreatDoorNdLoc
namespace Go.Proofs.YtmceaeoeakkppaaGreatDoor
open Go.RowKit Go.Sort
set_option linter.unusedVariables false
set_option linter.unusedSimpArgs false
def fD : Fn := ⟨[], ⟨1, 0⟩, [], [⟨25, 0, 0⟩, ⟨26, 0, 0⟩]⟩
def mD : Md := ⟨[], [fD], [], [1], []⟩
theorem mainD : mainL mD = true := by decide
theorem straightD {w0 : World} (hg : Glob w0) (B0 B1 B2 B3 B4 : Option Addr) (m0 m1 m2 m3 m4 d0 d1 d2 d3 d4 : Nat) : AllStr w0 mD B0 B1 B2 B3 B4 m0 m1 m2 m3 m4 d0 d1 d2 d3 d4 [[[], [⟨1, 0⟩]]] := by
  refine ⟨rfl, fun n f sts h1 h2 => ?_, by decide⟩
  match n with
  | 0 =>
    injection h1 with h1
    injection h2 with h2
    subst h1
    subst h2
    refine ⟨⟨rfl, by decide, by decide, rfl, fun k i st h3 h4 => ?_⟩, by decide, by decide⟩
    match k with
    | 0 =>
      injection h3 with h3
      injection h4 with h4
      subst h3
      subst h4
      exact ⟨_, ofc_25 hg _ _ _ _ _ _ _ _ _ _ _ _ _ _ _ _ _ 0 fD rfl (by decide) _ _, [⟨1, 0⟩], [1], by decide, by decide, .inr ⟨by decide, by decide, rfl⟩⟩
    | 1 =>
      injection h3 with h3
      injection h4 with h4
      subst h3
      subst h4
      exact ⟨_, ofc_26 hg _ _ _ _ _ _ _ _ _ _ _ _ _ _ _ _ _ _ _ _, [], [], by decide, by decide, .inl ⟨by decide, rfl⟩⟩
    | k + 2 => cases h3
  | n + 1 => cases h1
/-- The frames behind so many calls. -/
def lastD (L1 : Option Addr) (l1 i : Nat) : Fra := if i = 0 then ⟨0, 0, L1, 0, l1, none, 0, 0⟩ else ⟨0, 0, none, 0, 0, none, 0, 0⟩
def fsD (L1 : Option Addr) (l1 : Nat) : Nat → List Fra
  | 0 => [lastD L1 l1 0]
  | i + 1 => (fsD L1 l1 i).set i (atPc (lastD L1 l1 i) 1) ++ [lastD L1 l1 (i + 1)]
theorem fsD_len (L1 : Option Addr) (l1 i : Nat) : (fsD L1 l1 i).length = i + 1 := by
  induction i with
  | zero => rfl
  | succ i ih => simp [fsD, ih]
theorem fsD_last (L1 : Option Addr) (l1 i : Nat) : (fsD L1 l1 i)[i]? = some (lastD L1 l1 i) := by
  cases i with
  | zero => rfl
  | succ i =>
    rw [fsD, List.getElem?_append_right (by simp [fsD_len])]
    simp [fsD_len]
theorem lastD_at (L1 : Option Addr) (l1 i : Nat) : (lastD L1 l1 i).fn = 0 ∧ (lastD L1 l1 i).pc = 0 ∧ (lastD L1 l1 i).SA = none ∧ (lastD L1 l1 i).sn = 0 ∧ (lastD L1 l1 i).sc = 0 := by
  unfold lastD
  split <;> exact ⟨rfl, rfl, rfl, rfl, rfl⟩
theorem keeps_big {bs : Nat} {w w' : World} {FB p : Nat} (h : Keeps (fun y => y = FB ∨ y = p) w w') (h1 : bs ≤ FB) (h2 : bs ≤ p) : Keeps (fun y => bs ≤ y) w w' :=
  h.mono (fun y _ e => e.elim (fun e => e ▸ h1) (fun e => e ▸ h2))
/-- One call more. -/
theorem depth_next {S : Nat → Prop} {bs : Nat} {w : World} {p hp tp : Nat} {B0 B1 B2 B3 B4 : Option Addr} {m0 m1 m2 m3 m4 d0 d1 d2 d3 d4 : Nat} {q v : Int} {MA : Option Addr} {mn mc : Nat} {FB : Nat} {fc : Nat} {L1 : Option Addr} {l1 i : Nat} (h : Mk bs w p hp tp B0 B1 B2 B3 B4 m0 m1 m2 m3 m4 d0 d1 d2 d3 d4 q 0 v MA mn mc (some ⟨FB, 0, none⟩) fc (fsD L1 l1 i)) (hM : MRow S w mD B0 B1 B2 B3 B4 m0 m1 m2 m3 m4) (hS : ∀ b, S b → b < bs) (hbs : bs ≤ w.heap.size) (hbp : bs ≤ p) (hi : i < 7) (ans : Value) :
    Calls Tryz.prog 25 #[.pointer (some ⟨p, 0, none⟩), ans] w fun e w' => e = .returned (.tuple #[.slice none 0 0, .bool true]) ∧ ∃ FB' fc', Mk bs w' p hp tp B0 B1 B2 B3 B4 m0 m1 m2 m3 m4 d0 d1 d2 d3 d4 q 0 v MA mn mc (some ⟨FB', 0, none⟩) fc' (fsD L1 l1 (i + 1)) ∧ Keeps (fun y => y = FB ∨ y = p) w w' := by
  obtain ⟨a1, a2, a3, a4, a5⟩ := lastD_at L1 l1 i
  obtain ⟨FB', e, hFB, -, -⟩ := h.at_ (by rw [fsD_len]; omega)
  cases e
  refine (nextk_push h hM hS hbs (fsD_len L1 l1 i) (by omega) (fsD_last L1 l1 i) a3 a4 a5 fD (by rw [a1]; rfl) (by decide) 0 0 (by rw [a2]; rfl) fD rfl rfl rfl ans).mono ?_
  rintro e w' ⟨rfl, FB', fc', hm, hk⟩
  rw [a2] at hm
  exact ⟨rfl, FB', fc', by simpa [fsD, lastD] using hm, hk⟩
/-- One too many. -/
theorem depth_trap {S : Nat → Prop} {bs : Nat} {w : World} {p hp tp : Nat} {B0 B1 B2 B3 B4 : Option Addr} {m0 m1 m2 m3 m4 d0 d1 d2 d3 d4 : Nat} {q v : Int} {MA : Option Addr} {mn mc : Nat} {FB : Nat} {fc : Nat} {L1 : Option Addr} {l1 : Nat} (h : Mk bs w p hp tp B0 B1 B2 B3 B4 m0 m1 m2 m3 m4 d0 d1 d2 d3 d4 q 0 v MA mn mc (some ⟨FB, 0, none⟩) fc (fsD L1 l1 7)) (hM : MRow S w mD B0 B1 B2 B3 B4 m0 m1 m2 m3 m4) (hbp : bs ≤ p) (ans : Value) :
    Calls Tryz.prog 25 #[.pointer (some ⟨p, 0, none⟩), ans] w fun e w' => e = .returned (.tuple #[.slice none 0 0, .bool true]) ∧ Mk bs w' p hp tp B0 B1 B2 B3 B4 m0 m1 m2 m3 m4 d0 d1 d2 d3 d4 q 6 v MA mn mc (some ⟨FB, 0, none⟩) fc ((fsD L1 l1 7).set 7 (atPc (lastD L1 l1 7) 1)) ∧ Keeps (fun y => y = FB ∨ y = p) w w' := by
  obtain ⟨a1, a2, a3, a4, a5⟩ := lastD_at L1 l1 7
  obtain ⟨FB', e, hFB, -, -⟩ := h.at_ (by rw [fsD_len]; omega)
  cases e
  refine (nextk_trap h hM (fsD_len L1 l1 7) (fsD_last L1 l1 7) a3 a4 a5 fD (by rw [a1]; rfl) (by decide) 0 0 (by rw [a2]; rfl) fD rfl rfl ans).mono ?_
  rintro e w' ⟨rfl, hm, hk⟩
  rw [a2] at hm
  exact ⟨rfl, hm, hk⟩
set_option maxRecDepth 100000 in
/-- Nothing more behind an end. -/
theorem nextk_end {bs : Nat} {w : World} {p hp tp : Nat} {B0 B1 B2 B3 B4 : Option Addr} {m0 m1 m2 m3 m4 d0 d1 d2 d3 d4 : Nat} {q en v : Int} {MA : Option Addr} {mn mc : Nat} {FA : Option Addr} {fc : Nat} {fs : List Fra} (h : Mk bs w p hp tp B0 B1 B2 B3 B4 m0 m1 m2 m3 m4 d0 d1 d2 d3 d4 q en v MA mn mc FA fc fs) (he : ¬ en = 0) (x : Value) :
    Calls Tryz.prog 25 #[.pointer (some ⟨p, 0, none⟩), x] w fun e w' => e = .returned (.tuple #[.slice none 0 0, .bool false]) ∧ Below w.heap.size w w' := by
  have c8 : w.cell? ⟨p, 8, none⟩ = some (.int .i64 en) := blk_cell h.box 8
  clear h
  go_enter Tryz.func25, Tryz.ntmps25
  go_wp2
  go_ret2
  exact ⟨rfl, Below.refl _ _⟩
end Go.Proofs.YtmceaeoeakkppaaGreatDoor
