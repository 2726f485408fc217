/- The answers' module: it is right, its code goes straight on. -/
import Derived.Test.YtdmmjckhpagibaaGreatDoorMcMS
import Derived.Test.YtdmmjckhpagibaaGreatDoorMcFlowB
import Derived.Test.YtdmmjckhpagibaaGreatDoorMcFlowC
namespace Go.Proofs.YtdmmjckhpagibaaGreatDoor
open Go.RowKit Go.Sort
set_option linter.unusedVariables false
theorem ofc_0 {w0 : World} (hg : Glob w0) (m : Md) (B0 B1 B2 B3 B4 : Option Addr) (m0 m1 m2 m3 m4 d0 d1 d2 d3 d4 : Nat) (f : Fn) (a b : Int) (st : List Ty) : OfC w0 m B0 B1 B2 B3 B4 m0 m1 m2 m3 m4 d0 d1 d2 d3 d4 f ⟨0, a, b⟩ st ([], [⟨1, 0⟩]) true := by
  intro S W hb hM A0 c0 A3 c3 A4 c4 A c hF row
  have hgW : Glob W := hg.below hb hg.big
  have hn : namedL m f ⟨0, a, b⟩ = ([], [⟨1, 0⟩]) := rfl
  refine (of_calls W hgW m B0 B1 B2 B3 B4 m0 m1 m2 m3 m4 d0 d1 d2 d3 d4 hM f A0 A3 A4 _ _ _ c0 c3 c4 0 a b A st.length c rfl rfl rfl (plainL 0).1 (namedL m f ⟨0, a, b⟩) false (fun V hV => plain_0 V hV) (fun _ V hV => named_0 V (hgW.below hV hgW.big) m B0 B1 B2 B3 B4 m0 m1 m2 m3 m4 d0 d1 d2 d3 d4 (hM.below hV) f A0 A3 A4 _ _ _ c0 c3 c4 (hF.keep (fun b hb => hV.block b (hM.lt b hb))) a b)).mono ?_
  intro e w' h
  rw [hn] at h
  exact h
theorem ofc_26 {w0 : World} (hg : Glob w0) (m : Md) (B0 B1 B2 B3 B4 : Option Addr) (m0 m1 m2 m3 m4 d0 d1 d2 d3 d4 : Nat) (f : Fn) (a b : Int) (st : List Ty) : OfC w0 m B0 B1 B2 B3 B4 m0 m1 m2 m3 m4 d0 d1 d2 d3 d4 f ⟨26, a, b⟩ st ([f.ret], []) true := by
  intro S W hb hM A0 c0 A3 c3 A4 c4 A c hF row
  have hgW : Glob W := hg.below hb hg.big
  have hn : namedL m f ⟨26, a, b⟩ = ([f.ret], []) := rfl
  refine (of_calls W hgW m B0 B1 B2 B3 B4 m0 m1 m2 m3 m4 d0 d1 d2 d3 d4 hM f A0 A3 A4 _ _ _ c0 c3 c4 26 a b A st.length c rfl rfl rfl (plainL 26).1 (namedL m f ⟨26, a, b⟩) false (fun V hV => plain_26 V hV) (fun _ V hV => named_26 V (hgW.below hV hgW.big) m B0 B1 B2 B3 B4 m0 m1 m2 m3 m4 d0 d1 d2 d3 d4 (hM.below hV) f A0 A3 A4 _ _ _ c0 c3 c4 (hF.keep (fun b hb => hV.block b (hM.lt b hb))) a b)).mono ?_
  intro e w' h
  rw [hn] at h
  exact h
/-- The answers' function and module. -/
def fA : Fn := ⟨[], ⟨1, 0⟩, [], [⟨0, 0, 0⟩, ⟨26, 0, 0⟩]⟩
def mA : Md := ⟨[], [fA], [], [7], []⟩
theorem mainA : mainL mA = true := by decide
theorem straightA {w0 : World} (hg : Glob w0) (B0 B1 B2 B3 B4 : Option Addr) (m0 m1 m2 m3 m4 d0 d1 d2 d3 d4 : Nat) : AllStr w0 mA B0 B1 B2 B3 B4 m0 m1 m2 m3 m4 d0 d1 d2 d3 d4 [[[], [⟨1, 0⟩]]] := by
  refine ⟨rfl, fun n f sts h1 h2 => ?_, by decide⟩
  match n with
  | 0 =>
    injection h1 with h1
    injection h2 with h2
    subst h1
    subst h2
    refine ⟨⟨rfl, by decide, by decide, rfl, fun k i st h3 h4 => ?_⟩, by decide, by decide⟩
    match k with
    | 0 =>
      injection h3 with h3
      injection h4 with h4
      subst h3
      subst h4
      exact ⟨_, ofc_0 hg _ _ _ _ _ _ _ _ _ _ _ _ _ _ _ _ _ _ _ _, [⟨1, 0⟩], [1], by decide, by decide, .inr ⟨by decide, by decide, rfl⟩⟩
    | 1 =>
      injection h3 with h3
      injection h4 with h4
      subst h3
      subst h4
      exact ⟨_, ofc_26 hg _ _ _ _ _ _ _ _ _ _ _ _ _ _ _ _ _ _ _ _, [], [], by decide, by decide, .inl ⟨by decide, rfl⟩⟩
    | k + 2 => cases h3
  | n + 1 => cases h1
end Go.Proofs.YtdmmjckhpagibaaGreatDoor
