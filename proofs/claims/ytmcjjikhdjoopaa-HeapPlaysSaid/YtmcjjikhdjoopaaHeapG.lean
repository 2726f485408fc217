/- SetWord and SetByte over a list of objects. -/
import Derived.Test.YtmcjjikhdjoopaaHeapLaws
namespace Go.Proofs.Ytmcjjikhdjoopaa
open Go.RowKit
set_option linter.unusedVariables false
theorem setwordG (w : World) (p : Nat) (v : Value) (L : List (Ob × OV)) (q u : Int) (h : Hp w p v L q u) (objs : List Ob) (hm : L.map (·.1) = objs) (r n y : Int) (hr : 0 ≤ r) (hn : 0 ≤ n) (hy : 0 ≤ y ∧ y ≤ 18446744073709551615) :
    Calls Try.prog 26 #[.pointer (some ⟨p, 0, none⟩), .int .u64 r, .int .u64 n, .int .u64 y] w fun e w' => e = .returned (.int .i64 (wordS objs r n).2) ∧ (∃ L', L'.length = L.length ∧ Hp w' p v L' q u ∧ L'.map (·.1) = (if (wordS objs r n).2 = 0 then setAt (setWO · n y) objs r else objs) ∧ (∀ b, HF p v L' b → HF p v L b)) ∧ Keeps (HF p v L) w w' := by
  subst hm
  refine (setwordS_calls w p v L q u h r n y hr hn hy).mono ?_
  rintro e w' ⟨rfl, hH, hk⟩
  refine ⟨rfl, ⟨_, ?_, hH, ?_, fun b hb => ?_⟩, hk⟩
  · split
    · exact setL_length _ _ _
    · rfl
  · split
    · exact setL_map _ _ _
    · rfl
  · split at hb
    · rcases hb with hb | hb
      · exact .inl hb
      · exact .inr (olf_setL hb)
    · exact hb

theorem setbyteG (w : World) (p : Nat) (v : Value) (L : List (Ob × OV)) (q u : Int) (h : Hp w p v L q u) (objs : List Ob) (hm : L.map (·.1) = objs) (r n y : Int) (hr : 0 ≤ r) (hn : 0 ≤ n) (hy : 0 ≤ y ∧ y ≤ 18446744073709551615) :
    Calls Try.prog 27 #[.pointer (some ⟨p, 0, none⟩), .int .u64 r, .int .u64 n, .int .u64 y] w fun e w' => e = .returned (.int .i64 (byteS objs r n).2) ∧ (∃ L', L'.length = L.length ∧ Hp w' p v L' q u ∧ L'.map (·.1) = (if (byteS objs r n).2 = 0 then setAt (setBO · n y) objs r else objs) ∧ (∀ b, HF p v L' b → HF p v L b)) ∧ Keeps (HF p v L) w w' := by
  subst hm
  refine (setbyteS_calls w p v L q u h r n y hr hn hy).mono ?_
  rintro e w' ⟨rfl, hH, hk⟩
  refine ⟨rfl, ⟨_, ?_, hH, ?_, fun b hb => ?_⟩, hk⟩
  · split
    · exact setL_length _ _ _
    · rfl
  · split
    · exact setL_map _ _ _
    · rfl
  · split at hb
    · rcases hb with hb | hb
      · exact .inl hb
      · exact .inr (olf_setL hb)
    · exact hb
end Go.Proofs.Ytmcjjikhdjoopaa
