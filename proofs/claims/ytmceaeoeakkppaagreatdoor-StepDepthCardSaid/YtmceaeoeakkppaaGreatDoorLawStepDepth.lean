/- The law StepDepth of chrysalislaw15: for every input it answers true, and each argument reads afterwards as it read before. The row, out of the walk of XMcDepth. -/
import Derived.Test.YtmceaeoeakkppaaGreatDoorRows
import Derived.Test.YtmceaeoeakkppaaGreatDoorTie
import Derived.Test.YtmceaeoeakkppaaGreatDoorCards
import Derived.Test.YtmceaeoeakkppaaGreatDoorZI
import Derived.SevenTiedAt
import Derived.Test.YtmceaeoeakkppaaGreatDoorMcDepth
import Derived.WalkKit
import Derived.ProofKit
import Derived.OpenShut
import Derived.ShutString
import Derived.ChangeOld
import Derived.Carry
import Derived.SizedLaws
namespace Go.Proofs.YtmceaeoeakkppaaGreatDoor.stepDepth
open Go.ChangeShapes Go.WideShapes Go.ChangeAt Go.RowKit
open Go.ChangeMaps (open_string shut_string)
set_option linter.unusedVariables false
set_option linter.unusedSimpArgs false
theorem own : ownKnob Tryz.prog.godebug = none := by kernel_rfl
theorem laidOut : laidOutB Tryz.prog = true := by kernel_rfl
set_option maxRecDepth 100000 in
theorem lifted (os : Os) (started : os.Started) (H : Type) (enc : TypeId × Value → H) :
    ReturnsInHanded {} Tryz.checked os 5 .any (fun w args => (Rows.stepDepthSpec.pre enc Tryz.prog Tryz.f5 Rows.stepDepthRow.domain false w args ∧ laidMetH Tryz.prog laidS w) ∧ sizedMet enc Tryz.prog Tryz.f5 (OpenSpec.ofChange Rows.stepDepthSpec) false w args) (Rows.stepDepthSpec.post enc Tryz.prog Tryz.f5 false true false false) := by
  refine returns_shaped_and (C := Tryz.checked) (X := fun w _ => laidMetH Tryz.prog laidS w) (fun _ _ _ hh h => h.of_heap hh) own started (by kernel_rfl) Tryz.func5
    (ChangeSpec.witness_shaped (enc := enc) (C := Tryz.checked) (os := os) (X := fun w _ => laidMetH Tryz.prog laidS w) false (World.laidAll Tryz.prog os laidS) #[.int .u8 0] 8 (World.laidAll_os _ _ _)
      (World.shaped_of_ZipB (by kernel_rfl) (by kernel_rfl)) (by kernel_rfl) (by kernel_rfl) (by kernel_rfl) (laid_met os _)) ?_
  intro W base args ds gs before hval0 hW hcnd hsz0 hL hsh
  have hsz : (DataW.weightsEach Tryz.prog (Tryz.f5.params.toList ++ Rows.stepDepthSpec.plain.varTypes Tryz.prog) (ds ++ gs)).all (· ≤ reachBytes) = true := hsz0
  have hval : ∀ (j : Nat) t v, Tryz.f5.params[j]? = some t → args[j]? = some v → Value.okWide Tryz.prog W .any base t v := hval0
  have hW' := hW
  obtain ⟨p, q, hA0, hV, rfl, hfz, hnd⟩ := hW
  have hA : DataW.TrodAll enc Tryz.prog W 0 (fun _ => true) true Tryz.f5.params.toList args.toList ds p := hA0
  rw [Tryz.params5] at hA hval hsz
  obtain ⟨v0, vs0, d0, ds0, p0, q0, hargs, rfl, rfl, h0, r0⟩ := trodAll_cons hA
  obtain ⟨rfl, rfl, rfl⟩ := trodAll_nil r0
  obtain rfl : args = #[v0] := by cases args; simp_all
  obtain ⟨rfl, rfl⟩ := trodVars_none hV
  obtain ⟨a0, rfl, rfl, rfl, w0⟩ := open_int Tryz.underlying5 (hval 0 5 v0 rfl rfl) h0
  clear hA0 hval0 hsz0 hsz
  refine (stepDepth_walk W (facts_of hsh hL) a0 w0).mono fun e W' ⟨he, bel⟩ => ?_
  subst he
  exact ⟨_, rfl, _, _, _, [], _, [], hW', trodAll_mk1 (shut_bool Tryz.underlying4 _), (trodAll_cons_mk (shut_int Tryz.underlying5 w0) trodAll_mk0), rfl, bel.frame _, fun h => by cases h⟩
theorem over1 : Tryz.prog.funcNamed Rows.stepDepthRow.func = some 5 := by kernel_rfl
theorem over2 : joinedFacts Tryz.prog 5 Tryz.f5 Rows.stepDepthSpec Rows.stepDepthRow = true := by kernel_rfl
theorem over3 : Tryz.f5.isInstance Tryz.prog Rows.stepDepthRow.origin Rows.stepDepthRow.targs := of_decide_eq_true (by kernel_rfl)
theorem over4 : Tryz.f5.isWrapper Tryz.prog Rows.stepDepthRow.wrapper Rows.stepDepthRow.mainSum := by
  unfold Func.isWrapper; first | (rw [if_pos (by decide +kernel)]; kernel_rfl) | (rw [if_neg (by decide +kernel)]; exact ⟨rfl, rfl⟩)
theorem over : Rows.stepDepthRow.holds Tryz.pinned (OpenSpec.ofChange Rows.stepDepthSpec) :=
  OpenClaim.holds_of_wide 5 Tryz.f5 rfl rfl rfl rfl rfl rfl rfl ⟨rfl, rfl, rfl, rfl, rfl⟩ rfl rfl rfl rfl rfl over1 Tryz.func5 over2 over3 over4
    (fun os started H enc _ => lifted os started H enc)
end Go.Proofs.YtmceaeoeakkppaaGreatDoor.stepDepth
namespace Go.Proofs.YtmceaeoeakkppaaGreatDoor
theorem stepDepth_holds : Rows.StepDepthCardSaid :=
  Claim7.holds_tied_plain_at .later [] [.data, .data, .data, .data, .data] true Rows.stepDepthCard.stood.harness false
    stepDepth.over (fun _ h => by cases h) (by kernel_rfl) (fun _ h => by cases h) stepDepth_row_tie rfl ⟨rfl, rfl⟩ (by kernel_rfl) rfl
    (fun f fn hf hfn => by
      obtain rfl : f = 5 := Option.some.inj ((show Tryz.prog.funcNamed "chrysalis/chrysalislaw15.StepDepth" = some 5 by kernel_rfl).symm.trans hf) |>.symm
      obtain rfl : fn = Tryz.f5 := (Option.some.inj (Tryz.func5.symm.trans hfn)).symm
      exact ⟨by kernel_rfl, fun j t ht => by
        rw [Tryz.params5] at ht
        have hm : t ∈ [5] := by simpa using Array.mem_of_getElem? ht
        have hall : ([5].all fun u => !Tryz.prog.wantsStandIn u) = true := by kernel_rfl
        exact (show Tryz.prog.wantsStandIn t = false by simpa using List.all_eq_true.1 hall t hm)⟩)
    (by kernel_rfl)
#print axioms stepDepth_holds
end Go.Proofs.YtmceaeoeakkppaaGreatDoor
