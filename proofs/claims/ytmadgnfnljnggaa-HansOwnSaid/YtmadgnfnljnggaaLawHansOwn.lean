/- The law HansOwn of chrysalislaw13: for every input it answers true, and each argument reads afterwards as it read before. The row, out of the walk of XHansOwn. -/
import Derived.Test.YtmadgnfnljnggaaRows
import Derived.Test.YtmadgnfnljnggaaHansOwn
import Derived.WalkKit
import Derived.ProofKit
import Derived.OpenShut
import Derived.ShutString
import Derived.ChangeOld
import Derived.Carry
import Derived.SizedLaws
namespace Go.Proofs.Ytmadgnfnljnggaa.hansOwn
open Go.ChangeShapes Go.WideShapes Go.ChangeAt Go.RowKit
open Go.ChangeMaps (open_string shut_string)
set_option linter.unusedVariables false
set_option linter.unusedSimpArgs false
theorem own : ownKnob Try.prog.godebug = none := by kernel_rfl
theorem laidOut : laidOutB Try.prog = true := by kernel_rfl
theorem opens_i64 : Opens Try.prog 3 (Rd.int .i64) := opens_int Try.underlying3 (by kernel_rfl) (by decide +kernel)
theorem opens_u64 : Opens Try.prog 25 (Rd.int .u64) := opens_int Try.underlying25 (by kernel_rfl) (by decide +kernel)
theorem opens_bool : Opens Try.prog 4 Rd.bool := Go.Proofs.Ytmadgnfnljnggaa.opens_bool Try.underlying4 (by kernel_rfl) (by decide +kernel)
theorem opens_Han : Opens Try.prog 35 k_han := by
  unfold k_han
  refine opens_iso (opens_struct Try.underlying35 (by kernel_rfl) (by decide +kernel) ?_) _ (fun x => ⟨x.1, x.2.1, x.2.2⟩) (fun _ => rfl)
  show OpensF Try.prog [_, _, _] 0 _
  refine opensF_cons ?_ ?_ ?_ ?_
  · rfl
  · exact opens_i64
  · decide
  refine opensF_cons ?_ ?_ ?_ ?_
  · rfl
  · exact opens_u64
  · decide
  refine opensF_last ?_ ?_
  · rfl
  · exact opens_bool
theorem opens_sl_Han : Opens Try.prog 24 (Rd.slice k_han) := opens_slice Try.underlying24 (by kernel_rfl) (by decide +kernel) (by decide) opens_Han
set_option maxRecDepth 100000 in
theorem lifted (os : Os) (started : os.Started) (H : Type) (enc : TypeId × Value → H) :
    ReturnsInHanded {} Try.checked os 14 .any (Rows.hansOwnSpec.pre6 enc Try.prog Try.f14 Rows.hansOwnRow.domain false) (Rows.hansOwnSpec.post enc Try.prog Try.f14 false true false false) := by
  refine returnsInHanded_of_change_sized (C := Try.checked) own started (by kernel_rfl) Try.func14
    (ChangeSpec.witness6 (enc := enc) (C := Try.checked) false ⟨#[], #[.slice none 0 0], []⟩ 8 (by kernel_rfl) (by kernel_rfl) (by kernel_rfl) (by kernel_rfl)) ?_
  intro W base args ds gs before hval0 hW hcnd hsz0 _
  have hsz : (DataW.weightsEach Try.prog (Try.f14.params.toList ++ Rows.hansOwnSpec.plain.varTypes Try.prog) (ds ++ gs)).all (· ≤ reachBytes) = true := hsz0
  have hval : ∀ (j : Nat) t v, Try.f14.params[j]? = some t → args[j]? = some v → Value.okWide Try.prog W .any base t v := hval0
  have hW' := hW
  obtain ⟨p, q, hA0, hV, rfl, hfz, hnd⟩ := hW
  have hA : DataW.TrodAll enc Try.prog W 0 (fun _ => true) true Try.f14.params.toList args.toList ds p := hA0
  rw [Try.params14] at hA hval hsz
  obtain ⟨v0, vs0, d0, ds0, p0, q0, hargs, rfl, rfl, h0, r0⟩ := trodAll_cons hA
  obtain ⟨rfl, rfl, rfl⟩ := trodAll_nil r0
  obtain rfl : args = #[v0] := by cases args; simp_all
  obtain ⟨rfl, rfl⟩ := trodVars_none hV
  have k0 := h0
  have lt0 : ∀ x ∈ p0, x.block < W.heap.size := by obtain ⟨m, hm⟩ := k0; exact DataW.trod_lt m _ _ _ hm
  obtain ⟨A0, c0, x0, rfl, l0, m0, row0⟩ := arg_slice Try.underlying24 opens_sl_Han (hval 0 24 v0 rfl rfl) h0 (fun n hn => of_decide_eq_true (List.all_eq_true.1 hsz n (DataW.weights_mem_each (j := 0) rfl rfl n hn)))
  clear hA0 hval0 hsz0 hsz
  refine (hansOwn_walk W A0 c0 x0 l0 m0 row0).mono fun e W' ⟨he, bel⟩ => ?_
  subst he
  exact ⟨_, rfl, _, _, _, [], _, [], hW', trodAll_mk1 (shut_bool Try.underlying4 _), (trodAll_cons_mk (Below.trod laidOut (by kernel_rfl) (of_decide_eq_true (by kernel_rfl)) k0 bel lt0) trodAll_mk0), rfl, bel.frame _, fun h => by cases h⟩
theorem over : Rows.hansOwnRow.holds Try.pinned (OpenSpec.ofChange Rows.hansOwnSpec) :=
  OpenClaim.holds_of_wide 14 Try.f14 rfl rfl rfl rfl rfl rfl rfl ⟨rfl, rfl, rfl, rfl, rfl⟩ rfl rfl rfl rfl rfl (by kernel_rfl) Try.func14 (by kernel_rfl)
    (of_decide_eq_true (by kernel_rfl)) (by unfold Func.isWrapper; first | (rw [if_pos (by decide +kernel)]; kernel_rfl) | (rw [if_neg (by decide +kernel)]; exact ⟨rfl, rfl⟩))
    (fun os started H enc _ => lifted os started H enc)
end Go.Proofs.Ytmadgnfnljnggaa.hansOwn
namespace Go.Proofs.Ytmadgnfnljnggaa
theorem hansOwn_holds : Rows.HansOwnSaid := hansOwn.over
#print axioms hansOwn_holds
end Go.Proofs.Ytmadgnfnljnggaa
