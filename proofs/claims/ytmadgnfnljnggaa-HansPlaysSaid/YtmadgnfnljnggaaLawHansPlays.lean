/- The law HansPlays of chrysalislaw13: for every input it answers true, and each argument reads afterwards as it read before. The row, out of the walk of XHansPlays. -/
import Derived.Test.YtmadgnfnljnggaaRows
import Derived.Test.YtmadgnfnljnggaaHansPlays
import Derived.WalkKit
import Derived.ProofKit
import Derived.OpenShut
import Derived.ShutString
import Derived.ChangeOld
import Derived.Carry
import Derived.SizedLaws
namespace Go.Proofs.Ytmadgnfnljnggaa.hansPlays
open Go.ChangeShapes Go.WideShapes Go.ChangeAt Go.RowKit
open Go.ChangeMaps (open_string shut_string)
set_option linter.unusedVariables false
set_option linter.unusedSimpArgs false
theorem own : ownKnob Try.prog.godebug = none := by kernel_rfl
theorem laidOut : laidOutB Try.prog = true := by kernel_rfl
theorem opens_i64 : Opens Try.prog 3 (Rd.int .i64) := opens_int Try.underlying3 (by kernel_rfl) (by decide +kernel)
theorem opens_u64 : Opens Try.prog 25 (Rd.int .u64) := opens_int Try.underlying25 (by kernel_rfl) (by decide +kernel)
theorem opens_bool : Opens Try.prog 4 Rd.bool := Go.Proofs.Ytmadgnfnljnggaa.opens_bool Try.underlying4 (by kernel_rfl) (by decide +kernel)
theorem opens_Han : Opens Try.prog 35 k_han := by
  unfold k_han
  refine opens_iso (opens_struct Try.underlying35 (by kernel_rfl) (by decide +kernel) ?_) _ (fun x => ⟨x.1, x.2.1, x.2.2⟩) (fun _ => rfl)
  show OpensF Try.prog [_, _, _] 0 _
  refine opensF_cons ?_ ?_ ?_ ?_
  · rfl
  · exact opens_i64
  · decide
  refine opensF_cons ?_ ?_ ?_ ?_
  · rfl
  · exact opens_u64
  · decide
  refine opensF_last ?_ ?_
  · rfl
  · exact opens_bool
theorem opens_sl_Han : Opens Try.prog 24 (Rd.slice k_han) := opens_slice Try.underlying24 (by kernel_rfl) (by decide +kernel) (by decide) opens_Han
theorem opens_HanAct : Opens Try.prog 64 k_hanact := by
  unfold k_hanact
  refine opens_iso (opens_struct Try.underlying64 (by kernel_rfl) (by decide +kernel) ?_) _ (fun x => ⟨x.1, x.2.1, x.2.2⟩) (fun _ => rfl)
  show OpensF Try.prog [_, _, _] 0 _
  refine opensF_cons ?_ ?_ ?_ ?_
  · rfl
  · exact opens_i64
  · decide
  refine opensF_cons ?_ ?_ ?_ ?_
  · rfl
  · exact opens_i64
  · decide
  refine opensF_last ?_ ?_
  · rfl
  · exact opens_u64
theorem opens_sl_HanAct : Opens Try.prog 60 (Rd.slice k_hanact) := opens_slice Try.underlying60 (by kernel_rfl) (by decide +kernel) (by decide) opens_HanAct
set_option maxRecDepth 100000 in
theorem lifted (os : Os) (started : os.Started) (H : Type) (enc : TypeId × Value → H) :
    ReturnsInHanded {} Try.checked os 11 .any (Rows.hansPlaysSpec.pre6 enc Try.prog Try.f11 Rows.hansPlaysRow.domain false) (Rows.hansPlaysSpec.post enc Try.prog Try.f11 false true false false) := by
  refine returnsInHanded_of_change_sized (C := Try.checked) own started (by kernel_rfl) Try.func11
    (ChangeSpec.witness6 (enc := enc) (C := Try.checked) false ⟨#[], #[.slice none 0 0, .slice none 0 0], []⟩ 8 (by kernel_rfl) (by kernel_rfl) (by kernel_rfl) (by kernel_rfl)) ?_
  intro W base args ds gs before hval0 hW hcnd hsz0 _
  have hsz : (DataW.weightsEach Try.prog (Try.f11.params.toList ++ Rows.hansPlaysSpec.plain.varTypes Try.prog) (ds ++ gs)).all (· ≤ reachBytes) = true := hsz0
  have hval : ∀ (j : Nat) t v, Try.f11.params[j]? = some t → args[j]? = some v → Value.okWide Try.prog W .any base t v := hval0
  have hW' := hW
  obtain ⟨p, q, hA0, hV, rfl, hfz, hnd⟩ := hW
  have hA : DataW.TrodAll enc Try.prog W 0 (fun _ => true) true Try.f11.params.toList args.toList ds p := hA0
  rw [Try.params11] at hA hval hsz
  obtain ⟨v0, vs0, d0, ds0, p0, q0, hargs, rfl, rfl, h0, r0⟩ := trodAll_cons hA
  obtain ⟨v1, vs1, d1, ds1, p1, q1, rfl, rfl, rfl, h1, r1⟩ := trodAll_cons r0
  obtain ⟨rfl, rfl, rfl⟩ := trodAll_nil r1
  obtain rfl : args = #[v0, v1] := by cases args; simp_all
  obtain ⟨rfl, rfl⟩ := trodVars_none hV
  have k0 := h0
  have lt0 : ∀ x ∈ p0, x.block < W.heap.size := by obtain ⟨m, hm⟩ := k0; exact DataW.trod_lt m _ _ _ hm
  obtain ⟨A0, c0, x0, rfl, l0, m0, row0⟩ := arg_slice Try.underlying24 opens_sl_Han (hval 0 24 v0 rfl rfl) h0 (fun n hn => of_decide_eq_true (List.all_eq_true.1 hsz n (DataW.weights_mem_each (j := 0) rfl rfl n hn)))
  have k1 := h1
  have lt1 : ∀ x ∈ p1, x.block < W.heap.size := by obtain ⟨m, hm⟩ := k1; exact DataW.trod_lt m _ _ _ hm
  obtain ⟨A1, c1, x1, rfl, l1, m1, row1⟩ := arg_slice Try.underlying60 opens_sl_HanAct (hval 1 60 v1 rfl rfl) h1 (fun n hn => of_decide_eq_true (List.all_eq_true.1 hsz n (DataW.weights_mem_each (j := 1) rfl rfl n hn)))
  clear hA0 hval0 hsz0 hsz
  refine (hansPlays_walk W A0 c0 x0 l0 m0 row0 A1 c1 x1 l1 m1 row1).mono fun e W' ⟨he, bel⟩ => ?_
  subst he
  exact ⟨_, rfl, _, _, _, [], _, [], hW', trodAll_mk1 (shut_bool Try.underlying4 _), (trodAll_cons_mk (Below.trod laidOut (by kernel_rfl) (of_decide_eq_true (by kernel_rfl)) k0 bel lt0) (trodAll_cons_mk (Below.trod laidOut (by kernel_rfl) (of_decide_eq_true (by kernel_rfl)) k1 bel lt1) trodAll_mk0)), rfl, bel.frame _, fun h => by cases h⟩
theorem over : Rows.hansPlaysRow.holds Try.pinned (OpenSpec.ofChange Rows.hansPlaysSpec) :=
  OpenClaim.holds_of_wide 11 Try.f11 rfl rfl rfl rfl rfl rfl rfl ⟨rfl, rfl, rfl, rfl, rfl⟩ rfl rfl rfl rfl rfl (by kernel_rfl) Try.func11 (by kernel_rfl)
    (of_decide_eq_true (by kernel_rfl)) (by unfold Func.isWrapper; first | (rw [if_pos (by decide +kernel)]; kernel_rfl) | (rw [if_neg (by decide +kernel)]; exact ⟨rfl, rfl⟩))
    (fun os started H enc _ => lifted os started H enc)
end Go.Proofs.Ytmadgnfnljnggaa.hansPlays
namespace Go.Proofs.Ytmadgnfnljnggaa
theorem hansPlays_holds : Rows.HansPlaysSaid := hansPlays.over
#print axioms hansPlays_holds
end Go.Proofs.Ytmadgnfnljnggaa
