/- The law HostNeeds of chrysalislaw23: for every input it answers true, and each argument reads afterwards as it read before. The row, out of the walk of XHostNeeds. -/
import Derived.Test.YtmadgnfnljnggaaRows
import Derived.Test.YtmadgnfnljnggaaHostNeeds
import Derived.WalkKit
import Derived.ProofKit
import Derived.OpenShut
import Derived.ShutString
import Derived.ChangeOld
import Derived.Carry
import Derived.SizedLaws
namespace Go.Proofs.Ytmadgnfnljnggaa.hostNeeds
open Go.ChangeShapes Go.WideShapes Go.ChangeAt Go.RowKit
open Go.ChangeMaps (open_string shut_string)
set_option linter.unusedVariables false
set_option linter.unusedSimpArgs false
theorem own : ownKnob Try.prog.godebug = none := by kernel_rfl
theorem laidOut : laidOutB Try.prog = true := by kernel_rfl
theorem opens_i64 : Opens Try.prog 3 (Rd.int .i64) := opens_int Try.underlying3 (by kernel_rfl) (by decide +kernel)
theorem opens_u64 : Opens Try.prog 25 (Rd.int .u64) := opens_int Try.underlying25 (by kernel_rfl) (by decide +kernel)
theorem opens_sl_u64 : Opens Try.prog 47 (Rd.slice (Rd.int .u64)) := opens_slice Try.underlying47 (by kernel_rfl) (by decide +kernel) (by decide) opens_u64
theorem opens_Fr : Opens Try.prog 116 k_frame := by
  unfold k_frame
  refine opens_iso (opens_struct Try.underlying116 (by kernel_rfl) (by decide +kernel) ?_) _ (fun x => ⟨x.1, x.2.1, x.2.2.1, x.2.2.2⟩) (fun _ => rfl)
  show OpensF Try.prog [_, _, _, _] 0 _
  refine opensF_cons ?_ ?_ ?_ ?_
  · rfl
  · exact opens_i64
  · decide
  refine opensF_cons ?_ ?_ ?_ ?_
  · rfl
  · exact opens_i64
  · decide
  refine opensF_cons ?_ ?_ ?_ ?_
  · rfl
  · exact opens_sl_u64
  · decide
  refine opensF_last ?_ ?_
  · rfl
  · exact opens_sl_u64
theorem opens_sl_Fr : Opens Try.prog 22 (Rd.slice k_frame) := opens_slice Try.underlying22 (by kernel_rfl) (by decide +kernel) (by decide) opens_Fr
theorem opens_u8 : Opens Try.prog 5 (Rd.int .u8) := opens_int Try.underlying5 (by kernel_rfl) (by decide +kernel)
theorem opens_sl_u8 : Opens Try.prog 77 (Rd.slice (Rd.int .u8)) := opens_slice Try.underlying77 (by kernel_rfl) (by decide +kernel) (by decide) opens_u8
theorem opens_Ob : Opens Try.prog 118 k_obj := by
  unfold k_obj
  refine opens_iso (opens_struct Try.underlying118 (by kernel_rfl) (by decide +kernel) ?_) _ (fun x => ⟨x.1, x.2.1, x.2.2.1, x.2.2.2⟩) (fun _ => rfl)
  show OpensF Try.prog [_, _, _, _] 0 _
  refine opensF_cons ?_ ?_ ?_ ?_
  · rfl
  · exact opens_i64
  · decide
  refine opensF_cons ?_ ?_ ?_ ?_
  · rfl
  · exact opens_i64
  · decide
  refine opensF_cons ?_ ?_ ?_ ?_
  · rfl
  · exact opens_sl_u64
  · decide
  refine opensF_last ?_ ?_
  · rfl
  · exact opens_sl_u8
theorem opens_sl_Ob : Opens Try.prog 23 (Rd.slice k_obj) := opens_slice Try.underlying23 (by kernel_rfl) (by decide +kernel) (by decide) opens_Ob
theorem opens_bool : Opens Try.prog 4 Rd.bool := Go.Proofs.Ytmadgnfnljnggaa.opens_bool Try.underlying4 (by kernel_rfl) (by decide +kernel)
theorem opens_Han : Opens Try.prog 35 k_han := by
  unfold k_han
  refine opens_iso (opens_struct Try.underlying35 (by kernel_rfl) (by decide +kernel) ?_) _ (fun x => ⟨x.1, x.2.1, x.2.2⟩) (fun _ => rfl)
  show OpensF Try.prog [_, _, _] 0 _
  refine opensF_cons ?_ ?_ ?_ ?_
  · rfl
  · exact opens_i64
  · decide
  refine opensF_cons ?_ ?_ ?_ ?_
  · rfl
  · exact opens_u64
  · decide
  refine opensF_last ?_ ?_
  · rfl
  · exact opens_bool
theorem opens_sl_Han : Opens Try.prog 24 (Rd.slice k_han) := opens_slice Try.underlying24 (by kernel_rfl) (by decide +kernel) (by decide) opens_Han
theorem opens_St : Opens Try.prog 27 k_state := by
  unfold k_state
  refine opens_iso (opens_struct Try.underlying27 (by kernel_rfl) (by decide +kernel) ?_) _ (fun x => ⟨x.1, x.2.1, x.2.2.1, x.2.2.2.1, x.2.2.2.2.1, x.2.2.2.2.2.1, x.2.2.2.2.2.2⟩) (fun _ => rfl)
  show OpensF Try.prog [_, _, _, _, _, _, _] 0 _
  refine opensF_cons ?_ ?_ ?_ ?_
  · rfl
  · exact opens_sl_Fr
  · decide
  refine opensF_cons ?_ ?_ ?_ ?_
  · rfl
  · exact opens_sl_Ob
  · decide
  refine opensF_cons ?_ ?_ ?_ ?_
  · rfl
  · exact opens_sl_Han
  · decide
  refine opensF_cons ?_ ?_ ?_ ?_
  · rfl
  · exact opens_i64
  · decide
  refine opensF_cons ?_ ?_ ?_ ?_
  · rfl
  · exact opens_i64
  · decide
  refine opensF_cons ?_ ?_ ?_ ?_
  · rfl
  · exact opens_i64
  · decide
  refine opensF_last ?_ ?_
  · rfl
  · exact opens_u64
theorem opens_Ty : Opens Try.prog 38 k_ty := by
  unfold k_ty
  refine opens_iso (opens_struct Try.underlying38 (by kernel_rfl) (by decide +kernel) ?_) _ (fun x => ⟨x.1, x.2⟩) (fun _ => rfl)
  show OpensF Try.prog [_, _] 0 _
  refine opensF_cons ?_ ?_ ?_ ?_
  · rfl
  · exact opens_i64
  · decide
  refine opensF_last ?_ ?_
  · rfl
  · exact opens_i64
theorem opens_sl_Ty : Opens Try.prog 42 (Rd.slice k_ty) := opens_slice Try.underlying42 (by kernel_rfl) (by decide +kernel) (by decide) opens_Ty
theorem opens_sl_sl_Ty : Opens Try.prog 44 (Rd.slice (Rd.slice k_ty)) := opens_slice Try.underlying44 (by kernel_rfl) (by decide +kernel) (by decide) opens_sl_Ty
theorem opens_Ins : Opens Try.prog 120 k_instr := by
  unfold k_instr
  refine opens_iso (opens_struct Try.underlying120 (by kernel_rfl) (by decide +kernel) ?_) _ (fun x => ⟨x.1, x.2.1, x.2.2⟩) (fun _ => rfl)
  show OpensF Try.prog [_, _, _] 0 _
  refine opensF_cons ?_ ?_ ?_ ?_
  · rfl
  · exact opens_i64
  · decide
  refine opensF_cons ?_ ?_ ?_ ?_
  · rfl
  · exact opens_i64
  · decide
  refine opensF_last ?_ ?_
  · rfl
  · exact opens_i64
theorem opens_sl_Ins : Opens Try.prog 87 (Rd.slice k_instr) := opens_slice Try.underlying87 (by kernel_rfl) (by decide +kernel) (by decide) opens_Ins
theorem opens_Fn : Opens Try.prog 89 k_func := by
  unfold k_func
  refine opens_iso (opens_struct Try.underlying89 (by kernel_rfl) (by decide +kernel) ?_) _ (fun x => ⟨x.1, x.2.1, x.2.2.1, x.2.2.2⟩) (fun _ => rfl)
  show OpensF Try.prog [_, _, _, _] 0 _
  refine opensF_cons ?_ ?_ ?_ ?_
  · rfl
  · exact opens_sl_Ty
  · decide
  refine opensF_cons ?_ ?_ ?_ ?_
  · rfl
  · exact opens_Ty
  · decide
  refine opensF_cons ?_ ?_ ?_ ?_
  · rfl
  · exact opens_sl_Ty
  · decide
  refine opensF_last ?_ ?_
  · rfl
  · exact opens_sl_Ins
theorem opens_sl_Fn : Opens Try.prog 45 (Rd.slice k_func) := opens_slice Try.underlying45 (by kernel_rfl) (by decide +kernel) (by decide) opens_Fn
theorem opens_Imp : Opens Try.prog 55 k_imp := by
  unfold k_imp
  refine opens_iso (opens_struct Try.underlying55 (by kernel_rfl) (by decide +kernel) ?_) _ (fun x => ⟨x.1, x.2⟩) (fun _ => rfl)
  show OpensF Try.prog [_, _] 0 _
  refine opensF_cons ?_ ?_ ?_ ?_
  · rfl
  · exact opens_sl_Ty
  · decide
  refine opensF_last ?_ ?_
  · rfl
  · exact opens_Ty
theorem opens_sl_Imp : Opens Try.prog 46 (Rd.slice k_imp) := opens_slice Try.underlying46 (by kernel_rfl) (by decide +kernel) (by decide) opens_Imp
theorem opens_str : Opens Try.prog 9 Rd.str := Go.Proofs.Ytmadgnfnljnggaa.opens_str Try.underlying9 (by kernel_rfl) (by decide +kernel)
theorem opens_sl_str : Opens Try.prog 48 (Rd.slice Rd.str) := opens_slice Try.underlying48 (by kernel_rfl) (by decide +kernel) (by decide) opens_str
theorem opens_Md : Opens Try.prog 50 k_mod := by
  unfold k_mod
  refine opens_iso (opens_struct Try.underlying50 (by kernel_rfl) (by decide +kernel) ?_) _ (fun x => ⟨x.1, x.2.1, x.2.2.1, x.2.2.2.1, x.2.2.2.2⟩) (fun _ => rfl)
  show OpensF Try.prog [_, _, _, _, _] 0 _
  refine opensF_cons ?_ ?_ ?_ ?_
  · rfl
  · exact opens_sl_sl_Ty
  · decide
  refine opensF_cons ?_ ?_ ?_ ?_
  · rfl
  · exact opens_sl_Fn
  · decide
  refine opensF_cons ?_ ?_ ?_ ?_
  · rfl
  · exact opens_sl_Imp
  · decide
  refine opensF_cons ?_ ?_ ?_ ?_
  · rfl
  · exact opens_sl_u64
  · decide
  refine opensF_last ?_ ?_
  · rfl
  · exact opens_sl_str
set_option maxRecDepth 100000 in
theorem lifted (os : Os) (started : os.Started) (H : Type) (enc : TypeId × Value → H) :
    ReturnsInHanded {} Try.checked os 8 .any (Rows.hostNeedsSpec.pre6 enc Try.prog Try.f8 Rows.hostNeedsRow.domain false) (Rows.hostNeedsSpec.post enc Try.prog Try.f8 false true false false) := by
  refine returnsInHanded_of_change_sized (C := Try.checked) own started (by kernel_rfl) Try.func8
    (ChangeSpec.witness6 (enc := enc) (C := Try.checked) false ⟨#[], #[.agg #[.slice none 0 0, .slice none 0 0, .slice none 0 0, .int .i64 0, .int .i64 0, .int .i64 0, .int .u64 0], .agg #[.slice none 0 0, .slice none 0 0, .slice none 0 0, .slice none 0 0, .slice none 0 0]], []⟩ 8 (by kernel_rfl) (by kernel_rfl) (by kernel_rfl) (by kernel_rfl)) ?_
  intro W base args ds gs before hval0 hW hcnd hsz0 _
  have hsz : (DataW.weightsEach Try.prog (Try.f8.params.toList ++ Rows.hostNeedsSpec.plain.varTypes Try.prog) (ds ++ gs)).all (· ≤ reachBytes) = true := hsz0
  have hval : ∀ (j : Nat) t v, Try.f8.params[j]? = some t → args[j]? = some v → Value.okWide Try.prog W .any base t v := hval0
  have hW' := hW
  obtain ⟨p, q, hA0, hV, rfl, hfz, hnd⟩ := hW
  have hA : DataW.TrodAll enc Try.prog W 0 (fun _ => true) true Try.f8.params.toList args.toList ds p := hA0
  rw [Try.params8] at hA hval hsz
  obtain ⟨v0, vs0, d0, ds0, p0, q0, hargs, rfl, rfl, h0, r0⟩ := trodAll_cons hA
  obtain ⟨v1, vs1, d1, ds1, p1, q1, rfl, rfl, rfl, h1, r1⟩ := trodAll_cons r0
  obtain ⟨rfl, rfl, rfl⟩ := trodAll_nil r1
  obtain rfl : args = #[v0, v1] := by cases args; simp_all
  obtain ⟨rfl, rfl⟩ := trodVars_none hV
  have k0 := h0
  have lt0 : ∀ x ∈ p0, x.block < W.heap.size := by obtain ⟨m, hm⟩ := k0; exact DataW.trod_lt m _ _ _ hm
  obtain ⟨cs0, x0, rfl, K0⟩ := arg_struct Try.underlying27 opens_St (hval 0 27 v0 rfl rfl) h0 (fun n hn => of_decide_eq_true (List.all_eq_true.1 hsz n (DataW.weights_mem_each (j := 0) rfl rfl n hn)))
  have k1 := h1
  have lt1 : ∀ x ∈ p1, x.block < W.heap.size := by obtain ⟨m, hm⟩ := k1; exact DataW.trod_lt m _ _ _ hm
  obtain ⟨cs1, x1, rfl, K1⟩ := arg_struct Try.underlying50 opens_Md (hval 1 50 v1 rfl rfl) h1 (fun n hn => of_decide_eq_true (List.all_eq_true.1 hsz n (DataW.weights_mem_each (j := 1) rfl rfl n hn)))
  clear hA0 hval0 hsz0 hsz
  refine (hostNeeds_walk W cs0 x0 K0 cs1 x1 K1).mono fun e W' ⟨he, bel⟩ => ?_
  subst he
  exact ⟨_, rfl, _, _, _, [], _, [], hW', trodAll_mk1 (shut_bool Try.underlying4 _), (trodAll_cons_mk (Below.trod laidOut (by kernel_rfl) (of_decide_eq_true (by kernel_rfl)) k0 bel lt0) (trodAll_cons_mk (Below.trod laidOut (by kernel_rfl) (of_decide_eq_true (by kernel_rfl)) k1 bel lt1) trodAll_mk0)), rfl, bel.frame _, fun h => by cases h⟩
theorem over : Rows.hostNeedsRow.holds Try.pinned (OpenSpec.ofChange Rows.hostNeedsSpec) :=
  OpenClaim.holds_of_wide 8 Try.f8 rfl rfl rfl rfl rfl rfl rfl ⟨rfl, rfl, rfl, rfl, rfl⟩ rfl rfl rfl rfl rfl (by kernel_rfl) Try.func8 (by kernel_rfl)
    (of_decide_eq_true (by kernel_rfl)) (by unfold Func.isWrapper; first | (rw [if_pos (by decide +kernel)]; kernel_rfl) | (rw [if_neg (by decide +kernel)]; exact ⟨rfl, rfl⟩))
    (fun os started H enc _ => lifted os started H enc)
end Go.Proofs.Ytmadgnfnljnggaa.hostNeeds
namespace Go.Proofs.Ytmadgnfnljnggaa
theorem hostNeeds_holds : Rows.HostNeedsSaid := hostNeeds.over
#print axioms hostNeeds_holds
end Go.Proofs.Ytmadgnfnljnggaa
