/- The law HeapNone of chrysalislaw12: for every input it answers true, and each argument reads afterwards as it read before. The row, out of the walk of XHeapLaws. -/
import Derived.Test.YtmcjjikhdjoopaaRows
import Derived.Test.YtmcjjikhdjoopaaHeapLaws
import Derived.WalkKit
import Derived.ProofKit
import Derived.OpenShut
import Derived.ShutString
import Derived.ChangeOld
import Derived.Carry
import Derived.SizedLaws
namespace Go.Proofs.Ytmcjjikhdjoopaa.heapNone
open Go.ChangeShapes Go.WideShapes Go.ChangeAt Go.RowKit
open Go.ChangeMaps (open_string shut_string)
set_option linter.unusedVariables false
set_option linter.unusedSimpArgs false
theorem own : ownKnob Try.prog.godebug = none := by kernel_rfl
theorem laidOut : laidOutB Try.prog = true := by kernel_rfl
theorem opens_i64 : Opens Try.prog 3 (Rd.int .i64) := opens_int Try.underlying3 (by kernel_rfl) (by decide +kernel)
theorem opens_u64 : Opens Try.prog 25 (Rd.int .u64) := opens_int Try.underlying25 (by kernel_rfl) (by decide +kernel)
theorem opens_sl_u64 : Opens Try.prog 28 (Rd.slice (Rd.int .u64)) := opens_slice Try.underlying28 (by kernel_rfl) (by decide +kernel) (by decide) opens_u64
theorem opens_u8 : Opens Try.prog 5 (Rd.int .u8) := opens_int Try.underlying5 (by kernel_rfl) (by decide +kernel)
theorem opens_sl_u8 : Opens Try.prog 29 (Rd.slice (Rd.int .u8)) := opens_slice Try.underlying29 (by kernel_rfl) (by decide +kernel) (by decide) opens_u8
theorem opens_Ob : Opens Try.prog 31 k_obj := by
  unfold k_obj
  refine opens_iso (opens_struct Try.underlying31 (by kernel_rfl) (by decide +kernel) ?_) _ (fun x => ⟨x.1, x.2.1, x.2.2.1, x.2.2.2⟩) (fun _ => rfl)
  show OpensF Try.prog [_, _, _, _] 0 _
  refine opensF_cons ?_ ?_ ?_ ?_
  · rfl
  · exact opens_i64
  · decide
  refine opensF_cons ?_ ?_ ?_ ?_
  · rfl
  · exact opens_i64
  · decide
  refine opensF_cons ?_ ?_ ?_ ?_
  · rfl
  · exact opens_sl_u64
  · decide
  refine opensF_last ?_ ?_
  · rfl
  · exact opens_sl_u8
set_option maxRecDepth 100000 in
theorem lifted (os : Os) (started : os.Started) (H : Type) (enc : TypeId × Value → H) :
    ReturnsInHanded {} Try.checked os 12 .any (Rows.heapNoneSpec.pre6 enc Try.prog Try.f12 Rows.heapNoneRow.domain false) (Rows.heapNoneSpec.post enc Try.prog Try.f12 false true false false) := by
  refine returnsInHanded_of_change_sized (C := Try.checked) own started (by kernel_rfl) Try.func12
    (ChangeSpec.witness6 (enc := enc) (C := Try.checked) false ⟨#[], #[.int .u64 0, .int .u64 0, .agg #[.int .i64 0, .int .i64 0, .slice none 0 0, .slice none 0 0]], []⟩ 8 (by kernel_rfl) (by kernel_rfl) (by kernel_rfl) (by kernel_rfl)) ?_
  intro W base args ds gs before hval0 hW hcnd hsz0 _
  have hsz : (DataW.weightsEach Try.prog (Try.f12.params.toList ++ Rows.heapNoneSpec.plain.varTypes Try.prog) (ds ++ gs)).all (· ≤ reachBytes) = true := hsz0
  have hval : ∀ (j : Nat) t v, Try.f12.params[j]? = some t → args[j]? = some v → Value.okWide Try.prog W .any base t v := hval0
  have hW' := hW
  obtain ⟨p, q, hA0, hV, rfl, hfz, hnd⟩ := hW
  have hA : DataW.TrodAll enc Try.prog W 0 (fun _ => true) true Try.f12.params.toList args.toList ds p := hA0
  rw [Try.params12] at hA hval hsz
  obtain ⟨v0, vs0, d0, ds0, p0, q0, hargs, rfl, rfl, h0, r0⟩ := trodAll_cons hA
  obtain ⟨v1, vs1, d1, ds1, p1, q1, rfl, rfl, rfl, h1, r1⟩ := trodAll_cons r0
  obtain ⟨v2, vs2, d2, ds2, p2, q2, rfl, rfl, rfl, h2, r2⟩ := trodAll_cons r1
  obtain ⟨rfl, rfl, rfl⟩ := trodAll_nil r2
  obtain rfl : args = #[v0, v1, v2] := by cases args; simp_all
  obtain ⟨rfl, rfl⟩ := trodVars_none hV
  obtain ⟨a0, rfl, rfl, rfl, w0⟩ := open_int Try.underlying25 (hval 0 25 v0 rfl rfl) h0
  obtain ⟨a1, rfl, rfl, rfl, w1⟩ := open_int Try.underlying25 (hval 1 25 v1 rfl rfl) h1
  have k2 := h2
  have lt2 : ∀ x ∈ p2, x.block < W.heap.size := by obtain ⟨m, hm⟩ := k2; exact DataW.trod_lt m _ _ _ hm
  obtain ⟨cs2, x2, rfl, K2⟩ := arg_struct Try.underlying31 opens_Ob (hval 2 31 v2 rfl rfl) h2 (fun n hn => of_decide_eq_true (List.all_eq_true.1 hsz n (DataW.weights_mem_each (j := 2) rfl rfl n hn)))
  clear hA0 hval0 hsz0 hsz
  refine (heapNone_walk W a0 w0 a1 w1 cs2 x2 K2).mono fun e W' ⟨he, bel⟩ => ?_
  subst he
  exact ⟨_, rfl, _, _, _, [], _, [], hW', trodAll_mk1 (shut_bool Try.underlying4 _), (trodAll_cons_mk (shut_int Try.underlying25 w0) (trodAll_cons_mk (shut_int Try.underlying25 w1) (trodAll_cons_mk (Below.trod laidOut (by kernel_rfl) (of_decide_eq_true (by kernel_rfl)) k2 bel lt2) trodAll_mk0))), rfl, bel.frame _, fun h => by cases h⟩
theorem over : Rows.heapNoneRow.holds Try.pinned (OpenSpec.ofChange Rows.heapNoneSpec) :=
  OpenClaim.holds_of_wide 12 Try.f12 rfl rfl rfl rfl rfl rfl rfl ⟨rfl, rfl, rfl, rfl, rfl⟩ rfl rfl rfl rfl rfl (by kernel_rfl) Try.func12 (by kernel_rfl)
    (of_decide_eq_true (by kernel_rfl)) (by unfold Func.isWrapper; first | (rw [if_pos (by decide +kernel)]; kernel_rfl) | (rw [if_neg (by decide +kernel)]; exact ⟨rfl, rfl⟩))
    (fun os started H enc _ => lifted os started H enc)
end Go.Proofs.Ytmcjjikhdjoopaa.heapNone
namespace Go.Proofs.Ytmcjjikhdjoopaa
theorem heapNone_holds : Rows.HeapNoneSaid := heapNone.over
#print axioms heapNone_holds
end Go.Proofs.Ytmcjjikhdjoopaa
