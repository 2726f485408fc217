/- What the rows' listed variables (flow's five types) give the walks; the wrap that keeps the world's shape beside a listed condition. -/
import Derived.Test.YtdmmjckhpagibaaGreatDoorRows
import Derived.Test.YtdmmjckhpagibaaGreatDoorMcFlow
import Derived.HandedShaped
import Derived.LaidMore
import Derived.Lay
import Derived.Stop.Joined
import Derived.Stop.LaidErr
import Derived.Lib.LaidTab
import Derived.Shelf.Vars
namespace Go.Proofs.YtdmmjckhpagibaaGreatDoor
open Go.RowKit
set_option linter.unusedVariables false
def laidS : List (String × DataW Unit) := [("chrysalis/flow.number", Rows.laid_chrysalis_flow_number), ("chrysalis/flow.octets", Rows.laid_chrysalis_flow_octets), ("chrysalis/flow.words", Rows.laid_chrysalis_flow_words), ("chrysalis/flow.refs", Rows.laid_chrysalis_flow_refs), ("chrysalis/flow.use", Rows.laid_chrysalis_flow_use)]
theorem two_of_trod {P : Program} {W : World} {t ti : TypeId} {f0 f1 : Field} {fuel : Nat} {cs : List Value} {a b : Int} {p : List MemPlace} {sp : Nat → Bool}
    (ht : P.underlying t = some (.struct #[f0, f1])) (h0 : f0.type = ti) (h1 : f1.type = ti) (o0 : f0.offset = 0) (o1 : f1.offset = 1) (hi : P.underlying ti = some (.int .i64)) (hc : P.cellsOf ti = 1) (hct : P.cellsOf t = 2)
    (h : DataW.trod (fun _ => ()) P W 0 sp false fuel t cs = some (.agg [.lit (.int .i64 a), .lit (.int .i64 b)], p)) : cs = [.int .i64 a, .int .i64 b] := by
  cases fuel with
  | zero => simp [DataW.trod] at h
  | succ fuel =>
    simp only [DataW.trod, ht, hct] at h
    split at h
    · rename_i hl
      obtain ⟨xs, hm, hx⟩ := Option.map_eq_some_iff.1 h
      simp only [List.mapM_cons, List.mapM_nil, Option.bind_eq_bind, Option.bind_eq_some_iff, Option.pure_def, Option.some.injEq, h0, h1, o0, o1, hc] at hm
      obtain ⟨y0, hy0, ys, ⟨y1, hy1, ys', rfl, rfl⟩, rfl⟩ := hm
      obtain ⟨z0, e0, rfl, _⟩ := DataW.trod_int hi hy0
      obtain ⟨z1, e1, rfl, _⟩ := DataW.trod_int hi hy1
      simp only [List.map_cons, List.map_nil, Prod.mk.injEq, DataW.agg.injEq, List.cons.injEq, DataW.lit.injEq, Lit.int.injEq, true_and, and_true] at hx
      obtain ⟨⟨rfl, rfl⟩, -⟩ := hx
      match cs, hl with
      | [c0, c1], _ => simp at e0 e1; rw [e0, e1]
    · cases h
theorem row_of_laid {W : World} {n : String} {g : Nat} {a b : Int} {r : List (String × DataW Unit)} {zero : Array Value} (hsh : W.ShapedOpen Tryz.prog) (h : laidMet Tryz.prog ((n, .agg [.lit (.int .i64 a), .lit (.int .i64 b)]) :: r) W)
    (hg : Tryz.prog.globalNamed n = some g) (ht : (Tryz.prog.globals[g]?).map (·.type) = some 23) (hgs : g < Tryz.prog.globals.size)
    (h0 : ((begin Tryz.prog (fun _ _ => 0) default).world.heap[g]?).bind Obj.row? = some (zero, 23)) : W.heap[g]? = some (.cells #[.int .i64 a, .int .i64 b] 23 (0, 0)) := by
  obtain ⟨ps, ⟨g', t', cs, fuel, p, q, hg', ht', hvar, hd, _, _⟩, _⟩ := h
  obtain rfl := Option.some.inj (hg.symm.trans hg')
  obtain rfl := Option.some.inj (ht.symm.trans ht')
  have e := two_of_trod (ti := 3) Tryz.underlying23 rfl rfl rfl rfl Tryz.underlying3 (by kernel_rfl) (by kernel_rfl) hd
  obtain ⟨cs', hh, _, _⟩ := hsh.1 g zero _ hgs h0
  have e2 : cs' = cs := by simpa [World.var?, hg, hh] using hvar
  subst e2
  obtain ⟨l⟩ := cs'
  have e' : l = [.int .i64 a, .int .i64 b] := e
  subst e'
  exact hh
theorem facts_of {W : World} (hsh : W.ShapedOpen Tryz.prog) (hL : laidMetH Tryz.prog laidS W) : Glob W := by
  rw [MakeChecks.laidMetH_plain _ _ _ (by kernel_rfl)] at hL
  have h1 : laidMet Tryz.prog (("chrysalis/flow.number", .agg [.lit (.int .i64 1), .lit (.int .i64 0)]) :: _) W := hL
  have h2 : laidMet Tryz.prog (("chrysalis/flow.octets", .agg [.lit (.int .i64 2), .lit (.int .i64 0)]) :: _) W := hL.tail
  have h3 : laidMet Tryz.prog (("chrysalis/flow.words", .agg [.lit (.int .i64 3), .lit (.int .i64 0)]) :: _) W := hL.tail.tail
  have h4 : laidMet Tryz.prog (("chrysalis/flow.refs", .agg [.lit (.int .i64 7), .lit (.int .i64 0)]) :: _) W := hL.tail.tail.tail
  have h5 : laidMet Tryz.prog (("chrysalis/flow.use", .agg [.lit (.int .i64 8), .lit (.int .i64 0)]) :: _) W := hL.tail.tail.tail.tail
  refine ⟨?_, ?_, ?_, ?_, ?_⟩
  · exact row_of_laid (zero := #[.int .i64 0, .int .i64 0]) hsh h5 (by kernel_rfl) (by kernel_rfl) (by rw [show Tryz.prog.globals.size = 5 by kernel_rfl]; decide) (by kernel_rfl)
  · exact row_of_laid (zero := #[.int .i64 0, .int .i64 0]) hsh h1 (by kernel_rfl) (by kernel_rfl) (by rw [show Tryz.prog.globals.size = 5 by kernel_rfl]; decide) (by kernel_rfl)
  · exact row_of_laid (zero := #[.int .i64 0, .int .i64 0]) hsh h3 (by kernel_rfl) (by kernel_rfl) (by rw [show Tryz.prog.globals.size = 5 by kernel_rfl]; decide) (by kernel_rfl)
  · exact row_of_laid (zero := #[.int .i64 0, .int .i64 0]) hsh h2 (by kernel_rfl) (by kernel_rfl) (by rw [show Tryz.prog.globals.size = 5 by kernel_rfl]; decide) (by kernel_rfl)
  · exact row_of_laid (zero := #[.int .i64 0, .int .i64 0]) hsh h4 (by kernel_rfl) (by kernel_rfl) (by rw [show Tryz.prog.globals.size = 5 by kernel_rfl]; decide) (by kernel_rfl)
theorem returns_shaped_and {H : Type} {enc : TypeId × Value → H} {a : Assume} {C : Checked} {os : Os} {f : FuncId} {fn : Func} {s : ChangeSpec} {conds : List PathCond} {apart fresh handsOn again : Bool} {X : World → Array Value → Prop}
    (hX : ∀ (w w' : World) (args : Array Value), w.heap = w'.heap → X w args → X w' args)
    (own : ownKnob C.prog.godebug = none) (started : os.Started) (noInit : C.prog.inits.idxOf? f = none) (hfn : C.prog.funcs[f]? = some fn)
    (witness : ∃ (w : World) (tape : Tape) (i : Input), w.os = os ∧ (w.forCall tape i).Shaped C.prog ∧ i.vars = [] ∧ Input.okWide C.prog (w.forCall tape i) .any w.heap.size f i ∧
      ((s.pre enc C.prog fn conds apart (w.forCall tape i).memory i.args ∧ X (w.forCall tape i).memory i.args) ∧ sizedMet enc C.prog fn (OpenSpec.ofChange s) apart (w.forCall tape i).memory i.args) ∧ a.holds C.prog (lone (Frame.enter C.prog f i.args .normal) [] (w.forCall tape i)))
    (contract : ∀ (W : World) (base : Nat) (args : Array Value) (ds gs : List (DataW H)) (before : List MemPlace),
      (∀ (j : Nat) t v, fn.params[j]? = some t → args[j]? = some v → Value.okWide C.prog W .any base t v) →
      DataW.Whole enc C.prog fn.params.toList s.vars apart W args.toList ds gs before →
      conds.all (PathCond.test C.prog ⟨fn.params.toList, ds, s.plain.varTypes C.prog, gs⟩) = true →
      (DataW.weightsEach C.prog (fn.params.toList ++ s.plain.varTypes C.prog) (ds ++ gs)).all (· ≤ reachBytes) = true → X W args → W.ShapedOpen C.prog →
      Calls C.prog f args W fun e W' => ∃ v, e = .returned v ∧ s.post enc C.prog fn apart fresh handsOn again W args v W') :
    ReturnsInHanded a C os f .any (fun w args => (s.pre enc C.prog fn conds apart w args ∧ X w args) ∧ sizedMet enc C.prog fn (OpenSpec.ofChange s) apart w args) (s.post enc C.prog fn apart fresh handsOn again) := by
  refine returnsInHanded_of_calls own started noInit witness ?_
  intro w tape i _ hsh _ hok hpre hholds
  obtain ⟨_, _, _, fn', hfn', _, _, _, _, hval⟩ := hok
  have e : fn' = fn := Option.some.inj (hfn'.symm.trans hfn)
  subst e
  obtain ⟨⟨⟨ds, gs, before, hw, hc⟩, hx⟩, hz⟩ := hpre
  have hw' := DataW.Whole.of_heap (w' := w.forCall tape i) (by rfl) hw
  refine (contract (w.forCall tape i) w.heap.size i.args ds gs before hval hw' hc (hz.weights hw) (hX _ _ _ (by rfl) hx) hsh).mono fun e W' ⟨v, he, hp⟩ => ?_
  subst he
  exact ChangeSpec.post_blind hp
set_option maxRecDepth 100000 in
theorem laid_met (os : Os) (args : Array Value) : laidMetH Tryz.prog laidS ((World.laidAll Tryz.prog os laidS).forCall (fun _ _ => 0) ⟨#[], args, []⟩).memory := by
  rw [MakeChecks.laidMetH_plain _ _ _ (by kernel_rfl)]
  exact laidMet_laidAll _ (by kernel_rfl) (by kernel_rfl)
end Go.Proofs.YtdmmjckhpagibaaGreatDoor
