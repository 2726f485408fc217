/- GlRow: What the rows' listed variables (flow's five types) give the walks; the wrap that keeps the world's shape beside a listed condition. McRun: run.Go, run.Run over a machine that tells nothing, up to where it stays. McRunA: step's machine: Want going, Want and Next behind its end; run.Run of the answers' program. McRun16: chrysalislaw16.answers; chrysalislaw16.RunNone. -/
import Derived.Test.YtmceaeoeakkppaaGreatDoorRows
import Derived.Test.YtmceaeoeakkppaaGreatDoorZFlow
import Derived.HandedShaped
import Derived.LaidMore
import Derived.Lay
import Derived.Stop.Joined
import Derived.Stop.LaidErr
import Derived.Lib.LaidTab
import Derived.Shelf.Vars
import Derived.Test.YtmceaeoeakkppaaGreatDoorZC
import Derived.Handy
import Derived.Test.YtmceaeoeakkppaaGreatDoorZF
import Derived.Test.YtmceaeoeakkppaaGreatDoorZH
namespace Go.Proofs.YtmceaeoeakkppaaGreatDoor
open Go.RowKit
set_option linter.unusedVariables false
def laidS : List (String × DataW Unit) := [("chrysalis/flow.number", Rows.laid_chrysalis_flow_number), ("chrysalis/flow.octets", Rows.laid_chrysalis_flow_octets), ("chrysalis/flow.words", Rows.laid_chrysalis_flow_words), ("chrysalis/flow.refs", Rows.laid_chrysalis_flow_refs), ("chrysalis/flow.use", Rows.laid_chrysalis_flow_use)]
theorem two_of_trod {P : Program} {W : World} {t ti : TypeId} {f0 f1 : Field} {fuel : Nat} {cs : List Value} {a b : Int} {p : List MemPlace} {sp : Nat → Bool}
    (ht : P.underlying t = some (.struct #[f0, f1])) (h0 : f0.type = ti) (h1 : f1.type = ti) (o0 : f0.offset = 0) (o1 : f1.offset = 1) (hi : P.underlying ti = some (.int .i64)) (hc : P.cellsOf ti = 1) (hct : P.cellsOf t = 2)
    (h : DataW.trod (fun _ => ()) P W 0 sp false fuel t cs = some (.agg [.lit (.int .i64 a), .lit (.int .i64 b)], p)) : cs = [.int .i64 a, .int .i64 b] := by
  cases fuel with
  | zero => simp [DataW.trod] at h
  | succ fuel =>
    simp only [DataW.trod, ht, hct] at h
    split at h
    · rename_i hl
      obtain ⟨xs, hm, hx⟩ := Option.map_eq_some_iff.1 h
      simp only [List.mapM_cons, List.mapM_nil, Option.bind_eq_bind, Option.bind_eq_some_iff, Option.pure_def, Option.some.injEq, h0, h1, o0, o1, hc] at hm
      obtain ⟨y0, hy0, ys, ⟨y1, hy1, ys', rfl, rfl⟩, rfl⟩ := hm
      obtain ⟨z0, e0, rfl, _⟩ := DataW.trod_int hi hy0
      obtain ⟨z1, e1, rfl, _⟩ := DataW.trod_int hi hy1
      simp only [List.map_cons, List.map_nil, Prod.mk.injEq, DataW.agg.injEq, List.cons.injEq, DataW.lit.injEq, Lit.int.injEq, true_and, and_true] at hx
      obtain ⟨⟨rfl, rfl⟩, -⟩ := hx
      match cs, hl with
      | [c0, c1], _ => simp at e0 e1; rw [e0, e1]
    · cases h
theorem row_of_laid {W : World} {n : String} {g : Nat} {a b : Int} {r : List (String × DataW Unit)} {zero : Array Value} (hsh : W.ShapedOpen Tryz.prog) (h : laidMet Tryz.prog ((n, .agg [.lit (.int .i64 a), .lit (.int .i64 b)]) :: r) W)
    (hg : Tryz.prog.globalNamed n = some g) (ht : (Tryz.prog.globals[g]?).map (·.type) = some 58) (hgs : g < Tryz.prog.globals.size)
    (h0 : ((begin Tryz.prog (fun _ _ => 0) default).world.heap[g]?).bind Obj.row? = some (zero, 58)) : W.heap[g]? = some (.cells #[.int .i64 a, .int .i64 b] 58 (0, 0)) := by
  obtain ⟨ps, ⟨g', t', cs, fuel, p, q, hg', ht', hvar, hd, _, _⟩, _⟩ := h
  obtain rfl := Option.some.inj (hg.symm.trans hg')
  obtain rfl := Option.some.inj (ht.symm.trans ht')
  have e := two_of_trod (ti := 3) Tryz.underlying58 rfl rfl rfl rfl Tryz.underlying3 (by kernel_rfl) (by kernel_rfl) hd
  obtain ⟨cs', hh, _, _⟩ := hsh.1 g zero _ hgs h0
  have e2 : cs' = cs := by simpa [World.var?, hg, hh] using hvar
  subst e2
  obtain ⟨l⟩ := cs'
  have e' : l = [.int .i64 a, .int .i64 b] := e
  subst e'
  exact hh
theorem facts_of {W : World} (hsh : W.ShapedOpen Tryz.prog) (hL : laidMetH Tryz.prog laidS W) : Glob W := by
  rw [MakeChecks.laidMetH_plain _ _ _ (by kernel_rfl)] at hL
  have h1 : laidMet Tryz.prog (("chrysalis/flow.number", .agg [.lit (.int .i64 1), .lit (.int .i64 0)]) :: _) W := hL
  have h2 : laidMet Tryz.prog (("chrysalis/flow.octets", .agg [.lit (.int .i64 2), .lit (.int .i64 0)]) :: _) W := hL.tail
  have h3 : laidMet Tryz.prog (("chrysalis/flow.words", .agg [.lit (.int .i64 3), .lit (.int .i64 0)]) :: _) W := hL.tail.tail
  have h4 : laidMet Tryz.prog (("chrysalis/flow.refs", .agg [.lit (.int .i64 7), .lit (.int .i64 0)]) :: _) W := hL.tail.tail.tail
  have h5 : laidMet Tryz.prog (("chrysalis/flow.use", .agg [.lit (.int .i64 8), .lit (.int .i64 0)]) :: _) W := hL.tail.tail.tail.tail
  refine ⟨?_, ?_, ?_, ?_, ?_⟩
  · exact row_of_laid (zero := #[.int .i64 0, .int .i64 0]) hsh h5 (by kernel_rfl) (by kernel_rfl) (by rw [show Tryz.prog.globals.size = 5 by kernel_rfl]; decide) (by kernel_rfl)
  · exact row_of_laid (zero := #[.int .i64 0, .int .i64 0]) hsh h1 (by kernel_rfl) (by kernel_rfl) (by rw [show Tryz.prog.globals.size = 5 by kernel_rfl]; decide) (by kernel_rfl)
  · exact row_of_laid (zero := #[.int .i64 0, .int .i64 0]) hsh h3 (by kernel_rfl) (by kernel_rfl) (by rw [show Tryz.prog.globals.size = 5 by kernel_rfl]; decide) (by kernel_rfl)
  · exact row_of_laid (zero := #[.int .i64 0, .int .i64 0]) hsh h2 (by kernel_rfl) (by kernel_rfl) (by rw [show Tryz.prog.globals.size = 5 by kernel_rfl]; decide) (by kernel_rfl)
  · exact row_of_laid (zero := #[.int .i64 0, .int .i64 0]) hsh h4 (by kernel_rfl) (by kernel_rfl) (by rw [show Tryz.prog.globals.size = 5 by kernel_rfl]; decide) (by kernel_rfl)
theorem returns_shaped_and {H : Type} {enc : TypeId × Value → H} {a : Assume} {C : Checked} {os : Os} {f : FuncId} {fn : Func} {s : ChangeSpec} {conds : List PathCond} {apart fresh handsOn again : Bool} {X : World → Array Value → Prop}
    (hX : ∀ (w w' : World) (args : Array Value), w.heap = w'.heap → X w args → X w' args)
    (own : ownKnob C.prog.godebug = none) (started : os.Started) (noInit : C.prog.inits.idxOf? f = none) (hfn : C.prog.funcs[f]? = some fn)
    (witness : ∃ (w : World) (tape : Tape) (i : Input), w.os = os ∧ (w.forCall tape i).Shaped C.prog ∧ i.vars = [] ∧ Input.okWide C.prog (w.forCall tape i) .any w.heap.size f i ∧
      ((s.pre enc C.prog fn conds apart (w.forCall tape i).memory i.args ∧ X (w.forCall tape i).memory i.args) ∧ sizedMet enc C.prog fn (OpenSpec.ofChange s) apart (w.forCall tape i).memory i.args) ∧ a.holds C.prog (lone (Frame.enter C.prog f i.args .normal) [] (w.forCall tape i)))
    (contract : ∀ (W : World) (base : Nat) (args : Array Value) (ds gs : List (DataW H)) (before : List MemPlace),
      (∀ (j : Nat) t v, fn.params[j]? = some t → args[j]? = some v → Value.okWide C.prog W .any base t v) →
      DataW.Whole enc C.prog fn.params.toList s.vars apart W args.toList ds gs before →
      conds.all (PathCond.test C.prog ⟨fn.params.toList, ds, s.plain.varTypes C.prog, gs⟩) = true →
      (DataW.weightsEach C.prog (fn.params.toList ++ s.plain.varTypes C.prog) (ds ++ gs)).all (· ≤ reachBytes) = true → X W args → W.ShapedOpen C.prog →
      Calls C.prog f args W fun e W' => ∃ v, e = .returned v ∧ s.post enc C.prog fn apart fresh handsOn again W args v W') :
    ReturnsInHanded a C os f .any (fun w args => (s.pre enc C.prog fn conds apart w args ∧ X w args) ∧ sizedMet enc C.prog fn (OpenSpec.ofChange s) apart w args) (s.post enc C.prog fn apart fresh handsOn again) := by
  refine returnsInHanded_of_calls own started noInit witness ?_
  intro w tape i _ hsh _ hok hpre hholds
  obtain ⟨_, _, _, fn', hfn', _, _, _, _, hval⟩ := hok
  have e : fn' = fn := Option.some.inj (hfn'.symm.trans hfn)
  subst e
  obtain ⟨⟨⟨ds, gs, before, hw, hc⟩, hx⟩, hz⟩ := hpre
  have hw' := DataW.Whole.of_heap (w' := w.forCall tape i) (by rfl) hw
  refine (contract (w.forCall tape i) w.heap.size i.args ds gs before hval hw' hc (hz.weights hw) (hX _ _ _ (by rfl) hx) hsh).mono fun e W' ⟨v, he, hp⟩ => ?_
  subst he
  exact ChangeSpec.post_blind hp
set_option maxRecDepth 100000 in
theorem laid_met (os : Os) (args : Array Value) : laidMetH Tryz.prog laidS ((World.laidAll Tryz.prog os laidS).forCall (fun _ _ => 0) ⟨#[], args, []⟩).memory := by
  rw [MakeChecks.laidMetH_plain _ _ _ (by kernel_rfl)]
  exact laidMet_laidAll _ (by kernel_rfl) (by kernel_rfl)
end Go.Proofs.YtmceaeoeakkppaaGreatDoor
namespace Go.Proofs.YtmceaeoeakkppaaGreatDoor
open Go.RowKit Go.Sort
set_option linter.unusedVariables false
theorem list_app0 {P : Program} {w : World} {ops : Array Oper} {rest : List Oper} {o : Oper} {a : Act} {Q : Exit → Act → World → Prop} (hgd : o.guard = none) (s x : Operand) (t : TypeId)
    (ho : o.op = .call { callee := .builtin .append, args := #[s, x], argTypes := #[t, t] }) (hs : a.eval s = .slice none 0 0) (hx : a.eval x = .slice none 0 0) (hr : (Builtin.append_ #[t, t] o.type #[.slice none 0 0, .slice none 0 0]).run P w = .ok (.slice none 0 0) w)
    (h : wpList P ops Q rest (a.put o.dst (.slice none 0 0)) w) : wpList P ops Q (o :: rest) a w := by
  refine wpList_plain hgd fun _ hK => ?_
  unfold Oper.wp execOp
  simp only [ho, resolve, invoke, builtin, Sem.run_bind, Sem.run_pure, Result.andThen_ok, List.map_toArray, List.map_cons, List.map_nil, hs, hx, hr]
  exact hK _ _ h
theorem app_nil {P : Program} (w : World) (t ty e : TypeId) {i : TypeInfo} (ht : P.underlying t = some (.slice e)) (hi : P.info? e = some i) : (Builtin.append_ #[t, t] ty #[.slice none 0 0, .slice none 0 0]).run P w = .ok (.slice none 0 0) w := by
  simp [Builtin.append_, run_underlying ht, sizeOf, typeInfo, hi, Builtin.lenOf, Builtin.firstCells]
set_option maxRecDepth 100000 in
set_option maxHeartbeats 8000000 in
/-- As far as it goes: n instructions; there it stays (b: an answer is wanted; else: it has ended). -/
theorem go_quiet (w : World) (p : Nat) (Q : Nat → World → Prop) (n : Nat) (hn : n ≤ 1000000) (fuel : Int) (hf : (n : Int) < fuel) (hf2 : fuel ≤ 1000000) (a : Int) (b : Bool)
    (hw : ∀ i W, i < n → Q i W → Calls Tryz.prog 250 #[.pointer (some ⟨p, 0, none⟩)] W fun e W' => e = .returned (.tuple #[.int .i64 0, .bool false]) ∧ Q i W')
    (hx : ∀ i W, i < n → Q i W → Calls Tryz.prog 25 #[.pointer (some ⟨p, 0, none⟩), .int .u64 0] W fun e W' => e = .returned (.tuple #[.slice none 0 0, .bool true]) ∧ Q (i + 1) W')
    (hwn : ∀ W, Q n W → Calls Tryz.prog 250 #[.pointer (some ⟨p, 0, none⟩)] W fun e W' => e = .returned (.tuple #[.int .i64 a, .bool b]) ∧ Q n W')
    (hxn : b = false → ∀ W, Q n W → Calls Tryz.prog 25 #[.pointer (some ⟨p, 0, none⟩), .int .u64 0] W fun e W' => e = .returned (.tuple #[.slice none 0 0, .bool false]) ∧ Q n W')
    (h0 : Q 0 w) :
    Calls Tryz.prog 77 #[.iface 38 (.pointer (some ⟨p, 0, none⟩)), .int .i64 fuel, .slice none 0 0] w fun e W' => e = .returned (.tuple #[.slice none 0 0, .int .i64 n, .int .i64 0]) ∧ Q n W' := by
  have HW := Lib.hid hw
  have HX := Lib.hid hx
  have HWn := Lib.hid hwn
  have HXn := Lib.hid hxn
  have H0 := Lib.hid h0
  obtain ⟨zi, hzi⟩ : ∃ i, Tryz.prog.info? 133 = some i := by
    cases hh : Tryz.prog.info? 133 with
    | none =>
      have h2 : (Tryz.prog.info? 133).isSome = true := by kernel_rfl
      rw [hh] at h2
      cases h2
    | some i => exact ⟨i, rfl⟩
  have HAp := Lib.hid (fun W => app_nil (P := Tryz.prog) W 50 50 133 Tryz.underlying50 hzi)
  clear hw hx hwn hxn h0 hzi
  go_enter Tryz.func77, Tryz.ntmps77
  go_wp2_with fail
  go_loopw [6, 7, 8] (fun o d u wr => o = .slice none 0 0 ∧ u = .int .i64 0 ∧ ∃ i : Nat, d = .int .i64 i ∧ i ≤ n ∧ Hid (Q i wr)) (fun _ d _ _ => n - (intOf d).toNat)
  case atStart => exact ⟨rfl, rfl, 0, rfl, Nat.zero_le _, H0⟩
  case round =>
    obtain ⟨rfl, rfl, i, rfl, hi, HQ⟩ := hrel
    have hlt : (i : Int) < fuel := by omega
    by_cases hin : i < n
    · go_wp2_with (first
        | (go_at_call 250; (refine (HW.out i _ hin HQ.out).mono ?_; rintro e w1 ⟨rfl, hq1⟩; have HQ1 := Lib.hid hq1; clear hq1))
        | (go_at_call 25; (refine (HX.out i _ hin HQ1.out).mono ?_; rintro e w2 ⟨rfl, hq2⟩; have HQ2 := Lib.hid hq2; clear hq2))
        | (at_builtin; refine list_app0 rfl (.tmp 45) (.tmp 46) 50 rfl rfl rfl (HAp.out _) ?_))
      go_roundw
      case rel => exact ⟨rfl, rfl, i + 1, by go_num, by omega, HQ2⟩
      case measure => simp [intOf]; omega
    · obtain rfl : i = n := by omega
      cases b with
      | true =>
        go_wp2_with (first
          | (go_at_call 250; (refine (HWn.out _ HQ.out).mono ?_; rintro e w1 ⟨rfl, hq1⟩; have HQ1 := Lib.hid hq1; clear hq1)))
        go_ret3
        exact ⟨rfl, HQ1.out⟩
      | false =>
        have HY := Lib.hid (HXn.out rfl)
        clear HXn
        go_wp2_with (first
          | (go_at_call 250; (refine (HWn.out _ HQ.out).mono ?_; rintro e w1 ⟨rfl, hq1⟩; have HQ1 := Lib.hid hq1; clear hq1))
          | (go_at_call 25; (refine (HY.out _ HQ1.out).mono ?_; rintro e w2 ⟨rfl, hq2⟩; have HQ2 := Lib.hid hq2; clear hq2)))
        go_ret3
        exact ⟨rfl, HQ2.out⟩
set_option maxRecDepth 100000 in
theorem run_quiet (w : World) (p : Nat) (Q : Nat → World → Prop) (n : Nat) (hn : n ≤ 1000000) (fuel : Int) (hf : (n : Int) < fuel) (hf2 : fuel ≤ 1000000) (a : Int) (b : Bool)
    (hw : ∀ i W, i < n → Q i W → Calls Tryz.prog 250 #[.pointer (some ⟨p, 0, none⟩)] W fun e W' => e = .returned (.tuple #[.int .i64 0, .bool false]) ∧ Q i W')
    (hx : ∀ i W, i < n → Q i W → Calls Tryz.prog 25 #[.pointer (some ⟨p, 0, none⟩), .int .u64 0] W fun e W' => e = .returned (.tuple #[.slice none 0 0, .bool true]) ∧ Q (i + 1) W')
    (hwn : ∀ W, Q n W → Calls Tryz.prog 250 #[.pointer (some ⟨p, 0, none⟩)] W fun e W' => e = .returned (.tuple #[.int .i64 a, .bool b]) ∧ Q n W')
    (hxn : b = false → ∀ W, Q n W → Calls Tryz.prog 25 #[.pointer (some ⟨p, 0, none⟩), .int .u64 0] W fun e W' => e = .returned (.tuple #[.slice none 0 0, .bool false]) ∧ Q n W')
    (h0 : Q 0 w) :
    Calls Tryz.prog 37 #[.pointer (some ⟨p, 0, none⟩), .int .i64 fuel, .slice none 0 0] w fun e W' => e = .returned (.tuple #[.slice none 0 0, .int .i64 n, .int .i64 0]) ∧ Q n W' := by
  have KG := Lib.hid (go_quiet w p Q n hn fuel hf hf2 a b hw hx hwn hxn h0)
  clear hw hx hwn hxn h0
  go_enter Tryz.func37, Tryz.ntmps37
  go_wp2_with (go_at_call 77; (refine KG.out.mono ?_; rintro e w1 ⟨rfl, hq1⟩; have HQ1 := Lib.hid hq1; clear hq1))
  go_ret3
  exact ⟨rfl, HQ1.out⟩
set_option maxRecDepth 100000 in
set_option maxHeartbeats 8000000 in
theorem run_none (w : World) (fuel : Int) (x : Value) (hw : ∀ W, Calls Tryz.prog 250 #[.pointer none] W fun e W' => e = .returned (.tuple #[.int .i64 0, .bool false]) ∧ Below W.heap.size W W')
    (hx : ∀ W, Calls Tryz.prog 25 #[.pointer none, .int .u64 0] W fun e W' => e = .returned (.tuple #[.slice none 0 0, .bool false]) ∧ Below W.heap.size W W') :
    Calls Tryz.prog 37 #[.pointer none, .int .i64 fuel, x] w fun e W' => e = .returned (.tuple #[.slice none 0 0, .int .i64 0, .int .i64 0]) ∧ Below w.heap.size w W' := by
  have HW := Lib.hid hw
  have HX := Lib.hid hx
  clear hw hx
  have KG : Calls Tryz.prog 77 #[.iface 38 (.pointer none), .int .i64 fuel, x] w fun e W' => e = .returned (.tuple #[.slice none 0 0, .int .i64 0, .int .i64 0]) ∧ Below w.heap.size w W' := by
    go_enter Tryz.func77, Tryz.ntmps77
    go_wp2_with fail
    go_loopw [6, 7, 8] (fun o d u wr => o = .slice none 0 0 ∧ u = .int .i64 0 ∧ d = .int .i64 0 ∧ Hid (w = wr)) (fun _ d _ _ => 0)
    case atStart => exact ⟨rfl, rfl, rfl, Lib.hid rfl⟩
    case round =>
      obtain ⟨rfl, rfl, rfl, he⟩ := hrel
      have e := he.out
      subst e
      by_cases hlt : 0 < fuel
      · go_wp2_with (first
          | (go_at_call 250; (refine (HW.out _).mono ?_; rintro e w1 ⟨rfl, hq1⟩; have HQ1 := Lib.hid hq1; clear hq1))
          | (go_at_call 25; (refine (HX.out _).mono ?_; rintro e w2 ⟨rfl, hq2⟩; have HQ2 := Lib.hid (HQ1.out.trans (hq2.mono HQ1.out.size)); clear hq2)))
        go_ret3
        exact ⟨rfl, HQ2.out⟩
      · go_wp2
        go_ret3
        exact ⟨rfl, Below.refl _ _⟩
  have KG := Lib.hid KG
  go_enter Tryz.func37, Tryz.ntmps37
  go_wp2_with (go_at_call 77; (refine KG.out.mono ?_; rintro e w1 ⟨rfl, hq1⟩; have HQ1 := Lib.hid hq1; clear hq1))
  go_ret3
  exact ⟨rfl, HQ1.out⟩
end Go.Proofs.YtmceaeoeakkppaaGreatDoor
namespace Go.Proofs.YtmceaeoeakkppaaGreatDoor
open Go.RowKit Go.Sort
set_option linter.unusedVariables false
theorem field_op (W : World) (a b c : Value) : (Instr.field 62 (.agg #[a, b, c]) 0).run Tryz.prog W = .ok a W := by
  have hu := Tryz.underlying62
  simp [Instr.field, go_sem, run_underlying hu, asAgg]
theorem field_a (W : World) (a b c : Value) : (Instr.field 62 (.agg #[a, b, c]) 1).run Tryz.prog W = .ok b W := by
  have hu := Tryz.underlying62
  simp [Instr.field, go_sem, run_underlying hu, asAgg]
theorem field_val (W : World) (a b hv c d e f : Value) : (Instr.field 34 (.agg #[a, b, hv, c, d, e, f]) 6).run Tryz.prog W = .ok f W := by
  have hu := Tryz.underlying34
  simp [Instr.field, go_sem, run_underlying hu, asAgg]
set_option maxRecDepth 100000 in
set_option maxHeartbeats 8000000 in
theorem want_go {S : Nat → Prop} {w : World} {p FB hp tp : Nat} {m : Md} {B0 B1 B2 B3 B4 : Option Addr} {m0 m1 m2 m3 m4 d0 d1 d2 d3 d4 : Nat} {q : Int} {MA : Option Addr} {mn mc fc pc : Nat} {LA : Option Addr} {ln lc : Nat} {SA : Option Addr} {sn sc : Nat} (h : Mc1 w p FB hp tp B0 B1 B2 B3 B4 m0 m1 m2 m3 m4 d0 d1 d2 d3 d4 q MA mn mc fc pc LA ln lc SA sn sc) (hM : MRow S w m B0 B1 B2 B3 B4 m0 m1 m2 m3 m4) (f : Fn) (hf : m.funcs[0]? = some f) (i : Ins) (hi : f.code[pc]? = some i) (hl : f.code.length ≤ 1000) (ho : (i.op == 27) = false) :
    Calls Tryz.prog 250 #[.pointer (some ⟨p, 0, none⟩)] w fun e w' => e = .returned (.tuple #[.int .i64 0, .bool false]) ∧ Below w.heap.size w w' := by
  have c8 : w.cell? ⟨p, 8, none⟩ = some (.int .i64 0) := blk_cell h.box 8
  have KI := Lib.hid (instr_calls h hM f hf _ hi hl)
  have ho2 : ¬ i.op = 27 := by simpa using ho
  have hfl := fun W => field_op W (.int .i64 i.op) (.int .i64 i.a) (.int .i64 i.b)
  clear h hM hf hi
  go_enter Tryz.func250, Tryz.ntmps250
  go_wp2_with (go_at_call 58; go_must (refine KI.out.mono ?_; rintro e w1 ⟨rfl, hb1⟩; have HB1 := Lib.hid hb1; clear hb1))
  go_ret2
  exact ⟨rfl, HB1.out⟩
set_option maxRecDepth 100000 in
set_option maxHeartbeats 8000000 in
theorem want_end {w : World} {p FB hp tp : Nat} {B0 B1 B2 B3 B4 : Option Addr} {m0 m1 m2 m3 m4 d0 d1 d2 d3 d4 : Nat} {q : Int} {MA : Option Addr} {mn mc fc : Nat} {v : Int} (h : McE w p FB hp tp B0 B1 B2 B3 B4 m0 m1 m2 m3 m4 d0 d1 d2 d3 d4 q MA mn mc fc v) :
    Calls Tryz.prog 250 #[.pointer (some ⟨p, 0, none⟩)] w fun e w' => e = .returned (.tuple #[.int .i64 0, .bool false]) ∧ Below w.heap.size w w' := by
  have c8 : w.cell? ⟨p, 8, none⟩ = some (.int .i64 1) := blk_cell h 8
  clear h
  go_enter Tryz.func250, Tryz.ntmps250
  go_wp2
  go_ret2
  exact ⟨rfl, Below.refl _ _⟩
set_option maxRecDepth 100000 in
set_option maxHeartbeats 8000000 in
theorem next_end {w : World} {p FB hp tp : Nat} {B0 B1 B2 B3 B4 : Option Addr} {m0 m1 m2 m3 m4 d0 d1 d2 d3 d4 : Nat} {q : Int} {MA : Option Addr} {mn mc fc : Nat} {v : Int} (h : McE w p FB hp tp B0 B1 B2 B3 B4 m0 m1 m2 m3 m4 d0 d1 d2 d3 d4 q MA mn mc fc v) (x : Value) :
    Calls Tryz.prog 25 #[.pointer (some ⟨p, 0, none⟩), x] w fun e w' => e = .returned (.tuple #[.slice none 0 0, .bool false]) ∧ Below w.heap.size w w' := by
  have c8 : w.cell? ⟨p, 8, none⟩ = some (.int .i64 1) := blk_cell h 8
  clear h
  go_enter Tryz.func25, Tryz.ntmps25
  go_wp2
  go_ret2
  exact ⟨rfl, Below.refl _ _⟩
theorem McE.below {w w' : World} {p FB hp tp : Nat} {B0 B1 B2 B3 B4 : Option Addr} {m0 m1 m2 m3 m4 d0 d1 d2 d3 d4 : Nat} {q : Int} {MA : Option Addr} {mn mc fc : Nat} {v : Int} (h : McE w p FB hp tp B0 B1 B2 B3 B4 m0 m1 m2 m3 m4 d0 d1 d2 d3 d4 q MA mn mc fc v) (hb : Below w.heap.size w w') : McE w' p FB hp tp B0 B1 B2 B3 B4 m0 m1 m2 m3 m4 d0 d1 d2 d3 d4 q MA mn mc fc v :=
  blk_below h hb (blk_lt h)
/-- A program of an int and a return, run to its end. -/
theorem run_two {S : Nat → Prop} {w : World} {p FB hp tp : Nat} {m : Md} {B0 B1 B2 B3 B4 : Option Addr} {m0 m1 m2 m3 m4 d0 d1 d2 d3 d4 : Nat} {q : Int} {MA : Option Addr} {mn mc fc : Nat} {LA : Option Addr} {ln lc : Nat} (h : Mc1 w p FB hp tp B0 B1 B2 B3 B4 m0 m1 m2 m3 m4 d0 d1 d2 d3 d4 q MA mn mc fc 0 LA ln lc none 0 0) (hM : MRow S w m B0 B1 B2 B3 B4 m0 m1 m2 m3 m4) (hS : ∀ b, S b → b ≠ FB ∧ b ≠ p) (f : Fn) (hf : m.funcs[0]? = some f) (hl : f.code.length ≤ 1000) (k : Nat) (b a' b' : Int) (hi : f.code[0]? = some ⟨0, k, b⟩) (hi2 : f.code[1]? = some ⟨26, a', b'⟩) (v : Int) (hv : m.ints[k]? = some v) (fuel : Int) (h2 : 2 < fuel) (h3 : fuel ≤ 1000000) :
    Calls Tryz.prog 37 #[.pointer (some ⟨p, 0, none⟩), .int .i64 fuel, .slice none 0 0] w fun e w' => e = .returned (.tuple #[.slice none 0 0, .int .i64 2, .int .i64 0]) ∧ McE w' p FB hp tp B0 B1 B2 B3 B4 m0 m1 m2 m3 m4 d0 d1 d2 d3 d4 q MA mn mc fc v ∧ Keeps (fun x => x = FB ∨ x = p) w w' := by
  have hMk : ∀ W, Keeps (fun x => x = FB ∨ x = p) w W → MRow S W m B0 B1 B2 B3 B4 m0 m1 m2 m3 m4 := fun W hk => hM.keepF (fun b hb => hk.block b (hM.lt b hb) (by rintro (e | e); exact (hS b hb).1 e; exact (hS b hb).2 e)) hk.size
  refine (run_quiet w p (fun i W => Keeps (fun x => x = FB ∨ x = p) w W ∧ ((i = 0 ∧ Mc1 W p FB hp tp B0 B1 B2 B3 B4 m0 m1 m2 m3 m4 d0 d1 d2 d3 d4 q MA mn mc fc 0 LA ln lc none 0 0) ∨ (i = 1 ∧ ∃ SA sc, Mc1 W p FB hp tp B0 B1 B2 B3 B4 m0 m1 m2 m3 m4 d0 d1 d2 d3 d4 q MA mn mc fc 1 LA ln lc SA 1 sc ∧ 1 ≤ sc ∧ Lie W SA 1 [.int .u64 v]) ∨ (i = 2 ∧ McE W p FB hp tp B0 B1 B2 B3 B4 m0 m1 m2 m3 m4 d0 d1 d2 d3 d4 q MA mn mc fc v))) 2 (by decide) fuel (by simpa using h2) h3 0 false ?_ ?_ ?_ ?_ ⟨Keeps.refl _ _, .inl ⟨rfl, h⟩⟩).mono ?_
  · rintro i W hi' ⟨hk, hq⟩
    rcases hq with ⟨rfl, hm⟩ | ⟨rfl, SA, sc, hm, hsc, hL⟩ | ⟨rfl, hE⟩
    · refine (want_go hm (hMk W hk) f hf _ hi hl rfl).mono ?_
      rintro e W' ⟨rfl, hb⟩
      exact ⟨rfl, hk.step (Keeps.of_below hb) (fun x _ h => h), .inl ⟨rfl, hm.below hb⟩⟩
    · refine (want_go hm (hMk W hk) f hf _ hi2 hl rfl).mono ?_
      rintro e W' ⟨rfl, hb⟩
      exact ⟨rfl, hk.step (Keeps.of_below hb) (fun x _ h => h), .inr (.inl ⟨rfl, SA, sc, hm.below hb, hsc, hL.below hb⟩)⟩
    · omega
  · rintro i W hi' ⟨hk, hq⟩
    rcases hq with ⟨rfl, hm⟩ | ⟨rfl, SA, sc, hm, hsc, hL⟩ | ⟨rfl, hE⟩
    · refine (next_0 hm (hMk W hk) (fun b hb => (hS b hb).1) f hf hl k b hi v hv _).mono ?_
      rintro e W' ⟨rfl, SA, sc, hm', hsc, hL, -, hk'⟩
      exact ⟨rfl, hk.step hk' (fun x _ h => h), .inr (.inl ⟨rfl, SA, sc, hm', hsc, hL⟩)⟩
    · refine (next_26 hm (hMk W hk) f hf hl a' b' hi2 v hsc hL _).mono ?_
      rintro e W' ⟨rfl, hE, hk'⟩
      exact ⟨rfl, hk.step hk' (fun x _ h => h), .inr (.inr ⟨rfl, hE⟩)⟩
    · omega
  · rintro W ⟨hk, hq⟩
    rcases hq with ⟨e, -⟩ | ⟨e, -⟩ | ⟨-, hE⟩
    · cases e
    · cases e
    · refine (want_end hE).mono ?_
      rintro e W' ⟨rfl, hb⟩
      exact ⟨rfl, hk.step (Keeps.of_below hb) (fun x _ h => h), .inr (.inr ⟨rfl, hE.below hb⟩)⟩
  · rintro - W ⟨hk, hq⟩
    rcases hq with ⟨e, -⟩ | ⟨e, -⟩ | ⟨-, hE⟩
    · cases e
    · cases e
    · refine (next_end hE _).mono ?_
      rintro e W' ⟨rfl, hb⟩
      exact ⟨rfl, hk.step (Keeps.of_below hb) (fun x _ h => h), .inr (.inr ⟨rfl, hE.below hb⟩)⟩
  · rintro e W ⟨rfl, hk, hq⟩
    rcases hq with ⟨e, -⟩ | ⟨e, -⟩ | ⟨-, hE⟩
    · cases e
    · cases e
    · exact ⟨rfl, hE, hk⟩
end Go.Proofs.YtmceaeoeakkppaaGreatDoor
namespace Go.Proofs.YtmceaeoeakkppaaGreatDoor
open Go.RowKit Go.Sort
set_option linter.unusedVariables false
set_option maxRecDepth 100000 in
set_option maxHeartbeats 8000000 in
theorem answers16_calls (w : World) (hg : Glob w) : Calls Tryz.prog 36 #[] w fun e w' => e = .returned (.bool true) ∧ Below w.heap.size w w' := by
  have HG := Lib.hid hg
  clear hg
  go_enter Tryz.func36, Tryz.ntmps36
  go_upto_region 3 with fail
  have hV : Below w.heap.size w (((((w.alloc (Obj.cells #[.int .i64 1, .int .i64 0] 58)).alloc (Obj.cells #[.int .u64 7] 32)).alloc (Obj.cells #[.int .i64 0, .int .i64 0, .int .i64 0, .int .i64 26, .int .i64 0, .int .i64 0] 62)).alloc (Obj.cells #[.slice none 0 0, .int .i64 1, .int .i64 0, .slice none 0 0, .slice (some ⟨w.heap.size + 1 + 1, 0, none⟩) 2 2] 67)).alloc (Obj.cells #[.slice none 0 0, .slice (some ⟨w.heap.size + 1 + 1 + 1, 0, none⟩) 1 1, .slice none 0 0, .slice (some ⟨w.heap.size + 1, 0, none⟩) 1 1, .slice none 0 0] 28)) := below_up (below_up (below_up (below_up (below_a1 w _) _) _) _) _
  have hM : MRow (fun b => b < (((((w.alloc (Obj.cells #[.int .i64 1, .int .i64 0] 58)).alloc (Obj.cells #[.int .u64 7] 32)).alloc (Obj.cells #[.int .i64 0, .int .i64 0, .int .i64 0, .int .i64 26, .int .i64 0, .int .i64 0] 62)).alloc (Obj.cells #[.slice none 0 0, .int .i64 1, .int .i64 0, .slice none 0 0, .slice (some ⟨w.heap.size + 1 + 1, 0, none⟩) 2 2] 67)).alloc (Obj.cells #[.slice none 0 0, .slice (some ⟨w.heap.size + 1 + 1 + 1, 0, none⟩) 1 1, .slice none 0 0, .slice (some ⟨w.heap.size + 1, 0, none⟩) 1 1, .slice none 0 0] 28)).heap.size) (((((w.alloc (Obj.cells #[.int .i64 1, .int .i64 0] 58)).alloc (Obj.cells #[.int .u64 7] 32)).alloc (Obj.cells #[.int .i64 0, .int .i64 0, .int .i64 0, .int .i64 26, .int .i64 0, .int .i64 0] 62)).alloc (Obj.cells #[.slice none 0 0, .int .i64 1, .int .i64 0, .slice none 0 0, .slice (some ⟨w.heap.size + 1 + 1, 0, none⟩) 2 2] 67)).alloc (Obj.cells #[.slice none 0 0, .slice (some ⟨w.heap.size + 1 + 1 + 1, 0, none⟩) 1 1, .slice none 0 0, .slice (some ⟨w.heap.size + 1, 0, none⟩) 1 1, .slice none 0 0] 28)) mA none (some ⟨w.heap.size + 1 + 1 + 1, 0, none⟩) none (some ⟨w.heap.size + 1, 0, none⟩) none 0 1 0 1 0 := rowA (b2 := w.heap.size + 1 + 1) (blk_alloc (blk_alloc (blk_alloc (blk_new2 w _ _) _) _) _) (blk_alloc (blk_alloc (blk_new3 w _ _ _) _) _) (blk_alloc (blk_new4 w _ _ _ _) _)
  have hX : (((((w.alloc (Obj.cells #[.int .i64 1, .int .i64 0] 58)).alloc (Obj.cells #[.int .u64 7] 32)).alloc (Obj.cells #[.int .i64 0, .int .i64 0, .int .i64 0, .int .i64 26, .int .i64 0, .int .i64 0] 62)).alloc (Obj.cells #[.slice none 0 0, .int .i64 1, .int .i64 0, .slice none 0 0, .slice (some ⟨w.heap.size + 1 + 1, 0, none⟩) 2 2] 67)).alloc (Obj.cells #[.slice none 0 0, .slice (some ⟨w.heap.size + 1 + 1 + 1, 0, none⟩) 1 1, .slice none 0 0, .slice (some ⟨w.heap.size + 1, 0, none⟩) 1 1, .slice none 0 0] 28)).heap[w.heap.size + 1 + 1 + 1 + 1]? = some (Obj.cells #[.slice none 0 0, .slice (some ⟨w.heap.size + 1 + 1 + 1, 0, none⟩) 1 1, .slice none 0 0, .slice (some ⟨w.heap.size + 1, 0, none⟩) 1 1, .slice none 0 0] 28) := by simpa using blk_new ((((w.alloc (Obj.cells #[.int .i64 1, .int .i64 0] 58)).alloc (Obj.cells #[.int .u64 7] 32)).alloc (Obj.cells #[.int .i64 0, .int .i64 0, .int .i64 0, .int .i64 26, .int .i64 0, .int .i64 0] 62)).alloc (Obj.cells #[.slice none 0 0, .int .i64 1, .int .i64 0, .slice none 0 0, .slice (some ⟨w.heap.size + 1 + 1, 0, none⟩) 2 2] 67)) (Obj.cells #[.slice none 0 0, .slice (some ⟨w.heap.size + 1 + 1 + 1, 0, none⟩) 1 1, .slice none 0 0, .slice (some ⟨w.heap.size + 1, 0, none⟩) 1 1, .slice none 0 0] 28)
  generalize (((((w.alloc (Obj.cells #[.int .i64 1, .int .i64 0] 58)).alloc (Obj.cells #[.int .u64 7] 32)).alloc (Obj.cells #[.int .i64 0, .int .i64 0, .int .i64 0, .int .i64 26, .int .i64 0, .int .i64 0] 62)).alloc (Obj.cells #[.slice none 0 0, .int .i64 1, .int .i64 0, .slice none 0 0, .slice (some ⟨w.heap.size + 1 + 1, 0, none⟩) 2 2] 67)).alloc (Obj.cells #[.slice none 0 0, .slice (some ⟨w.heap.size + 1 + 1 + 1, 0, none⟩) 1 1, .slice none 0 0, .slice (some ⟨w.heap.size + 1, 0, none⟩) 1 1, .slice none 0 0] 28)) = V at *
  have HM := Lib.hid hM
  have HX := Lib.hid hX
  have HV := Lib.hid hV
  clear hM hX hV
  go_region_held3 (fun w' => w'.cell? ⟨w.heap.size + 1 + 1 + 1 + 1, 0, none⟩ = some (.slice none 0 0) ∧ w'.cell? ⟨w.heap.size + 1 + 1 + 1 + 1, 1, none⟩ = some (.slice (some ⟨w.heap.size + 1 + 1 + 1, 0, none⟩) 1 1) ∧ w'.cell? ⟨w.heap.size + 1 + 1 + 1 + 1, 2, none⟩ = some (.slice none 0 0) ∧ w'.cell? ⟨w.heap.size + 1 + 1 + 1 + 1, 3, none⟩ = some (.slice (some ⟨w.heap.size + 1, 0, none⟩) 1 1) ∧ w'.cell? ⟨w.heap.size + 1 + 1 + 1 + 1, 4, none⟩ = some (.slice none 0 0) ∧ Below V.heap.size V w')
    (first | (refine hold5 HX.out ?_; first | with_reducible assumption | (repeat (first | exact Below.refl _ _ | refine Below.drew ?_))))
    (first
      | (go_at_call 29; go_must (refine (begin_calls _ mA _ _ _ _ _ _ _ _ _ _ 0 1 0 1 0 (HM.out.below (held5' (by assumption))) fA rfl rfl 0).mono ?_; rintro e w1 ⟨fb, LA, rfl, hfb, hgb, hb1⟩; have hbV1 : Below V.heap.size V w1 := Below.trans (held5' (by assumption)) (hb1.mono (held5' (by assumption)).size)))
      | (go_at_call 18; go_must (refine (load_calls (S := fun b => b < w1.heap.size) w1 mA _ _ _ _ _ _ _ _ _ _ 0 1 0 1 0 ((HM.out.below hbV1).mono (fun b hb => Nat.lt_of_lt_of_le hb hbV1.size) (fun b h => h)) mainA [[[], [⟨1, 0⟩]]] (straightA (HG.out.below (HV.out.trans (hbV1.mono HV.out.size)) HG.out.big) _ _ _ _ _ _ _ _ _ _ _ _ _ _ _) fA rfl rfl (by decide) (by decide) _ rfl rfl (by decide) fb 0 1 LA 0 [] rfl (fun x hx => by cases hx) (blk_lt hfb) (Rd.Row.nil _ _ _ _) (Nat.le_refl _) (blk_cell hfb 0) (blk_cell hfb 1) (blk_cell hfb 2) (blk_cell hfb 3) 0 (by decide) (by decide)).mono ?_; rintro e w2 ⟨p, FB, hp, tp, MA, mn, mc, c, L1, l1, rfl, hmc, hh, ht, hgF, hgp, hb2⟩; have hbV2 : Below V.heap.size V w2 := hbV1.trans (hb2.mono hbV1.size))))
  all_goals
    have hs1 : w.heap.size ≤ w1.heap.size := Nat.le_trans HV.out.size hbV1.size
    have hs2 : w1.heap.size ≤ w2.heap.size := hb2.size
    have hM2 : MRow (fun b => b < w1.heap.size) w2 mA none (some ⟨w.heap.size + 1 + 1 + 1, 0, none⟩) none (some ⟨w.heap.size + 1, 0, none⟩) none 0 1 0 1 0 := ((HM.out.below hbV1).mono (fun b hb => Nat.lt_of_lt_of_le hb hbV1.size) (fun b h => h)).below hb2
    have hbw2 : Below w.heap.size w w2 := HV.out.trans (hbV2.mono HV.out.size)
    have hfr2 := hmc.fr
    have hpx2 := hmc.box
    have hhF : hp ≠ FB := by obtain ⟨cs, h1, _⟩ := hfr2; exact blk_ne hh h1 (by decide)
    have htF : tp ≠ FB := by obtain ⟨cs, h1, _⟩ := hfr2; exact blk_ne ht h1 (by decide)
    have hhp : hp ≠ p := blk_ne hh hpx2 (by decide)
    have htp : tp ≠ p := blk_ne ht hpx2 (by decide)
    have K0 := Lib.hid (run_two hmc hM2 (fun b hb => ⟨by omega, by omega⟩) fA rfl (by decide) 0 0 0 0 rfl rfl 7 rfl 9 (by decide) (by decide))
    have HBw2 := Lib.hid hbw2
    have hfv := fun W a b c d e f g => field_val W a b c d e f g
    have HH := Lib.hid hh
    have HT := Lib.hid ht
    clear hM2 hbw2 hfr2 hpx2 hh ht hmc hfb hb1 hb2 hbV1 hbV2
    go_wp2_with (first
      | (go_at_call 37; (refine K0.out.mono ?_; rintro e w4 ⟨rfl, hE, hk4⟩; have HK4 := Lib.hid hk4; have K2 := Lib.hid (state_calls hE ⟨_, (HK4.out.block hp (blk_lt HH.out) (by rintro (h | h) <;> contradiction)).trans HH.out⟩ ((HK4.out.block tp (blk_lt HT.out) (by rintro (h | h) <;> contradiction)).trans HT.out)); clear hE hk4))
      | (go_at_call 23; go_must (refine K2.out.mono ?_; rintro e w5 ⟨rfl, hb5⟩; have HB5 := Lib.hid hb5; clear hb5)))
    have hbk : Below w.heap.size w w4 := HBw2.out.trans (HK4.out.below (Nat.le_trans hs1 hs2) (fun x hx h => by rcases h with h | h <;> omega))
    have HBk := Lib.hid (hbk.trans (HB5.out.mono hbk.size))
    clear hbk
    go_ret
    exact ⟨rfl, HBk.out⟩
end Go.Proofs.YtmceaeoeakkppaaGreatDoor
