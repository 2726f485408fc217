/- McNamed: flow.Local, flow.named. Printed by gen_mcnamed.py of this repo. McOf: flow.of: the rule of an instruction on a stack; flow.next. McTy: Lists of types in a block of their own: slices.Clone, Clip, Grow, Concat; flow.next. McStep: flow.Step: what an instruction does to a stack's types. McCk: verify's checker: what it is in memory; meet, of an instruction that was not come to. McOne: verify's checker: one, function, of code that goes straight on. McFn: verify's checker: function, of code that goes straight on. McCheck: verify.Check, of modules whose code goes straight on. -/
import Derived.Test.YtmceaeoeakkppaaGreatDoorZFlow
import Derived.Lib.AppendZerosOnto
import Derived.Deep.DeepCutAuto
import Derived.Lib.QuietBelow
import Derived.BigQuiet
import Derived.Deep.DeepMust
import Derived.Deep.AppendSrc
import Derived.WalkMore
import Derived.ScopeJumps
namespace Go.Proofs.YtmceaeoeakkppaaGreatDoor
open Go.RowKit Go.Sort
set_option linter.unusedVariables false
/-- A local's type. -/
def localL (f : Fn) (n : Int) : Ty := if n < 0 then ⟨8, 0⟩ else (f.args ++ f.locals).getD n.toNat ⟨8, 0⟩
/-- The rule of an instruction that names something. -/
def namedL (m : Md) (f : Fn) (i : Ins) : List Ty × List Ty :=
  if i.op = 0 then ([], [⟨1, 0⟩]) else if i.op = 1 then ([], [⟨2, 0⟩]) else if i.op = 3 then ([], [localL f i.a]) else if i.op = 4 then ([localL f i.a], [])
  else if i.op = 25 then ((m.funcs.getD i.a.toNat Fn.zero).args, [(m.funcs.getD i.a.toNat Fn.zero).ret]) else if i.op = 26 then ([f.ret], [])
  else if i.op = 27 then ((m.imports.getD i.a.toNat Imp.zero).args, [(m.imports.getD i.a.toNat Imp.zero).ret]) else if i.op = 28 then (m.recs.getD i.a.toNat [], [⟨4, i.a⟩])
  else if i.op = 29 then ([⟨4, i.a⟩], [(m.recs.getD i.a.toNat []).getD i.b.toNat ⟨8, 0⟩]) else ([⟨4, i.a⟩, (m.recs.getD i.a.toNat []).getD i.b.toNat ⟨8, 0⟩], [])
/-- A function that is read. -/
structure FRow (S : Nat → Prop) (w : World) (f : Fn) (G0 G3 G4 : Option Addr) (g0 g3 g4 : Nat) : Prop where
  e0 : f.args.length = g0
  e3 : f.locals.length = g3
  e4 : f.code.length = g4
  r0 : k_ty.Row S w G0 f.args
  r3 : k_ty.Row S w G3 f.locals
  r4 : k_instr.Row S w G4 f.code
  wk : (Lit.int .i64 f.ret.kind).wf = true
  wn : (Lit.int .i64 f.ret.n).wf = true
  l0 : g0 ≤ 1000
  l3 : g3 ≤ 1000
  l4 : g4 ≤ 1000
theorem FRow.keep {S : Nat → Prop} {w w' : World} {f : Fn} {G0 G3 G4 : Option Addr} {g0 g3 g4 : Nat} (h : FRow S w f G0 G3 G4 g0 g3 g4) (hk : ∀ b, S b → w'.heap[b]? = w.heap[b]?) : FRow S w' f G0 G3 G4 g0 g3 g4 :=
  ⟨h.e0, h.e3, h.e4, h.r0.keep hk, h.r3.keep hk, h.r4.keep hk, h.wk, h.wn, h.l0, h.l3, h.l4⟩
theorem named_results (tmps : Array Value) (w : World) (b : Nat) (x y : Value) (hx : ∃ A n c, x = .slice A n c) (hy : ∃ A n c, y = .slice A n c) (h6 : tmps.getD 6 undef = .pointer (some ⟨b, 0, none⟩)) (hb : w.heap[b]? = some (.cells #[x, y] 221 (0, 0))) :
    (results Tryz.f192 tmps).run Tryz.prog w = .ok (.agg #[x, y]) w := by
  obtain ⟨_, _, _, rfl⟩ := hx
  obtain ⟨_, _, _, rfl⟩ := hy
  exact results_cell_row Tryz.results192 tmps w b _ _ _ _ h6 hb Tryz.underlying221 rfl (by kernel_rfl)
def RuleOut1 (S : Nat → Prop) (w : World) (r : List Ty × List Ty) (e : Ending) (w' : World) : Prop := ∃ A n c B k d, e = .returned (.agg #[.slice A n c, .slice B k d]) ∧ RuleR S w w' A n c B k d r ∧ Below w.heap.size w w'
set_option maxRecDepth 100000 in
set_option maxHeartbeats 8000000 in
theorem named_0 {S : Nat → Prop} (w : World) (hg : Glob w) (m : Md) (B0 B1 B2 B3 B4 : Option Addr) (m0 m1 m2 m3 m4 d0 d1 d2 d3 d4 : Nat) (h : MRow S w m B0 B1 B2 B3 B4 m0 m1 m2 m3 m4) (f : Fn) (G0 G3 G4 : Option Addr) (g0 g3 g4 c0 c3 c4 : Nat) (hf : FRow S w f G0 G3 G4 g0 g3 g4) (a b : Int) :
    Calls Tryz.prog 192 #[.agg #[.slice B0 m0 d0, .slice B1 m1 d1, .slice B2 m2 d2, .slice B3 m3 d3, .slice B4 m4 d4], .agg #[.slice G0 g0 c0, .int .i64 f.ret.kind, .int .i64 f.ret.n, .slice G3 g3 c3, .slice G4 g4 c4], .agg #[.int .i64 0, .int .i64 a, .int .i64 b]] w fun e w' => RuleOut1 S w (namedL m f ⟨0, a, b⟩) e w' := by
  have hs := hg.big
  have HCell := Lib.hid (fun W (hW : Below w.heap.size w W) => (hg.below hW hg.big).cells)
  obtain ⟨v00, v01, v10, v11, v20, v21, v30, v31, v40, v41⟩ := HCell.out _ (below_up (below_up (below_up (below_a1 w (Obj.cells #[.slice B0 m0 d0, .slice B1 m1 d1, .slice B2 m2 d2, .slice B3 m3 d3, .slice B4 m4 d4] 28)) (Obj.cells #[.slice G0 g0 c0, .int .i64 f.ret.kind, .int .i64 f.ret.n, .slice G3 g3 c3, .slice G4 g4 c4] 67)) (Obj.cells #[.int .i64 0, .int .i64 a, .int .i64 b] 62)) (Obj.cells #[.slice none 0 0, .slice none 0 0] 221))
  clear hg h
  go_enter Tryz.func192, Tryz.ntmps192
  go_wp2_with (go_at_call 226; refine (types_calls _ _).mono ?_; rintro e w' ⟨rfl, rfl⟩)
  refine bodyPost_ret (named_results _ _ (w.heap.size + 1 + 1 + 1) _ _ ⟨_, _, _, rfl⟩ ⟨_, _, _, rfl⟩ rfl (by repeat (first | (refine blk_new' _ ?_; first | rfl | (simp; done)) | refine blk_drew ?_ | refine blk_alloc ?_ _))) rfl ?_
  exact ⟨_, _, _, _, _, _, rfl, ⟨rfl, rfl, by decide, by decide, (Rd.Row.nil _ _ _ _), (row_cells (xs := [⟨1, 0⟩]) (by repeat (first | (refine blk_new' _ ?_; first | rfl | (simp; done)) | refine blk_drew ?_ | refine blk_alloc ?_ _)) ⟨by first | omega | (simp; done) | (simp; omega), .inr (by first | omega | (simp; done) | (simp; omega))⟩ rfl (by intro x hx; simp only [List.mem_singleton] at hx; subst hx; first | decide | exact ⟨hk, hn⟩)), by decide, by decide⟩, (by repeat (first | exact Below.refl _ _ | refine Below.drew ?_ | refine below_up ?_ _))⟩
set_option maxRecDepth 100000 in
set_option maxHeartbeats 8000000 in
theorem named_1 {S : Nat → Prop} (w : World) (hg : Glob w) (m : Md) (B0 B1 B2 B3 B4 : Option Addr) (m0 m1 m2 m3 m4 d0 d1 d2 d3 d4 : Nat) (h : MRow S w m B0 B1 B2 B3 B4 m0 m1 m2 m3 m4) (f : Fn) (G0 G3 G4 : Option Addr) (g0 g3 g4 c0 c3 c4 : Nat) (hf : FRow S w f G0 G3 G4 g0 g3 g4) (a b : Int) :
    Calls Tryz.prog 192 #[.agg #[.slice B0 m0 d0, .slice B1 m1 d1, .slice B2 m2 d2, .slice B3 m3 d3, .slice B4 m4 d4], .agg #[.slice G0 g0 c0, .int .i64 f.ret.kind, .int .i64 f.ret.n, .slice G3 g3 c3, .slice G4 g4 c4], .agg #[.int .i64 1, .int .i64 a, .int .i64 b]] w fun e w' => RuleOut1 S w (namedL m f ⟨1, a, b⟩) e w' := by
  have hs := hg.big
  have HCell := Lib.hid (fun W (hW : Below w.heap.size w W) => (hg.below hW hg.big).cells)
  obtain ⟨v00, v01, v10, v11, v20, v21, v30, v31, v40, v41⟩ := HCell.out _ (below_up (below_up (below_up (below_a1 w (Obj.cells #[.slice B0 m0 d0, .slice B1 m1 d1, .slice B2 m2 d2, .slice B3 m3 d3, .slice B4 m4 d4] 28)) (Obj.cells #[.slice G0 g0 c0, .int .i64 f.ret.kind, .int .i64 f.ret.n, .slice G3 g3 c3, .slice G4 g4 c4] 67)) (Obj.cells #[.int .i64 1, .int .i64 a, .int .i64 b] 62)) (Obj.cells #[.slice none 0 0, .slice none 0 0] 221))
  clear hg h
  go_enter Tryz.func192, Tryz.ntmps192
  go_wp2_with (go_at_call 226; refine (types_calls _ _).mono ?_; rintro e w' ⟨rfl, rfl⟩)
  refine bodyPost_ret (named_results _ _ (w.heap.size + 1 + 1 + 1) _ _ ⟨_, _, _, rfl⟩ ⟨_, _, _, rfl⟩ rfl (by repeat (first | (refine blk_new' _ ?_; first | rfl | (simp; done)) | refine blk_drew ?_ | refine blk_alloc ?_ _))) rfl ?_
  exact ⟨_, _, _, _, _, _, rfl, ⟨rfl, rfl, by decide, by decide, (Rd.Row.nil _ _ _ _), (row_cells (xs := [⟨2, 0⟩]) (by repeat (first | (refine blk_new' _ ?_; first | rfl | (simp; done)) | refine blk_drew ?_ | refine blk_alloc ?_ _)) ⟨by first | omega | (simp; done) | (simp; omega), .inr (by first | omega | (simp; done) | (simp; omega))⟩ rfl (by intro x hx; simp only [List.mem_singleton] at hx; subst hx; first | decide | exact ⟨hk, hn⟩)), by decide, by decide⟩, (by repeat (first | exact Below.refl _ _ | refine Below.drew ?_ | refine below_up ?_ _))⟩
set_option maxRecDepth 100000 in
set_option maxHeartbeats 8000000 in
theorem named_26 {S : Nat → Prop} (w : World) (hg : Glob w) (m : Md) (B0 B1 B2 B3 B4 : Option Addr) (m0 m1 m2 m3 m4 d0 d1 d2 d3 d4 : Nat) (h : MRow S w m B0 B1 B2 B3 B4 m0 m1 m2 m3 m4) (f : Fn) (G0 G3 G4 : Option Addr) (g0 g3 g4 c0 c3 c4 : Nat) (hf : FRow S w f G0 G3 G4 g0 g3 g4) (a b : Int) :
    Calls Tryz.prog 192 #[.agg #[.slice B0 m0 d0, .slice B1 m1 d1, .slice B2 m2 d2, .slice B3 m3 d3, .slice B4 m4 d4], .agg #[.slice G0 g0 c0, .int .i64 f.ret.kind, .int .i64 f.ret.n, .slice G3 g3 c3, .slice G4 g4 c4], .agg #[.int .i64 26, .int .i64 a, .int .i64 b]] w fun e w' => RuleOut1 S w (namedL m f ⟨26, a, b⟩) e w' := by
  have hs := hg.big
  have HCell := Lib.hid (fun W (hW : Below w.heap.size w W) => (hg.below hW hg.big).cells)
  have hk := hf.wk
  have hn := hf.wn
  obtain ⟨v00, v01, v10, v11, v20, v21, v30, v31, v40, v41⟩ := HCell.out _ (below_up (below_up (below_up (below_a1 w (Obj.cells #[.slice B0 m0 d0, .slice B1 m1 d1, .slice B2 m2 d2, .slice B3 m3 d3, .slice B4 m4 d4] 28)) (Obj.cells #[.slice G0 g0 c0, .int .i64 f.ret.kind, .int .i64 f.ret.n, .slice G3 g3 c3, .slice G4 g4 c4] 67)) (Obj.cells #[.int .i64 26, .int .i64 a, .int .i64 b] 62)) (Obj.cells #[.slice none 0 0, .slice none 0 0] 221))
  clear hg h
  go_enter Tryz.func192, Tryz.ntmps192
  go_wp2_with (go_at_call 226; refine (types_calls _ _).mono ?_; rintro e w' ⟨rfl, rfl⟩)
  refine bodyPost_ret (named_results _ _ (w.heap.size + 1 + 1 + 1) _ _ ⟨_, _, _, rfl⟩ ⟨_, _, _, rfl⟩ rfl (by repeat (first | (refine blk_new' _ ?_; first | rfl | (simp; done)) | refine blk_drew ?_ | refine blk_alloc ?_ _))) rfl ?_
  exact ⟨_, _, _, _, _, _, rfl, ⟨rfl, rfl, by decide, by decide, (row_cells (xs := [f.ret]) (by repeat (first | (refine blk_new' _ ?_; first | rfl | (simp; done)) | refine blk_drew ?_ | refine blk_alloc ?_ _)) ⟨by first | omega | (simp; done) | (simp; omega), .inr (by first | omega | (simp; done) | (simp; omega))⟩ rfl (by intro x hx; simp only [List.mem_singleton] at hx; subst hx; first | decide | exact ⟨hk, hn⟩)), (Rd.Row.nil _ _ _ _), by decide, by decide⟩, (by repeat (first | exact Below.refl _ _ | refine Below.drew ?_ | refine below_up ?_ _))⟩
end Go.Proofs.YtmceaeoeakkppaaGreatDoor
namespace Go.Proofs.YtmceaeoeakkppaaGreatDoor
open Go.RowKit Go.Sort
set_option linter.unusedVariables false
theorem RuleR.out {S S' : Nat → Prop} {w W w1 w2 : World} {A B : Option Addr} {n c k d : Nat} {r : List Ty × List Ty} (h : RuleR S' W w1 A n c B k d r) (hS : ∀ b, S' b → S b) (hSw : ∀ b, S b → b < w.heap.size) (hW : w.heap.size ≤ W.heap.size) (h2 : w1.heap.size ≤ w2.heap.size)
    (hk : ∀ b, b < w1.heap.size → b < w.heap.size ∨ W.heap.size ≤ b → w2.heap[b]? = w1.heap[b]?) : RuleR S w w2 A n c B k d r := by
  have hm : ∀ b, SP S' W w1 b → SP S w w2 b := fun b hb => ⟨Nat.lt_of_lt_of_le hb.1 h2, hb.2.imp (hS b) (fun h => Nat.le_trans hW h)⟩
  have hkk : ∀ b, SP S' W w1 b → w2.heap[b]? = w1.heap[b]? := fun b hb => hk b hb.1 (hb.2.imp (fun h => hSw b (hS b h)) id)
  exact ⟨h.i, h.o, h.ci, h.co, (h.ri.keep hkk).mono hm, (h.ro.keep hkk).mono hm, h.si, h.so⟩
theorem of_results (tmps : Array Value) (w : World) (b : Nat) (A B : Option Addr) (n c k d : Nat) (r : Bool) (h2 : tmps.getD 8 undef = .pointer (some ⟨b, 0, none⟩)) (h3 : tmps.getD 9 undef = .bool r) (hb : w.heap[b]? = some (.cells #[.slice A n c, .slice B k d] 221 (0, 0))) :
    (results Tryz.f144 tmps).run Tryz.prog w = .ok (.tuple #[.agg #[.slice A n c, .slice B k d], .bool r]) w := by
  rw [results_cell_tmp Tryz.results144, h2, h3]
  have c0 := blk_cell hb 0
  have c1 := blk_cell hb 1
  simp at c0 c1
  simp [go_sem, c0, c1]
theorem cells5 {W : World} {g : Nat} {t : TypeId} {a b c d e : Value} (h : W.heap[g]? = some (.cells #[a, b, c, d, e] t (0, 0))) : W.cell? ⟨g, 0, none⟩ = some a ∧ W.cell? ⟨g, 1, none⟩ = some b ∧ W.cell? ⟨g, 2, none⟩ = some c ∧ W.cell? ⟨g, 3, none⟩ = some d ∧ W.cell? ⟨g, 4, none⟩ = some e := ⟨blk_cell h 0, blk_cell h 1, blk_cell h 2, blk_cell h 3, blk_cell h 4⟩
theorem cells3 {W : World} {g : Nat} {t : TypeId} {a b c : Value} (h : W.heap[g]? = some (.cells #[a, b, c] t (0, 0))) : W.cell? ⟨g, 0, none⟩ = some a ∧ W.cell? ⟨g, 1, none⟩ = some b ∧ W.cell? ⟨g, 2, none⟩ = some c := ⟨blk_cell h 0, blk_cell h 1, blk_cell h 2⟩
theorem cells2 {W : World} {g : Nat} {t : TypeId} {a b : Value} (h : W.heap[g]? = some (.cells #[a, b] t (0, 0))) : W.cell? ⟨g, 0, none⟩ = some a ∧ W.cell? ⟨g, 1, none⟩ = some b := ⟨blk_cell h 0, blk_cell h 1⟩
set_option maxRecDepth 100000 in
set_option maxHeartbeats 8000000 in
theorem of_calls {S : Nat → Prop} (w : World) (hg : Glob w) (m : Md) (B0 B1 B2 B3 B4 : Option Addr) (m0 m1 m2 m3 m4 d0 d1 d2 d3 d4 : Nat) (h : MRow S w m B0 B1 B2 B3 B4 m0 m1 m2 m3 m4) (f : Fn) (G0 G3 G4 : Option Addr) (g0 g3 g4 c0 c3 c4 : Nat) (op a b : Int) (A : Option Addr) (n c : Nat) (h6 : (op == 6) = false) (h7 : (op == 7) = false) (h41 : (op == 41) = false) (r1 r2 : List Ty × List Ty) (ok : Bool)
    (hpl : ∀ W, Glob W → Calls Tryz.prog 191 #[.int .i64 op] W fun e w' => RuleOut (fun _ => False) W r1 ok e w')
    (hnm : ok = false → ∀ W, Below w.heap.size w W → Calls Tryz.prog 192 #[.agg #[.slice B0 m0 d0, .slice B1 m1 d1, .slice B2 m2 d2, .slice B3 m3 d3, .slice B4 m4 d4], .agg #[.slice G0 g0 c0, .int .i64 f.ret.kind, .int .i64 f.ret.n, .slice G3 g3 c3, .slice G4 g4 c4], .agg #[.int .i64 op, .int .i64 a, .int .i64 b]] W fun e w' => RuleOut1 S W r2 e w') :
    Calls Tryz.prog 144 #[.agg #[.slice B0 m0 d0, .slice B1 m1 d1, .slice B2 m2 d2, .slice B3 m3 d3, .slice B4 m4 d4], .agg #[.slice G0 g0 c0, .int .i64 f.ret.kind, .int .i64 f.ret.n, .slice G3 g3 c3, .slice G4 g4 c4], .agg #[.int .i64 op, .int .i64 a, .int .i64 b], .slice A n c] w fun e w' => RuleOut S w (bif ok then r1 else r2) true e w' := by
  have hs := hg.big
  have hV : Below w.heap.size w ((((w.alloc (Obj.cells #[.slice B0 m0 d0, .slice B1 m1 d1, .slice B2 m2 d2, .slice B3 m3 d3, .slice B4 m4 d4] 28)).alloc (Obj.cells #[.slice G0 g0 c0, .int .i64 f.ret.kind, .int .i64 f.ret.n, .slice G3 g3 c3, .slice G4 g4 c4] 67)).alloc (Obj.cells #[.int .i64 op, .int .i64 a, .int .i64 b] 62)).alloc (Obj.cells #[.slice none 0 0, .slice none 0 0] 221)) := below_up (below_up (below_up (below_a1 w _) _) _) _
  have KP := Lib.hid (hpl _ (hg.below hV hs))
  have KN := Lib.hid hnm
  have HS := Lib.hid h.lt
  have HV := Lib.hid hV
  have HX := Lib.hid (blk_new4 w (Obj.cells #[.slice B0 m0 d0, .slice B1 m1 d1, .slice B2 m2 d2, .slice B3 m3 d3, .slice B4 m4 d4] 28) (Obj.cells #[.slice G0 g0 c0, .int .i64 f.ret.kind, .int .i64 f.ret.n, .slice G3 g3 c3, .slice G4 g4 c4] 67) (Obj.cells #[.int .i64 op, .int .i64 a, .int .i64 b] 62) (Obj.cells #[.slice none 0 0, .slice none 0 0] 221))
  have H0 := Lib.hid (blk_alloc (blk_alloc (blk_alloc (blk_new w (Obj.cells #[.slice B0 m0 d0, .slice B1 m1 d1, .slice B2 m2 d2, .slice B3 m3 d3, .slice B4 m4 d4] 28)) (Obj.cells #[.slice G0 g0 c0, .int .i64 f.ret.kind, .int .i64 f.ret.n, .slice G3 g3 c3, .slice G4 g4 c4] 67)) (Obj.cells #[.int .i64 op, .int .i64 a, .int .i64 b] 62)) (Obj.cells #[.slice none 0 0, .slice none 0 0] 221))
  have H1 := Lib.hid (blk_alloc (blk_alloc (blk_new2 w (Obj.cells #[.slice B0 m0 d0, .slice B1 m1 d1, .slice B2 m2 d2, .slice B3 m3 d3, .slice B4 m4 d4] 28) (Obj.cells #[.slice G0 g0 c0, .int .i64 f.ret.kind, .int .i64 f.ret.n, .slice G3 g3 c3, .slice G4 g4 c4] 67)) (Obj.cells #[.int .i64 op, .int .i64 a, .int .i64 b] 62)) (Obj.cells #[.slice none 0 0, .slice none 0 0] 221))
  have H2 := Lib.hid (blk_alloc (blk_new3 w (Obj.cells #[.slice B0 m0 d0, .slice B1 m1 d1, .slice B2 m2 d2, .slice B3 m3 d3, .slice B4 m4 d4] 28) (Obj.cells #[.slice G0 g0 c0, .int .i64 f.ret.kind, .int .i64 f.ret.n, .slice G3 g3 c3, .slice G4 g4 c4] 67) (Obj.cells #[.int .i64 op, .int .i64 a, .int .i64 b] 62)) (Obj.cells #[.slice none 0 0, .slice none 0 0] 221))
  clear hV hg h hnm hpl
  go_enter Tryz.func144, Tryz.ntmps144
  cases ok
  · replace KN := Lib.hid (KN.out rfl)
    go_wp2_with (first
      | (go_at_call 191; refine KP.out.mono ?_; rintro e w1 ⟨A1, n1, e1, B5, k1, e2, rfl, HR, hb1⟩
         have hb2 := hb1.alloc hb1.size (Obj.cells #[.slice A1 n1 e1, .slice B5 k1 e2] 221)
         have HB2 := Lib.hid hb2
         obtain ⟨p0, p1, p2, p3, p4⟩ := cells5 (blk_below H0.out hb2 (by simp <;> omega))
         obtain ⟨q0, q1, q2, q3, q4⟩ := cells5 (blk_below H1.out hb2 (by simp <;> omega))
         obtain ⟨i0, i1, i2⟩ := cells3 (blk_below H2.out hb2 (by simp <;> omega))
         clear HR hb1 hb2)
      | (go_at_call 192; refine (KN.out _ (HV.out.trans (HB2.out.mono HV.out.size))).mono ?_; rintro e w2 ⟨A3, n3, e3, B6, k3, e4, rfl, HR, hb1⟩
         have hx2 := blk_below (blk_below HX.out HB2.out (by simp <;> omega)) hb1 (Nat.lt_of_lt_of_le (blk_lt HX.out) HB2.out.size)
         have HX2 := Lib.hid hx2
         obtain ⟨t0, t1⟩ := cells2 hx2
         have t2 := blk_frozen hx2 0
         have t3 := blk_frozen hx2 1
         have HR := Lib.hid HR
         have HB3 := Lib.hid hb1
         clear hb1 hx2))
    have hr := blk_set (blk_set HX2.out 0 (.slice A3 n3 e3)) 1 (.slice B6 k3 e4)
    have hsz := HB2.out.size
    refine bodyPost_ret (of_results _ _ (w.heap.size + 1 + 1 + 1) A3 B6 n3 e3 k3 e4 true rfl rfl hr) rfl ?_
    refine ⟨_, _, _, _, _, _, rfl, HR.out.out (fun b hb => hb) HS.out ?_ ?_ ?_, ?_⟩
    · exact Nat.le_trans HV.out.size HB2.out.size
    · simp
    · intro b hb hb'
      refine (Below.heap_setCell _ _ _ b ?_).trans (Below.heap_setCell _ _ _ b ?_) <;> (simp at hsz hb' ⊢; omega)
    · exact (((HV.out.trans (HB2.out.mono HV.out.size)).trans (HB3.out.mono (Nat.le_trans HV.out.size HB2.out.size))).setCell (p := ⟨_, 0, none⟩) (by simp; omega) _).setCell (p := ⟨_, 1, none⟩) (by simp; omega) _
  · go_wp2_with (first
      | (go_at_call 191; refine KP.out.mono ?_; rintro e w1 ⟨A1, n1, e1, B5, k1, e2, rfl, HR, hb1⟩
         have hb2 := hb1.alloc hb1.size (Obj.cells #[.slice A1 n1 e1, .slice B5 k1 e2] 221)
         have hx2 := blk_below HX.out hb2 (by simp <;> omega)
         have HX2 := Lib.hid hx2
         obtain ⟨t0, t1⟩ := cells2 hx2
         have t2 := blk_frozen hx2 0
         have t3 := blk_frozen hx2 1
         have HR := Lib.hid HR
         have HB2 := Lib.hid hb2
         have HB1 := Lib.hid hb1
         clear hb1 hx2 hb2))
    have hr := blk_set (blk_set HX2.out 0 (.slice A1 n1 e1)) 1 (.slice B5 k1 e2)
    have hsz := HB1.out.size
    refine bodyPost_ret (of_results _ _ (w.heap.size + 1 + 1 + 1) A1 B5 n1 e1 k1 e2 true rfl rfl hr) rfl ?_
    refine ⟨_, _, _, _, _, _, rfl, HR.out.out (fun b hb => hb.elim) HS.out ?_ ?_ ?_, ?_⟩
    · exact HV.out.size
    · simp
    · intro b hb hb'
      refine ((Below.heap_setCell _ _ _ b ?_).trans (Below.heap_setCell _ _ _ b ?_)).trans (Below.heap_alloc _ _ b hb) <;> (simp at hsz hb' ⊢; omega)
    · exact ((HV.out.trans (HB2.out.mono HV.out.size)).setCell (p := ⟨_, 0, none⟩) (by simp; omega) _).setCell (p := ⟨_, 1, none⟩) (by simp; omega) _
end Go.Proofs.YtmceaeoeakkppaaGreatDoor
namespace Go.Proofs.YtmceaeoeakkppaaGreatDoor
open Go.RowKit Go.Sort
set_option linter.unusedVariables false
def tcells (xs : List Ty) : List Value := xs.flatMap fun x => [.int .i64 x.kind, .int .i64 x.n]
theorem tcells_cons (x : Ty) (xs : List Ty) : tcells (x :: xs) = [.int .i64 x.kind, .int .i64 x.n] ++ tcells xs := by simp [tcells]
theorem tcells_append (a b : List Ty) : tcells (a ++ b) = tcells a ++ tcells b := by simp [tcells]
theorem tcells_length (xs : List Ty) : (tcells xs).length = xs.length * 2 := by
  induction xs with
  | nil => rfl
  | cons x xs ih => rw [tcells_cons, List.length_append, ih, List.length_cons, List.length_cons, List.length_cons, List.length_nil]; omega
theorem tcells_one (xs : List Ty) : ∀ u ∈ tcells xs, u.oneCell' = true := by
  intro u hu
  simp only [tcells, List.mem_flatMap, List.mem_cons, List.not_mem_nil, or_false] at hu
  obtain ⟨_, _, rfl | rfl⟩ := hu <;> rfl
def tywf (x : Ty) : Prop := (Lit.int .i64 x.kind).wf = true ∧ (Lit.int .i64 x.n).wf = true
theorem ty_flat {S : Nat → Prop} {w : World} : ∀ {xs : List Ty} {cells : List Value}, k_ty.Flat S w xs cells ↔ cells = tcells xs ∧ ∀ x ∈ xs, tywf x := by
  intro xs
  induction xs with
  | nil => intro cells; simp [Rd.Flat, tcells]
  | cons x xs ih =>
    intro cells
    constructor
    · rintro ⟨c, r, rfl, hK, hr⟩
      obtain ⟨rfl, h0, h1⟩ := k_ty_open hK
      obtain ⟨rfl, hw⟩ := ih.1 hr
      exact ⟨by rw [tcells_cons], fun y hy => by
        rcases List.mem_cons.1 hy with rfl | hy
        · exact ⟨h0, h1⟩
        · exact hw y hy⟩
    · rintro ⟨rfl, hw⟩
      rw [tcells_cons]
      exact Rd.Flat.cons (k_ty_mk x (hw x (by simp)).1 (hw x (by simp)).2) (ih.2 ⟨rfl, fun y hy => hw y (by simp [hy])⟩)
theorem ty_row {S : Nat → Prop} {w : World} {A : Option Addr} {xs : List Ty} (h : k_ty.Row S w A xs) : Lie w A xs.length (tcells xs) ∧ ∀ x ∈ xs, tywf x := by
  obtain ⟨cells, hf, hl⟩ := h.flat
  obtain ⟨rfl, hw⟩ := ty_flat.1 hf
  exact ⟨hl, hw⟩
theorem ty_info : (Tryz.prog.info? 58).map (fun i => (i.zero, i.size, i.bytes)) = some (some (.agg #[.int .i64 0, .int .i64 0]), 2, 16) := by kernel_rfl
/-- What lies in new memory. -/
def New (w w' : World) : Nat → Prop := fun b => w.heap.size ≤ b ∧ b < w'.heap.size
theorem own_trow {w w' : World} {A : Option Addr} {c : Nat} {xs : List Ty} (h : w'.ownsRow w.heap.size 58 2 (.slice A xs.length c) xs.length (tcells xs)) (hw : ∀ x ∈ xs, tywf x) (hl : xs.length ≤ 140737488351232) : k_ty.Row (New w w') w' A xs ∧ xs.length ≤ c := by
  obtain ⟨A', c', e, h1, h2, h3⟩ := Rd.Sl.of_own (d := k_ty) (S := New w w') h (fun g hg => ⟨(h.lt g hg).1, (h.lt g hg).2⟩) (ty_flat.2 ⟨rfl, hw⟩) hl
  cases e
  exact ⟨h3, h1⟩
set_option maxRecDepth 100000 in
theorem cloneT_calls (w : World) (A : Option Addr) (n c : Nat) (xs : List Ty) (hn : xs.length = n) (hm : n ≤ 1000000) (hl : Lie w A n (tcells xs)) (hw : ∀ x ∈ xs, tywf x) :
    Calls Tryz.prog 161 #[.slice A n c] w fun e w' => ∃ A' c', e = .returned (.slice A' n c') ∧ n ≤ c' ∧ k_ty.Row (New w w') w' A' xs ∧ Below w.heap.size w w' := by
  subst hn
  cases A with
  | none =>
    have h0 : xs.length = 0 := by
      rcases Nat.eq_zero_or_pos xs.length with h0 | h0
      · exact h0
      · obtain ⟨_, _, h, _⟩ := hl h0; cases h
    obtain rfl := List.eq_nil_of_length_eq_zero h0
    have hnil : ∀ w' : World, (binOp .eql 59 (.slice none 0 c) (.slice none 0 0)).run Tryz.prog w' = .ok (.bool true) w' := fun w' => Lib.run_eql_slice_nil w' _ _ none _ _ 0 0 Tryz.underlying59
    go_enter Tryz.func161, Tryz.ntmps161
    go_wp2
    go_ret
    exact ⟨_, _, rfl, Nat.le_refl _, Rd.Row.nil _ _ _ _, Below.refl _ _⟩
  | some a =>
    have hnil : ∀ w' : World, (binOp .eql 59 (.slice (some a) xs.length c) (.slice none 0 0)).run Tryz.prog w' = .ok (.bool false) w' := fun w' => Lib.run_eql_slice_nil w' _ _ (some a) _ _ 0 0 Tryz.underlying59
    go_enter Tryz.func161, Tryz.ntmps161
    go_wp2_with (at_builtin; refine list_app _ rfl (.tmp 5) (.tmp 6) _ rfl 58 Tryz.underlying59 ty_info rfl (by decide) (by decide) w.heap.size rfl (World.ownsRow_made w #[] 0 (Nat.le_refl _) (Nat.zero_le _) rfl) rfl (tcells_length _) (by exact hl.below ((Below.refl _ _).alloc (Nat.le_refl _) _)) (tcells_one _) (by omega) (by simp) ?_; intro v' w3 hown hg hat; have hB := Lib.hid (grown_below ((Below.refl _ _).alloc (Nat.le_refl _) _) hg (by simp) (.inr ⟨_, rfl, Nat.le_refl _⟩)); simp only [Nat.zero_add, List.nil_append] at hown; obtain ⟨A2, c2, rfl, _, _, _⟩ := own_shape hown; have HO := Lib.hid hown; clear hown hg hat)
    go_ret
    exact ⟨_, _, rfl, (own_trow HO.out hw (by omega)).2, (own_trow HO.out hw (by omega)).1, hB.out⟩
set_option maxRecDepth 100000 in
theorem clipT_calls (w : World) (A : Option Addr) (n c : Nat) (hnc : n ≤ c) (hm : n ≤ 1000000) (hs : ∀ a, A = some a → a.spot = none) :
    Calls Tryz.prog 160 #[.slice A n c] w fun e w' => e = .returned (.slice A n n) ∧ w' = w := by
  go_enter Tryz.func160, Tryz.ntmps160
  go_wp2
  go_ret
  exact ⟨rfl, rfl⟩
set_option maxRecDepth 100000 in
set_option maxHeartbeats 4000000 in
theorem growT_calls (w : World) (n : Nat) (hn : n ≤ 1000000) :
    Calls Tryz.prog 214 #[.slice none 0 0, .int .i64 n] w fun e w' => ∃ A c, e = .returned (.slice A 0 c) ∧ w'.ownsRow w.heap.size 58 2 (.slice A 0 c) 0 [] ∧ Below w.heap.size w w' := by
  rcases Nat.eq_zero_or_pos n with rfl | h0
  · go_enter Tryz.func214, Tryz.ntmps214
    go_wp2
    go_ret
    exact ⟨none, 0, rfl, ⟨rfl, .inl ⟨rfl, rfl⟩⟩, Below.refl _ _⟩
  · obtain ⟨i, hi, hiz, his, hib⟩ : ∃ i, Tryz.prog.info? 58 = some i ∧ i.zero = some (.agg #[.int .i64 0, .int .i64 0]) ∧ i.size = 2 ∧ i.bytes = 16 := by
      have h := ty_info
      cases hh : Tryz.prog.info? 58 with
      | none => rw [hh] at h; cases h
      | some i =>
        rw [hh] at h
        simp only [Option.map_some, Option.some.injEq, Prod.mk.injEq] at h
        exact ⟨i, rfl, h.1, h.2.1, h.2.2⟩
    have hrz := fun ty => Lib.run_append_nil_zeros (P := Tryz.prog) w 59 3 ty 58 i _ .i64 .i64 Tryz.underlying59 Tryz.underlying3 hi hiz n h0 (by omega) (by omega) (by rw [hib]; omega)
    have hge : n ≤ grownCap w n 0 58 := grownCap_ge w _ _ _
    have hle := grownCap_le_maxLen w n 0 58 (by unfold maxLen; omega)
    obtain ⟨G, hG⟩ : ∃ G, G = grownCap w n 0 58 := ⟨_, rfl⟩
    rw [← hG] at hrz hge hle
    clear hG
    unfold maxLen at hle
    have h4 : (n : Int) > 0 := by omega
    go_enter Tryz.func214, Tryz.ntmps214
    go_wp2_with (at_builtin; refine Lib.wpList_append_run _ rfl _ _ _ _ rfl _ _ rfl rfl _ _ (hrz _) ?_)
    go_ret
    refine ⟨_, G, rfl, World.ownsRow_made w.drew _ G (Nat.le_refl _) (by unfold maxLen; omega) ?_, ((Below.refl _ _).drew).alloc (Nat.le_refl _) _⟩
    rw [Array.size_append, size_zeroCells, size_zeroCells]
    show n * 2 + (G - n) * 2 = G * 2
    omega
set_option maxRecDepth 100000 in
set_option maxHeartbeats 4000000 in
theorem concat_calls {S : Nat → Prop} (w : World) (A : Option Addr) (n c : Nat) (xss : List (List Ty)) (hn : xss.length = n) (hn2 : n ≤ 100000) (hm : xss.flatten.length ≤ 100000) (hS : ∀ b, S b → b < w.heap.size) (row : (Rd.slice k_ty).Row S w A xss) :
    Calls Tryz.prog 165 #[.slice A n c] w fun e w' => ∃ A' c', e = .returned (.slice A' xss.flatten.length c') ∧ xss.flatten.length ≤ c' ∧ (∀ a, A' = some a → a.spot = none) ∧ k_ty.Row (New w w') w' A' xss.flatten ∧ Below w.heap.size w w' := by
  have HN := Lib.hid hn
  have HS := Lib.hid hS
  have HR := Lib.hid row
  have htake : ∀ k x, xss[k]? = some x → (xss.take (k + 1)).flatten = (xss.take k).flatten ++ x := fun k x hx => by
    rw [List.take_add_one, hx, List.flatten_append]; simp
  have hle : ∀ k, (xss.take k).flatten.length ≤ xss.flatten.length := fun k => by
    have h : xss.flatten = (xss.take k).flatten ++ (xss.drop k).flatten := by rw [← List.flatten_append, List.take_append_drop]
    rw [h, List.length_append]; omega
  have hwf : ∀ x ∈ xss.flatten, tywf x := fun x hx => by
    obtain ⟨l, hl, hx⟩ := List.mem_flatten.1 hx
    obtain ⟨k, hk⟩ := List.getElem?_of_mem hl
    obtain ⟨_, _, _, _, _, _, _, _, _, r0⟩ := row_slice_at row hk
    exact (ty_row r0).2 x hx
  have hall : (xss.take n).flatten = xss.flatten := by rw [List.take_of_length_le (by omega)]
  obtain ⟨f, hf⟩ : ∃ f : Nat → List Ty, ∀ k, (xss.take k).flatten = f k := ⟨_, fun _ => rfl⟩
  obtain ⟨t, ht⟩ : ∃ t : Nat → Nat, ∀ k, (f k).length = t k := ⟨_, fun _ => rfl⟩
  generalize hy : xss.flatten = ys at *
  simp only [hf] at htake hle hall
  have HT : Hid (∀ k x, xss[k]? = some x → f (k + 1) = f k ++ x) := Lib.hid htake
  have HL : Hid (∀ k, t k ≤ ys.length) := Lib.hid (fun k => ht k ▸ hle k)
  have HF := Lib.hid ht
  have HW := Lib.hid hwf
  have HA := Lib.hid hall
  have hf0 : f 0 = [] := by rw [← hf]; rfl
  have ht0 : t 0 = 0 := by rw [← ht, hf0]; rfl
  have H0 := Lib.hid hf0
  have HTn : Hid (t n = ys.length) := Lib.hid (by rw [← ht, hall])
  clear hn hS row htake hle hwf hall ht hf hy hf0
  go_enter Tryz.func165, Tryz.ntmps165
  go_wp2
  go_loopw [3, 11] (fun sz ix wr => ∃ k : Nat, k ≤ n ∧ ix = .int .i64 k ∧ sz = .int .i64 (t k) ∧ Hid (w = wr)) (fun _ ix _ => n - (intOf ix).toNat)
  case atStart => exact ⟨0, Nat.zero_le _, rfl, by rw [ht0]; rfl, Lib.hid rfl⟩
  case round =>
    obtain ⟨k, hk, rfl, rfl, he⟩ := hrel
    have e := he.out
    subst e
    clear he
    by_cases hlt : k < n
    · obtain ⟨x, hx⟩ : ∃ x, xss[k]? = some x := ⟨_, List.getElem?_eq_getElem (by have := HN.out; omega)⟩
      obtain ⟨b, o, B', c', rfl, hSb, e0, l0, m00, r0⟩ := row_slice_at HR.out hx
      have h1 := HL.out (k + 1)
      have h2 : t (k + 1) = t k + x.length := by rw [← HF.out, HT.out k x hx, List.length_append, HF.out]
      have HX := Lib.hid h2
      rw [h2] at h1
      have hw : wrap64 ((t k : Int) + x.length) = t k + x.length := by unfold wrap64; omega
      have hneg : ¬ ((t k : Int) + x.length < 0) := by omega
      clear hx r0 h2
      go_wp2
      go_roundw
      case rel => exact ⟨k + 1, by omega, by go_num, by rw [HX.out]; go_num, Lib.hid (by trivial)⟩
      case measure => simp [intOf]; omega
    · obtain rfl : n = k := by omega
      have hTn := HTn.out
      rw [hTn]
      clear hTn ht0
      go_wp2_with (first
        | (go_at_call 214; refine (growT_calls _ _ (by omega)).mono ?_; rintro e w1 ⟨A1, c1, rfl, ho, hb⟩; have HO := Lib.hid ho; have HB := Lib.hid hb; clear ho hb))
      go_loopw [6, 27] (fun sv ix wr => ∃ (k : Nat) (A2 : Option Addr) (c2 : Nat), k ≤ n ∧ ix = .int .i64 k ∧ sv = .slice A2 (t k) c2 ∧ Hid (wr.ownsRow w.heap.size 58 2 (.slice A2 (t k) c2) (t k) (tcells (f k))) ∧ Below w.heap.size w wr) (fun _ ix _ => n - (intOf ix).toNat)
      case atStart => exact ⟨0, A1, c1, Nat.zero_le _, rfl, by rw [← HF.out, H0.out]; rfl, Lib.hid (by rw [← HF.out, H0.out]; exact HO.out), HB.out⟩
      case round =>
        obtain ⟨k, A2, c2, hk, rfl, rfl, HO2, hb2⟩ := hrel
        have hsz := hb2.size
        by_cases hlt : k < n
        · obtain ⟨x, hx⟩ : ∃ x, xss[k]? = some x := ⟨_, List.getElem?_eq_getElem (by have := HN.out; omega)⟩
          obtain ⟨b, o, B', c', rfl, hSb, e0, l0, m00, r0⟩ := row_slice_at (HR.out.keep (fun b hb => hb2.block b (HS.out b hb))) hx
          have h1 := HL.out (k + 1)
          have h2 : t (k + 1) = t k + x.length := by rw [← HF.out, HT.out k x hx, List.length_append, HF.out]
          have HX := Lib.hid h2
          have HY := Lib.hid (HT.out k x hx)
          have HR0 := Lib.hid (ty_row r0).1
          rw [h2] at h1
          clear hx r0 h2
          go_wp2_with (at_builtin; refine list_app _ rfl (.tmp 31) (.tmp 32) _ rfl 58 Tryz.underlying59 ty_info rfl (by decide) (by decide) w.heap.size (n := t k) (xs := tcells (f k)) rfl (by exact HO2.out) (news := tcells x) rfl (tcells_length _) (by exact HR0.out) (tcells_one _) (by omega) (by omega) ?_; intro v' w3 hown hg hat; have hB := Lib.hid (grown_below hb2 hg (by omega) (own_row_ge HO2.out)); obtain ⟨A3, c3, rfl, hn3, _, _⟩ := own_shape hown; have HO3 := Lib.hid hown; clear hown hg hat)
          go_roundw
          case rel => exact ⟨k + 1, A3, c3, by omega, by go_num, by rw [HX.out], Lib.hid (by rw [HX.out, HY.out, tcells_append]; exact HO3.out), hB.out⟩
          case measure => simp [intOf]; omega
        · obtain rfl : n = k := by omega
          have hTn := HTn.out
          have ho := HO2.out
          rw [hTn, HA.out] at ho
          have HO3 := Lib.hid ho
          rw [hTn]
          clear hTn ho HO2
          go_wp2
          go_ret
          refine ⟨_, _, rfl, (own_trow HO3.out HW.out (by omega)).2, ?_, (own_trow HO3.out HW.out (by omega)).1, hb2⟩
          intro a ha
          obtain ⟨A', c', e, _, _, h5⟩ := own_shape HO3.out
          cases e
          rcases Nat.eq_zero_or_pos ys.length with h0 | h0
          · rcases HO3.out.2 with ⟨h6, _⟩ | ⟨g, cap, cur, h6, _⟩
            · injection h6 with h7
              rw [h7] at ha
              cases ha
            · injection h6 with h7
              rw [h7] at ha
              cases ha
              rfl
          · obtain ⟨g, hg, _⟩ := h5 h0
            rw [hg] at ha
            cases ha
            rfl
/-- Where an instruction leads. -/
def nextL (i : Ins) (pc : Nat) : List Int := if i.op = 26 then [] else if i.op = 23 then [i.a] else if i.op = 24 then [pc + 1, i.a] else [pc + 1]
theorem row_ints {S : Nat → Prop} {w : World} {g : Nat} {t : TypeId} {xs : List Int} (h : w.heap[g]? = some (.cells (xs.map (.int .i64 ·)).toArray t (0, 0))) (hb : S g) (hwf : ∀ x ∈ xs, (Lit.int .i64 x).wf = true) : (Rd.int .i64).Row S w (some ⟨g, 0, none⟩) xs := by
  refine Rd.Row.of_blk h hb (cells := xs.map (.int .i64 ·)) ?_ (fun j v hj => by simpa using hj)
  clear h hb
  induction xs with
  | nil => rfl
  | cons x xs ih => exact Rd.Flat.cons (c := [.int .i64 x]) ⟨rfl, hwf x (by simp)⟩ (ih (fun y hy => hwf y (by simp [hy])))
set_option maxRecDepth 100000 in
theorem next_calls (w : World) (op a b : Int) (pc : Nat) (ha : (Lit.int .i64 a).wf = true) (hp : pc ≤ 1000) :
    Calls Tryz.prog 194 #[.agg #[.int .i64 op, .int .i64 a, .int .i64 b], .int .i64 pc] w fun e w' => ∃ A c, e = .returned (.slice A (nextL ⟨op, a, b⟩ pc).length c) ∧ (Rd.int .i64).Row (New w w') w' A (nextL ⟨op, a, b⟩ pc) ∧ Below w.heap.size w w' := by
  have hw : wrap64 ((pc : Int) + 1) = pc + 1 := by unfold wrap64; omega
  have hf : (Lit.int .i64 ((pc : Int) + 1)).wf = true := WalkArith.wf_i64 (by omega)
  have h0 := blk_new w (Obj.cells #[.int .i64 op, .int .i64 a, .int .i64 b] 62)
  by_cases h1 : op = 26
  · subst h1
    go_enter Tryz.func194, Tryz.ntmps194
    go_wp2
    go_ret
    exact ⟨_, _, rfl, Rd.Row.nil _ _ _ _, below_a1 _ _⟩
  by_cases h2 : op = 23
  · subst h2
    go_enter Tryz.func194, Tryz.ntmps194
    go_wp2
    go_ret
    exact ⟨_, _, rfl, row_ints (xs := [a]) (blk_new2 _ _ _) ⟨by omega, by simp⟩ (by intro x hx; rw [List.mem_singleton.1 hx]; exact ha), below_up (below_a1 _ _) _⟩
  by_cases h3 : op = 24
  · subst h3
    go_enter Tryz.func194, Tryz.ntmps194
    go_wp2
    go_ret
    exact ⟨_, _, rfl, row_ints (xs := [(pc : Int) + 1, a]) (blk_new2 _ _ _) ⟨by omega, by simp⟩ (by intro x hx; simp at hx; rcases hx with rfl | rfl; exact hf; exact ha), below_up (below_a1 _ _) _⟩
  have e1 : (op == 26) = false := by simpa using h1
  have e2 : (op == 23) = false := by simpa using h2
  have e3 : (op == 24) = false := by simpa using h3
  have he : nextL ⟨op, a, b⟩ pc = [(pc : Int) + 1] := by simp [nextL, h1, h2, h3]
  rw [he]
  clear h1 h2 h3 he
  go_enter Tryz.func194, Tryz.ntmps194
  go_wp2
  go_ret
  exact ⟨_, _, rfl, row_ints (xs := [(pc : Int) + 1]) (blk_new2 _ _ _) ⟨by omega, by simp⟩ (by intro x hx; rw [List.mem_singleton.1 hx]; exact hf), below_up (below_a1 _ _) _⟩
end Go.Proofs.YtmceaeoeakkppaaGreatDoor
namespace Go.Proofs.YtmceaeoeakkppaaGreatDoor
open Go.RowKit Go.Sort
set_option linter.unusedVariables false
def subs (st i : List Ty) : Bool := (List.range i.length).all fun k => match st[st.length - i.length + k]?, i[k]? with | some x, some t => sub x t | _, _ => true
def far (cl : Nat) (l : List Int) : Bool := match l with | x :: _ => decide ((cl : Int) ≤ x) | [] => false
/-- What an instruction makes of a stack's types, by its rule; where it leads; the error. -/
def stepL (cl : Nat) (i : Ins) (pc : Nat) (st : List Ty) (r : List Ty × List Ty) (ok : Bool) : List Ty × List Int × Int :=
  if ok = false ∨ st.length < r.1.length ∨ 8 < st.length - r.1.length + r.2.length ∨ subs st r.1 = false then ([], [], 4)
  else if far cl (nextL i pc) = true then ([], [], 1) else (st.take (st.length - r.1.length) ++ r.2, nextL i pc, 0)
theorem subs_no {st i : List Ty} {k : Nat} {x t : Ty} (h : st[st.length - i.length + k]? = some x) (h1 : i[k]? = some t) (h2 : sub x t = false) : subs st i = false := by
  rw [subs, Bool.eq_false_iff]
  intro h3
  have h4 := List.all_eq_true.1 h3 k (List.mem_range.2 (List.getElem?_eq_some_iff.1 h1).1)
  rw [h, h1] at h4
  exact absurd (h2.symm.trans h4) (by decide)
theorem subs_yes {st i : List Ty} (h : ∀ k x t, st[st.length - i.length + k]? = some x → i[k]? = some t → sub x t = true) : subs st i = true := by
  refine List.all_eq_true.2 fun k _ => ?_
  cases h1 : st[st.length - i.length + k]? with
  | none => rfl
  | some x =>
    cases h2 : i[k]? with
    | none => rfl
    | some t => exact h k x t h1 h2
theorem stepL_no {cl : Nat} {i : Ins} {pc : Nat} {st : List Ty} {r : List Ty × List Ty} {ok : Bool} {L : List Ty × List Int × Int} (hL : stepL cl i pc st r ok = L) (h : ok = false ∨ st.length < r.1.length ∨ 8 < st.length - r.1.length + r.2.length ∨ subs st r.1 = false) : ([], [], 4) = L := by
  rw [← hL, stepL, if_pos h]
theorem stepL_far {cl : Nat} {i : Ins} {pc : Nat} {st : List Ty} {r : List Ty × List Ty} {L : List Ty × List Int × Int} (hL : stepL cl i pc st r true = L) (h1 : r.1.length ≤ st.length) (h2 : st.length - r.1.length + r.2.length ≤ 8) (h3 : subs st r.1 = true) (h4 : far cl (nextL i pc) = true) : ([], [], 1) = L := by
  rw [← hL, stepL, if_neg (by rw [h3]; simp; omega), if_pos h4]
theorem stepL_ok {cl : Nat} {i : Ins} {pc : Nat} {st : List Ty} {r : List Ty × List Ty} {L : List Ty × List Int × Int} (hL : stepL cl i pc st r true = L) (h1 : r.1.length ≤ st.length) (h2 : st.length - r.1.length + r.2.length ≤ 8) (h3 : subs st r.1 = true) (h4 : far cl (nextL i pc) = false) : (st.take (st.length - r.1.length) ++ r.2, nextL i pc, 0) = L := by
  rw [← hL, stepL, if_neg (by rw [h3]; simp; omega), if_neg (by rw [h4]; decide)]
def StepOut (w : World) (L : List Ty × List Int × Int) (e : Ending) (w' : World) : Prop := ∃ A1 c1 B5 e1, e = .returned (.tuple #[.slice A1 L.1.length c1, .slice B5 L.2.1.length e1, .int .i64 L.2.2]) ∧ L.1.length ≤ c1 ∧ (∀ a, A1 = some a → a.spot = none) ∧ k_ty.Row (New w w') w' A1 L.1 ∧ (Rd.int .i64).Row (New w w') w' B5 L.2.1 ∧ Below w.heap.size w w'
theorem StepOut.none {w w' : World} {k : Int} (h : Below w.heap.size w w') : StepOut w ([], [], k) (.returned (.tuple #[.slice .none 0 0, .slice .none 0 0, .int .i64 k])) w' :=
  ⟨_, _, _, _, rfl, Nat.zero_le _, fun _ h => (by cases h), Rd.Row.nil _ _ _ _, Rd.Row.nil _ _ _ _, h⟩
theorem step_arith {n n1 n2 : Nat} (h1 : n ≤ 1000) (h2 : ¬ n < n1) (h3 : n2 ≤ 1000) (h4 : ¬ 8 < n - n1 + n2) : ∃ j : Nat, j + n1 = n ∧ ¬ ((n : Int) - n1 + n2 > 8) := ⟨n - n1, by omega, by omega⟩
theorem step_arith2 {j k n n1 : Nat} (h1 : j + n1 = n) (h2 : k < n1) : n - n1 + k < n ∧ (0 : Int) ≤ (n : Int) - n1 := ⟨by omega, by omega⟩
theorem hold13 {V w' : World} {p q cb co : Nat} {t t' : TypeId} {a0 a1 a2 a3 a4 b0 b1 b2 b3 b4 c0 c1 c2 : Value} (hp : V.heap[p]? = some (.cells #[a0, a1, a2, a3, a4] t (0, 0))) (hq : V.heap[q]? = some (.cells #[b0, b1, b2, b3, b4] t' (0, 0)))
    (h0 : V.cell? ⟨cb, co, none⟩ = some c0) (h1 : V.cell? ⟨cb, co + 1, none⟩ = some c1) (h2 : V.cell? ⟨cb, co + 2, none⟩ = some c2) (hb : Below V.heap.size V w') :
    w'.cell? ⟨p, 0, none⟩ = some a0 ∧ w'.cell? ⟨p, 1, none⟩ = some a1 ∧ w'.cell? ⟨p, 2, none⟩ = some a2 ∧ w'.cell? ⟨p, 3, none⟩ = some a3 ∧ w'.cell? ⟨p, 4, none⟩ = some a4 ∧
    w'.cell? ⟨q, 0, none⟩ = some b0 ∧ w'.cell? ⟨q, 1, none⟩ = some b1 ∧ w'.cell? ⟨q, 2, none⟩ = some b2 ∧ w'.cell? ⟨q, 3, none⟩ = some b3 ∧ w'.cell? ⟨q, 4, none⟩ = some b4 ∧
    w'.cell? ⟨cb, co, none⟩ = some c0 ∧ w'.cell? ⟨cb, co + 1, none⟩ = some c1 ∧ w'.cell? ⟨cb, co + 2, none⟩ = some c2 ∧ Below V.heap.size V w' := by
  obtain ⟨x0, x1, x2, x3, x4⟩ := cells5 (blk_below hp hb (blk_lt hp))
  obtain ⟨y0, y1, y2, y3, y4⟩ := cells5 (blk_below hq hb (blk_lt hq))
  exact ⟨x0, x1, x2, x3, x4, y0, y1, y2, y3, y4, below_cell h0 hb, below_cell h1 hb, below_cell h2 hb, hb⟩
theorem held13 {a b c d e f g h i j k l m : Prop} {V w' : World} (hh : a ∧ b ∧ c ∧ d ∧ e ∧ f ∧ g ∧ h ∧ i ∧ j ∧ k ∧ l ∧ m ∧ Below V.heap.size V w') : Below V.heap.size V w' := hh.2.2.2.2.2.2.2.2.2.2.2.2.2
theorem rowT_take {S : Nat → Prop} {w : World} {A : Option Addr} {bs : List Ty} (h : k_ty.Row S w A bs) (k : Nat) : k_ty.Row S w A (bs.take k) := fun hp => by
  have hl : 0 < bs.length := by rw [List.length_take] at hp; omega
  obtain ⟨b, o, e, hb, hc⟩ := h hl
  exact ⟨b, o, e, hb, fun i hi => by
    have hi2 : i < bs.length := by rw [List.length_take] at hi; omega
    obtain ⟨cs, hK, hcell⟩ := hc i hi2
    exact ⟨cs, by rw [List.getElem_take]; exact hK, hcell⟩⟩
theorem slice_toT (w : World) (A : Option Addr) (n c k : Nat) (z : Int) (hz : z = (k : Int)) (h : k ≤ c) : (Instr.slice 59 (.slice A n c) none (some (.int .i64 z)) none).run Tryz.prog w = .ok (.slice A k c) w := by
  subst hz
  have hu := Tryz.underlying59
  simp [Instr.slice, run_underlying hu, go_sem, h]
theorem New.mono {w W w' w'' : World} (h1 : w.heap.size ≤ W.heap.size) (h2 : w'.heap.size ≤ w''.heap.size) : ∀ b, New W w' b → New w w'' b := fun b h => ⟨Nat.le_trans h1 h.1, Nat.lt_of_lt_of_le h.2 h2⟩
theorem concat2_calls {S : Nat → Prop} (w : World) (g : Nat) (t : TypeId) (A1 A2 : Option Addr) (n1 c1 n2 c2 : Nat) (xs ys : List Ty) (hx : xs.length = n1) (hy : ys.length = n2) (l1 : n1 ≤ c1) (l2 : n2 ≤ c2) (m1 : n1 ≤ 1000) (m2 : n2 ≤ 1000) (hS : ∀ b, S b → b < w.heap.size)
    (hg : w.heap[g]? = some (.cells #[.slice A1 n1 c1, .slice A2 n2 c2] t (0, 0))) (r1 : k_ty.Row S w A1 xs) (r2 : k_ty.Row S w A2 ys) :
    Calls Tryz.prog 165 #[.slice (some ⟨g, 0, none⟩) 2 2] w fun e w' => ∃ A' c', e = .returned (.slice A' (n1 + n2) c') ∧ n1 + n2 ≤ c' ∧ (∀ a, A' = some a → a.spot = none) ∧ k_ty.Row (New w w') w' A' (xs ++ ys) ∧ Below w.heap.size w w' := by
  subst hx hy
  have hrow : (Rd.slice k_ty).Row (fun b => b < w.heap.size) w (some ⟨g, 0, none⟩) [xs, ys] := by
    refine Rd.Row.of_blk hg (blk_lt hg) (cells := [.slice A1 xs.length c1, .slice A2 ys.length c2]) ?_ (fun j v hj => by simpa using hj)
    exact Rd.Flat.cons (c := [.slice A1 xs.length c1]) ⟨_, rfl, A1, c1, rfl, l1, by omega, r1.mono hS⟩ (Rd.Flat.cons (c := [.slice A2 ys.length c2]) ⟨_, rfl, A2, c2, rfl, l2, by omega, r2.mono hS⟩ (Rd.Flat.nil _ _ _))
  have he : ([xs, ys] : List (List Ty)).flatten = xs ++ ys := by simp
  refine (concat_calls w (some ⟨g, 0, none⟩) 2 2 [xs, ys] rfl (by decide) (by rw [he, List.length_append]; omega) (fun b h => h) hrow).mono ?_
  rintro e w' ⟨A', c', rfl, h1, h2, h3, h4⟩
  rw [he] at h1 h3 ⊢
  rw [List.length_append] at h1 ⊢
  exact ⟨A', c', rfl, h1, h2, h3, h4⟩
set_option maxRecDepth 100000 in
set_option maxHeartbeats 8000000 in
theorem step_calls {S : Nat → Prop} (w : World) (m : Md) (B0 B1 B2 B3 B4 : Option Addr) (m0 m1 m2 m3 m4 d0 d1 d2 d3 d4 : Nat) (h : MRow S w m B0 B1 B2 B3 B4 m0 m1 m2 m3 m4) (fi : Nat) (f : Fn) (hfi : m.funcs[fi]? = some f) (hfi2 : fi ≤ 1000) (hl0 : f.args.length ≤ 1000) (hl3 : f.locals.length ≤ 1000) (hl4 : f.code.length ≤ 1000) (pc : Nat) (i : Ins) (hpc : f.code[pc]? = some i)
    (A : Option Addr) (n c : Nat) (st : List Ty) (hn : st.length = n) (hn8 : n ≤ 1000) (hnc : n ≤ c) (row : k_ty.Row S w A st) (r : List Ty × List Ty) (ok : Bool)
    (hof : ∀ W, Below w.heap.size w W → ∀ A0 c0 A3 c3 A4 c4, FRow S W f A0 A3 A4 f.args.length f.locals.length f.code.length → Calls Tryz.prog 144 #[.agg #[.slice B0 m0 d0, .slice B1 m1 d1, .slice B2 m2 d2, .slice B3 m3 d3, .slice B4 m4 d4], .agg #[.slice A0 f.args.length c0, .int .i64 f.ret.kind, .int .i64 f.ret.n, .slice A3 f.locals.length c3, .slice A4 f.code.length c4], .agg #[.int .i64 i.op, .int .i64 i.a, .int .i64 i.b], .slice A n c] W fun e w' => RuleOut S W r ok e w') :
    Calls Tryz.prog 145 #[.agg #[.slice B0 m0 d0, .slice B1 m1 d1, .slice B2 m2 d2, .slice B3 m3 d3, .slice B4 m4 d4], .int .i64 fi, .int .i64 pc, .slice A n c] w fun e w' => StepOut w (stepL f.code.length i pc st r ok) e w' := by
  obtain ⟨L, hL⟩ : ∃ L, stepL f.code.length i pc st r ok = L := ⟨_, rfl⟩
  rw [hL]
  have hfl : fi < m1 := by have := (List.getElem?_eq_some_iff.1 hfi).1; have := h.e1; omega
  have hpl : pc < f.code.length := (List.getElem?_eq_some_iff.1 hpc).1
  have hV1 := below_a1 w (Obj.cells #[.slice B0 m0 d0, .slice B1 m1 d1, .slice B2 m2 d2, .slice B3 m3 d3, .slice B4 m4 d4] 28)
  obtain ⟨b, o, A0, c0, A3, c3, A4, c4, rfl, hSb, f0, f1, f2, f3, f4, l0, -, r0, wk, wn, l3, -, r3, l4, -, r4⟩ := k_func_at (h.below hV1).r1 hfi
  obtain ⟨cb, co, rfl, hScb, i0, i1, i2, wi0, wi1, wi2⟩ := k_instr_at r4 hpc
  have hf : FRow S (w.alloc (Obj.cells #[.slice B0 m0 d0, .slice (some ⟨b, o, none⟩) m1 d1, .slice B2 m2 d2, .slice B3 m3 d3, .slice B4 m4 d4] 28)) f A0 A3 (some ⟨cb, co, none⟩) f.args.length f.locals.length f.code.length := ⟨rfl, rfl, rfl, r0, r3, r4, wk, wn, hl0, hl3, hl4⟩
  have hV := below_up hV1 (Obj.cells #[.slice A0 f.args.length c0, .int .i64 f.ret.kind, .int .i64 f.ret.n, .slice A3 f.locals.length c3, .slice (some ⟨cb, co, none⟩) f.code.length c4] 67)
  have hVV := below_a1 (w.alloc (Obj.cells #[.slice B0 m0 d0, .slice (some ⟨b, o, none⟩) m1 d1, .slice B2 m2 d2, .slice B3 m3 d3, .slice B4 m4 d4] 28)) (Obj.cells #[.slice A0 f.args.length c0, .int .i64 f.ret.kind, .int .i64 f.ret.n, .slice A3 f.locals.length c3, .slice (some ⟨cb, co, none⟩) f.code.length c4] 67)
  have HM := Lib.hid h
  have HL := Lib.hid hL
  clear hL
  have HP := Lib.hid (blk_alloc (blk_new w (Obj.cells #[.slice B0 m0 d0, .slice (some ⟨b, o, none⟩) m1 d1, .slice B2 m2 d2, .slice B3 m3 d3, .slice B4 m4 d4] 28)) (Obj.cells #[.slice A0 f.args.length c0, .int .i64 f.ret.kind, .int .i64 f.ret.n, .slice A3 f.locals.length c3, .slice (some ⟨cb, co, none⟩) f.code.length c4] 67))
  have HQ := Lib.hid (blk_new2 w (Obj.cells #[.slice B0 m0 d0, .slice (some ⟨b, o, none⟩) m1 d1, .slice B2 m2 d2, .slice B3 m3 d3, .slice B4 m4 d4] 28) (Obj.cells #[.slice A0 f.args.length c0, .int .i64 f.ret.kind, .int .i64 f.ret.n, .slice A3 f.locals.length c3, .slice (some ⟨cb, co, none⟩) f.code.length c4] 67))
  have HFR := Lib.hid (hf.keep (fun b hb => hVV.block b (Nat.lt_of_lt_of_le (h.lt b hb) hV1.size)))
  have HR := Lib.hid (row.keep (fun b hb => hV.block b (h.lt b hb)))
  have HN := Lib.hid hn
  have HS := Lib.hid h.lt
  have KO := Lib.hid hof
  have HC0 := Lib.hid (below_cell i0 hVV)
  have HC1 := Lib.hid (below_cell i1 hVV)
  have HC2 := Lib.hid (below_cell i2 hVV)
  have WI := Lib.hid wi1
  have HV := Lib.hid hV
  have hlt : w.heap.size + 1 < ((w.alloc (Obj.cells #[.slice B0 m0 d0, .slice (some ⟨b, o, none⟩) m1 d1, .slice B2 m2 d2, .slice B3 m3 d3, .slice B4 m4 d4] 28)).alloc (Obj.cells #[.slice A0 f.args.length c0, .int .i64 f.ret.kind, .int .i64 f.ret.n, .slice A3 f.locals.length c3, .slice (some ⟨cb, co, none⟩) f.code.length c4] 67)).heap.size := by simp
  clear h hf row hn hof hV hV1 hVV r0 r3 r4 i0 i1 i2 wi0 wi1 wi2 wk wn hfi hpc
  go_enter Tryz.func145, Tryz.ntmps145
  go_upto_region 2 with fail
  generalize hVV : (w.alloc (Obj.cells #[.slice B0 m0 d0, .slice (some ⟨b, o, none⟩) m1 d1, .slice B2 m2 d2, .slice B3 m3 d3, .slice B4 m4 d4] 28)).alloc (Obj.cells #[.slice A0 f.args.length c0, .int .i64 f.ret.kind, .int .i64 f.ret.n, .slice A3 f.locals.length c3, .slice (some ⟨cb, co, none⟩) f.code.length c4] 67) = V at *
  clear hVV f0 f1 f2 f3 f4
  go_cut [12, 13] (fun s12 s13 wx => ∃ g A1 n1 c1 B5 n2 c2, s12 = .pointer (some ⟨g, 0, none⟩) ∧ s13 = .bool ok ∧ Hid (wx.heap[g]? = some (.cells #[.slice A1 n1 c1, .slice B5 n2 c2] 221 (0, 0))) ∧ Hid (RuleR S V wx A1 n1 c1 B5 n2 c2 r) ∧ V.heap.size ≤ g ∧ Hid (Below V.heap.size V wx))
  case first =>
    go_region_held3 (fun w' => w'.cell? ⟨w.heap.size, 0, none⟩ = some (.slice B0 m0 d0) ∧ w'.cell? ⟨w.heap.size, 1, none⟩ = some (.slice (some ⟨b, o, none⟩) m1 d1) ∧ w'.cell? ⟨w.heap.size, 2, none⟩ = some (.slice B2 m2 d2) ∧ w'.cell? ⟨w.heap.size, 3, none⟩ = some (.slice B3 m3 d3) ∧ w'.cell? ⟨w.heap.size, 4, none⟩ = some (.slice B4 m4 d4) ∧
      w'.cell? ⟨w.heap.size + 1, 0, none⟩ = some (.slice A0 f.args.length c0) ∧ w'.cell? ⟨w.heap.size + 1, 1, none⟩ = some (.int .i64 f.ret.kind) ∧ w'.cell? ⟨w.heap.size + 1, 2, none⟩ = some (.int .i64 f.ret.n) ∧ w'.cell? ⟨w.heap.size + 1, 3, none⟩ = some (.slice A3 f.locals.length c3) ∧ w'.cell? ⟨w.heap.size + 1, 4, none⟩ = some (.slice (some ⟨cb, co, none⟩) f.code.length c4) ∧
      w'.cell? ⟨cb, co + pc * 3, none⟩ = some (.int .i64 i.op) ∧ w'.cell? ⟨cb, co + pc * 3 + 1, none⟩ = some (.int .i64 i.a) ∧ w'.cell? ⟨cb, co + pc * 3 + 2, none⟩ = some (.int .i64 i.b) ∧ Below V.heap.size V w')
      (first | (refine hold13 HP.out HQ.out HC0.out HC1.out HC2.out ?_; repeat (first | assumption | exact Below.refl _ _ | exact held13 (by assumption) | refine Below.drew ?_ | refine below_up ?_ _ | refine Below.setCell (p := ⟨_, _, none⟩) ?_ (by first | exact Nat.le_refl _ | (simp; done) | omega) _)))
      (first | (go_at_call 144; refine (KO.out _ (HV.out.trans ((held13 (by assumption)).mono HV.out.size)) A0 c0 A3 c3 _ c4 (HFR.out.keep (fun b hb => (held13 (by assumption)).block b (Nat.lt_of_lt_of_le (HS.out b hb) HV.out.size)))).mono ?_; rintro e w1 ⟨A1, n1, c1, B5, n2, c2, rfl, HRR, hb1⟩; have hbV : Below V.heap.size V w1 := Below.trans (held13 (by assumption)) (hb1.mono (held13 (by assumption)).size); try (have hx : w1.heap[V.heap.size]? = some (.cells #[.slice none 0 0, .slice none 0 0] 221 (0, 0)) := blk_below (blk_new V.drew (Obj.cells #[.slice none 0 0, .slice none 0 0] 221)) hb1 (blk_lt (blk_new V.drew (Obj.cells #[.slice none 0 0, .slice none 0 0] 221))); have q0 := (cells2 hx).1; have q1 := (cells2 hx).2; have q2 := blk_frozen hx 0; have q3 := blk_frozen hx 1)))
    · go_wp2
      go_meet
      exact ⟨_, A1, n1, c1, B5, n2, c2, rfl, rfl, Lib.hid (blk_new _ _), Lib.hid (HRR.out (fun b hb => hb) (fun b hb => Nat.lt_of_lt_of_le (HS.out b hb) HV.out.size) (by simp) (by simp) (fun b hb _ => Below.heap_alloc _ _ b hb)), hbV.size, Lib.hid (hbV.alloc hbV.size _)⟩
    · go_wp2
      go_meet
      exact ⟨_, A1, n1, c1, B5, n2, c2, rfl, rfl, Lib.hid (blk_set (blk_set hx 0 (.slice A1 n1 c1)) 1 (.slice B5 n2 c2)), Lib.hid (HRR.out (fun b hb => hb) (fun b hb => Nat.lt_of_lt_of_le (HS.out b hb) HV.out.size) (by simp) (by simp) (fun b hb hb' => (Below.heap_setCell _ _ _ b (by simp at hb' ⊢; omega)).trans (Below.heap_setCell _ _ _ b (by simp at hb' ⊢; omega)))), Nat.le_refl _, Lib.hid ((hbV.setCell (p := ⟨_, 0, none⟩) (Nat.le_refl _) _).setCell (p := ⟨_, 1, none⟩) (Nat.le_refl _) _)⟩
  case rest =>
    obtain ⟨g, A1, n1, c1, B5, n2, c2, rfl, rfl, HG, HRR, hgV, HB⟩ := hcut
    have hrn1 := HRR.out.si
    have hrn2 := HRR.out.so
    have hri := HRR.out.i
    have hro := HRR.out.o
    obtain ⟨g0, g1⟩ := cells2 HG.out
    have HBw := Lib.hid (HV.out.trans (HB.out.mono HV.out.size))
    have hw1 : wrap64 ((n : Int) - n1) = n - n1 := by unfold wrap64; omega
    have hw2 : wrap64 ((n : Int) - n1 + n2) = n - n1 + n2 := by unfold wrap64; omega
    cases ok
    · go_wp2
      go_ret3
      obtain rfl := stepL_no HL.out (.inl rfl)
      exact StepOut.none HBw.out
    by_cases hneg : n < n1
    · have hneg' : (n : Int) - n1 < 0 := by omega
      go_wp2
      go_ret3
      obtain rfl := stepL_no HL.out (.inr (.inl (by rw [HN.out, hri]; exact hneg)))
      exact StepOut.none HBw.out
    have hneg' : ¬ ((n : Int) - n1 < 0) := by omega
    by_cases hbig : 8 < n - n1 + n2
    · have hbig' : (n : Int) - n1 + n2 > 8 := by omega
      go_wp2
      go_ret3
      obtain rfl := stepL_no HL.out (.inr (.inr (.inl (by rw [HN.out, hri, hro]; exact hbig))))
      exact StepOut.none HBw.out
    obtain ⟨j, hj, hbig'⟩ := step_arith hn8 hneg hrn2 hbig
    clear hneg
    have HJ := Lib.hid hj
    have HBG := Lib.hid hbig
    clear hj hbig
    go_wp2_with fail
    go_loopw [57] (fun ix wr => ∃ k : Nat, k ≤ n1 ∧ ix = .int .i64 k ∧ Hid (∀ k' x t, k' < k → st[n - n1 + k']? = some x → r.1[k']? = some t → sub x t = true) ∧ Hid (Below wc.heap.size wc wr)) (fun ix _ => n1 - (intOf ix).toNat)
    case atStart => exact ⟨0, Nat.zero_le _, rfl, Lib.hid (fun k' x t h => absurd h (Nat.not_lt_zero _)), Lib.hid (Below.refl _ _)⟩
    case round =>
      obtain ⟨k, hk, rfl, HK, HBr⟩ := hrel
      by_cases hlt : k < n1
      · obtain ⟨t, ht⟩ : ∃ t, r.1[k]? = some t := ⟨_, List.getElem?_eq_getElem (hri.symm ▸ hlt)⟩
        have hqn := step_arith2 HJ.out hlt
        obtain ⟨x, hx⟩ : ∃ x, st[n - n1 + k]? = some x := ⟨_, List.getElem?_eq_getElem (HN.out.symm ▸ hqn.1)⟩
        have hw3 := hqn.2
        clear hqn
        obtain ⟨tb, tq, rfl, hSt, t0, t1, -, -⟩ := k_ty_at (HRR.out.ri.keep (fun b hb => HBr.out.block b hb.1)) ht
        obtain ⟨xb, xo, rfl, hSx, x0, x1, -, -⟩ := k_ty_at (HR.out.keep (fun b hb => (HB.out.trans (HBr.out.mono HB.out.size)).block b (Nat.lt_of_lt_of_le (HS.out b hb) HV.out.size))) hx
        have hy := blk_new wr (Obj.cells #[.int .i64 t.kind, .int .i64 t.n] 58)
        have y0 := cell_regrown (cells2 hy).1
        have y1 := cell_regrown (cells2 hy).2
        have z0 := cell_regrown (below_cell x0 (below_a1 wr (Obj.cells #[.int .i64 t.kind, .int .i64 t.n] 58)))
        have z1 := cell_regrown (below_cell x1 (below_a1 wr (Obj.cells #[.int .i64 t.kind, .int .i64 t.n] 58)))
        have HBx := Lib.hid (below_a1 wr (Obj.cells #[.int .i64 t.kind, .int .i64 t.n] 58))
        have KS : ∀ v, sub x t = v → Hid (∀ W, Calls Tryz.prog 193 #[.agg #[.int .i64 x.kind, .int .i64 x.n], .agg #[.int .i64 t.kind, .int .i64 t.n]] W fun e w' => e = .returned (.bool v) ∧ Below W.heap.size W w') := fun v hv => Lib.hid (fun W => hv ▸ sub_calls W x t)
        have HX := Lib.hid hx
        have HT := Lib.hid ht
        have HSz := Lib.hid HBr.out.size
        clear hx ht hy x0 x1
        cases hsub : sub x t
        all_goals
          replace KS := KS _ hsub
          have HSub := Lib.hid hsub
          clear hsub
          go_wp2_with fail
          refine wp_region_quiet_below (by kernel_rfl) (by kernel_rfl) ?_
          repeat (first | go_big_quiet_step (with_reducible exact calls_regrown KS.out _ _) | quiet_step (with_reducible exact calls_regrown KS.out _ _))
          refine wpQuiet_nil ?_
          intro _ hw'
          obtain ⟨⟨dq, osq⟩, hw''⟩ := hw'
          subst hw''
          clear y0 y1 z0 z1
          have HBq := Lib.hid (HBr.out.trans ((HBx.out.trans ((below_regrown (wr.alloc (Obj.cells #[.int .i64 t.kind, .int .i64 t.n] 58)) dq osq).mono HBx.out.size)).mono HSz.out))
          generalize grow (redrawn (wr.alloc (Obj.cells #[.int .i64 t.kind, .int .i64 t.n] 58)) dq) osq = wq at *
          go_wp2_with fail
        · go_ret3
          obtain rfl := stepL_no HL.out (.inr (.inr (.inr (subs_no (by rw [HN.out, hri]; exact HX.out) HT.out HSub.out))))
          exact StepOut.none (HBw.out.trans (HBq.out.mono HBw.out.size))
        · go_roundw
          case rel => exact ⟨k + 1, by omega, by go_num, Lib.hid (fun k' x' t' h1 h2 h3 => by
            rcases Nat.lt_or_ge k' k with h4 | h4
            · exact HK.out k' x' t' h4 h2 h3
            · obtain rfl : k' = k := by omega
              rw [HX.out] at h2
              rw [HT.out] at h3
              cases h2; cases h3
              exact HSub.out), HBq⟩
          case measure => simp [intOf]; omega
      · obtain rfl : n1 = k := by omega
        have HSY : Hid (subs st r.1 = true) := Lib.hid (subs_yes fun k' x' t' h2 h3 => by
          rw [HN.out, hri] at h2
          exact HK.out k' x' t' (by have := (List.getElem?_eq_some_iff.1 h3).1; omega) h2 h3)
        have HBV := Lib.hid (HB.out.trans (HBr.out.mono HB.out.size))
        obtain ⟨-, -, -, -, qc⟩ := cells5 (blk_below HQ.out HBV.out (blk_lt HQ.out))
        have ic0 := below_cell HC0.out HBV.out
        have ic1 := below_cell HC1.out HBV.out
        have ic2 := below_cell HC2.out HBV.out
        obtain ⟨iop, ia, ib⟩ := i
        simp only at ic0 ic1 ic2 KO HC0 HC1 HC2 HL WI
        obtain ⟨T, hT⟩ : ∃ T, nextL ⟨iop, ia, ib⟩ pc = T := ⟨_, rfl⟩
        have HT := Lib.hid hT
        go_upto_region 13 with (go_at_call 194; refine (next_calls _ iop ia ib pc WI.out (by omega)).mono ?_; rw [HT.out]; rintro e w4 ⟨A7, c7, rfl, hrow, hb4⟩; have HN4 := Lib.hid hrow; have HB4 := Lib.hid hb4; clear hrow hb4)
        have HB5 := Lib.hid (HBw.out.trans ((HBr.out.trans (HB4.out.mono HBr.out.size)).mono HBw.out.size))
        have HBV4 := Lib.hid (HBV.out.trans (HB4.out.mono HBV.out.size))
        obtain ⟨-, -, -, -, qc4⟩ := cells5 (blk_below HQ.out HBV4.out (blk_lt HQ.out))
        have rc4 := cell_regrown qc4
        have HG4 := Lib.hid (blk_below HG.out (HBr.out.trans (HB4.out.mono HBr.out.size)) (blk_lt HG.out))
        have HSz := Lib.hid HB5.out.size
        have HBwr := Lib.hid (HBw.out.trans (HBr.out.mono HBw.out.size))
        clear qc ic0 ic1 ic2 qc4 g0 g1
        cases T with
        | nil =>
          refine wp_region_quiet_below (by kernel_rfl) (by kernel_rfl) ?_
          repeat (first | go_big_quiet_step (fail) | quiet_step (fail))
          refine wpQuiet_nil ?_
          intro _ hw'
          obtain ⟨⟨dq, osq⟩, hw''⟩ := hw'
          subst hw''
          clear rc4
          have HBq := Lib.hid (below_regrown w4 dq osq)
          generalize grow (redrawn w4 dq) osq = wq at *
          have HGq := Lib.hid (blk_below HG4.out HBq.out (blk_lt HG4.out))
          have HVq := Lib.hid (HBV4.out.trans (HBq.out.mono HBV4.out.size))
          have HRq := Lib.hid ((HR.out.keep (fun b hb => HVq.out.block b (Nat.lt_of_lt_of_le (HS.out b hb) HV.out.size))).mono (S' := fun b => b < wq.heap.size) (fun b hb => Nat.lt_of_lt_of_le (HS.out b hb) (Nat.le_trans HV.out.size HVq.out.size)))
          have HOq := Lib.hid ((HRR.out.ro.keep (fun b hb => (HBr.out.trans ((HB4.out.trans (HBq.out.mono HB4.out.size)).mono HBr.out.size)).block b hb.1)).mono (S' := fun b => b < wq.heap.size) (fun b hb => Nat.lt_of_lt_of_le hb.1 (Nat.le_trans HBr.out.size (Nat.le_trans HB4.out.size HBq.out.size))))
          have HBGo := HBG.out
          have HLn : Hid ((st.take (n - n1)).length = n - n1) := Lib.hid (by rw [List.length_take, HN.out]; omega)
          have HCO := HRR.out.co
          have hsl0 : (0 : Int) ≤ (n : Int) - n1 := by have := HJ.out; omega
          have hsl1 : (n : Int) - n1 ≤ (c : Int) := by omega
          have hslT := fun W => slice_toT W A n c (n - n1) ((n : Int) - n1) (by have := HJ.out; omega) (by omega)
          go_upto_region 15 with fail
          go_region_held3 (fun w' => w'.cell? ⟨g, 0, none⟩ = some (.slice A1 n1 c1) ∧ w'.cell? ⟨g, 1, none⟩ = some (.slice B5 n2 c2) ∧ Below wq.heap.size wq w')
            (first | (refine hold2 HGq.out ?_; repeat (first | assumption | exact Below.refl _ _ | refine Below.drew ?_ | refine below_up ?_ _)))
            (first
              | (go_at_call 165; go_must (refine (concat2_calls (S := fun b => b < wq.heap.size) (wq.alloc (Obj.cells #[.slice A (n - n1) c, .slice B5 n2 c2] 59)).drew wq.heap.size 59 A B5 (n - n1) c n2 c2 (st.take (n - n1)) r.2 HLn.out hro (by omega) HCO (by omega) hrn2 (fun b hb => Nat.lt_of_lt_of_le hb (below_a1 wq _).size) (blk_new wq _) (rowT_take (HRq.out.keep (fun b hb => Below.heap_alloc _ _ b hb)) _) (HOq.out.keep (fun b hb => Below.heap_alloc _ _ b hb))).mono ?_; rintro e w8 ⟨A8, c8, rfl, hc8, hsp8, hrow8, hb8⟩; have hbq8 : Below wq.heap.size wq w8 := ((below_a1 wq (Obj.cells #[.slice A (n - n1) c, .slice B5 n2 c2] 59)).drew).trans (hb8.mono (below_a1 wq _).size)))
              | (go_at_call 160; refine (clipT_calls _ A8 (n - n1 + n2) c8 hc8 (by omega) hsp8).mono ?_; rintro e w' ⟨rfl, rfl⟩))
          all_goals
            go_wp2
            go_ret3
            have hT := HT.out
            have hTl : ([] : List Int).length = 0 := rfl
            have hLn := HLn.out
            obtain rfl := stepL_ok HL.out (by rw [HN.out, hri]; have := HJ.out; omega) (by rw [HN.out, hri, hro]; omega) HSY.out (by rw [hT]; exact rfl)
            have hst : st.length - r.1.length = n - n1 := by rw [HN.out, hri]
            have hln : (st.take (st.length - r.1.length) ++ r.2).length = n - n1 + n2 := by rw [hst, List.length_append, hLn, hro]
            refine ⟨A8, n - n1 + n2, A7, c7, ?_, ?_, hsp8, ?_, ?_, ?_⟩
            · show _ = Ending.returned (.tuple #[.slice A8 (st.take (st.length - r.1.length) ++ r.2).length (n - n1 + n2), .slice _ (nextL ⟨iop, ia, ib⟩ pc).length c7, .int .i64 0])
              rw [hln, hT, hTl]
              rfl
            · simp only [hln]; omega
            · simp only [hst]; exact hrow8.mono (New.mono (by have := HBq.out.size; have := HB5.out.size; simp; omega) (Nat.le_refl _))
            · simp only [hT]; exact (HN4.out.keep (fun b hb => (HBq.out.trans (hbq8.mono HBq.out.size)).block b hb.2)).mono (New.mono HBwr.out.size (Nat.le_trans HBq.out.size hbq8.size))
            · exact HB5.out.trans ((HBq.out.trans (hbq8.mono HBq.out.size)).mono HB5.out.size)
        | cons x l =>
          obtain ⟨b7, o7, rfl, hb7, hc⟩ := HN4.out (by simp)
          obtain ⟨cs, ⟨rfl, hwf⟩, hcell⟩ := hc 0 (by simp)
          have v0 : w4.cell? ⟨b7, o7, none⟩ = some (.int .i64 x) := by simpa using hcell 0 _ rfl
          have rv0 := cell_regrown v0
          have hpos : (0 : Int) < ((x :: l).length : Nat) := by simp
          obtain ⟨n7, hn7⟩ : ∃ n7, (x :: l).length = n7 := ⟨_, rfl⟩
          rw [hn7] at hpos ⊢
          have hposd : decide ((n7 : Int) > 0) = true := decide_eq_true hpos
          have hposd2 : decide ((0 : Int) < n7) = true := decide_eq_true hpos
          have hposd3 : decide (0 < n7) = true := decide_eq_true (by omega)
          have HN7 := Lib.hid hn7
          clear hcell hc hb7 hwf v0 hn7
          by_cases hfar : (f.code.length : Int) ≤ x
          all_goals
            first
            | (have hfd : decide (x ≥ (f.code.length : Int)) = true := decide_eq_true hfar; have hfd2 : decide ((f.code.length : Int) ≤ x) = true := decide_eq_true hfar)
            | (have hfd : decide (x ≥ (f.code.length : Int)) = false := decide_eq_false hfar; have hfd2 : decide ((f.code.length : Int) ≤ x) = false := decide_eq_false hfar)
            have HFar := Lib.hid hfar
            clear hfar
            refine wp_region_quiet_below (by kernel_rfl) (by kernel_rfl) ?_
            repeat (first | go_big_quiet_step (fail) | quiet_step (fail))
            refine wpQuiet_nil ?_
            intro _ hw'
            obtain ⟨⟨dq, osq⟩, hw''⟩ := hw'
            subst hw''
            clear rc4 rv0
            have HBq := Lib.hid (below_regrown w4 dq osq)
            generalize grow (redrawn w4 dq) osq = wq at *
          · go_wp2_with fail
            go_ret3
            obtain rfl := stepL_far HL.out (by rw [HN.out, hri]; have := HJ.out; omega) (by rw [HN.out, hri, hro]; have := HBG.out; omega) HSY.out (by rw [HT.out]; exact decide_eq_true HFar.out)
            exact StepOut.none (HB5.out.trans (HBq.out.mono HB5.out.size))
          · skip
            have HGq := Lib.hid (blk_below HG4.out HBq.out (blk_lt HG4.out))
            have HVq := Lib.hid (HBV4.out.trans (HBq.out.mono HBV4.out.size))
            have HRq := Lib.hid ((HR.out.keep (fun b hb => HVq.out.block b (Nat.lt_of_lt_of_le (HS.out b hb) HV.out.size))).mono (S' := fun b => b < wq.heap.size) (fun b hb => Nat.lt_of_lt_of_le (HS.out b hb) (Nat.le_trans HV.out.size HVq.out.size)))
            have HOq := Lib.hid ((HRR.out.ro.keep (fun b hb => (HBr.out.trans ((HB4.out.trans (HBq.out.mono HB4.out.size)).mono HBr.out.size)).block b hb.1)).mono (S' := fun b => b < wq.heap.size) (fun b hb => Nat.lt_of_lt_of_le hb.1 (Nat.le_trans HBr.out.size (Nat.le_trans HB4.out.size HBq.out.size))))
            have HBGo := HBG.out
            have HLn : Hid ((st.take (n - n1)).length = n - n1) := Lib.hid (by rw [List.length_take, HN.out]; omega)
            have HCO := HRR.out.co
            have hsl0 : (0 : Int) ≤ (n : Int) - n1 := by have := HJ.out; omega
            have hsl1 : (n : Int) - n1 ≤ (c : Int) := by omega
            have hslT := fun W => slice_toT W A n c (n - n1) ((n : Int) - n1) (by have := HJ.out; omega) (by omega)
            go_upto_region 15 with fail
            go_region_held3 (fun w' => w'.cell? ⟨g, 0, none⟩ = some (.slice A1 n1 c1) ∧ w'.cell? ⟨g, 1, none⟩ = some (.slice B5 n2 c2) ∧ Below wq.heap.size wq w')
              (first | (refine hold2 HGq.out ?_; repeat (first | assumption | exact Below.refl _ _ | refine Below.drew ?_ | refine below_up ?_ _)))
              (first
                | (go_at_call 165; go_must (refine (concat2_calls (S := fun b => b < wq.heap.size) (wq.alloc (Obj.cells #[.slice A (n - n1) c, .slice B5 n2 c2] 59)).drew wq.heap.size 59 A B5 (n - n1) c n2 c2 (st.take (n - n1)) r.2 HLn.out hro (by omega) HCO (by omega) hrn2 (fun b hb => Nat.lt_of_lt_of_le hb (below_a1 wq _).size) (blk_new wq _) (rowT_take (HRq.out.keep (fun b hb => Below.heap_alloc _ _ b hb)) _) (HOq.out.keep (fun b hb => Below.heap_alloc _ _ b hb))).mono ?_; rintro e w8 ⟨A8, c8, rfl, hc8, hsp8, hrow8, hb8⟩; have hbq8 : Below wq.heap.size wq w8 := ((below_a1 wq (Obj.cells #[.slice A (n - n1) c, .slice B5 n2 c2] 59)).drew).trans (hb8.mono (below_a1 wq _).size)))
                | (go_at_call 160; refine (clipT_calls _ A8 (n - n1 + n2) c8 hc8 (by omega) hsp8).mono ?_; rintro e w' ⟨rfl, rfl⟩))
            all_goals
              go_wp2
              go_ret3
              have hT := HT.out
              have hTl : (x :: l).length = n7 := HN7.out
              have hLn := HLn.out
              obtain rfl := stepL_ok HL.out (by rw [HN.out, hri]; have := HJ.out; omega) (by rw [HN.out, hri, hro]; omega) HSY.out (by rw [hT]; exact decide_eq_false (by have := HFar.out; omega))
              have hst : st.length - r.1.length = n - n1 := by rw [HN.out, hri]
              have hln : (st.take (st.length - r.1.length) ++ r.2).length = n - n1 + n2 := by rw [hst, List.length_append, hLn, hro]
              refine ⟨A8, n - n1 + n2, some ⟨b7, o7, none⟩, c7, ?_, ?_, hsp8, ?_, ?_, ?_⟩
              · show _ = Ending.returned (.tuple #[.slice A8 (st.take (st.length - r.1.length) ++ r.2).length (n - n1 + n2), .slice _ (nextL ⟨iop, ia, ib⟩ pc).length c7, .int .i64 0])
                rw [hln, hT, hTl]
                rfl
              · simp only [hln]; omega
              · simp only [hst]; exact hrow8.mono (New.mono (by have := HBq.out.size; have := HB5.out.size; simp; omega) (Nat.le_refl _))
              · simp only [hT]; exact (HN4.out.keep (fun b hb => (HBq.out.trans (hbq8.mono HBq.out.size)).block b hb.2)).mono (New.mono HBwr.out.size (Nat.le_trans HBq.out.size hbq8.size))
              · exact HB5.out.trans ((HBq.out.trans (hbq8.mono HBq.out.size)).mono HB5.out.size)
end Go.Proofs.YtmceaeoeakkppaaGreatDoor
namespace Go.Proofs.YtmceaeoeakkppaaGreatDoor
open Go.RowKit Go.Sort
set_option linter.unusedVariables false
/-- What is to be looked at: a slice of numbers, some of them gone at its front. -/
def TD (base : Nat) (w : World) (A : Option Addr) (n c : Nat) (td : List Int) : Prop :=
  td.length = n ∧ n ≤ c ∧ c ≤ maxLen ∧ ((c = 0) ∨ ∃ g o cur, A = some ⟨g, o, none⟩ ∧ base ≤ g ∧ w.heap[g]? = some (.cells cur 3 (0, 0)) ∧ o + c ≤ cur.size ∧ ∀ j x, td[j]? = some x → cur[o + j]? = some (.int .i64 x))
theorem TD.keep {base : Nat} {w w' : World} {A : Option Addr} {n c : Nat} {td : List Int} (h : TD base w A n c td) (hk : ∀ g o, A = some ⟨g, o, none⟩ → (∃ cur, w.heap[g]? = some (.cells cur 3 (0, 0))) → w'.heap[g]? = w.heap[g]?) : TD base w' A n c td := by
  obtain ⟨h1, h2, h3, h4⟩ := h
  refine ⟨h1, h2, h3, h4.imp id ?_⟩
  rintro ⟨g, o, cur, e, hb, hg, hs, hc⟩
  exact ⟨g, o, cur, e, hb, (hk g o e ⟨cur, hg⟩).trans hg, hs, hc⟩
theorem int_info : (Tryz.prog.info? 3).map (fun i => (i.zero, i.size, i.bytes)) = some (some (.int .i64 0), 1, 8) := by kernel_rfl
set_option maxRecDepth 100000 in
theorem app_todo {base : Nat} {w : World} {A : Option Addr} {n c : Nat} {td : List Int} (h : TD base w A n c td) (hn : n ≤ 10000) (hb : base ≤ w.heap.size) (x : Int) (q : Nat) (hq : w.cell? ⟨q, 0, none⟩ = some (.int .i64 x)) (ty : TypeId) :
    ∃ A' c' w', (Builtin.append_ #[105, 105] ty #[.slice A n c, .slice (some ⟨q, 0, none⟩) 1 1]).run Tryz.prog w = .ok (.slice A' (n + 1) c') w' ∧ TD base w' A' (n + 1) c' (td ++ [x]) ∧ Keeps (fun b => base ≤ b ∧ ∃ cur, w.heap[b]? = some (.cells cur 3 (0, 0))) w w' := by
  obtain ⟨h1, h2, h3, h4⟩ := h
  obtain ⟨i, hi, hiz, his, hib⟩ : ∃ i, Tryz.prog.info? 3 = some i ∧ i.zero = some (.int .i64 0) ∧ i.size = 1 ∧ i.bytes = 8 := by
    have h := int_info
    cases hh : Tryz.prog.info? 3 with
    | none => rw [hh] at h; cases h
    | some i =>
      rw [hh] at h
      simp only [Option.map_some, Option.some.injEq, Prod.mk.injEq] at h
      exact ⟨i, rfl, h.1, h.2.1, h.2.2⟩
  have hsrc : Src Tryz.prog i.size 105 (.slice (some ⟨q, 0, none⟩) 1 1) 1 [.int .i64 x] w := by
    rw [his]
    exact Src.ofSlice w (e' := 3) Tryz.underlying105 ⟨q, 0, none⟩ 1 1 [.int .i64 x] rfl (fun j u hj => by
      cases j with
      | zero => rw [add_at]; injection hj with hj; subst hj; exact hq
      | succ j => cases hj) (by intro u hu; rw [List.mem_singleton.1 hu]; rfl)
  by_cases hroom : n + 1 ≤ c
  · rcases h4 with h4 | ⟨g, o, cur, rfl, hbg, hg, hs, hc⟩
    · omega
    have hr := run_append_room_src (P := Tryz.prog) w 105 105 ty 3 i Tryz.underlying105 hi g o n c _ 1 _ hsrc hroom
      (fun j hj => by
        simp only [List.length_singleton] at hj
        obtain rfl : j = 0 := by omega
        rw [his, Nat.mul_one, Nat.add_zero, blk_cell hg, Array.getElem?_eq_getElem (by omega)]; rfl)
      (fun j hj => blk_frozen hg _)
    rw [his, Nat.mul_one] at hr
    have hset : w.setCells g (o + n) [.int .i64 x] = w.setCell ⟨g, o + n, none⟩ (.int .i64 x) := rfl
    rw [hset] at hr
    refine ⟨_, c, _, hr, ⟨by simp [h1], hroom, h3, .inr ⟨g, o, _, rfl, hbg, blk_set hg _ _, by simpa using hs, ?_⟩⟩, (Keeps.refl _ _).setCell (fun _ => ⟨hbg, cur, hg⟩) _⟩
    intro j y hj
    rcases Nat.lt_or_ge j n with hlt | hge
    · rw [List.getElem?_append_left (by omega)] at hj
      rw [Array.getElem?_setIfInBounds_ne (by omega)]
      exact hc j y hj
    · have : j = n := by
        have := (List.getElem?_eq_some_iff.1 hj).1
        simp at this; omega
      subst this
      rw [List.getElem?_append_right (by omega), h1, Nat.sub_self] at hj
      injection hj with hj
      subst hj
      rw [Array.getElem?_setIfInBounds_self_of_lt (by omega)]
  · obtain rfl : c = n := by omega
    have hold : (Builtin.firstCells i.size c (.slice A c c)).run Tryz.prog w.drew = .ok (td.map (.int .i64 ·)).toArray w.drew := by
      rw [his]
      rcases h4 with h4 | ⟨g, o, cur, rfl, hbg, hg, hs, hc⟩
      · subst h4
        obtain rfl := List.eq_nil_of_length_eq_zero h1
        cases A with
        | none => exact run_firstCells_none w.drew 1 0 0 0
        | some a => exact run_firstCells_some w.drew 1 0 a 0 0 [] rfl (fun j v hj => by cases hj)
      · refine run_firstCells_some w.drew 1 c ⟨g, o, none⟩ c c _ (by simp [h1]) (fun j v hj => ?_)
        rw [List.getElem?_map] at hj
        obtain ⟨y, hy, rfl⟩ := Option.map_eq_some_iff.1 hj
        rw [add_at]
        exact (blk_cell hg _).trans (hc j y hy)
    have hr := run_append_grow_src (P := Tryz.prog) w 105 105 ty 3 i _ Tryz.underlying105 hi hiz A c c (td.map (.int .i64 ·)) hold _ 1 _ hsrc (by omega) (by omega) (by rw [hib]; exact growslice_fits (by omega) (by omega))
    have hge : c + 1 ≤ grownCap w (c + 1) c 3 := grownCap_ge w _ _ _
    have hle := grownCap_le_maxLen w (c + 1) c 3 (by unfold maxLen; omega)
    obtain ⟨G, hG⟩ : ∃ G, G = grownCap w (c + 1) c 3 := ⟨_, rfl⟩
    rw [← hG] at hr hge hle
    clear hG
    refine ⟨_, G, _, hr, ⟨by simp [h1], hge, hle, .inr ⟨w.heap.size, 0, _, rfl, hb, blk_new w.drew _, ?_, ?_⟩⟩, ((Keeps.refl _ _).drew).alloc _⟩
    · rw [Array.size_append, size_zeroCells]
      simp only [List.size_toArray, List.length_append, List.length_map, List.length_singleton, h1]
      show 0 + G ≤ c + 1 + (G - (c + 1)) * 1
      omega
    · intro j y hj
      have hjl := (List.getElem?_eq_some_iff.1 hj).1
      simp only [List.length_append, List.length_singleton, h1] at hjl
      rw [Nat.zero_add, Array.getElem?_append_left (by simp [h1]; omega)]
      rw [List.getElem?_toArray, ← List.map_singleton (f := fun x => Value.int .i64 x), ← List.map_append, List.getElem?_map, hj]
      rfl
/-- A block of types. -/
def TyB (w : World) : Nat → Prop := fun b => ∃ cs, w.heap[b]? = some (.cells cs 58 (0, 0))
theorem TyB.ne {w : World} {b g : Nat} {t : TypeId} {cs : Array Value} (h : TyB w b) (hg : w.heap[g]? = some (.cells cs t (0, 0))) (ht : 58 ≠ t) : b ≠ g := by
  obtain ⟨c, h⟩ := h
  exact blk_ne h hg ht
/-- A function's shapes, in a block of their own. -/
def ShB (w : World) (B : Nat) (shs : List Shp) : Prop := ∃ cs : Array Value, w.heap[B]? = some (.cells cs 104 (0, 0)) ∧ cs.size = shs.length * 2 ∧ ∀ i s, shs[i]? = some s → ∃ A c, cs[i * 2]? = some (.bool s.seen) ∧ cs[i * 2 + 1]? = some (.slice A s.stack.length c) ∧ s.stack.length ≤ c ∧ s.stack.length ≤ 1000 ∧ k_ty.Row (TyB w) w A s.stack
theorem ty_keep {w w' : World} {A : Option Addr} {xs : List Ty} (h : k_ty.Row (TyB w) w A xs) (hk : ∀ b, TyB w b → w'.heap[b]? = w.heap[b]?) : k_ty.Row (TyB w') w' A xs :=
  (h.keep hk).mono (fun b hb => by obtain ⟨cs, h1⟩ := hb; exact ⟨cs, (hk b ⟨cs, h1⟩).trans h1⟩)
theorem ShB.keep {w w' : World} {B : Nat} {shs : List Shp} (h : ShB w B shs) (hB : w'.heap[B]? = w.heap[B]?) (hk : ∀ b, TyB w b → w'.heap[b]? = w.heap[b]?) : ShB w' B shs := by
  obtain ⟨cs, h1, h2, h3⟩ := h
  exact ⟨cs, hB.trans h1, h2, fun i s hi => by
    obtain ⟨A, c, h4, h5, h6, h7, h8⟩ := h3 i s hi
    exact ⟨A, c, h4, h5, h6, h7, ty_keep h8 hk⟩⟩
theorem TyB.lt {w : World} {b : Nat} (h : TyB w b) : b < w.heap.size := by obtain ⟨cs, h⟩ := h; exact blk_lt h
theorem ShB.below {w w' : World} {B : Nat} {shs : List Shp} (h : ShB w B shs) (hb : Below w.heap.size w w') : ShB w' B shs := by
  refine h.keep ?_ (fun b hT => hb.block b hT.lt)
  obtain ⟨cs, h1, _⟩ := h
  exact hb.block B (blk_lt h1)
theorem ShB.set {w : World} {B : Nat} {shs : List Shp} (h : ShB w B shs) (i : Nat) (hi : i < shs.length) (A : Option Addr) (n c : Nat) (st : List Ty) (hn : st.length = n) (hnc : n ≤ c) (hm : n ≤ 1000) (row : k_ty.Row (TyB w) w A st) :
    ShB ((w.setCell ⟨B, i * 2, none⟩ (.bool true)).setCell ⟨B, i * 2 + 1, none⟩ (.slice A n c)) B (shs.set i ⟨true, st⟩) := by
  subst hn
  obtain ⟨cs, h1, h2, h3⟩ := h
  have hk : ∀ b, TyB w b → ((w.setCell ⟨B, i * 2, none⟩ (.bool true)).setCell ⟨B, i * 2 + 1, none⟩ (.slice A st.length c)).heap[b]? = w.heap[b]? := fun b hT =>
    (Below.heap_setCell _ _ _ b (hT.ne h1 (by decide))).trans (Below.heap_setCell _ _ _ b (hT.ne h1 (by decide)))
  refine ⟨_, blk_set (blk_set h1 _ _) _ _, by simpa using h2, fun j s hj => ?_⟩
  by_cases hji : i = j
  · subst hji
    rw [List.getElem?_set_self hi] at hj
    injection hj with hj
    subst hj
    refine ⟨A, c, ?_, ?_, hnc, hm, ty_keep row hk⟩
    · rw [Array.getElem?_setIfInBounds_ne (by omega), Array.getElem?_setIfInBounds_self_of_lt (by omega)]
    · rw [Array.getElem?_setIfInBounds_self_of_lt (by simp; omega)]
  · rw [List.getElem?_set_ne hji] at hj
    obtain ⟨A', c', h4, h5, h6, h7, h8⟩ := h3 j s hj
    refine ⟨A', c', ?_, ?_, h6, h7, ty_keep h8 hk⟩
    · rw [Array.getElem?_setIfInBounds_ne (by omega), Array.getElem?_setIfInBounds_ne (by omega)]; exact h4
    · rw [Array.getElem?_setIfInBounds_ne (by omega), Array.getElem?_setIfInBounds_ne (by omega)]; exact h5
/-- A checker. -/
structure Ck (w0 w : World) (p B : Nat) (v0 v1 v2 v3 v4 : Value) (fi : Int) (shs : List Shp) (TA : Option Addr) (tn tc : Nat) (td : List Int) : Prop where
  below : Below w0.heap.size w0 w
  gp : w0.heap.size ≤ p
  gB : w0.heap.size ≤ B
  box : w.heap[p]? = some (.cells #[v0, v1, v2, v3, v4, .int .i64 fi, .slice (some ⟨B, 0, none⟩) shs.length shs.length, .slice TA tn tc] 157 (0, 0))
  sh : ShB w B shs
  td : TD w0.heap.size w TA tn tc td
  sl : shs.length ≤ 1000
theorem Ck.under {w0 w w' : World} {p B : Nat} {v0 v1 v2 v3 v4 : Value} {fi : Int} {shs : List Shp} {TA : Option Addr} {tn tc : Nat} {td : List Int} (h : Ck w0 w p B v0 v1 v2 v3 v4 fi shs TA tn tc td) (hb : Below w.heap.size w w') : Ck w0 w' p B v0 v1 v2 v3 v4 fi shs TA tn tc td :=
  ⟨h.below.trans (hb.mono h.below.size), h.gp, h.gB, blk_below h.box hb (blk_lt h.box), h.sh.below hb, h.td.keep (fun g o e ⟨cur, hg⟩ => hb.block g (blk_lt hg)), h.sl⟩
theorem own_tyrow {w : World} {base : Nat} {A : Option Addr} {n c : Nat} {xs : List Ty} (h : w.ownsRow base 58 2 (.slice A n c) n (tcells xs)) (hn : xs.length = n) (hw : ∀ x ∈ xs, tywf x) (hl : n ≤ 1000000) : k_ty.Row (TyB w) w A xs ∧ n ≤ c ∧ ∀ a, A = some a → a.spot = none := by
  subst hn
  obtain ⟨A', c', e, h1, h2, h3⟩ := Rd.Sl.of_own (d := k_ty) (S := TyB w) h (fun g hg => by
    rcases h.2 with ⟨hv, _⟩ | ⟨g', cap, cur, hv, _, hh, _⟩
    · injection hv with hv; subst hv; cases hg
    · injection hv with hv; subst hv
      have : g' = g := by simpa [Value.ownBlock] using hg
      subst this
      exact ⟨cur, hh⟩) (ty_flat.2 ⟨rfl, hw⟩) (by omega)
  cases e
  refine ⟨h3, h1, fun a ha => ?_⟩
  rcases h.2 with ⟨hv, _⟩ | ⟨g', cap, cur, hv, _⟩
  · injection hv with hv; rw [hv] at ha; cases ha
  · injection hv with hv; rw [hv] at ha; cases ha; rfl
set_option maxRecDepth 100000 in
theorem cloneT2_calls (w : World) (A : Option Addr) (n c : Nat) (xs : List Ty) (hn : xs.length = n) (hm : n ≤ 1000000) (hl : Lie w A n (tcells xs)) (hw : ∀ x ∈ xs, tywf x) :
    Calls Tryz.prog 161 #[.slice A n c] w fun e w' => ∃ A' c', e = .returned (.slice A' n c') ∧ n ≤ c' ∧ (∀ a, A' = some a → a.spot = none) ∧ k_ty.Row (TyB w') w' A' xs ∧ Below w.heap.size w w' := by
  subst hn
  cases A with
  | none =>
    have h0 : xs.length = 0 := by
      rcases Nat.eq_zero_or_pos xs.length with h0 | h0
      · exact h0
      · obtain ⟨_, _, h, _⟩ := hl h0; cases h
    obtain rfl := List.eq_nil_of_length_eq_zero h0
    have hnil : ∀ w' : World, (binOp .eql 59 (.slice none 0 c) (.slice none 0 0)).run Tryz.prog w' = .ok (.bool true) w' := fun w' => Lib.run_eql_slice_nil w' _ _ none _ _ 0 0 Tryz.underlying59
    go_enter Tryz.func161, Tryz.ntmps161
    go_wp2
    go_ret
    exact ⟨none, 0, rfl, Nat.le_refl _, fun _ h => (by cases h), Rd.Row.nil _ _ _ _, Below.refl _ _⟩
  | some a =>
    have hnil : ∀ w' : World, (binOp .eql 59 (.slice (some a) xs.length c) (.slice none 0 0)).run Tryz.prog w' = .ok (.bool false) w' := fun w' => Lib.run_eql_slice_nil w' _ _ (some a) _ _ 0 0 Tryz.underlying59
    go_enter Tryz.func161, Tryz.ntmps161
    go_wp2_with (at_builtin; refine list_app _ rfl (.tmp 5) (.tmp 6) _ rfl 58 Tryz.underlying59 ty_info rfl (by decide) (by decide) w.heap.size rfl (World.ownsRow_made w #[] 0 (Nat.le_refl _) (Nat.zero_le _) rfl) rfl (tcells_length _) (by exact hl.below ((Below.refl _ _).alloc (Nat.le_refl _) _)) (tcells_one _) (by omega) (by simp) ?_; intro v' w3 hown hg hat; have hB := Lib.hid (grown_below ((Below.refl _ _).alloc (Nat.le_refl _) _) hg (by simp) (.inr ⟨_, rfl, Nat.le_refl _⟩)); simp only [Nat.zero_add, List.nil_append] at hown; obtain ⟨A2, c2, rfl, _, _, _⟩ := own_shape hown; have HO := Lib.hid hown; clear hown hg hat)
    go_ret
    obtain ⟨h1, h2, h3⟩ := own_tyrow HO.out rfl hw (by omega)
    exact ⟨_, _, rfl, h2, h3, h1, hB.out⟩
theorem Ck.pB {w0 w : World} {p B : Nat} {v0 v1 v2 v3 v4 : Value} {fi : Int} {shs : List Shp} {TA : Option Addr} {tn tc : Nat} {td : List Int} (h : Ck w0 w p B v0 v1 v2 v3 v4 fi shs TA tn tc td) : p ≠ B := by
  obtain ⟨cs, h1, _⟩ := h.sh
  exact blk_ne h.box h1 (by decide)
set_option maxRecDepth 100000 in
set_option maxHeartbeats 4000000 in
/-- An instruction that was not come to yet. -/
theorem meet_new {S : Nat → Prop} {w0 w : World} {p B : Nat} {v0 v1 v2 v3 v4 : Value} {fi : Int} {shs : List Shp} {TA : Option Addr} {tn tc : Nat} {td : List Int} (h : Ck w0 w p B v0 v1 v2 v3 v4 fi shs TA tn tc td) (pc : Nat) (hpc : shs[pc]? = some ⟨false, []⟩) (htn : tn ≤ 1000)
    (A : Option Addr) (n c : Nat) (st : List Ty) (hn : st.length = n) (hn8 : n ≤ 1000) (hnc : n ≤ c) (row : k_ty.Row S w A st) :
    Calls Tryz.prog 117 #[.pointer (some ⟨p, 0, none⟩), .int .i64 pc, .slice A n c] w fun e w' => e = .returned (.bool true) ∧ ∃ TA' tc', Ck w0 w' p B v0 v1 v2 v3 v4 fi (shs.set pc ⟨true, st⟩) TA' (tn + 1) tc' (td ++ [(pc : Int)]) := by
  have HCk := Lib.hid h
  obtain ⟨N, hN⟩ : ∃ N, shs.length = N := ⟨_, rfl⟩
  have hpl : pc < N := by have := (List.getElem?_eq_some_iff.1 hpc).1; omega
  have hsl := h.sl
  rw [hN] at hsl
  have HN := Lib.hid hN
  have c6 : w.cell? ⟨p, 6, none⟩ = some (.slice (some ⟨B, 0, none⟩) N N) := by rw [← hN]; exact blk_cell h.box 6
  obtain ⟨cs, hB, hcs, hget⟩ := h.sh
  obtain ⟨A0, c0, s0, s1, -, -, -⟩ := hget pc _ hpc
  have b0 : w.cell? ⟨B, pc * 2, none⟩ = some (.bool false) := (blk_cell hB _).trans s0
  have HB := Lib.hid hB
  have HS1 := Lib.hid s1
  have HS0 := Lib.hid s0
  have HP := Lib.hid h.box
  obtain ⟨hl, hw⟩ := ty_row row
  have HL : Hid (Lie w A n (tcells st)) := Lib.hid (by rw [← hn]; exact hl)
  have HW := Lib.hid hw
  have HStn := Lib.hid hn
  clear h hN hB hcs hget s0 s1 row hl hw hn
  go_enter Tryz.func117, Tryz.ntmps117
  go_upto_region 4 with (first
    | (go_at_call 161; go_must (refine (cloneT2_calls _ A n c st HStn.out (by omega) HL.out HW.out).mono ?_; rintro e w1 ⟨A1, c1, rfl, hc1, hsp1, hrow, hb⟩; have hBx := blk_below HB.out hb (blk_lt HB.out); have q0 : w1.cell? ⟨B, pc * 2, none⟩ = some (.bool false) := (blk_cell hBx _).trans HS0.out; have q1 : w1.cell? ⟨B, pc * 2 + 1, none⟩ = some (.slice A0 0 c0) := (blk_cell hBx _).trans HS1.out; have q2 := blk_frozen hBx (pc * 2); have q3 := blk_frozen hBx (pc * 2 + 1); have HR1 := Lib.hid hrow; have HB1 := Lib.hid hb; clear hrow hb hBx))
    | (go_at_call 160; refine (clipT_calls _ A1 n c1 hc1 (by omega) hsp1).mono ?_; rintro e w' ⟨rfl, rfl⟩))
  have hk1 := HCk.out.under HB1.out
  have hpB := hk1.pB
  have hi : pc < shs.length := by rw [HN.out]; exact hpl
  have hS := hk1.sh.set pc hi A1 n n st HStn.out (Nat.le_refl _) (by omega) HR1.out
  have hP1 := (Below.heap_setCell (w'.setCell ⟨B, pc * 2, none⟩ (.bool true)) ⟨B, pc * 2 + 1, none⟩ (.slice A1 n n) p hpB).trans ((Below.heap_setCell w' ⟨B, pc * 2, none⟩ (.bool true) p hpB).trans hk1.box)
  have hTD : TD w0.heap.size ((w'.setCell ⟨B, pc * 2, none⟩ (.bool true)).setCell ⟨B, pc * 2 + 1, none⟩ (.slice A1 n n)) TA tn tc td := hk1.td.keep (fun g o e ⟨cur, hg⟩ => by
    obtain ⟨cs, h1, _⟩ := hk1.sh
    have hne : g ≠ B := blk_ne hg h1 (by decide)
    exact (Below.heap_setCell _ _ _ g hne).trans (Below.heap_setCell _ _ _ g hne))
  have hbV := (hk1.below.setCell (p := ⟨B, pc * 2, none⟩) hk1.gB (.bool true)).setCell (p := ⟨B, pc * 2 + 1, none⟩) hk1.gB (.slice A1 n n)
  generalize ((w'.setCell ⟨B, pc * 2, none⟩ (.bool true)).setCell ⟨B, pc * 2 + 1, none⟩ (.slice A1 n n)) = V at *
  have hbV2 := hbV.alloc hbV.size (Obj.cells #[.int .i64 (pc : Int)] 3)
  obtain ⟨TA', tc', w3, hr, htd, hK⟩ := app_todo (base := w0.heap.size) (w := V.alloc (Obj.cells #[.int .i64 (pc : Int)] 3)) (hTD.keep (fun g o e ⟨cur, hg⟩ => Below.heap_alloc _ _ g (blk_lt hg))) (by omega) hbV2.size (pc : Int) V.heap.size (blk_cell (blk_new V _) 0) 105
  have c7 : V.cell? ⟨p, 7, none⟩ = some (.slice TA tn tc) := blk_cell hP1 7
  have hP3 := blk_keeps (blk_alloc hP1 (Obj.cells #[.int .i64 (pc : Int)] 3)) hK (by
    rintro ⟨_, cur, hx⟩
    rw [blk_alloc hP1 _] at hx
    injection hx with hx
    injection hx with _ hx
    exact absurd hx (by decide))
  have x7 : w3.cell? ⟨p, 7, none⟩ = some (.slice TA tn tc) := blk_cell hP3 7
  have y7 := blk_frozen hP3 7
  have hS3 := ((hS.below (below_a1 V (Obj.cells #[.int .i64 (pc : Int)] 3))).keep (w' := w3) (by
    obtain ⟨cs, h1, _⟩ := hS.below (below_a1 V (Obj.cells #[.int .i64 (pc : Int)] 3))
    exact hK.block B (blk_lt h1) (by
      rintro ⟨_, cur, hx⟩
      rw [h1] at hx
      injection hx with hx
      injection hx with _ hx
      exact absurd hx (by decide))) (fun b hT => hK.block b hT.lt (by
      rintro ⟨_, cur, hx⟩
      obtain ⟨cs, h1⟩ := hT
      rw [h1] at hx
      injection hx with hx
      injection hx with _ hx
      exact absurd hx (by decide))))
  have HS3 := Lib.hid hS3
  have HTD := Lib.hid htd
  have HP3 := Lib.hid hP3
  have HB3 := Lib.hid (hbV2.trans (hK.below hbV2.size (fun x hx h => by have := h.1; omega)))
  have HBV2 := Lib.hid hbV2
  have HK1 := Lib.hid hk1
  clear hS hP1 hTD hbV hbV2 htd hK hP3 hS3 hk1
  go_wp2_with (at_builtin; refine Lib.wpList_append_run _ rfl (.tmp 36) (.tmp 38) _ _ rfl _ _ rfl rfl _ _ hr ?_)
  go_ret
  have hpne : ∀ b, TyB w3 b → b ≠ p := fun b hT => hT.ne HP3.out (by decide)
  refine ⟨rfl, TA', tc', ⟨HB3.out.setCell (p := ⟨p, 7, none⟩) HK1.out.gp _, HK1.out.gp, HK1.out.gB, ?_, HS3.out.keep (Below.heap_setCell _ _ _ B (Ne.symm hpB)) (fun b hT => Below.heap_setCell _ _ _ b (hpne b hT)), HTD.out.keep (fun g o e ⟨cur, hg⟩ => Below.heap_setCell _ _ _ g (blk_ne hg HP3.out (by decide))), by rw [List.length_set, HN.out]; exact hsl⟩⟩
  have := blk_set HP3.out 7 (.slice TA' (tn + 1) tc')
  rw [List.length_set]
  simpa using this
end Go.Proofs.YtmceaeoeakkppaaGreatDoor
namespace Go.Proofs.YtmceaeoeakkppaaGreatDoor
open Go.RowKit Go.Sort
set_option linter.unusedVariables false
theorem TD.pop {base : Nat} {w : World} {A : Option Addr} {c : Nat} {x : Int} (h : TD base w A 1 c [x]) : ∃ g o, A = some ⟨g, o, none⟩ ∧ w.cell? ⟨g, o, none⟩ = some (.int .i64 x) ∧ (∃ cur, w.heap[g]? = some (.cells cur 3 (0, 0))) ∧ 1 ≤ c ∧ c ≤ maxLen ∧
    TD base w (if c = 1 then some ⟨g, o, none⟩ else some ⟨g, o + 1, none⟩) 0 (c - 1) [] := by
  obtain ⟨h1, h2, h3, h4⟩ := h
  rcases h4 with h4 | ⟨g, o, cur, rfl, hb, hg, hs, hc⟩
  · omega
  · refine ⟨g, o, rfl, (blk_cell hg _).trans (by have := hc 0 x rfl; simpa using this), ⟨cur, hg⟩, h2, h3, rfl, Nat.zero_le _, by omega, ?_⟩
    by_cases hc1 : c = 1
    · left; omega
    · right
      rw [if_neg hc1]
      exact ⟨g, o + 1, cur, rfl, hb, hg, by omega, fun j x hj => by cases hj⟩
theorem slice_rest (w : World) (g o c : Nat) (h : 1 ≤ c) : (Instr.slice 105 (.slice (some ⟨g, o, none⟩) 1 c) (some (.int .i64 1)) none none).run Tryz.prog w = .ok (.slice (if c = 1 then some ⟨g, o, none⟩ else some ⟨g, o + 1, none⟩) 0 (c - 1)) w := by
  have hu := Tryz.underlying105
  by_cases hc : c = 1
  · subst hc; simp [Instr.slice, run_underlying hu, go_sem]
  · simp [Instr.slice, run_underlying hu, go_sem, hc, add_at]
theorem MRow.mono {S S' : Nat → Prop} {w : World} {m : Md} {B0 B1 B2 B3 B4 : Option Addr} {m0 m1 m2 m3 m4 : Nat} (h : MRow S w m B0 B1 B2 B3 B4 m0 m1 m2 m3 m4) (hS : ∀ b, S b → S' b) (lt : ∀ b, S' b → b < w.heap.size) : MRow S' w m B0 B1 B2 B3 B4 m0 m1 m2 m3 m4 :=
  ⟨h.e0, h.e1, h.e2, h.e3, h.e4, h.r0.mono hS, h.r1.mono hS, h.r2.mono hS, h.r3.mono hS, h.r4.mono hS, lt⟩
/-- What an instruction's rule is, in whatever world lies behind w0. -/
def OfC (w0 : World) (m : Md) (B0 B1 B2 B3 B4 : Option Addr) (m0 m1 m2 m3 m4 d0 d1 d2 d3 d4 : Nat) (f : Fn) (i : Ins) (st : List Ty) (r : List Ty × List Ty) (ok : Bool) : Prop :=
  ∀ (S : Nat → Prop) (W : World), Below w0.heap.size w0 W → MRow S W m B0 B1 B2 B3 B4 m0 m1 m2 m3 m4 → ∀ A0 c0 A3 c3 A4 c4 A c, FRow S W f A0 A3 A4 f.args.length f.locals.length f.code.length → k_ty.Row S W A st →
    Calls Tryz.prog 144 #[.agg #[.slice B0 m0 d0, .slice B1 m1 d1, .slice B2 m2 d2, .slice B3 m3 d3, .slice B4 m4 d4], .agg #[.slice A0 f.args.length c0, .int .i64 f.ret.kind, .int .i64 f.ret.n, .slice A3 f.locals.length c3, .slice A4 f.code.length c4], .agg #[.int .i64 i.op, .int .i64 i.a, .int .i64 i.b], .slice A st.length c] W fun e w' => RuleOut S W r ok e w'
theorem hold9 {V w' : World} {p g o : Nat} {t : TypeId} {a0 a1 a2 a3 a4 a5 a6 a7 c0 : Value} (hp : V.heap[p]? = some (.cells #[a0, a1, a2, a3, a4, a5, a6, a7] t (0, 0))) (h0 : V.cell? ⟨g, o, none⟩ = some c0) (hb : Below V.heap.size V w') :
    w'.cell? ⟨p, 0, none⟩ = some a0 ∧ w'.cell? ⟨p, 1, none⟩ = some a1 ∧ w'.cell? ⟨p, 2, none⟩ = some a2 ∧ w'.cell? ⟨p, 3, none⟩ = some a3 ∧ w'.cell? ⟨p, 4, none⟩ = some a4 ∧ w'.cell? ⟨p, 5, none⟩ = some a5 ∧ w'.cell? ⟨p, 6, none⟩ = some a6 ∧ w'.cell? ⟨p, 7, none⟩ = some a7 ∧ w'.cell? ⟨g, o, none⟩ = some c0 ∧ Below V.heap.size V w' := by
  have h := blk_below hp hb (blk_lt hp)
  exact ⟨blk_cell h 0, blk_cell h 1, blk_cell h 2, blk_cell h 3, blk_cell h 4, blk_cell h 5, blk_cell h 6, blk_cell h 7, below_cell h0 hb, hb⟩
theorem held9 {a b c d e f g h i : Prop} {V w' : World} (hh : a ∧ b ∧ c ∧ d ∧ e ∧ f ∧ g ∧ h ∧ i ∧ Below V.heap.size V w') : Below V.heap.size V w' := hh.2.2.2.2.2.2.2.2.2
/-- The shapes behind a step. -/
def nextS (shs : List Shp) (tq : List Int) (after : List Ty) : List Shp := match tq with | [q] => shs.set q.toNat ⟨true, after⟩ | _ => shs
set_option maxRecDepth 100000 in
set_option maxHeartbeats 8000000 in
theorem one_calls {S : Nat → Prop} {w0 w : World} {p B : Nat} {m : Md} {B0 B1 B2 B3 B4 : Option Addr} {m0 m1 m2 m3 m4 d0 d1 d2 d3 d4 : Nat} {fi : Nat} {shs : List Shp} {TA : Option Addr} {tc : Nat} {pc : Nat} (h : Ck w0 w p B (.slice B0 m0 d0) (.slice B1 m1 d1) (.slice B2 m2 d2) (.slice B3 m3 d3) (.slice B4 m4 d4) fi shs TA 1 tc [(pc : Int)])
    (hM : MRow S w0 m B0 B1 B2 B3 B4 m0 m1 m2 m3 m4) (f : Fn) (hfi : m.funcs[fi]? = some f) (hfi2 : fi ≤ 1000) (hl0 : f.args.length ≤ 1000) (hl3 : f.locals.length ≤ 1000) (hl4 : f.code.length ≤ 1000) (i : Ins) (hpc : f.code[pc]? = some i) (st : List Ty) (hsh : shs[pc]? = some ⟨true, st⟩) (r : List Ty × List Ty) (hof : OfC w0 m B0 B1 B2 B3 B4 m0 m1 m2 m3 m4 d0 d1 d2 d3 d4 f i st r true)
    (after : List Ty) (tq : List Int) (hstep : stepL f.code.length i pc st r true = (after, tq, 0)) (hto : tq = [] ∨ ∃ q : Nat, tq = [(q : Int)] ∧ shs[q]? = some ⟨false, []⟩) (haf : after.length ≤ 1000) :
    Calls Tryz.prog 118 #[.pointer (some ⟨p, 0, none⟩)] w fun e w' => e = .returned (.tuple #[.int .i64 0, .int .i64 0]) ∧ ∃ TA' tc', Ck w0 w' p B (.slice B0 m0 d0) (.slice B1 m1 d1) (.slice B2 m2 d2) (.slice B3 m3 d3) (.slice B4 m4 d4) fi (nextS shs tq after) TA' tq.length tc' tq := by
  obtain ⟨g, o, rfl, t0, ⟨cur, hg⟩, hc1, hcm, hTD⟩ := h.td.pop
  obtain ⟨N, hN⟩ : ∃ N, shs.length = N := ⟨_, rfl⟩
  have hpl : pc < N := by have := (List.getElem?_eq_some_iff.1 hsh).1; omega
  have hsl := h.sl
  rw [hN] at hsl
  have hbox := h.box
  rw [hN] at hbox
  have c7 : w.cell? ⟨p, 7, none⟩ = some (.slice (some ⟨g, o, none⟩) 1 tc) := blk_cell hbox 7
  have f7 := blk_frozen hbox 7
  have hslr := fun W => slice_rest W g o tc hc1
  obtain ⟨TA2, hTA2⟩ : ∃ A, (if tc = 1 then some ⟨g, o, none⟩ else some ⟨g, o + 1, none⟩ : Option Addr) = A := ⟨_, rfl⟩
  rw [hTA2] at hTD
  simp only [hTA2] at hslr
  have hpB := h.pB
  have hV : Ck w0 (w.setCell ⟨p, 7, none⟩ (.slice TA2 0 (tc - 1))) p B (.slice B0 m0 d0) (.slice B1 m1 d1) (.slice B2 m2 d2) (.slice B3 m3 d3) (.slice B4 m4 d4) fi shs TA2 0 (tc - 1) [] :=
    ⟨h.below.setCell (p := ⟨p, 7, none⟩) h.gp _, h.gp, h.gB, by have := blk_set h.box 7 (.slice TA2 0 (tc - 1)); simpa using this, h.sh.keep (Below.heap_setCell _ _ _ B (Ne.symm hpB)) (fun b hT => Below.heap_setCell _ _ _ b (hT.ne h.box (by decide))), hTD.keep (fun g o e ⟨cur, hg⟩ => Below.heap_setCell _ _ _ g (blk_ne hg h.box (by decide))), h.sl⟩
  have HV := Lib.hid hV
  have HH := Lib.hid h.gp
  have HM := Lib.hid hM
  have HOf := Lib.hid hof
  have HN := Lib.hid hN
  have HStep := Lib.hid hstep
  have HTo := Lib.hid hto
  have HSh := Lib.hid hsh
  have HFi := Lib.hid hfi
  have HPc := Lib.hid hpc
  clear h hTD hbox hM hof hN hstep hto hsh hfi hpc hTA2 hg hV
  go_enter Tryz.func118, Tryz.ntmps118
  go_upto_region 3 with fail
  generalize w.setCell ⟨p, 7, none⟩ (.slice TA2 0 (tc - 1)) = V at *
  clear c7 f7 t0 hslr
  obtain ⟨cs, hB, hcs, hget⟩ := HV.out.sh
  obtain ⟨A1, c1, -, s1, l1, m1', row1⟩ := hget pc _ HSh.out
  simp only at s1 l1 m1' row1
  have hB1 : V.cell? ⟨B, pc * 2 + 1, none⟩ = some (.slice A1 st.length c1) := (blk_cell hB _).trans s1
  have HBx := Lib.hid hB1
  have hbox2 := HV.out.box
  rw [HN.out] at hbox2
  have HP := Lib.hid hbox2
  have hks : ∀ W, Below V.heap.size V W → Calls Tryz.prog 145 #[.agg #[.slice B0 m0 d0, .slice B1 m1 d1, .slice B2 m2 d2, .slice B3 m3 d3, .slice B4 m4 d4], .int .i64 fi, .int .i64 pc, .slice A1 st.length c1] W fun e w' => StepOut W (after, tq, 0) e w' := by
    intro W hb
    have hbW : Below w0.heap.size w0 W := HV.out.below.trans (hb.mono HV.out.below.size)
    have hM' : MRow (fun b => S b ∨ TyB V b) W m B0 B1 B2 B3 B4 m0 m1 m2 m3 m4 := (HM.out.below hbW).mono (fun b h => .inl h) (fun b h => h.elim (fun h => Nat.lt_of_lt_of_le (HM.out.lt b h) hbW.size) (fun h => Nat.lt_of_lt_of_le h.lt hb.size))
    have row' : k_ty.Row (fun b => S b ∨ TyB V b) W A1 st := (row1.keep (fun b hT => hb.block b hT.lt)).mono (fun b h => .inr h)
    refine (step_calls W m B0 B1 B2 B3 B4 m0 m1 m2 m3 m4 d0 d1 d2 d3 d4 hM' fi f HFi.out hfi2 hl0 hl3 hl4 pc i HPc.out A1 st.length c1 st rfl m1' l1 row' r true (fun W' hb' A0 c0 A3 c3 A4 c4 hF => HOf.out _ W' (hbW.trans (hb'.mono hbW.size)) (hM'.below hb') A0 c0 A3 c3 A4 c4 A1 c1 hF (row'.keep (fun b h => hb'.block b (hM'.lt b h))))).mono ?_
    rw [HStep.out]
    exact fun e w' h => h
  have KS := Lib.hid hks
  clear hB hcs hget s1 row1 hB1 hbox2 hks
  go_region_held3 (fun w' => w'.cell? ⟨p, 0, none⟩ = some (.slice B0 m0 d0) ∧ w'.cell? ⟨p, 1, none⟩ = some (.slice B1 m1 d1) ∧ w'.cell? ⟨p, 2, none⟩ = some (.slice B2 m2 d2) ∧ w'.cell? ⟨p, 3, none⟩ = some (.slice B3 m3 d3) ∧ w'.cell? ⟨p, 4, none⟩ = some (.slice B4 m4 d4) ∧ w'.cell? ⟨p, 5, none⟩ = some (.int .i64 fi) ∧ w'.cell? ⟨p, 6, none⟩ = some (.slice (some ⟨B, 0, none⟩) N N) ∧ w'.cell? ⟨p, 7, none⟩ = some (.slice TA2 0 (tc - 1)) ∧ w'.cell? ⟨B, pc * 2 + 1, none⟩ = some (.slice A1 st.length c1) ∧ Below V.heap.size V w')
    (first | (refine hold9 HP.out HBx.out ?_; repeat (first | assumption | exact Below.refl _ _ | exact held9 (by assumption) | refine Below.drew ?_)))
    (first | (go_at_call 145; go_must (refine (KS.out _ (held9 (by assumption))).mono ?_; rintro e w3 ⟨A8, c8, B8, e8, rfl, hle8, hsp8, hr8, ht8, hb8⟩; have hbV3 : Below V.heap.size V w3 := Below.trans (held9 (by assumption)) (hb8.mono (held9 (by assumption)).size))))
  all_goals
    have HCk3 := Lib.hid (HV.out.under hbV3)
    have HR8 := Lib.hid hr8
    have HT8 := Lib.hid ht8
    clear hr8 ht8 hb8 hbV3
    rcases HTo.out with hq | ⟨q, hq, hqs⟩
    · obtain ⟨L0, hL0⟩ : ∃ L0, tq.length = L0 := ⟨_, rfl⟩
      rw [hL0]
      obtain rfl : L0 = 0 := by rw [← hL0, hq]; rfl
      have HQ := Lib.hid hq
      clear hq hL0
      go_wp2_with fail
      go_loopw [51] (fun ix wr => ix = .int .i64 0 ∧ Hid (w3 = wr)) (fun _ _ => 0)
      case atStart => exact ⟨rfl, Lib.hid rfl⟩
      case round =>
        obtain ⟨rfl, hw⟩ := hrel
        have e := hw.out
        subst e
        go_wp2
        go_ret2
        obtain rfl := HQ.out
        exact ⟨rfl, TA2, tc - 1, HCk3.out⟩
    · obtain ⟨L0, hL0⟩ : ∃ L0, tq.length = L0 := ⟨_, rfl⟩
      rw [hL0]
      obtain rfl : L0 = 1 := by rw [← hL0, hq]; rfl
      have HQ := Lib.hid hq
      obtain ⟨b8, o8, rfl, -, hc⟩ := HT8.out (by rw [hq]; exact Nat.one_pos)
      obtain ⟨cs8, hK, hcell⟩ := hc 0 (by rw [hq]; exact Nat.one_pos)
      have hK2 : cs8 = [.int .i64 (q : Int)] := by
        have h1 := hK.1
        simpa [hq] using h1
      have v8 : w3.cell? ⟨b8, o8, none⟩ = some (.int .i64 (q : Int)) := by
        have := hcell 0 _ (by rw [hK2]; rfl)
        simpa using this
      have HQs := Lib.hid hqs
      clear hq hL0 hK hcell hK2 hc hqs
      go_wp2_with fail
      go_loopw [51] (fun ix wr => (ix = .int .i64 0 ∧ Hid (w3 = wr)) ∨ (ix = .int .i64 1 ∧ Hid (∃ TA' tc', Ck w0 wr p B (.slice B0 m0 d0) (.slice B1 m1 d1) (.slice B2 m2 d2) (.slice B3 m3 d3) (.slice B4 m4 d4) fi (shs.set q ⟨true, after⟩) TA' 1 tc' [(q : Int)]))) (fun ix _ => 1 - (intOf ix).toNat)
      case atStart => exact .inl ⟨rfl, Lib.hid rfl⟩
      case round =>
        rcases hrel with ⟨rfl, hw⟩ | ⟨rfl, hw⟩
        · have e := hw.out
          subst e
          go_wp2_with (go_at_call 117; go_must (refine (meet_new HCk3.out q HQs.out (by omega) A8 after.length c8 after rfl haf hle8 HR8.out).mono ?_; rintro e w9 ⟨rfl, TA9, tc9, hck⟩; have HCk9 := Lib.hid hck; clear hck))
          go_roundw
          case rel => exact .inr ⟨rfl, Lib.hid ⟨TA9, tc9, HCk9.out⟩⟩
          case measure => simp [intOf]
        · have HCk9 := hw
          go_wp2
          go_ret2
          obtain ⟨TA9, tc9, hck⟩ := HCk9.out
          obtain rfl := HQ.out
          exact ⟨rfl, TA9, tc9, by simpa [nextS] using hck⟩
end Go.Proofs.YtmceaeoeakkppaaGreatDoor
namespace Go.Proofs.YtmceaeoeakkppaaGreatDoor
open Go.RowKit Go.Sort
set_option linter.unusedVariables false
/-- The types at each instruction of code that goes straight on. -/
structure Straight (w0 : World) (m : Md) (B0 B1 B2 B3 B4 : Option Addr) (m0 m1 m2 m3 m4 d0 d1 d2 d3 d4 : Nat) (f : Fn) (sts : List (List Ty)) : Prop where
  len : sts.length = f.code.length
  pos : 0 < f.code.length
  big : f.code.length ≤ 1000
  zero : sts[0]? = some []
  step : ∀ k i st, f.code[k]? = some i → sts[k]? = some st → ∃ r, OfC w0 m B0 B1 B2 B3 B4 m0 m1 m2 m3 m4 d0 d1 d2 d3 d4 f i st r true ∧ ∃ after tq, stepL f.code.length i k st r true = (after, tq, 0) ∧ after.length ≤ 1000 ∧ ((k + 1 = f.code.length ∧ tq = []) ∨ (k + 1 < f.code.length ∧ tq = [((k + 1 : Nat) : Int)] ∧ sts[k + 1]? = some after))
/-- The shapes behind so many steps. -/
def shTo (sts : List (List Ty)) (j : Nat) : List Shp := (sts.take j).map (fun s => ⟨true, s⟩) ++ List.replicate (sts.length - j) ⟨false, []⟩
theorem shTo_len (sts : List (List Ty)) (j : Nat) (hj : j ≤ sts.length) : (shTo sts j).length = sts.length := by simp [shTo]; omega
theorem shTo_no {sts : List (List Ty)} {j : Nat} (hj : j < sts.length) : (shTo sts j)[j]? = some ⟨false, []⟩ := by
  rw [shTo, List.getElem?_append_right (by simp; omega)]
  simp only [List.length_map, List.length_take, Nat.min_eq_left (Nat.le_of_lt hj), Nat.sub_self]
  rw [List.getElem?_replicate, if_pos (by omega)]
theorem shTo_at {sts : List (List Ty)} {j k : Nat} {st : List Ty} (hk : k < j) (h : sts[k]? = some st) : (shTo sts j)[k]? = some ⟨true, st⟩ := by
  have hl := (List.getElem?_eq_some_iff.1 h).1
  rw [shTo, List.getElem?_append_left (by simp; omega), List.getElem?_map, List.getElem?_take, if_pos hk, h]
  rfl
theorem shTo_set {sts : List (List Ty)} {j : Nat} {st : List Ty} (h : sts[j]? = some st) : (shTo sts j).set j ⟨true, st⟩ = shTo sts (j + 1) := by
  have hl := (List.getElem?_eq_some_iff.1 h).1
  have hlen : ((sts.take j).map (fun s => (⟨true, s⟩ : Shp))).length = j := by simp; omega
  rw [shTo, List.set_append_right _ _ (by omega), hlen, Nat.sub_self, shTo]
  obtain ⟨q, hq⟩ : ∃ q, sts.length - j = q + 1 := ⟨sts.length - j - 1, by omega⟩
  rw [hq, show sts.length - (j + 1) = q by omega, List.replicate_succ, List.set_cons_zero, List.take_add_one, h]
  simp
theorem shTo_zero (sts : List (List Ty)) : shTo sts 0 = List.replicate sts.length ⟨false, []⟩ := by simp [shTo]
theorem shTo_all {sts : List (List Ty)} {j : Nat} (h : sts.length ≤ j) : shTo sts j = sts.map (fun s => ⟨true, s⟩) := by
  rw [shTo, List.take_of_length_le h, Nat.sub_eq_zero_of_le h]; simp
theorem shape_info : (Tryz.prog.info? 104).map (fun i => (i.zero, i.size, i.bytes)) = some (some (.agg #[.bool false, .slice none 0 0]), 2, 32) := by kernel_rfl
theorem made_shapes (w : World) (N : Nat) : ShB (w.alloc (.cells (madeCells #[.bool false, .slice none 0 0] (N * 2)) 104)) w.heap.size (List.replicate N ⟨false, []⟩) := by
  refine ⟨_, blk_new w _, by simp [size_madeCells], fun i s hi => ?_⟩
  have hlt := (List.getElem?_eq_some_iff.1 hi).1
  simp only [List.length_replicate] at hlt
  rw [List.getElem?_replicate, if_pos hlt] at hi
  injection hi with hi
  subst hi
  refine ⟨none, 0, ?_, ?_, Nat.le_refl _, Nat.zero_le _, Rd.Row.nil _ _ _ _⟩
  · rw [Array.getElem?_eq_getElem (by rw [size_madeCells]; omega)]
    simp [madeCells]
  · rw [Array.getElem?_eq_getElem (by rw [size_madeCells]; omega)]
    simp [madeCells]
/-- While a function's shapes are made. -/
structure Fq (w0 w : World) (p : Nat) (v0 v1 v2 v3 v4 v5 : Value) (b o : Nat) (cv : Value) : Prop where
  below : Below w0.heap.size w0 w
  box : ∃ x6, w.heap[p]? = some (.cells #[v0, v1, v2, v3, v4, v5, x6, .slice none 0 0] 157 (0, 0))
  code : w.cell? ⟨b, o, none⟩ = some cv
theorem Fq.all {w0 w : World} {p b o : Nat} {v0 v1 v2 v3 v4 v5 cv : Value} (h : Fq w0 w p v0 v1 v2 v3 v4 v5 b o cv) : w.cell? ⟨p, 1, none⟩ = some v1 ∧ w.cell? ⟨p, 5, none⟩ = some v5 ∧ w.cell? ⟨b, o, none⟩ = some cv ∧ Fq w0 w p v0 v1 v2 v3 v4 v5 b o cv := by
  obtain ⟨x6, hb⟩ := h.box
  exact ⟨blk_cell hb 1, blk_cell hb 5, h.code, h⟩
theorem Fq.drew {w0 w : World} {p b o : Nat} {v0 v1 v2 v3 v4 v5 cv : Value} (h : Fq w0 w p v0 v1 v2 v3 v4 v5 b o cv) : Fq w0 w.drew p v0 v1 v2 v3 v4 v5 b o cv := ⟨h.below.drew, h.box, h.code⟩
theorem Fq.alloc {w0 w : World} {p b o : Nat} {v0 v1 v2 v3 v4 v5 cv : Value} (h : Fq w0 w p v0 v1 v2 v3 v4 v5 b o cv) (x : Go.Obj) : Fq w0 (w.alloc x) p v0 v1 v2 v3 v4 v5 b o cv :=
  ⟨h.below.alloc h.below.size x, by obtain ⟨x6, hb⟩ := h.box; exact ⟨x6, blk_alloc hb x⟩, below_cell h.code (below_a1 w x)⟩
theorem Fq.set {w0 w : World} {p b o : Nat} {v0 v1 v2 v3 v4 v5 cv : Value} (h : Fq w0 w p v0 v1 v2 v3 v4 v5 b o cv) (hp : w0.heap.size ≤ p) (hb : b < w0.heap.size) (x : Value) : Fq w0 (w.setCell ⟨p, 6, none⟩ x) p v0 v1 v2 v3 v4 v5 b o cv :=
  ⟨h.below.setCell (p := ⟨p, 6, none⟩) hp x, by obtain ⟨x6, hb⟩ := h.box; exact ⟨x, by have := blk_set hb 6 x; simpa using this⟩, by rw [World.cell?_setCell_far _ _ _ _ (by simp; omega)]; exact h.code⟩
theorem exists_least (J : Nat → Prop) (h : ∃ n, J n) : ∃ n, J n ∧ ∀ m, J m → n ≤ m := by
  obtain ⟨n, hn⟩ := h
  induction n using Nat.strongRecOn with
  | _ n ih =>
    by_cases hx : ∃ m, m < n ∧ J m
    · obtain ⟨m, hm, hj⟩ := hx
      exact ih m hm hj
    · exact ⟨n, hn, fun m hm => Nat.le_of_not_lt (fun hlt => hx ⟨m, hlt, hm⟩)⟩
/-- A scope in which the run jumps back to one label: what holds at every jump is numbered, and each pass comes to a smaller number. -/
theorem wp_scope_down {P : Program} {a : Act} {w : World} {Q : Exit → Act → World → Prop} {c rest : Code} (l : Nat) (J : Nat → Act → World → Prop) (hf : findLabel c l = some rest)
    (first : c.wp P (Exit.jump l (fun a w => ∃ n, J n a w) Q) a w) (pass : ∀ n a w, J n a w → rest.wp P (Exit.jump l (fun a' w' => ∃ n', n' < n ∧ J n' a' w') Q) a w) : (Code.scope c).wp P Q a w := by
  classical
  refine wp_scope_jumps l (fun a w => ∃ n, J n a w) (fun a w => if h : ∃ n, J n a w then Classical.choose (exists_least _ h) else 0) hf first (fun a w hJ => ?_)
  rw [dif_pos hJ]
  have hs := Classical.choose_spec (exists_least _ hJ)
  refine Code.wp_mono ?_ (pass _ a w hs.1)
  intro e a' w' h
  cases e <;> try exact h
  obtain ⟨rfl, n', hlt, hj⟩ := h
  refine ⟨rfl, ⟨n', hj⟩, ?_⟩
  rw [dif_pos ⟨n', hj⟩]
  exact Nat.lt_of_le_of_lt ((Classical.choose_spec (exists_least _ ⟨n', hj⟩)).2 n' hj) hlt
set_option maxRecDepth 100000 in
set_option maxHeartbeats 8000000 in
theorem function_calls {S : Nat → Prop} {w0 w : World} {p : Nat} {m : Md} {B0 B1 B2 B3 B4 : Option Addr} {m0 m1 m2 m3 m4 d0 d1 d2 d3 d4 : Nat} {fi : Nat}
    (hb : Below w0.heap.size w0 w) (hp : w0.heap.size ≤ p) (hbox : w.heap[p]? = some (.cells #[.slice B0 m0 d0, .slice B1 m1 d1, .slice B2 m2 d2, .slice B3 m3 d3, .slice B4 m4 d4, .int .i64 fi, .slice none 0 0, .slice none 0 0] 157 (0, 0)))
    (hM : MRow S w0 m B0 B1 B2 B3 B4 m0 m1 m2 m3 m4) (f : Fn) (hfi : m.funcs[fi]? = some f) (hfi2 : fi ≤ 1000) (hl0 : f.args.length ≤ 1000) (hl3 : f.locals.length ≤ 1000) (sts : List (List Ty)) (hS : Straight w0 m B0 B1 B2 B3 B4 m0 m1 m2 m3 m4 d0 d1 d2 d3 d4 f sts) :
    Calls Tryz.prog 81 #[.pointer (some ⟨p, 0, none⟩)] w fun e w' => e = .returned (.tuple #[.int .i64 0, .int .i64 0]) ∧ ∃ B TA' tc', Ck w0 w' p B (.slice B0 m0 d0) (.slice B1 m1 d1) (.slice B2 m2 d2) (.slice B3 m3 d3) (.slice B4 m4 d4) fi (sts.map fun s => ⟨true, s⟩) TA' 0 tc' [] := by
  have hfl : fi < m1 := by have := (List.getElem?_eq_some_iff.1 hfi).1; have := hM.e1; omega
  obtain ⟨b, o, A0, c0, A3, c3, A4, c4, rfl, hSb, f0, f1, f2, f3, f4, -, -, -, -, -, -, -, -, -, -, -⟩ := k_func_at hM.r1 hfi
  obtain ⟨N, hN⟩ : ∃ N, f.code.length = N := ⟨_, rfl⟩
  rw [hN] at f4
  have hblt := hM.lt b hSb
  have hf4 : w.cell? ⟨b, o + fi * 5 + 4, none⟩ = some (.slice A4 N c4) := (hb.cell (p := ⟨b, o + fi * 5 + 4, none⟩) hblt).trans f4
  have HF := Lib.hid (Fq.mk (w0 := w0) (v0 := .slice B0 m0 d0) (v1 := .slice (some ⟨b, o, none⟩) m1 d1) (v2 := .slice B2 m2 d2) (v3 := .slice B3 m3 d3) (v4 := .slice B4 m4 d4) (v5 := .int .i64 fi) hb ⟨_, hbox⟩ hf4)
  have hN1 := hS.big
  have hN0 := hS.pos
  rw [hN] at hN1 hN0
  obtain ⟨zi, hzi, hz1, hz2, hz3⟩ : ∃ i, Tryz.prog.info? 104 = some i ∧ i.zero = some (.agg #[.bool false, .slice none 0 0]) ∧ i.size = 2 ∧ i.bytes = 32 := by
    have h := shape_info
    cases hh : Tryz.prog.info? 104 with
    | none => rw [hh] at h; cases h
    | some i =>
      rw [hh] at h
      simp only [Option.map_some, Option.some.injEq, Prod.mk.injEq] at h
      exact ⟨i, rfl, h.1, h.2.1, h.2.2⟩
  have hmk : ∀ W, (Instr.makeSlice 102 (.int .i64 (N : Int)) (.int .i64 (N : Int))).run Tryz.prog W = .ok (.slice (some ⟨W.heap.size, 0, none⟩) N N) (W.alloc (.cells (madeCells #[.bool false, .slice none 0 0] (N * 2)) 104)) := fun W => by
    have := run_make W 102 104 zi _ Tryz.underlying102 hzi hz1 .i64 .i64 (N : Int) (N : Int) (by omega) (by omega) (by rw [hz3]; omega) (by omega)
    rw [hz2] at this
    simpa [Value.cells] using this
  have HBox := Lib.hid hbox
  have HM := Lib.hid hM
  have HS := Lib.hid hS
  have HN := Lib.hid hN
  have HFi := Lib.hid hfi
  have HB := Lib.hid hb
  have g6 := blk_frozen (blk_alloc hbox (.cells (madeCells #[.bool false, .slice none 0 0] (N * 2)) 104)) 6
  have e6 : (w.alloc (.cells (madeCells #[.bool false, .slice none 0 0] (N * 2)) 104)).cell? ⟨p, 6, none⟩ = some (.slice none 0 0) := blk_cell (blk_alloc hbox _) 6
  clear hb hbox hM hfi hS hN f0 f1 f2 f3 f4 hf4 hz1 hz2 hz3 hzi
  go_enter Tryz.func81, Tryz.ntmps81
  go_wp2_with fail
  refine wp_scope_down 0 (fun n a' w' => (∃ x1 x4 x5 x6 x7 x8 x9 x10 x11 x12 x13 x14 x15 x16 x17 x18 x19 x20 x21 x22 x23 x24 x25 x26 x27 x28 x29 x30 x31 x32 x33 x34 x35 x36 x37 x38 x39 : Value, a' = { tmps := #[.pointer (some ⟨p, 0, none⟩), x1, .int .i64 0, .int .i64 0, x4, x5, x6, x7, x8, x9, x10, x11, x12, x13, x14, x15, x16, x17, x18, x19, x20, x21, x22, x23, x24, x25, x26, x27, x28, x29, x30, x31, x32, x33, x34, x35, x36, x37, x38, x39], defers := [] }) ∧ Hid ((n = 0 ∧ ∃ B TA tc, Ck w0 w' p B (.slice B0 m0 d0) (.slice (some ⟨b, o, none⟩) m1 d1) (.slice B2 m2 d2) (.slice B3 m3 d3) (.slice B4 m4 d4) fi (shTo sts N) TA 0 tc []) ∨ ∃ k, k < N ∧ n = N - k ∧ ∃ B TA tc, Ck w0 w' p B (.slice B0 m0 d0) (.slice (some ⟨b, o, none⟩) m1 d1) (.slice B2 m2 d2) (.slice B3 m3 d3) (.slice B4 m4 d4) fi (shTo sts (k + 1)) TA 1 tc [(k : Int)])) rfl ?_ ?_
  · go_upto_region 1 with fail
    go_region_held3 (fun w' => w'.cell? ⟨p, 1, none⟩ = some (.slice (some ⟨b, o, none⟩) m1 d1) ∧ w'.cell? ⟨p, 5, none⟩ = some (.int .i64 fi) ∧ w'.cell? ⟨b, o + fi * 5 + 4, none⟩ = some (.slice A4 N c4) ∧ Fq w0 w' p (.slice B0 m0 d0) (.slice (some ⟨b, o, none⟩) m1 d1) (.slice B2 m2 d2) (.slice B3 m3 d3) (.slice B4 m4 d4) (.int .i64 fi) b (o + fi * 5 + 4) (.slice A4 N c4))
      (first | (refine Fq.all ?_; repeat (first | exact HF.out | assumption | refine Fq.set ?_ hp hblt _ | refine Fq.drew ?_ | refine Fq.alloc ?_ _)))
      (first | fail)
    have hSl : sts.length = N := by rw [HS.out.len, HN.out]
    have hck : Ck w0 ((w.alloc (.cells (madeCells #[.bool false, .slice none 0 0] (N * 2)) 104)).setCell ⟨p, 6, none⟩ (.slice (some ⟨w.heap.size, 0, none⟩) N N)).drew p w.heap.size (.slice B0 m0 d0) (.slice (some ⟨b, o, none⟩) m1 d1) (.slice B2 m2 d2) (.slice B3 m3 d3) (.slice B4 m4 d4) fi (shTo sts 0) none 0 0 [] := by
      have hlt := blk_lt HBox.out
      have hbx := blk_set (blk_alloc HBox.out (.cells (madeCells #[.bool false, .slice none 0 0] (N * 2)) 104)) 6 (.slice (some ⟨w.heap.size, 0, none⟩) N N)
      refine ⟨((HB.out.alloc HB.out.size _).setCell (p := ⟨p, 6, none⟩) hp _).drew, hp, HB.out.size, ?_, ?_, ⟨rfl, Nat.le_refl _, Nat.zero_le _, .inl rfl⟩, ?_⟩
      · rw [shTo_len _ _ (Nat.zero_le _), hSl]
        refine blk_drew ?_
        simpa using hbx
      · rw [shTo_zero, hSl]
        refine (made_shapes w N).keep ?_ (fun b hT => ?_)
        · exact Below.heap_setCell _ _ _ _ (by simp; omega)
        · exact Below.heap_setCell _ _ _ _ (hT.ne (blk_alloc HBox.out _) (by decide))
      · rw [shTo_len _ _ (Nat.zero_le _), hSl]; exact hN1
    generalize ((w.alloc (.cells (madeCells #[.bool false, .slice none 0 0] (N * 2)) 104)).setCell ⟨p, 6, none⟩ (.slice (some ⟨w.heap.size, 0, none⟩) N N)).drew = V at *
    have KM := Lib.hid (meet_new (S := fun _ => False) hck 0 (shTo_no (by omega)) (by omega) none 0 0 [] rfl (by omega) (Nat.le_refl _) (Rd.Row.nil _ _ _ _))
    have HSet := Lib.hid (shTo_set HS.out.zero)
    clear hck g6 e6
    go_wp2_with (go_at_call 117; go_must (refine KM.out.mono ?_; rintro e w1 ⟨rfl, TA, tc, hck⟩; rw [HSet.out] at hck; have HA0 := Lib.hid hck; clear hck))
    go_step3
    obtain ⟨k, hk0⟩ : ∃ k : Nat, 0 = k := ⟨0, rfl⟩
    have hk : k < N := by omega
    have HA : Hid (Ck w0 w1 p w.heap.size (.slice B0 m0 d0) (.slice (some ⟨b, o, none⟩) m1 d1) (.slice B2 m2 d2) (.slice B3 m3 d3) (.slice B4 m4 d4) fi (shTo sts (k + 1)) TA 1 tc [(k : Int)]) := Lib.hid (by subst hk0; exact HA0.out)
    clear HA0 KM hk0
    obtain ⟨i, hi⟩ : ∃ i, f.code[k]? = some i := ⟨_, List.getElem?_eq_getElem (by rw [HN.out]; exact hk)⟩
    obtain ⟨st, hst⟩ : ∃ st, sts[k]? = some st := ⟨_, List.getElem?_eq_getElem (by rw [HS.out.len, HN.out]; exact hk)⟩
    obtain ⟨r, hof, after, tq, hstep, haf, hto⟩ := HS.out.step k i st hi hst
    have hto' : tq = [] ∨ ∃ q : Nat, tq = [(q : Int)] ∧ (shTo sts (k + 1))[q]? = some ⟨false, []⟩ := hto.imp (fun h => h.2) (fun h => ⟨k + 1, h.2.1, shTo_no (by rw [HS.out.len]; exact h.1)⟩)
    have KO := Lib.hid (one_calls HA.out HM.out f HFi.out hfi2 hl0 hl3 HS.out.big i hi st (shTo_at (Nat.lt_succ_self k) hst) r hof after tq hstep hto' haf)
    have c7 : w1.cell? ⟨p, 7, none⟩ = some (.slice TA 1 tc) := blk_cell HA.out.box 7
    have HTo := Lib.hid hto
    clear hi hst hof hstep hto hto' haf HA
    go_wp2_with (go_at_call 118; go_must (refine KO.out.mono ?_; rintro e w9 ⟨rfl, TA9, tc9, hck⟩; have HCk := Lib.hid hck; clear hck))
    go_step3
    refine ⟨rfl, ?_⟩
    rcases HTo.out with ⟨h1, h2⟩ | ⟨h1, h2, h3⟩
    · refine ⟨0, ⟨⟨_, _, _, _, _, _, _, _, _, _, _, _, _, _, _, _, _, _, _, _, _, _, _, _, _, _, _, _, _, _, _, _, _, _, _, _, _, rfl⟩, Lib.hid (.inl ⟨rfl, w.heap.size, TA9, tc9, ?_⟩)⟩⟩
      have hx := HCk.out
      subst h2
      have hkN : k + 1 = N := by rw [h1, HN.out]
      rw [← hkN]
      exact hx
    · refine ⟨N - (k + 1), ⟨⟨_, _, _, _, _, _, _, _, _, _, _, _, _, _, _, _, _, _, _, _, _, _, _, _, _, _, _, _, _, _, _, _, _, _, _, _, _, rfl⟩, Lib.hid (.inr ⟨k + 1, by rw [← HN.out]; exact h1, rfl, w.heap.size, TA9, tc9, ?_⟩)⟩⟩
      have hx := HCk.out
      subst h2
      have hns : nextS (shTo sts (k + 1)) [((k + 1 : Nat) : Int)] after = shTo sts (k + 1 + 1) := shTo_set h3
      rw [hns] at hx
      exact hx
  · rintro n a' w1 ⟨⟨x1, x4, x5, x6, x7, x8, x9, x10, x11, x12, x13, x14, x15, x16, x17, x18, x19, x20, x21, x22, x23, x24, x25, x26, x27, x28, x29, x30, x31, x32, x33, x34, x35, x36, x37, x38, x39, rfl⟩, HJ⟩
    rcases HJ.out with ⟨hn0, B, TA, tc, hck⟩ | ⟨k, hk, hnk, B, TA, tc, hck⟩
    · have c7 : w1.cell? ⟨p, 7, none⟩ = some (.slice TA 0 tc) := blk_cell hck.box 7
      have HCk := Lib.hid hck
      clear hck HJ
      go_wp2
      simp only [Exit.jump]
      go_ret2
      have hx := HCk.out
      rw [shTo_all (by rw [HS.out.len, HN.out]; exact Nat.le_refl _)] at hx
      exact ⟨rfl, _, _, _, hx⟩
    · have HA := Lib.hid hck
      clear hck HJ
      obtain ⟨i, hi⟩ : ∃ i, f.code[k]? = some i := ⟨_, List.getElem?_eq_getElem (by rw [HN.out]; exact hk)⟩
      obtain ⟨st, hst⟩ : ∃ st, sts[k]? = some st := ⟨_, List.getElem?_eq_getElem (by rw [HS.out.len, HN.out]; exact hk)⟩
      obtain ⟨r, hof, after, tq, hstep, haf, hto⟩ := HS.out.step k i st hi hst
      have hto' : tq = [] ∨ ∃ q : Nat, tq = [(q : Int)] ∧ (shTo sts (k + 1))[q]? = some ⟨false, []⟩ := hto.imp (fun h => h.2) (fun h => ⟨k + 1, h.2.1, shTo_no (by rw [HS.out.len]; exact h.1)⟩)
      have KO := Lib.hid (one_calls HA.out HM.out f HFi.out hfi2 hl0 hl3 HS.out.big i hi st (shTo_at (Nat.lt_succ_self k) hst) r hof after tq hstep hto' haf)
      have c7 : w1.cell? ⟨p, 7, none⟩ = some (.slice TA 1 tc) := blk_cell HA.out.box 7
      have HTo := Lib.hid hto
      clear hi hst hof hstep hto hto' haf HA
      go_wp2_with (go_at_call 118; go_must (refine KO.out.mono ?_; rintro e w9 ⟨rfl, TA9, tc9, hck⟩; have HCk := Lib.hid hck; clear hck))
      go_step3
      refine ⟨rfl, ?_⟩
      rcases HTo.out with ⟨h1, h2⟩ | ⟨h1, h2, h3⟩
      · refine ⟨0, by omega, ⟨⟨_, _, _, _, _, _, _, _, _, _, _, _, _, _, _, _, _, _, _, _, _, _, _, _, _, _, _, _, _, _, _, _, _, _, _, _, _, rfl⟩, Lib.hid (.inl ⟨rfl, B, TA9, tc9, ?_⟩)⟩⟩
        have hx := HCk.out
        subst h2
        have hkN : k + 1 = N := by rw [h1, HN.out]
        rw [← hkN]
        exact hx
      · refine ⟨N - (k + 1), by omega, ⟨⟨_, _, _, _, _, _, _, _, _, _, _, _, _, _, _, _, _, _, _, _, _, _, _, _, _, _, _, _, _, _, _, _, _, _, _, _, _, rfl⟩, Lib.hid (.inr ⟨k + 1, by rw [← HN.out]; exact h1, rfl, B, TA9, tc9, ?_⟩)⟩⟩
        have hx := HCk.out
        subst h2
        have hns : nextS (shTo sts (k + 1)) [((k + 1 : Nat) : Int)] after = shTo sts (k + 1 + 1) := shTo_set h3
        rw [hns] at hx
        exact hx
end Go.Proofs.YtmceaeoeakkppaaGreatDoor
namespace Go.Proofs.YtmceaeoeakkppaaGreatDoor
open Go.RowKit Go.Sort
set_option linter.unusedVariables false
theorem OfC.up {w0 w1 : World} {m : Md} {B0 B1 B2 B3 B4 : Option Addr} {m0 m1 m2 m3 m4 d0 d1 d2 d3 d4 : Nat} {f : Fn} {i : Ins} {st : List Ty} {r : List Ty × List Ty} {ok : Bool} (h : OfC w0 m B0 B1 B2 B3 B4 m0 m1 m2 m3 m4 d0 d1 d2 d3 d4 f i st r ok) (hb : Below w0.heap.size w0 w1) : OfC w1 m B0 B1 B2 B3 B4 m0 m1 m2 m3 m4 d0 d1 d2 d3 d4 f i st r ok :=
  fun S W hW => h S W (hb.trans (hW.mono hb.size))
theorem Straight.up {w0 w1 : World} {m : Md} {B0 B1 B2 B3 B4 : Option Addr} {m0 m1 m2 m3 m4 d0 d1 d2 d3 d4 : Nat} {f : Fn} {sts : List (List Ty)} (h : Straight w0 m B0 B1 B2 B3 B4 m0 m1 m2 m3 m4 d0 d1 d2 d3 d4 f sts) (hb : Below w0.heap.size w0 w1) : Straight w1 m B0 B1 B2 B3 B4 m0 m1 m2 m3 m4 d0 d1 d2 d3 d4 f sts :=
  ⟨h.len, h.pos, h.big, h.zero, fun k i st h1 h2 => by
    obtain ⟨r, h3, h4⟩ := h.step k i st h1 h2
    exact ⟨r, h3.up hb, h4⟩⟩
/-- Blocks of shapes, and of types. -/
def ShT (w : World) : Nat → Prop := fun b => (∃ cs, w.heap[b]? = some (.cells cs 104 (0, 0))) ∨ TyB w b
theorem ShT.lt {w : World} {b : Nat} (h : ShT w b) : b < w.heap.size := by
  rcases h with ⟨cs, h⟩ | h
  · exact blk_lt h
  · exact h.lt
theorem ShT.ne {w : World} {b g : Nat} {t : TypeId} {cs : Array Value} (h : ShT w b) (hg : w.heap[g]? = some (.cells cs t (0, 0))) (ht : 58 ≠ t) (hs : 104 ≠ t) : b ≠ g := by
  rcases h with ⟨c, h⟩ | h
  · exact blk_ne h hg hs
  · exact h.ne hg ht
theorem ShT.move {w w' : World} {b : Nat} (h : ShT w b) (hk : w'.heap[b]? = w.heap[b]?) : ShT w' b := by
  rcases h with ⟨c, h⟩ | ⟨c, h⟩
  · exact .inl ⟨c, hk.trans h⟩
  · exact .inr ⟨c, hk.trans h⟩
theorem flat_move {w w' : World} {xs : List (List Shp)} {vs : List Value} (h : (Rd.slice k_shape).Flat (ShT w) w xs vs) (hk : ∀ b, ShT w b → w'.heap[b]? = w.heap[b]?) : (Rd.slice k_shape).Flat (ShT w') w' xs vs :=
  (h.keep hk).mono (fun b hb => hb.move (hk b hb))
theorem ShB.row {w : World} {B : Nat} {shs : List Shp} (h : ShB w B shs) : k_shape.Row (ShT w) w (some ⟨B, 0, none⟩) shs := by
  obtain ⟨cs, h1, h2, h3⟩ := h
  intro hp
  refine ⟨B, 0, rfl, .inl ⟨cs, h1⟩, fun i hi => ?_⟩
  obtain ⟨A, c, h4, h5, h6, h7, h8⟩ := h3 i _ (List.getElem?_eq_getElem hi)
  refine ⟨_, k_shape_mk (shs[i]) h6 (by omega) (h8.mono (fun b hT => .inr hT)), fun j v hj => ?_⟩
  rw [k_shape_sz]
  rw [blk_cell h1]
  match j with
  | 0 => injection hj with hj; subst hj; simpa using h4
  | 1 => injection hj with hj; subst hj; simpa [Nat.add_comm] using h5
  | j + 2 => cases hj
theorem shapes_info : (Tryz.prog.info? 102).map (fun i => (i.zero, i.size, i.bytes)) = some (some (.slice none 0 0), 1, 24) := by kernel_rfl
/-- Every function's code goes straight on. -/
structure AllStr (w0 : World) (m : Md) (B0 B1 B2 B3 B4 : Option Addr) (m0 m1 m2 m3 m4 d0 d1 d2 d3 d4 : Nat) (stss : List (List (List Ty))) : Prop where
  len : stss.length = m.funcs.length
  each : ∀ (n : Nat) (f : Fn) (sts : List (List Ty)), m.funcs[n]? = some f → stss[n]? = some sts → Straight w0 m B0 B1 B2 B3 B4 m0 m1 m2 m3 m4 d0 d1 d2 d3 d4 f sts ∧ f.args.length ≤ 1000 ∧ f.locals.length ≤ 1000
  many : m.funcs.length ≤ 1000
def seenL (sts : List (List Ty)) : List Shp := sts.map fun s => ⟨true, s⟩
def CheckOut (w : World) (stss : List (List (List Ty))) (e : Ending) (w' : World) : Prop := ∃ A c, e = .returned (.tuple #[.slice A stss.length c, .int .i64 0, .int .i64 0, .int .i64 0]) ∧ (Rd.slice k_shape).Row (fun b => b < w'.heap.size) w' A (stss.map seenL) ∧ stss.length ≤ c ∧ Below w.heap.size w w'
set_option maxRecDepth 100000 in
set_option maxHeartbeats 8000000 in
theorem check_calls {S : Nat → Prop} (w : World) (m : Md) (B0 B1 B2 B3 B4 : Option Addr) (m0 m1 m2 m3 m4 d0 d1 d2 d3 d4 : Nat) (h : MRow S w m B0 B1 B2 B3 B4 m0 m1 m2 m3 m4) (hm : mainL m = true) (stss : List (List (List Ty))) (hA : AllStr w m B0 B1 B2 B3 B4 m0 m1 m2 m3 m4 d0 d1 d2 d3 d4 stss) :
    Calls Tryz.prog 43 #[.agg #[.slice B0 m0 d0, .slice B1 m1 d1, .slice B2 m2 d2, .slice B3 m3 d3, .slice B4 m4 d4]] w fun e w' => CheckOut w stss e w' := by
  have hs0 : saneL m = 0 := by
    simp only [mainL, Bool.and_eq_true, decide_eq_true_eq] at hm
    exact hm.1
  have hV := below_a1 w (Obj.cells #[.slice B0 m0 d0, .slice B1 m1 d1, .slice B2 m2 d2, .slice B3 m3 d3, .slice B4 m4 d4] 28)
  have HV := Lib.hid hV
  have HX := Lib.hid (blk_new w (Obj.cells #[.slice B0 m0 d0, .slice B1 m1 d1, .slice B2 m2 d2, .slice B3 m3 d3, .slice B4 m4 d4] 28))
  have HM := Lib.hid h
  have HA := Lib.hid hA
  have HMn := Lib.hid hm
  have HSn := Lib.hid hs0
  have hm1 : m1 ≤ 1000 := by have := hA.many; have := h.e1; omega
  have HE1 := Lib.hid h.e1
  clear h hA hm hs0 hV
  go_enter Tryz.func43, Tryz.ntmps43
  go_wp2_with (first
    | (go_at_call 79; refine (sane_calls _ m B0 B1 B2 B3 B4 m0 m1 m2 m3 m4 d0 d1 d2 d3 d4 (HM.out.below HV.out)).mono ?_; rintro e w1 ⟨he, hb1⟩; rw [HSn.out] at he; subst he; have HX1 := Lib.hid (blk_below HX.out hb1 (blk_lt HX.out)); obtain ⟨x0, x1, x2, x3, x4⟩ := cells5 HX1.out; have HB1 := Lib.hid (HV.out.trans (hb1.mono HV.out.size)); clear hb1)
    | (go_at_call 80; refine (main_calls _ m B0 B1 B2 B3 B4 m0 m1 m2 m3 m4 d0 d1 d2 d3 d4 (HM.out.below HB1.out)).mono ?_; rintro e w2 ⟨he, hb2⟩; rw [HMn.out] at he; subst he; have HX2 := Lib.hid (blk_below HX1.out hb2 (blk_lt HX1.out)); obtain ⟨y0, y1, y2, y3, y4⟩ := cells5 HX2.out; have HB2 := Lib.hid (HB1.out.trans (hb2.mono HB1.out.size)); clear hb2))
  go_loopw [2, 24] (fun mp ix wr => ∃ (k : Nat) (A : Option Addr) (c : Nat) (vs : List Value), k ≤ m1 ∧ ix = .int .i64 k ∧ mp = .slice A k c ∧ Hid (wr.ownsRow w.heap.size 102 1 (.slice A k c) k vs) ∧ Hid ((Rd.slice k_shape).Flat (ShT wr) wr ((stss.take k).map seenL) vs) ∧ Hid (∀ u ∈ vs, u.oneCell' = true) ∧ Hid (Below w.heap.size w wr) ∧ Hid (wr.heap[w.heap.size]? = some (.cells #[.slice B0 m0 d0, .slice B1 m1 d1, .slice B2 m2 d2, .slice B3 m3 d3, .slice B4 m4 d4] 28 (0, 0)))) (fun _ ix _ => m1 - (intOf ix).toNat)
  case atStart => exact ⟨0, none, 0, [], Nat.zero_le _, rfl, rfl, Lib.hid ⟨rfl, .inl ⟨rfl, rfl⟩⟩, Lib.hid (Rd.Flat.nil _ _ _), Lib.hid (fun u hu => by cases hu), HB2, HX2⟩
  case round =>
    obtain ⟨k, A, c, vs, hk, rfl, rfl, HO, HFl, HOne, HB, HXr⟩ := hrel
    by_cases hlt : k < m1
    · obtain ⟨f, hf⟩ : ∃ f, m.funcs[k]? = some f := ⟨_, List.getElem?_eq_getElem (by rw [HE1.out]; exact hlt)⟩
      obtain ⟨sts, hst⟩ : ∃ sts, stss[k]? = some sts := ⟨_, List.getElem?_eq_getElem (by rw [HA.out.len, HE1.out]; exact hlt)⟩
      obtain ⟨hstr, hl0, hl3⟩ := HA.out.each k f sts hf hst
      obtain ⟨z0, z1, z2, z3, z4⟩ := cells5 HXr.out
      have hbx := blk_new wr (Obj.cells #[.slice B0 m0 d0, .slice B1 m1 d1, .slice B2 m2 d2, .slice B3 m3 d3, .slice B4 m4 d4, .int .i64 (k : Int), .slice none 0 0, .slice none 0 0] 157)
      have KF := Lib.hid (function_calls (fi := k) (below_a1 wr (Obj.cells #[.slice B0 m0 d0, .slice B1 m1 d1, .slice B2 m2 d2, .slice B3 m3 d3, .slice B4 m4 d4, .int .i64 (k : Int), .slice none 0 0, .slice none 0 0] 157)) (Nat.le_refl _) hbx (HM.out.below HB.out) f hf (by omega) hl0 hl3 sts (hstr.up HB.out))
      have HSt := Lib.hid hst
      clear hf hst hstr hl0 hl3 hbx x0 x1 x2 x3 x4 y0 y1 y2 y3 y4
      go_wp2_with (first
        | (go_at_call 81; go_must (refine KF.out.mono ?_; rintro e w5 ⟨rfl, B5, TA5, tc5, hck⟩; have HCk := Lib.hid hck; have HBk := Lib.hid hck.below; have s6 : w5.cell? ⟨wr.heap.size, 6, none⟩ = some (.slice (some ⟨B5, 0, none⟩) (seenL sts).length (seenL sts).length) := blk_cell hck.box 6; clear hck))
        | (at_builtin; go_must (refine list_app _ rfl (.tmp 41) (.tmp 46) _ rfl 102 Tryz.underlying42 shapes_info rfl (by decide) (by decide) w.heap.size (n := k) (xs := vs) rfl (by exact (own_below HO.out HBk.out).alloc _) (news := [.slice (some ⟨B5, 0, none⟩) (seenL sts).length (seenL sts).length]) rfl rfl (by exact lie_new [.slice (some ⟨B5, 0, none⟩) (seenL sts).length (seenL sts).length] _ _ rfl) (by intro u hu; rw [List.mem_singleton.1 hu]; rfl) (by omega) (Nat.le_trans HB.out.size (Nat.le_trans HBk.out.size (below_a1 w5 _).size)) ?_; intro v' w6 hown hg hat; obtain ⟨A6, c6, rfl, _, _, _⟩ := own_shape hown; have HO6 := Lib.hid hown; have HG6 := Lib.hid hg; clear hown hg hat)))
      have hbw5 := HB.out.trans (HBk.out.mono HB.out.size)
      have hmov : ∀ b, ShT wr b → w6.heap[b]? = wr.heap[b]? := fun b hT => (HG6.out.block b (Nat.lt_of_lt_of_le hT.lt (Nat.le_trans HBk.out.size (below_a1 w5 _).size)) (fun e => by
          rcases hT with ⟨cs, hc⟩ | ⟨cs, hc⟩
          · exact own_ne_blk HO.out hc (by decide) e.symm
          · exact own_ne_blk HO.out hc (by decide) e.symm)).trans ((Below.heap_alloc _ _ b (Nat.lt_of_lt_of_le hT.lt HBk.out.size)).trans (HBk.out.block b hT.lt))
      have hmov5 : ∀ b, ShT w5 b → w6.heap[b]? = w5.heap[b]? := fun b hT => (HG6.out.block b (Nat.lt_of_lt_of_le hT.lt (below_a1 w5 _).size) (fun e => by
          have ho := own_below HO.out HBk.out
          rcases hT with ⟨cs, hc⟩ | ⟨cs, hc⟩
          · exact own_ne_blk ho hc (by decide) e.symm
          · exact own_ne_blk ho hc (by decide) e.symm)).trans (Below.heap_alloc _ _ b hT.lt)
      have hnew : (Rd.slice k_shape).Flat (ShT w5) w5 [seenL sts] [.slice (some ⟨B5, 0, none⟩) (seenL sts).length (seenL sts).length] := Rd.Flat.one ⟨_, rfl, some ⟨B5, 0, none⟩, (seenL sts).length, rfl, Nat.le_refl _, by have := HCk.out.sl; simp only [seenL]; omega, HCk.out.sh.row⟩
      have htake : (stss.take (k + 1)).map seenL = (stss.take k).map seenL ++ [seenL sts] := by rw [List.take_add_one, HSt.out, List.map_append]; rfl
      have HF6 := Lib.hid ((flat_move hnew hmov5).append (flat_move HFl.out hmov))
      rw [← htake] at HF6
      have HB6 := Lib.hid (grown_below (hbw5.alloc hbw5.size _) HG6.out (Nat.le_trans HB.out.size (Nat.le_trans HBk.out.size (below_a1 w5 _).size)) (own_row_ge HO.out))
      have HX6 : Hid (w6.heap[w.heap.size]? = some (.cells #[.slice B0 m0 d0, .slice B1 m1 d1, .slice B2 m2 d2, .slice B3 m3 d3, .slice B4 m4 d4] 28 (0, 0))) := Lib.hid ((HG6.out.block _ (Nat.lt_of_lt_of_le (blk_lt HXr.out) (Nat.le_trans HBk.out.size (below_a1 w5 _).size)) (fun e => own_ne_blk HO.out HXr.out (by decide) e.symm)).trans ((Below.heap_alloc _ _ _ (Nat.lt_of_lt_of_le (blk_lt HXr.out) HBk.out.size)).trans (blk_below HXr.out HBk.out (blk_lt HXr.out))))
      clear hbw5 hmov hmov5 hnew htake
      go_roundw
      case rel => exact ⟨k + 1, A6, c6, _, by omega, by go_num, rfl, HO6, HF6, Lib.hid (fun u hu => (List.mem_append.1 hu).elim (HOne.out u) (fun hu => by rw [List.mem_singleton.1 hu]; rfl)), HB6, HX6⟩
      case measure => simp [intOf]; omega
    · obtain rfl : m1 = k := by omega
      have hall : (stss.take m1).map seenL = stss.map seenL := by rw [List.take_of_length_le (by rw [HA.out.len, HE1.out]; exact Nat.le_refl _)]
      have hf := HFl.out
      rw [hall] at hf
      have HF := Lib.hid hf
      have hl : stss.length = m1 := by rw [HA.out.len, HE1.out]
      have HLn := Lib.hid hl
      clear hf hall hl
      go_wp2
      refine bodyPost_ret (v := .tuple #[.slice A m1 c, .int .i64 0, .int .i64 0, .int .i64 0]) (by simp [results, Tryz.results43, go_sem]) rfl ?_
      obtain ⟨A', c', e, h1, h2, h3⟩ := Rd.Sl.of_own (d := Rd.slice k_shape) (S := fun b => b < wr.heap.size) (xs := stss.map seenL) (by rw [List.length_map, HLn.out]; exact HO.out) (fun g hg => (HO.out.lt g hg).2) (HF.out.mono (fun b hT => hT.lt)) (by rw [List.length_map, HLn.out]; omega)
      cases e
      refine ⟨A, c, by rw [HLn.out], h3, ?_, HB.out⟩
      rw [List.length_map] at h1
      exact h1
end Go.Proofs.YtmceaeoeakkppaaGreatDoor
