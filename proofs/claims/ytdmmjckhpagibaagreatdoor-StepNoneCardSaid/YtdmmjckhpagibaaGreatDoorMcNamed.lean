/- flow.Local, flow.named. Printed by gen_mcnamed.py of this repo. -/
import Derived.Test.YtdmmjckhpagibaaGreatDoorMcFlow
namespace Go.Proofs.YtdmmjckhpagibaaGreatDoor
open Go.RowKit Go.Sort
set_option linter.unusedVariables false
/-- A local's type. -/
def localL (f : Fn) (n : Int) : Ty := if n < 0 then ⟨8, 0⟩ else (f.args ++ f.locals).getD n.toNat ⟨8, 0⟩
/-- The rule of an instruction that names something. -/
def namedL (m : Md) (f : Fn) (i : Ins) : List Ty × List Ty :=
  if i.op = 0 then ([], [⟨1, 0⟩]) else if i.op = 1 then ([], [⟨2, 0⟩]) else if i.op = 3 then ([], [localL f i.a]) else if i.op = 4 then ([localL f i.a], [])
  else if i.op = 25 then ((m.funcs.getD i.a.toNat Fn.zero).args, [(m.funcs.getD i.a.toNat Fn.zero).ret]) else if i.op = 26 then ([f.ret], [])
  else if i.op = 27 then ((m.imports.getD i.a.toNat Imp.zero).args, [(m.imports.getD i.a.toNat Imp.zero).ret]) else if i.op = 28 then (m.recs.getD i.a.toNat [], [⟨4, i.a⟩])
  else if i.op = 29 then ([⟨4, i.a⟩], [(m.recs.getD i.a.toNat []).getD i.b.toNat ⟨8, 0⟩]) else ([⟨4, i.a⟩, (m.recs.getD i.a.toNat []).getD i.b.toNat ⟨8, 0⟩], [])
/-- A function that is read. -/
structure FRow (S : Nat → Prop) (w : World) (f : Fn) (G0 G3 G4 : Option Addr) (g0 g3 g4 : Nat) : Prop where
  e0 : f.args.length = g0
  e3 : f.locals.length = g3
  e4 : f.code.length = g4
  r0 : k_ty.Row S w G0 f.args
  r3 : k_ty.Row S w G3 f.locals
  r4 : k_instr.Row S w G4 f.code
  wk : (Lit.int .i64 f.ret.kind).wf = true
  wn : (Lit.int .i64 f.ret.n).wf = true
  l0 : g0 ≤ 1000
  l3 : g3 ≤ 1000
  l4 : g4 ≤ 1000
theorem FRow.keep {S : Nat → Prop} {w w' : World} {f : Fn} {G0 G3 G4 : Option Addr} {g0 g3 g4 : Nat} (h : FRow S w f G0 G3 G4 g0 g3 g4) (hk : ∀ b, S b → w'.heap[b]? = w.heap[b]?) : FRow S w' f G0 G3 G4 g0 g3 g4 :=
  ⟨h.e0, h.e3, h.e4, h.r0.keep hk, h.r3.keep hk, h.r4.keep hk, h.wk, h.wn, h.l0, h.l3, h.l4⟩
theorem named_results (tmps : Array Value) (w : World) (b : Nat) (x y : Value) (hx : ∃ A n c, x = .slice A n c) (hy : ∃ A n c, y = .slice A n c) (h6 : tmps.getD 6 undef = .pointer (some ⟨b, 0, none⟩)) (hb : w.heap[b]? = some (.cells #[x, y] 179 (0, 0))) :
    (results Tryz.f134 tmps).run Tryz.prog w = .ok (.agg #[x, y]) w := by
  obtain ⟨_, _, _, rfl⟩ := hx
  obtain ⟨_, _, _, rfl⟩ := hy
  exact results_cell_row Tryz.results134 tmps w b _ _ _ _ h6 hb Tryz.underlying179 rfl (by kernel_rfl)
def RuleOut1 (S : Nat → Prop) (w : World) (r : List Ty × List Ty) (e : Ending) (w' : World) : Prop := ∃ A n c B k d, e = .returned (.agg #[.slice A n c, .slice B k d]) ∧ RuleR S w w' A n c B k d r ∧ Below w.heap.size w w'
set_option maxRecDepth 100000 in
set_option maxHeartbeats 8000000 in
theorem named_0 {S : Nat → Prop} (w : World) (hg : Glob w) (m : Md) (B0 B1 B2 B3 B4 : Option Addr) (m0 m1 m2 m3 m4 d0 d1 d2 d3 d4 : Nat) (h : MRow S w m B0 B1 B2 B3 B4 m0 m1 m2 m3 m4) (f : Fn) (G0 G3 G4 : Option Addr) (g0 g3 g4 c0 c3 c4 : Nat) (hf : FRow S w f G0 G3 G4 g0 g3 g4) (a b : Int) :
    Calls Tryz.prog 134 #[.agg #[.slice B0 m0 d0, .slice B1 m1 d1, .slice B2 m2 d2, .slice B3 m3 d3, .slice B4 m4 d4], .agg #[.slice G0 g0 c0, .int .i64 f.ret.kind, .int .i64 f.ret.n, .slice G3 g3 c3, .slice G4 g4 c4], .agg #[.int .i64 0, .int .i64 a, .int .i64 b]] w fun e w' => RuleOut1 S w (namedL m f ⟨0, a, b⟩) e w' := by
  have hs := hg.big
  have HCell := Lib.hid (fun W (hW : Below w.heap.size w W) => (hg.below hW hg.big).cells)
  obtain ⟨v00, v01, v10, v11, v20, v21, v30, v31, v40, v41⟩ := HCell.out _ (below_up (below_up (below_up (below_a1 w (Obj.cells #[.slice B0 m0 d0, .slice B1 m1 d1, .slice B2 m2 d2, .slice B3 m3 d3, .slice B4 m4 d4] 34)) (Obj.cells #[.slice G0 g0 c0, .int .i64 f.ret.kind, .int .i64 f.ret.n, .slice G3 g3 c3, .slice G4 g4 c4] 54)) (Obj.cells #[.int .i64 0, .int .i64 a, .int .i64 b] 27)) (Obj.cells #[.slice none 0 0, .slice none 0 0] 179))
  clear hg h
  go_enter Tryz.func134, Tryz.ntmps134
  go_wp2_with (go_at_call 165; refine (types_calls _ _).mono ?_; rintro e w' ⟨rfl, rfl⟩)
  refine bodyPost_ret (named_results _ _ (w.heap.size + 1 + 1 + 1) _ _ ⟨_, _, _, rfl⟩ ⟨_, _, _, rfl⟩ rfl (by repeat (first | (refine blk_new' _ ?_; first | rfl | (simp; done)) | refine blk_drew ?_ | refine blk_alloc ?_ _))) rfl ?_
  exact ⟨_, _, _, _, _, _, rfl, ⟨rfl, rfl, by decide, by decide, (Rd.Row.nil _ _ _ _), (row_cells (xs := [⟨1, 0⟩]) (by repeat (first | (refine blk_new' _ ?_; first | rfl | (simp; done)) | refine blk_drew ?_ | refine blk_alloc ?_ _)) ⟨by first | omega | (simp; done) | (simp; omega), .inr (by first | omega | (simp; done) | (simp; omega))⟩ rfl (by intro x hx; simp only [List.mem_singleton] at hx; subst hx; first | decide | exact ⟨hk, hn⟩)), by decide, by decide⟩, (by repeat (first | exact Below.refl _ _ | refine Below.drew ?_ | refine below_up ?_ _))⟩
set_option maxRecDepth 100000 in
set_option maxHeartbeats 8000000 in
theorem named_1 {S : Nat → Prop} (w : World) (hg : Glob w) (m : Md) (B0 B1 B2 B3 B4 : Option Addr) (m0 m1 m2 m3 m4 d0 d1 d2 d3 d4 : Nat) (h : MRow S w m B0 B1 B2 B3 B4 m0 m1 m2 m3 m4) (f : Fn) (G0 G3 G4 : Option Addr) (g0 g3 g4 c0 c3 c4 : Nat) (hf : FRow S w f G0 G3 G4 g0 g3 g4) (a b : Int) :
    Calls Tryz.prog 134 #[.agg #[.slice B0 m0 d0, .slice B1 m1 d1, .slice B2 m2 d2, .slice B3 m3 d3, .slice B4 m4 d4], .agg #[.slice G0 g0 c0, .int .i64 f.ret.kind, .int .i64 f.ret.n, .slice G3 g3 c3, .slice G4 g4 c4], .agg #[.int .i64 1, .int .i64 a, .int .i64 b]] w fun e w' => RuleOut1 S w (namedL m f ⟨1, a, b⟩) e w' := by
  have hs := hg.big
  have HCell := Lib.hid (fun W (hW : Below w.heap.size w W) => (hg.below hW hg.big).cells)
  obtain ⟨v00, v01, v10, v11, v20, v21, v30, v31, v40, v41⟩ := HCell.out _ (below_up (below_up (below_up (below_a1 w (Obj.cells #[.slice B0 m0 d0, .slice B1 m1 d1, .slice B2 m2 d2, .slice B3 m3 d3, .slice B4 m4 d4] 34)) (Obj.cells #[.slice G0 g0 c0, .int .i64 f.ret.kind, .int .i64 f.ret.n, .slice G3 g3 c3, .slice G4 g4 c4] 54)) (Obj.cells #[.int .i64 1, .int .i64 a, .int .i64 b] 27)) (Obj.cells #[.slice none 0 0, .slice none 0 0] 179))
  clear hg h
  go_enter Tryz.func134, Tryz.ntmps134
  go_wp2_with (go_at_call 165; refine (types_calls _ _).mono ?_; rintro e w' ⟨rfl, rfl⟩)
  refine bodyPost_ret (named_results _ _ (w.heap.size + 1 + 1 + 1) _ _ ⟨_, _, _, rfl⟩ ⟨_, _, _, rfl⟩ rfl (by repeat (first | (refine blk_new' _ ?_; first | rfl | (simp; done)) | refine blk_drew ?_ | refine blk_alloc ?_ _))) rfl ?_
  exact ⟨_, _, _, _, _, _, rfl, ⟨rfl, rfl, by decide, by decide, (Rd.Row.nil _ _ _ _), (row_cells (xs := [⟨2, 0⟩]) (by repeat (first | (refine blk_new' _ ?_; first | rfl | (simp; done)) | refine blk_drew ?_ | refine blk_alloc ?_ _)) ⟨by first | omega | (simp; done) | (simp; omega), .inr (by first | omega | (simp; done) | (simp; omega))⟩ rfl (by intro x hx; simp only [List.mem_singleton] at hx; subst hx; first | decide | exact ⟨hk, hn⟩)), by decide, by decide⟩, (by repeat (first | exact Below.refl _ _ | refine Below.drew ?_ | refine below_up ?_ _))⟩
set_option maxRecDepth 100000 in
set_option maxHeartbeats 8000000 in
theorem named_26 {S : Nat → Prop} (w : World) (hg : Glob w) (m : Md) (B0 B1 B2 B3 B4 : Option Addr) (m0 m1 m2 m3 m4 d0 d1 d2 d3 d4 : Nat) (h : MRow S w m B0 B1 B2 B3 B4 m0 m1 m2 m3 m4) (f : Fn) (G0 G3 G4 : Option Addr) (g0 g3 g4 c0 c3 c4 : Nat) (hf : FRow S w f G0 G3 G4 g0 g3 g4) (a b : Int) :
    Calls Tryz.prog 134 #[.agg #[.slice B0 m0 d0, .slice B1 m1 d1, .slice B2 m2 d2, .slice B3 m3 d3, .slice B4 m4 d4], .agg #[.slice G0 g0 c0, .int .i64 f.ret.kind, .int .i64 f.ret.n, .slice G3 g3 c3, .slice G4 g4 c4], .agg #[.int .i64 26, .int .i64 a, .int .i64 b]] w fun e w' => RuleOut1 S w (namedL m f ⟨26, a, b⟩) e w' := by
  have hs := hg.big
  have HCell := Lib.hid (fun W (hW : Below w.heap.size w W) => (hg.below hW hg.big).cells)
  have hk := hf.wk
  have hn := hf.wn
  obtain ⟨v00, v01, v10, v11, v20, v21, v30, v31, v40, v41⟩ := HCell.out _ (below_up (below_up (below_up (below_a1 w (Obj.cells #[.slice B0 m0 d0, .slice B1 m1 d1, .slice B2 m2 d2, .slice B3 m3 d3, .slice B4 m4 d4] 34)) (Obj.cells #[.slice G0 g0 c0, .int .i64 f.ret.kind, .int .i64 f.ret.n, .slice G3 g3 c3, .slice G4 g4 c4] 54)) (Obj.cells #[.int .i64 26, .int .i64 a, .int .i64 b] 27)) (Obj.cells #[.slice none 0 0, .slice none 0 0] 179))
  clear hg h
  go_enter Tryz.func134, Tryz.ntmps134
  go_wp2_with (go_at_call 165; refine (types_calls _ _).mono ?_; rintro e w' ⟨rfl, rfl⟩)
  refine bodyPost_ret (named_results _ _ (w.heap.size + 1 + 1 + 1) _ _ ⟨_, _, _, rfl⟩ ⟨_, _, _, rfl⟩ rfl (by repeat (first | (refine blk_new' _ ?_; first | rfl | (simp; done)) | refine blk_drew ?_ | refine blk_alloc ?_ _))) rfl ?_
  exact ⟨_, _, _, _, _, _, rfl, ⟨rfl, rfl, by decide, by decide, (row_cells (xs := [f.ret]) (by repeat (first | (refine blk_new' _ ?_; first | rfl | (simp; done)) | refine blk_drew ?_ | refine blk_alloc ?_ _)) ⟨by first | omega | (simp; done) | (simp; omega), .inr (by first | omega | (simp; done) | (simp; omega))⟩ rfl (by intro x hx; simp only [List.mem_singleton] at hx; subst hx; first | decide | exact ⟨hk, hn⟩)), (Rd.Row.nil _ _ _ _), by decide, by decide⟩, (by repeat (first | exact Below.refl _ _ | refine Below.drew ?_ | refine below_up ?_ _))⟩
end Go.Proofs.YtdmmjckhpagibaaGreatDoor
