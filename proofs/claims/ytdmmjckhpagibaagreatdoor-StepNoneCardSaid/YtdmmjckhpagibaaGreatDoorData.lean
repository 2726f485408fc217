/- The program's structs as Lean structures, and what their cells say. Printed by gen_data.py of this repo. -/
import Derived.Test.YtdmmjckhpagibaaGreatDoorBase
namespace Go.Proofs.YtdmmjckhpagibaaGreatDoor
open Go.RowKit
set_option linter.unusedVariables false

/-! Ty -/
structure Ty where
  kind : Int
  n : Int
  deriving Inhabited, DecidableEq
def Ty.zero : Ty := (⟨0, 0⟩ : Ty)
def k_ty : Rd Ty := ((Rd.int .i64).pair (Rd.int .i64)).iso (fun x => (x.kind, x.n))
theorem k_ty_sz : k_ty.sz = 2 := rfl
theorem k_ty_open {S : Nat → Prop} {w : World} {x : Ty} {cs : List Value} (h : k_ty.K S w x cs) : cs = [.int .i64 x.kind, .int .i64 x.n] ∧ (Lit.int .i64 x.kind).wf = true ∧ (Lit.int .i64 x.n).wf = true := by
  obtain ⟨_, _, rfl, ⟨rfl, f0⟩, ⟨rfl, f1⟩⟩ := h
  exact ⟨rfl, f0, f1⟩
theorem k_ty_mk {S : Nat → Prop} {w : World} (x : Ty) (f0 : (Lit.int .i64 x.kind).wf = true) (f1 : (Lit.int .i64 x.n).wf = true) : k_ty.K S w x [.int .i64 x.kind, .int .i64 x.n] := ⟨[.int .i64 x.kind], [.int .i64 x.n], rfl, ⟨rfl, f0⟩, ⟨rfl, f1⟩⟩
theorem k_ty_at {S : Nat → Prop} {w : World} {A : Option Addr} {xs : List Ty} {i : Nat} {x : Ty} (h : k_ty.Row S w A xs) (hx : xs[i]? = some x) : ∃ b o , A = some ⟨b, o, none⟩ ∧ S b ∧ w.cell? ⟨b, o + i * 2, none⟩ = some (.int .i64 x.kind) ∧ w.cell? ⟨b, o + i * 2 + 1, none⟩ = some (.int .i64 x.n) ∧ (Lit.int .i64 x.kind).wf = true ∧ (Lit.int .i64 x.n).wf = true := by
  obtain ⟨hi, rfl⟩ := List.getElem?_eq_some_iff.1 hx
  obtain ⟨b, o, rfl, hb, hc⟩ := h (by omega)
  obtain ⟨cs, hK, hcell⟩ := hc i hi
  obtain ⟨rfl, f0, f1⟩ := k_ty_open hK
  exact ⟨b, o, rfl, hb, hcell 0 _ rfl, hcell 1 _ rfl, f0, f1⟩

/-! Ins -/
structure Ins where
  op : Int
  a : Int
  b : Int
  deriving Inhabited, DecidableEq
def Ins.zero : Ins := (⟨0, 0, 0⟩ : Ins)
def k_instr : Rd Ins := ((Rd.int .i64).pair ((Rd.int .i64).pair (Rd.int .i64))).iso (fun x => (x.op, x.a, x.b))
theorem k_instr_sz : k_instr.sz = 3 := rfl
theorem k_instr_open {S : Nat → Prop} {w : World} {x : Ins} {cs : List Value} (h : k_instr.K S w x cs) : cs = [.int .i64 x.op, .int .i64 x.a, .int .i64 x.b] ∧ (Lit.int .i64 x.op).wf = true ∧ (Lit.int .i64 x.a).wf = true ∧ (Lit.int .i64 x.b).wf = true := by
  obtain ⟨_, _, rfl, ⟨rfl, f0⟩, ⟨_, _, rfl, ⟨rfl, f1⟩, ⟨rfl, f2⟩⟩⟩ := h
  exact ⟨rfl, f0, f1, f2⟩
theorem k_instr_mk {S : Nat → Prop} {w : World} (x : Ins) (f0 : (Lit.int .i64 x.op).wf = true) (f1 : (Lit.int .i64 x.a).wf = true) (f2 : (Lit.int .i64 x.b).wf = true) : k_instr.K S w x [.int .i64 x.op, .int .i64 x.a, .int .i64 x.b] := ⟨[.int .i64 x.op], [.int .i64 x.a, .int .i64 x.b], rfl, ⟨rfl, f0⟩, ⟨[.int .i64 x.a], [.int .i64 x.b], rfl, ⟨rfl, f1⟩, ⟨rfl, f2⟩⟩⟩
theorem k_instr_at {S : Nat → Prop} {w : World} {A : Option Addr} {xs : List Ins} {i : Nat} {x : Ins} (h : k_instr.Row S w A xs) (hx : xs[i]? = some x) : ∃ b o , A = some ⟨b, o, none⟩ ∧ S b ∧ w.cell? ⟨b, o + i * 3, none⟩ = some (.int .i64 x.op) ∧ w.cell? ⟨b, o + i * 3 + 1, none⟩ = some (.int .i64 x.a) ∧ w.cell? ⟨b, o + i * 3 + 2, none⟩ = some (.int .i64 x.b) ∧ (Lit.int .i64 x.op).wf = true ∧ (Lit.int .i64 x.a).wf = true ∧ (Lit.int .i64 x.b).wf = true := by
  obtain ⟨hi, rfl⟩ := List.getElem?_eq_some_iff.1 hx
  obtain ⟨b, o, rfl, hb, hc⟩ := h (by omega)
  obtain ⟨cs, hK, hcell⟩ := hc i hi
  obtain ⟨rfl, f0, f1, f2⟩ := k_instr_open hK
  exact ⟨b, o, rfl, hb, hcell 0 _ rfl, hcell 1 _ rfl, hcell 2 _ rfl, f0, f1, f2⟩

/-! Fn -/
structure Fn where
  args : (List Ty)
  ret : Ty
  locals : (List Ty)
  code : (List Ins)
  deriving Inhabited, DecidableEq
def Fn.zero : Fn := (⟨[], (⟨0, 0⟩ : Ty), [], []⟩ : Fn)
def k_func : Rd Fn := ((Rd.slice k_ty).pair (k_ty.pair ((Rd.slice k_ty).pair (Rd.slice k_instr)))).iso (fun x => (x.args, x.ret, x.locals, x.code))
theorem k_func_sz : k_func.sz = 5 := rfl
theorem k_func_open {S : Nat → Prop} {w : World} {x : Fn} {cs : List Value} (h : k_func.K S w x cs) : ∃ A0 c0 A3 c3 A4 c4, cs = [.slice A0 x.args.length c0, .int .i64 x.ret.kind, .int .i64 x.ret.n, .slice A3 x.locals.length c3, .slice A4 x.code.length c4] ∧ x.args.length ≤ c0 ∧ x.args.length ≤ 140737488351232 ∧ k_ty.Row S w A0 x.args ∧ (Lit.int .i64 x.ret.kind).wf = true ∧ (Lit.int .i64 x.ret.n).wf = true ∧ x.locals.length ≤ c3 ∧ x.locals.length ≤ 140737488351232 ∧ k_ty.Row S w A3 x.locals ∧ x.code.length ≤ c4 ∧ x.code.length ≤ 140737488351232 ∧ k_instr.Row S w A4 x.code := by
  obtain ⟨_, _, rfl, ⟨_, rfl, A0, c0, rfl, l0, m0, r0⟩, ⟨_, _, rfl, ⟨_, _, rfl, ⟨rfl, f1⟩, ⟨rfl, f2⟩⟩, ⟨_, _, rfl, ⟨_, rfl, A3, c3, rfl, l3, m3, r3⟩, ⟨_, rfl, A4, c4, rfl, l4, m4, r4⟩⟩⟩⟩ := h
  exact ⟨A0, c0, A3, c3, A4, c4, rfl, l0, m0, r0, f1, f2, l3, m3, r3, l4, m4, r4⟩
theorem k_func_mk {S : Nat → Prop} {w : World} (x : Fn) {A0 : Option Addr} {c0 : Nat} (l0 : x.args.length ≤ c0) (m0 : x.args.length ≤ 140737488351232) (r0 : k_ty.Row S w A0 x.args) (f1 : (Lit.int .i64 x.ret.kind).wf = true) (f2 : (Lit.int .i64 x.ret.n).wf = true) {A3 : Option Addr} {c3 : Nat} (l3 : x.locals.length ≤ c3) (m3 : x.locals.length ≤ 140737488351232) (r3 : k_ty.Row S w A3 x.locals) {A4 : Option Addr} {c4 : Nat} (l4 : x.code.length ≤ c4) (m4 : x.code.length ≤ 140737488351232) (r4 : k_instr.Row S w A4 x.code) : k_func.K S w x [.slice A0 x.args.length c0, .int .i64 x.ret.kind, .int .i64 x.ret.n, .slice A3 x.locals.length c3, .slice A4 x.code.length c4] := ⟨[.slice A0 x.args.length c0], [.int .i64 x.ret.kind, .int .i64 x.ret.n, .slice A3 x.locals.length c3, .slice A4 x.code.length c4], rfl, ⟨_, rfl, A0, c0, rfl, l0, m0, r0⟩, ⟨[.int .i64 x.ret.kind, .int .i64 x.ret.n], [.slice A3 x.locals.length c3, .slice A4 x.code.length c4], rfl, ⟨[.int .i64 x.ret.kind], [.int .i64 x.ret.n], rfl, ⟨rfl, f1⟩, ⟨rfl, f2⟩⟩, ⟨[.slice A3 x.locals.length c3], [.slice A4 x.code.length c4], rfl, ⟨_, rfl, A3, c3, rfl, l3, m3, r3⟩, ⟨_, rfl, A4, c4, rfl, l4, m4, r4⟩⟩⟩⟩
theorem k_func_at {S : Nat → Prop} {w : World} {A : Option Addr} {xs : List Fn} {i : Nat} {x : Fn} (h : k_func.Row S w A xs) (hx : xs[i]? = some x) : ∃ b o A0 c0 A3 c3 A4 c4, A = some ⟨b, o, none⟩ ∧ S b ∧ w.cell? ⟨b, o + i * 5, none⟩ = some (.slice A0 x.args.length c0) ∧ w.cell? ⟨b, o + i * 5 + 1, none⟩ = some (.int .i64 x.ret.kind) ∧ w.cell? ⟨b, o + i * 5 + 2, none⟩ = some (.int .i64 x.ret.n) ∧ w.cell? ⟨b, o + i * 5 + 3, none⟩ = some (.slice A3 x.locals.length c3) ∧ w.cell? ⟨b, o + i * 5 + 4, none⟩ = some (.slice A4 x.code.length c4) ∧ x.args.length ≤ c0 ∧ x.args.length ≤ 140737488351232 ∧ k_ty.Row S w A0 x.args ∧ (Lit.int .i64 x.ret.kind).wf = true ∧ (Lit.int .i64 x.ret.n).wf = true ∧ x.locals.length ≤ c3 ∧ x.locals.length ≤ 140737488351232 ∧ k_ty.Row S w A3 x.locals ∧ x.code.length ≤ c4 ∧ x.code.length ≤ 140737488351232 ∧ k_instr.Row S w A4 x.code := by
  obtain ⟨hi, rfl⟩ := List.getElem?_eq_some_iff.1 hx
  obtain ⟨b, o, rfl, hb, hc⟩ := h (by omega)
  obtain ⟨cs, hK, hcell⟩ := hc i hi
  obtain ⟨A0, c0, A3, c3, A4, c4, rfl, l0, m0, r0, f1, f2, l3, m3, r3, l4, m4, r4⟩ := k_func_open hK
  exact ⟨b, o, A0, c0, A3, c3, A4, c4, rfl, hb, hcell 0 _ rfl, hcell 1 _ rfl, hcell 2 _ rfl, hcell 3 _ rfl, hcell 4 _ rfl, l0, m0, r0, f1, f2, l3, m3, r3, l4, m4, r4⟩

/-! Imp -/
structure Imp where
  args : (List Ty)
  ret : Ty
  deriving Inhabited, DecidableEq
def Imp.zero : Imp := (⟨[], (⟨0, 0⟩ : Ty)⟩ : Imp)
def k_imp : Rd Imp := ((Rd.slice k_ty).pair k_ty).iso (fun x => (x.args, x.ret))
theorem k_imp_sz : k_imp.sz = 3 := rfl
theorem k_imp_open {S : Nat → Prop} {w : World} {x : Imp} {cs : List Value} (h : k_imp.K S w x cs) : ∃ A0 c0, cs = [.slice A0 x.args.length c0, .int .i64 x.ret.kind, .int .i64 x.ret.n] ∧ x.args.length ≤ c0 ∧ x.args.length ≤ 140737488351232 ∧ k_ty.Row S w A0 x.args ∧ (Lit.int .i64 x.ret.kind).wf = true ∧ (Lit.int .i64 x.ret.n).wf = true := by
  obtain ⟨_, _, rfl, ⟨_, rfl, A0, c0, rfl, l0, m0, r0⟩, ⟨_, _, rfl, ⟨rfl, f1⟩, ⟨rfl, f2⟩⟩⟩ := h
  exact ⟨A0, c0, rfl, l0, m0, r0, f1, f2⟩
theorem k_imp_mk {S : Nat → Prop} {w : World} (x : Imp) {A0 : Option Addr} {c0 : Nat} (l0 : x.args.length ≤ c0) (m0 : x.args.length ≤ 140737488351232) (r0 : k_ty.Row S w A0 x.args) (f1 : (Lit.int .i64 x.ret.kind).wf = true) (f2 : (Lit.int .i64 x.ret.n).wf = true) : k_imp.K S w x [.slice A0 x.args.length c0, .int .i64 x.ret.kind, .int .i64 x.ret.n] := ⟨[.slice A0 x.args.length c0], [.int .i64 x.ret.kind, .int .i64 x.ret.n], rfl, ⟨_, rfl, A0, c0, rfl, l0, m0, r0⟩, ⟨[.int .i64 x.ret.kind], [.int .i64 x.ret.n], rfl, ⟨rfl, f1⟩, ⟨rfl, f2⟩⟩⟩
theorem k_imp_at {S : Nat → Prop} {w : World} {A : Option Addr} {xs : List Imp} {i : Nat} {x : Imp} (h : k_imp.Row S w A xs) (hx : xs[i]? = some x) : ∃ b o A0 c0, A = some ⟨b, o, none⟩ ∧ S b ∧ w.cell? ⟨b, o + i * 3, none⟩ = some (.slice A0 x.args.length c0) ∧ w.cell? ⟨b, o + i * 3 + 1, none⟩ = some (.int .i64 x.ret.kind) ∧ w.cell? ⟨b, o + i * 3 + 2, none⟩ = some (.int .i64 x.ret.n) ∧ x.args.length ≤ c0 ∧ x.args.length ≤ 140737488351232 ∧ k_ty.Row S w A0 x.args ∧ (Lit.int .i64 x.ret.kind).wf = true ∧ (Lit.int .i64 x.ret.n).wf = true := by
  obtain ⟨hi, rfl⟩ := List.getElem?_eq_some_iff.1 hx
  obtain ⟨b, o, rfl, hb, hc⟩ := h (by omega)
  obtain ⟨cs, hK, hcell⟩ := hc i hi
  obtain ⟨A0, c0, rfl, l0, m0, r0, f1, f2⟩ := k_imp_open hK
  exact ⟨b, o, A0, c0, rfl, hb, hcell 0 _ rfl, hcell 1 _ rfl, hcell 2 _ rfl, l0, m0, r0, f1, f2⟩

/-! Md -/
structure Md where
  recs : (List (List Ty))
  funcs : (List Fn)
  imports : (List Imp)
  ints : (List Int)
  texts : (List ByteArray)
  deriving Inhabited, DecidableEq
def Md.zero : Md := (⟨[], [], [], [], []⟩ : Md)
def k_mod : Rd Md := ((Rd.slice (Rd.slice k_ty)).pair ((Rd.slice k_func).pair ((Rd.slice k_imp).pair ((Rd.slice (Rd.int .u64)).pair (Rd.slice Rd.str))))).iso (fun x => (x.recs, x.funcs, x.imports, x.ints, x.texts))
theorem k_mod_sz : k_mod.sz = 5 := rfl
theorem k_mod_open {S : Nat → Prop} {w : World} {x : Md} {cs : List Value} (h : k_mod.K S w x cs) : ∃ A0 c0 A1 c1 A2 c2 A3 c3 A4 c4, cs = [.slice A0 x.recs.length c0, .slice A1 x.funcs.length c1, .slice A2 x.imports.length c2, .slice A3 x.ints.length c3, .slice A4 x.texts.length c4] ∧ x.recs.length ≤ c0 ∧ x.recs.length ≤ 140737488351232 ∧ (Rd.slice k_ty).Row S w A0 x.recs ∧ x.funcs.length ≤ c1 ∧ x.funcs.length ≤ 140737488351232 ∧ k_func.Row S w A1 x.funcs ∧ x.imports.length ≤ c2 ∧ x.imports.length ≤ 140737488351232 ∧ k_imp.Row S w A2 x.imports ∧ x.ints.length ≤ c3 ∧ x.ints.length ≤ 140737488351232 ∧ (Rd.int .u64).Row S w A3 x.ints ∧ x.texts.length ≤ c4 ∧ x.texts.length ≤ 140737488351232 ∧ Rd.str.Row S w A4 x.texts := by
  obtain ⟨_, _, rfl, ⟨_, rfl, A0, c0, rfl, l0, m0, r0⟩, ⟨_, _, rfl, ⟨_, rfl, A1, c1, rfl, l1, m1, r1⟩, ⟨_, _, rfl, ⟨_, rfl, A2, c2, rfl, l2, m2, r2⟩, ⟨_, _, rfl, ⟨_, rfl, A3, c3, rfl, l3, m3, r3⟩, ⟨_, rfl, A4, c4, rfl, l4, m4, r4⟩⟩⟩⟩⟩ := h
  exact ⟨A0, c0, A1, c1, A2, c2, A3, c3, A4, c4, rfl, l0, m0, r0, l1, m1, r1, l2, m2, r2, l3, m3, r3, l4, m4, r4⟩
theorem k_mod_mk {S : Nat → Prop} {w : World} (x : Md) {A0 : Option Addr} {c0 : Nat} (l0 : x.recs.length ≤ c0) (m0 : x.recs.length ≤ 140737488351232) (r0 : (Rd.slice k_ty).Row S w A0 x.recs) {A1 : Option Addr} {c1 : Nat} (l1 : x.funcs.length ≤ c1) (m1 : x.funcs.length ≤ 140737488351232) (r1 : k_func.Row S w A1 x.funcs) {A2 : Option Addr} {c2 : Nat} (l2 : x.imports.length ≤ c2) (m2 : x.imports.length ≤ 140737488351232) (r2 : k_imp.Row S w A2 x.imports) {A3 : Option Addr} {c3 : Nat} (l3 : x.ints.length ≤ c3) (m3 : x.ints.length ≤ 140737488351232) (r3 : (Rd.int .u64).Row S w A3 x.ints) {A4 : Option Addr} {c4 : Nat} (l4 : x.texts.length ≤ c4) (m4 : x.texts.length ≤ 140737488351232) (r4 : Rd.str.Row S w A4 x.texts) : k_mod.K S w x [.slice A0 x.recs.length c0, .slice A1 x.funcs.length c1, .slice A2 x.imports.length c2, .slice A3 x.ints.length c3, .slice A4 x.texts.length c4] := ⟨[.slice A0 x.recs.length c0], [.slice A1 x.funcs.length c1, .slice A2 x.imports.length c2, .slice A3 x.ints.length c3, .slice A4 x.texts.length c4], rfl, ⟨_, rfl, A0, c0, rfl, l0, m0, r0⟩, ⟨[.slice A1 x.funcs.length c1], [.slice A2 x.imports.length c2, .slice A3 x.ints.length c3, .slice A4 x.texts.length c4], rfl, ⟨_, rfl, A1, c1, rfl, l1, m1, r1⟩, ⟨[.slice A2 x.imports.length c2], [.slice A3 x.ints.length c3, .slice A4 x.texts.length c4], rfl, ⟨_, rfl, A2, c2, rfl, l2, m2, r2⟩, ⟨[.slice A3 x.ints.length c3], [.slice A4 x.texts.length c4], rfl, ⟨_, rfl, A3, c3, rfl, l3, m3, r3⟩, ⟨_, rfl, A4, c4, rfl, l4, m4, r4⟩⟩⟩⟩⟩
theorem k_mod_at {S : Nat → Prop} {w : World} {A : Option Addr} {xs : List Md} {i : Nat} {x : Md} (h : k_mod.Row S w A xs) (hx : xs[i]? = some x) : ∃ b o A0 c0 A1 c1 A2 c2 A3 c3 A4 c4, A = some ⟨b, o, none⟩ ∧ S b ∧ w.cell? ⟨b, o + i * 5, none⟩ = some (.slice A0 x.recs.length c0) ∧ w.cell? ⟨b, o + i * 5 + 1, none⟩ = some (.slice A1 x.funcs.length c1) ∧ w.cell? ⟨b, o + i * 5 + 2, none⟩ = some (.slice A2 x.imports.length c2) ∧ w.cell? ⟨b, o + i * 5 + 3, none⟩ = some (.slice A3 x.ints.length c3) ∧ w.cell? ⟨b, o + i * 5 + 4, none⟩ = some (.slice A4 x.texts.length c4) ∧ x.recs.length ≤ c0 ∧ x.recs.length ≤ 140737488351232 ∧ (Rd.slice k_ty).Row S w A0 x.recs ∧ x.funcs.length ≤ c1 ∧ x.funcs.length ≤ 140737488351232 ∧ k_func.Row S w A1 x.funcs ∧ x.imports.length ≤ c2 ∧ x.imports.length ≤ 140737488351232 ∧ k_imp.Row S w A2 x.imports ∧ x.ints.length ≤ c3 ∧ x.ints.length ≤ 140737488351232 ∧ (Rd.int .u64).Row S w A3 x.ints ∧ x.texts.length ≤ c4 ∧ x.texts.length ≤ 140737488351232 ∧ Rd.str.Row S w A4 x.texts := by
  obtain ⟨hi, rfl⟩ := List.getElem?_eq_some_iff.1 hx
  obtain ⟨b, o, rfl, hb, hc⟩ := h (by omega)
  obtain ⟨cs, hK, hcell⟩ := hc i hi
  obtain ⟨A0, c0, A1, c1, A2, c2, A3, c3, A4, c4, rfl, l0, m0, r0, l1, m1, r1, l2, m2, r2, l3, m3, r3, l4, m4, r4⟩ := k_mod_open hK
  exact ⟨b, o, A0, c0, A1, c1, A2, c2, A3, c3, A4, c4, rfl, hb, hcell 0 _ rfl, hcell 1 _ rfl, hcell 2 _ rfl, hcell 3 _ rfl, hcell 4 _ rfl, l0, m0, r0, l1, m1, r1, l2, m2, r2, l3, m3, r3, l4, m4, r4⟩

/-! Shp -/
structure Shp where
  seen : Bool
  stack : (List Ty)
  deriving Inhabited, DecidableEq
def Shp.zero : Shp := (⟨false, []⟩ : Shp)
def k_shape : Rd Shp := (Rd.bool.pair (Rd.slice k_ty)).iso (fun x => (x.seen, x.stack))
theorem k_shape_sz : k_shape.sz = 2 := rfl
theorem k_shape_open {S : Nat → Prop} {w : World} {x : Shp} {cs : List Value} (h : k_shape.K S w x cs) : ∃ A1 c1, cs = [.bool x.seen, .slice A1 x.stack.length c1] ∧ x.stack.length ≤ c1 ∧ x.stack.length ≤ 140737488351232 ∧ k_ty.Row S w A1 x.stack := by
  obtain ⟨_, _, rfl, rfl, ⟨_, rfl, A1, c1, rfl, l1, m1, r1⟩⟩ := h
  exact ⟨A1, c1, rfl, l1, m1, r1⟩
theorem k_shape_mk {S : Nat → Prop} {w : World} (x : Shp) {A1 : Option Addr} {c1 : Nat} (l1 : x.stack.length ≤ c1) (m1 : x.stack.length ≤ 140737488351232) (r1 : k_ty.Row S w A1 x.stack) : k_shape.K S w x [.bool x.seen, .slice A1 x.stack.length c1] := ⟨[.bool x.seen], [.slice A1 x.stack.length c1], rfl, rfl, ⟨_, rfl, A1, c1, rfl, l1, m1, r1⟩⟩
theorem k_shape_at {S : Nat → Prop} {w : World} {A : Option Addr} {xs : List Shp} {i : Nat} {x : Shp} (h : k_shape.Row S w A xs) (hx : xs[i]? = some x) : ∃ b o A1 c1, A = some ⟨b, o, none⟩ ∧ S b ∧ w.cell? ⟨b, o + i * 2, none⟩ = some (.bool x.seen) ∧ w.cell? ⟨b, o + i * 2 + 1, none⟩ = some (.slice A1 x.stack.length c1) ∧ x.stack.length ≤ c1 ∧ x.stack.length ≤ 140737488351232 ∧ k_ty.Row S w A1 x.stack := by
  obtain ⟨hi, rfl⟩ := List.getElem?_eq_some_iff.1 hx
  obtain ⟨b, o, rfl, hb, hc⟩ := h (by omega)
  obtain ⟨cs, hK, hcell⟩ := hc i hi
  obtain ⟨A1, c1, rfl, l1, m1, r1⟩ := k_shape_open hK
  exact ⟨b, o, A1, c1, rfl, hb, hcell 0 _ rfl, hcell 1 _ rfl, l1, m1, r1⟩

/-! Ob -/
structure Ob where
  kind : Int
  n : Int
  words : (List Int)
  bytes : (List Int)
  deriving Inhabited, DecidableEq
def Ob.zero : Ob := (⟨0, 0, [], []⟩ : Ob)
def k_obj : Rd Ob := ((Rd.int .i64).pair ((Rd.int .i64).pair ((Rd.slice (Rd.int .u64)).pair (Rd.slice (Rd.int .u8))))).iso (fun x => (x.kind, x.n, x.words, x.bytes))
theorem k_obj_sz : k_obj.sz = 4 := rfl
theorem k_obj_open {S : Nat → Prop} {w : World} {x : Ob} {cs : List Value} (h : k_obj.K S w x cs) : ∃ A2 c2 A3 c3, cs = [.int .i64 x.kind, .int .i64 x.n, .slice A2 x.words.length c2, .slice A3 x.bytes.length c3] ∧ (Lit.int .i64 x.kind).wf = true ∧ (Lit.int .i64 x.n).wf = true ∧ x.words.length ≤ c2 ∧ x.words.length ≤ 140737488351232 ∧ (Rd.int .u64).Row S w A2 x.words ∧ x.bytes.length ≤ c3 ∧ x.bytes.length ≤ 140737488351232 ∧ (Rd.int .u8).Row S w A3 x.bytes := by
  obtain ⟨_, _, rfl, ⟨rfl, f0⟩, ⟨_, _, rfl, ⟨rfl, f1⟩, ⟨_, _, rfl, ⟨_, rfl, A2, c2, rfl, l2, m2, r2⟩, ⟨_, rfl, A3, c3, rfl, l3, m3, r3⟩⟩⟩⟩ := h
  exact ⟨A2, c2, A3, c3, rfl, f0, f1, l2, m2, r2, l3, m3, r3⟩
theorem k_obj_mk {S : Nat → Prop} {w : World} (x : Ob) (f0 : (Lit.int .i64 x.kind).wf = true) (f1 : (Lit.int .i64 x.n).wf = true) {A2 : Option Addr} {c2 : Nat} (l2 : x.words.length ≤ c2) (m2 : x.words.length ≤ 140737488351232) (r2 : (Rd.int .u64).Row S w A2 x.words) {A3 : Option Addr} {c3 : Nat} (l3 : x.bytes.length ≤ c3) (m3 : x.bytes.length ≤ 140737488351232) (r3 : (Rd.int .u8).Row S w A3 x.bytes) : k_obj.K S w x [.int .i64 x.kind, .int .i64 x.n, .slice A2 x.words.length c2, .slice A3 x.bytes.length c3] := ⟨[.int .i64 x.kind], [.int .i64 x.n, .slice A2 x.words.length c2, .slice A3 x.bytes.length c3], rfl, ⟨rfl, f0⟩, ⟨[.int .i64 x.n], [.slice A2 x.words.length c2, .slice A3 x.bytes.length c3], rfl, ⟨rfl, f1⟩, ⟨[.slice A2 x.words.length c2], [.slice A3 x.bytes.length c3], rfl, ⟨_, rfl, A2, c2, rfl, l2, m2, r2⟩, ⟨_, rfl, A3, c3, rfl, l3, m3, r3⟩⟩⟩⟩
theorem k_obj_at {S : Nat → Prop} {w : World} {A : Option Addr} {xs : List Ob} {i : Nat} {x : Ob} (h : k_obj.Row S w A xs) (hx : xs[i]? = some x) : ∃ b o A2 c2 A3 c3, A = some ⟨b, o, none⟩ ∧ S b ∧ w.cell? ⟨b, o + i * 4, none⟩ = some (.int .i64 x.kind) ∧ w.cell? ⟨b, o + i * 4 + 1, none⟩ = some (.int .i64 x.n) ∧ w.cell? ⟨b, o + i * 4 + 2, none⟩ = some (.slice A2 x.words.length c2) ∧ w.cell? ⟨b, o + i * 4 + 3, none⟩ = some (.slice A3 x.bytes.length c3) ∧ (Lit.int .i64 x.kind).wf = true ∧ (Lit.int .i64 x.n).wf = true ∧ x.words.length ≤ c2 ∧ x.words.length ≤ 140737488351232 ∧ (Rd.int .u64).Row S w A2 x.words ∧ x.bytes.length ≤ c3 ∧ x.bytes.length ≤ 140737488351232 ∧ (Rd.int .u8).Row S w A3 x.bytes := by
  obtain ⟨hi, rfl⟩ := List.getElem?_eq_some_iff.1 hx
  obtain ⟨b, o, rfl, hb, hc⟩ := h (by omega)
  obtain ⟨cs, hK, hcell⟩ := hc i hi
  obtain ⟨A2, c2, A3, c3, rfl, f0, f1, l2, m2, r2, l3, m3, r3⟩ := k_obj_open hK
  exact ⟨b, o, A2, c2, A3, c3, rfl, hb, hcell 0 _ rfl, hcell 1 _ rfl, hcell 2 _ rfl, hcell 3 _ rfl, f0, f1, l2, m2, r2, l3, m3, r3⟩

/-! Fr -/
structure Fr where
  func : Int
  pc : Int
  locals : (List Int)
  stack : (List Int)
  deriving Inhabited, DecidableEq
def Fr.zero : Fr := (⟨0, 0, [], []⟩ : Fr)
def k_frame : Rd Fr := ((Rd.int .i64).pair ((Rd.int .i64).pair ((Rd.slice (Rd.int .u64)).pair (Rd.slice (Rd.int .u64))))).iso (fun x => (x.func, x.pc, x.locals, x.stack))
theorem k_frame_sz : k_frame.sz = 4 := rfl
theorem k_frame_open {S : Nat → Prop} {w : World} {x : Fr} {cs : List Value} (h : k_frame.K S w x cs) : ∃ A2 c2 A3 c3, cs = [.int .i64 x.func, .int .i64 x.pc, .slice A2 x.locals.length c2, .slice A3 x.stack.length c3] ∧ (Lit.int .i64 x.func).wf = true ∧ (Lit.int .i64 x.pc).wf = true ∧ x.locals.length ≤ c2 ∧ x.locals.length ≤ 140737488351232 ∧ (Rd.int .u64).Row S w A2 x.locals ∧ x.stack.length ≤ c3 ∧ x.stack.length ≤ 140737488351232 ∧ (Rd.int .u64).Row S w A3 x.stack := by
  obtain ⟨_, _, rfl, ⟨rfl, f0⟩, ⟨_, _, rfl, ⟨rfl, f1⟩, ⟨_, _, rfl, ⟨_, rfl, A2, c2, rfl, l2, m2, r2⟩, ⟨_, rfl, A3, c3, rfl, l3, m3, r3⟩⟩⟩⟩ := h
  exact ⟨A2, c2, A3, c3, rfl, f0, f1, l2, m2, r2, l3, m3, r3⟩
theorem k_frame_mk {S : Nat → Prop} {w : World} (x : Fr) (f0 : (Lit.int .i64 x.func).wf = true) (f1 : (Lit.int .i64 x.pc).wf = true) {A2 : Option Addr} {c2 : Nat} (l2 : x.locals.length ≤ c2) (m2 : x.locals.length ≤ 140737488351232) (r2 : (Rd.int .u64).Row S w A2 x.locals) {A3 : Option Addr} {c3 : Nat} (l3 : x.stack.length ≤ c3) (m3 : x.stack.length ≤ 140737488351232) (r3 : (Rd.int .u64).Row S w A3 x.stack) : k_frame.K S w x [.int .i64 x.func, .int .i64 x.pc, .slice A2 x.locals.length c2, .slice A3 x.stack.length c3] := ⟨[.int .i64 x.func], [.int .i64 x.pc, .slice A2 x.locals.length c2, .slice A3 x.stack.length c3], rfl, ⟨rfl, f0⟩, ⟨[.int .i64 x.pc], [.slice A2 x.locals.length c2, .slice A3 x.stack.length c3], rfl, ⟨rfl, f1⟩, ⟨[.slice A2 x.locals.length c2], [.slice A3 x.stack.length c3], rfl, ⟨_, rfl, A2, c2, rfl, l2, m2, r2⟩, ⟨_, rfl, A3, c3, rfl, l3, m3, r3⟩⟩⟩⟩
theorem k_frame_at {S : Nat → Prop} {w : World} {A : Option Addr} {xs : List Fr} {i : Nat} {x : Fr} (h : k_frame.Row S w A xs) (hx : xs[i]? = some x) : ∃ b o A2 c2 A3 c3, A = some ⟨b, o, none⟩ ∧ S b ∧ w.cell? ⟨b, o + i * 4, none⟩ = some (.int .i64 x.func) ∧ w.cell? ⟨b, o + i * 4 + 1, none⟩ = some (.int .i64 x.pc) ∧ w.cell? ⟨b, o + i * 4 + 2, none⟩ = some (.slice A2 x.locals.length c2) ∧ w.cell? ⟨b, o + i * 4 + 3, none⟩ = some (.slice A3 x.stack.length c3) ∧ (Lit.int .i64 x.func).wf = true ∧ (Lit.int .i64 x.pc).wf = true ∧ x.locals.length ≤ c2 ∧ x.locals.length ≤ 140737488351232 ∧ (Rd.int .u64).Row S w A2 x.locals ∧ x.stack.length ≤ c3 ∧ x.stack.length ≤ 140737488351232 ∧ (Rd.int .u64).Row S w A3 x.stack := by
  obtain ⟨hi, rfl⟩ := List.getElem?_eq_some_iff.1 hx
  obtain ⟨b, o, rfl, hb, hc⟩ := h (by omega)
  obtain ⟨cs, hK, hcell⟩ := hc i hi
  obtain ⟨A2, c2, A3, c3, rfl, f0, f1, l2, m2, r2, l3, m3, r3⟩ := k_frame_open hK
  exact ⟨b, o, A2, c2, A3, c3, rfl, hb, hcell 0 _ rfl, hcell 1 _ rfl, hcell 2 _ rfl, hcell 3 _ rfl, f0, f1, l2, m2, r2, l3, m3, r3⟩

/-! Han -/
structure Han where
  kind : Int
  desc : Int
  opn : Bool
  deriving Inhabited, DecidableEq
def Han.zero : Han := (⟨0, 0, false⟩ : Han)
def k_han : Rd Han := ((Rd.int .i64).pair ((Rd.int .u64).pair Rd.bool)).iso (fun x => (x.kind, x.desc, x.opn))
theorem k_han_sz : k_han.sz = 3 := rfl
theorem k_han_open {S : Nat → Prop} {w : World} {x : Han} {cs : List Value} (h : k_han.K S w x cs) : cs = [.int .i64 x.kind, .int .u64 x.desc, .bool x.opn] ∧ (Lit.int .i64 x.kind).wf = true ∧ (Lit.int .u64 x.desc).wf = true := by
  obtain ⟨_, _, rfl, ⟨rfl, f0⟩, ⟨_, _, rfl, ⟨rfl, f1⟩, rfl⟩⟩ := h
  exact ⟨rfl, f0, f1⟩
theorem k_han_mk {S : Nat → Prop} {w : World} (x : Han) (f0 : (Lit.int .i64 x.kind).wf = true) (f1 : (Lit.int .u64 x.desc).wf = true) : k_han.K S w x [.int .i64 x.kind, .int .u64 x.desc, .bool x.opn] := ⟨[.int .i64 x.kind], [.int .u64 x.desc, .bool x.opn], rfl, ⟨rfl, f0⟩, ⟨[.int .u64 x.desc], [.bool x.opn], rfl, ⟨rfl, f1⟩, rfl⟩⟩
theorem k_han_at {S : Nat → Prop} {w : World} {A : Option Addr} {xs : List Han} {i : Nat} {x : Han} (h : k_han.Row S w A xs) (hx : xs[i]? = some x) : ∃ b o , A = some ⟨b, o, none⟩ ∧ S b ∧ w.cell? ⟨b, o + i * 3, none⟩ = some (.int .i64 x.kind) ∧ w.cell? ⟨b, o + i * 3 + 1, none⟩ = some (.int .u64 x.desc) ∧ w.cell? ⟨b, o + i * 3 + 2, none⟩ = some (.bool x.opn) ∧ (Lit.int .i64 x.kind).wf = true ∧ (Lit.int .u64 x.desc).wf = true := by
  obtain ⟨hi, rfl⟩ := List.getElem?_eq_some_iff.1 hx
  obtain ⟨b, o, rfl, hb, hc⟩ := h (by omega)
  obtain ⟨cs, hK, hcell⟩ := hc i hi
  obtain ⟨rfl, f0, f1⟩ := k_han_open hK
  exact ⟨b, o, rfl, hb, hcell 0 _ rfl, hcell 1 _ rfl, hcell 2 _ rfl, f0, f1⟩

/-! St -/
structure St where
  frames : (List Fr)
  heap : (List Ob)
  hans : (List Han)
  quota : Int
  used : Int
  en : Int
  value : Int
  deriving Inhabited, DecidableEq
def St.zero : St := (⟨[], [], [], 0, 0, 0, 0⟩ : St)
def k_state : Rd St := ((Rd.slice k_frame).pair ((Rd.slice k_obj).pair ((Rd.slice k_han).pair ((Rd.int .i64).pair ((Rd.int .i64).pair ((Rd.int .i64).pair (Rd.int .u64))))))).iso (fun x => (x.frames, x.heap, x.hans, x.quota, x.used, x.en, x.value))
theorem k_state_sz : k_state.sz = 7 := rfl
theorem k_state_open {S : Nat → Prop} {w : World} {x : St} {cs : List Value} (h : k_state.K S w x cs) : ∃ A0 c0 A1 c1 A2 c2, cs = [.slice A0 x.frames.length c0, .slice A1 x.heap.length c1, .slice A2 x.hans.length c2, .int .i64 x.quota, .int .i64 x.used, .int .i64 x.en, .int .u64 x.value] ∧ x.frames.length ≤ c0 ∧ x.frames.length ≤ 140737488351232 ∧ k_frame.Row S w A0 x.frames ∧ x.heap.length ≤ c1 ∧ x.heap.length ≤ 140737488351232 ∧ k_obj.Row S w A1 x.heap ∧ x.hans.length ≤ c2 ∧ x.hans.length ≤ 140737488351232 ∧ k_han.Row S w A2 x.hans ∧ (Lit.int .i64 x.quota).wf = true ∧ (Lit.int .i64 x.used).wf = true ∧ (Lit.int .i64 x.en).wf = true ∧ (Lit.int .u64 x.value).wf = true := by
  obtain ⟨_, _, rfl, ⟨_, rfl, A0, c0, rfl, l0, m0, r0⟩, ⟨_, _, rfl, ⟨_, rfl, A1, c1, rfl, l1, m1, r1⟩, ⟨_, _, rfl, ⟨_, rfl, A2, c2, rfl, l2, m2, r2⟩, ⟨_, _, rfl, ⟨rfl, f3⟩, ⟨_, _, rfl, ⟨rfl, f4⟩, ⟨_, _, rfl, ⟨rfl, f5⟩, ⟨rfl, f6⟩⟩⟩⟩⟩⟩⟩ := h
  exact ⟨A0, c0, A1, c1, A2, c2, rfl, l0, m0, r0, l1, m1, r1, l2, m2, r2, f3, f4, f5, f6⟩
theorem k_state_mk {S : Nat → Prop} {w : World} (x : St) {A0 : Option Addr} {c0 : Nat} (l0 : x.frames.length ≤ c0) (m0 : x.frames.length ≤ 140737488351232) (r0 : k_frame.Row S w A0 x.frames) {A1 : Option Addr} {c1 : Nat} (l1 : x.heap.length ≤ c1) (m1 : x.heap.length ≤ 140737488351232) (r1 : k_obj.Row S w A1 x.heap) {A2 : Option Addr} {c2 : Nat} (l2 : x.hans.length ≤ c2) (m2 : x.hans.length ≤ 140737488351232) (r2 : k_han.Row S w A2 x.hans) (f3 : (Lit.int .i64 x.quota).wf = true) (f4 : (Lit.int .i64 x.used).wf = true) (f5 : (Lit.int .i64 x.en).wf = true) (f6 : (Lit.int .u64 x.value).wf = true) : k_state.K S w x [.slice A0 x.frames.length c0, .slice A1 x.heap.length c1, .slice A2 x.hans.length c2, .int .i64 x.quota, .int .i64 x.used, .int .i64 x.en, .int .u64 x.value] := ⟨[.slice A0 x.frames.length c0], [.slice A1 x.heap.length c1, .slice A2 x.hans.length c2, .int .i64 x.quota, .int .i64 x.used, .int .i64 x.en, .int .u64 x.value], rfl, ⟨_, rfl, A0, c0, rfl, l0, m0, r0⟩, ⟨[.slice A1 x.heap.length c1], [.slice A2 x.hans.length c2, .int .i64 x.quota, .int .i64 x.used, .int .i64 x.en, .int .u64 x.value], rfl, ⟨_, rfl, A1, c1, rfl, l1, m1, r1⟩, ⟨[.slice A2 x.hans.length c2], [.int .i64 x.quota, .int .i64 x.used, .int .i64 x.en, .int .u64 x.value], rfl, ⟨_, rfl, A2, c2, rfl, l2, m2, r2⟩, ⟨[.int .i64 x.quota], [.int .i64 x.used, .int .i64 x.en, .int .u64 x.value], rfl, ⟨rfl, f3⟩, ⟨[.int .i64 x.used], [.int .i64 x.en, .int .u64 x.value], rfl, ⟨rfl, f4⟩, ⟨[.int .i64 x.en], [.int .u64 x.value], rfl, ⟨rfl, f5⟩, ⟨rfl, f6⟩⟩⟩⟩⟩⟩⟩
theorem k_state_at {S : Nat → Prop} {w : World} {A : Option Addr} {xs : List St} {i : Nat} {x : St} (h : k_state.Row S w A xs) (hx : xs[i]? = some x) : ∃ b o A0 c0 A1 c1 A2 c2, A = some ⟨b, o, none⟩ ∧ S b ∧ w.cell? ⟨b, o + i * 7, none⟩ = some (.slice A0 x.frames.length c0) ∧ w.cell? ⟨b, o + i * 7 + 1, none⟩ = some (.slice A1 x.heap.length c1) ∧ w.cell? ⟨b, o + i * 7 + 2, none⟩ = some (.slice A2 x.hans.length c2) ∧ w.cell? ⟨b, o + i * 7 + 3, none⟩ = some (.int .i64 x.quota) ∧ w.cell? ⟨b, o + i * 7 + 4, none⟩ = some (.int .i64 x.used) ∧ w.cell? ⟨b, o + i * 7 + 5, none⟩ = some (.int .i64 x.en) ∧ w.cell? ⟨b, o + i * 7 + 6, none⟩ = some (.int .u64 x.value) ∧ x.frames.length ≤ c0 ∧ x.frames.length ≤ 140737488351232 ∧ k_frame.Row S w A0 x.frames ∧ x.heap.length ≤ c1 ∧ x.heap.length ≤ 140737488351232 ∧ k_obj.Row S w A1 x.heap ∧ x.hans.length ≤ c2 ∧ x.hans.length ≤ 140737488351232 ∧ k_han.Row S w A2 x.hans ∧ (Lit.int .i64 x.quota).wf = true ∧ (Lit.int .i64 x.used).wf = true ∧ (Lit.int .i64 x.en).wf = true ∧ (Lit.int .u64 x.value).wf = true := by
  obtain ⟨hi, rfl⟩ := List.getElem?_eq_some_iff.1 hx
  obtain ⟨b, o, rfl, hb, hc⟩ := h (by omega)
  obtain ⟨cs, hK, hcell⟩ := hc i hi
  obtain ⟨A0, c0, A1, c1, A2, c2, rfl, l0, m0, r0, l1, m1, r1, l2, m2, r2, f3, f4, f5, f6⟩ := k_state_open hK
  exact ⟨b, o, A0, c0, A1, c1, A2, c2, rfl, hb, hcell 0 _ rfl, hcell 1 _ rfl, hcell 2 _ rfl, hcell 3 _ rfl, hcell 4 _ rfl, hcell 5 _ rfl, hcell 6 _ rfl, l0, m0, r0, l1, m1, r1, l2, m2, r2, f3, f4, f5, f6⟩

/-! Evt -/
structure Evt where
  imp : Int
  args : (List Int)
  deriving Inhabited, DecidableEq
def Evt.zero : Evt := (⟨0, []⟩ : Evt)
def k_event : Rd Evt := ((Rd.int .i64).pair (Rd.slice (Rd.int .u64))).iso (fun x => (x.imp, x.args))
theorem k_event_sz : k_event.sz = 2 := rfl
theorem k_event_open {S : Nat → Prop} {w : World} {x : Evt} {cs : List Value} (h : k_event.K S w x cs) : ∃ A1 c1, cs = [.int .i64 x.imp, .slice A1 x.args.length c1] ∧ (Lit.int .i64 x.imp).wf = true ∧ x.args.length ≤ c1 ∧ x.args.length ≤ 140737488351232 ∧ (Rd.int .u64).Row S w A1 x.args := by
  obtain ⟨_, _, rfl, ⟨rfl, f0⟩, ⟨_, rfl, A1, c1, rfl, l1, m1, r1⟩⟩ := h
  exact ⟨A1, c1, rfl, f0, l1, m1, r1⟩
theorem k_event_mk {S : Nat → Prop} {w : World} (x : Evt) (f0 : (Lit.int .i64 x.imp).wf = true) {A1 : Option Addr} {c1 : Nat} (l1 : x.args.length ≤ c1) (m1 : x.args.length ≤ 140737488351232) (r1 : (Rd.int .u64).Row S w A1 x.args) : k_event.K S w x [.int .i64 x.imp, .slice A1 x.args.length c1] := ⟨[.int .i64 x.imp], [.slice A1 x.args.length c1], rfl, ⟨rfl, f0⟩, ⟨_, rfl, A1, c1, rfl, l1, m1, r1⟩⟩
theorem k_event_at {S : Nat → Prop} {w : World} {A : Option Addr} {xs : List Evt} {i : Nat} {x : Evt} (h : k_event.Row S w A xs) (hx : xs[i]? = some x) : ∃ b o A1 c1, A = some ⟨b, o, none⟩ ∧ S b ∧ w.cell? ⟨b, o + i * 2, none⟩ = some (.int .i64 x.imp) ∧ w.cell? ⟨b, o + i * 2 + 1, none⟩ = some (.slice A1 x.args.length c1) ∧ (Lit.int .i64 x.imp).wf = true ∧ x.args.length ≤ c1 ∧ x.args.length ≤ 140737488351232 ∧ (Rd.int .u64).Row S w A1 x.args := by
  obtain ⟨hi, rfl⟩ := List.getElem?_eq_some_iff.1 hx
  obtain ⟨b, o, rfl, hb, hc⟩ := h (by omega)
  obtain ⟨cs, hK, hcell⟩ := hc i hi
  obtain ⟨A1, c1, rfl, f0, l1, m1, r1⟩ := k_event_open hK
  exact ⟨b, o, A1, c1, rfl, hb, hcell 0 _ rfl, hcell 1 _ rfl, f0, l1, m1, r1⟩

/-! Odr -/
structure Odr where
  kind : Int
  a : Int
  b : Int
  c : Int
  deriving Inhabited, DecidableEq
def Odr.zero : Odr := (⟨0, 0, 0, 0⟩ : Odr)
def k_order : Rd Odr := ((Rd.int .i64).pair ((Rd.int .i64).pair ((Rd.int .i64).pair (Rd.int .i64)))).iso (fun x => (x.kind, x.a, x.b, x.c))
theorem k_order_sz : k_order.sz = 4 := rfl
theorem k_order_open {S : Nat → Prop} {w : World} {x : Odr} {cs : List Value} (h : k_order.K S w x cs) : cs = [.int .i64 x.kind, .int .i64 x.a, .int .i64 x.b, .int .i64 x.c] ∧ (Lit.int .i64 x.kind).wf = true ∧ (Lit.int .i64 x.a).wf = true ∧ (Lit.int .i64 x.b).wf = true ∧ (Lit.int .i64 x.c).wf = true := by
  obtain ⟨_, _, rfl, ⟨rfl, f0⟩, ⟨_, _, rfl, ⟨rfl, f1⟩, ⟨_, _, rfl, ⟨rfl, f2⟩, ⟨rfl, f3⟩⟩⟩⟩ := h
  exact ⟨rfl, f0, f1, f2, f3⟩
theorem k_order_mk {S : Nat → Prop} {w : World} (x : Odr) (f0 : (Lit.int .i64 x.kind).wf = true) (f1 : (Lit.int .i64 x.a).wf = true) (f2 : (Lit.int .i64 x.b).wf = true) (f3 : (Lit.int .i64 x.c).wf = true) : k_order.K S w x [.int .i64 x.kind, .int .i64 x.a, .int .i64 x.b, .int .i64 x.c] := ⟨[.int .i64 x.kind], [.int .i64 x.a, .int .i64 x.b, .int .i64 x.c], rfl, ⟨rfl, f0⟩, ⟨[.int .i64 x.a], [.int .i64 x.b, .int .i64 x.c], rfl, ⟨rfl, f1⟩, ⟨[.int .i64 x.b], [.int .i64 x.c], rfl, ⟨rfl, f2⟩, ⟨rfl, f3⟩⟩⟩⟩
theorem k_order_at {S : Nat → Prop} {w : World} {A : Option Addr} {xs : List Odr} {i : Nat} {x : Odr} (h : k_order.Row S w A xs) (hx : xs[i]? = some x) : ∃ b o , A = some ⟨b, o, none⟩ ∧ S b ∧ w.cell? ⟨b, o + i * 4, none⟩ = some (.int .i64 x.kind) ∧ w.cell? ⟨b, o + i * 4 + 1, none⟩ = some (.int .i64 x.a) ∧ w.cell? ⟨b, o + i * 4 + 2, none⟩ = some (.int .i64 x.b) ∧ w.cell? ⟨b, o + i * 4 + 3, none⟩ = some (.int .i64 x.c) ∧ (Lit.int .i64 x.kind).wf = true ∧ (Lit.int .i64 x.a).wf = true ∧ (Lit.int .i64 x.b).wf = true ∧ (Lit.int .i64 x.c).wf = true := by
  obtain ⟨hi, rfl⟩ := List.getElem?_eq_some_iff.1 hx
  obtain ⟨b, o, rfl, hb, hc⟩ := h (by omega)
  obtain ⟨cs, hK, hcell⟩ := hc i hi
  obtain ⟨rfl, f0, f1, f2, f3⟩ := k_order_open hK
  exact ⟨b, o, rfl, hb, hcell 0 _ rfl, hcell 1 _ rfl, hcell 2 _ rfl, hcell 3 _ rfl, f0, f1, f2, f3⟩

/-! HanAct -/
structure HanAct where
  what : Int
  kind : Int
  n : Int
  deriving Inhabited, DecidableEq
def HanAct.zero : HanAct := (⟨0, 0, 0⟩ : HanAct)
def k_hanact : Rd HanAct := ((Rd.int .i64).pair ((Rd.int .i64).pair (Rd.int .u64))).iso (fun x => (x.what, x.kind, x.n))
theorem k_hanact_sz : k_hanact.sz = 3 := rfl
theorem k_hanact_open {S : Nat → Prop} {w : World} {x : HanAct} {cs : List Value} (h : k_hanact.K S w x cs) : cs = [.int .i64 x.what, .int .i64 x.kind, .int .u64 x.n] ∧ (Lit.int .i64 x.what).wf = true ∧ (Lit.int .i64 x.kind).wf = true ∧ (Lit.int .u64 x.n).wf = true := by
  obtain ⟨_, _, rfl, ⟨rfl, f0⟩, ⟨_, _, rfl, ⟨rfl, f1⟩, ⟨rfl, f2⟩⟩⟩ := h
  exact ⟨rfl, f0, f1, f2⟩
theorem k_hanact_mk {S : Nat → Prop} {w : World} (x : HanAct) (f0 : (Lit.int .i64 x.what).wf = true) (f1 : (Lit.int .i64 x.kind).wf = true) (f2 : (Lit.int .u64 x.n).wf = true) : k_hanact.K S w x [.int .i64 x.what, .int .i64 x.kind, .int .u64 x.n] := ⟨[.int .i64 x.what], [.int .i64 x.kind, .int .u64 x.n], rfl, ⟨rfl, f0⟩, ⟨[.int .i64 x.kind], [.int .u64 x.n], rfl, ⟨rfl, f1⟩, ⟨rfl, f2⟩⟩⟩
theorem k_hanact_at {S : Nat → Prop} {w : World} {A : Option Addr} {xs : List HanAct} {i : Nat} {x : HanAct} (h : k_hanact.Row S w A xs) (hx : xs[i]? = some x) : ∃ b o , A = some ⟨b, o, none⟩ ∧ S b ∧ w.cell? ⟨b, o + i * 3, none⟩ = some (.int .i64 x.what) ∧ w.cell? ⟨b, o + i * 3 + 1, none⟩ = some (.int .i64 x.kind) ∧ w.cell? ⟨b, o + i * 3 + 2, none⟩ = some (.int .u64 x.n) ∧ (Lit.int .i64 x.what).wf = true ∧ (Lit.int .i64 x.kind).wf = true ∧ (Lit.int .u64 x.n).wf = true := by
  obtain ⟨hi, rfl⟩ := List.getElem?_eq_some_iff.1 hx
  obtain ⟨b, o, rfl, hb, hc⟩ := h (by omega)
  obtain ⟨cs, hK, hcell⟩ := hc i hi
  obtain ⟨rfl, f0, f1, f2⟩ := k_hanact_open hK
  exact ⟨b, o, rfl, hb, hcell 0 _ rfl, hcell 1 _ rfl, hcell 2 _ rfl, f0, f1, f2⟩

/-! Ask -/
structure Ask where
  what : Int
  n : Int
  deriving Inhabited, DecidableEq
def Ask.zero : Ask := (⟨0, 0⟩ : Ask)
def k_ask : Rd Ask := ((Rd.int .i64).pair (Rd.int .i64)).iso (fun x => (x.what, x.n))
theorem k_ask_sz : k_ask.sz = 2 := rfl
theorem k_ask_open {S : Nat → Prop} {w : World} {x : Ask} {cs : List Value} (h : k_ask.K S w x cs) : cs = [.int .i64 x.what, .int .i64 x.n] ∧ (Lit.int .i64 x.what).wf = true ∧ (Lit.int .i64 x.n).wf = true := by
  obtain ⟨_, _, rfl, ⟨rfl, f0⟩, ⟨rfl, f1⟩⟩ := h
  exact ⟨rfl, f0, f1⟩
theorem k_ask_mk {S : Nat → Prop} {w : World} (x : Ask) (f0 : (Lit.int .i64 x.what).wf = true) (f1 : (Lit.int .i64 x.n).wf = true) : k_ask.K S w x [.int .i64 x.what, .int .i64 x.n] := ⟨[.int .i64 x.what], [.int .i64 x.n], rfl, ⟨rfl, f0⟩, ⟨rfl, f1⟩⟩
theorem k_ask_at {S : Nat → Prop} {w : World} {A : Option Addr} {xs : List Ask} {i : Nat} {x : Ask} (h : k_ask.Row S w A xs) (hx : xs[i]? = some x) : ∃ b o , A = some ⟨b, o, none⟩ ∧ S b ∧ w.cell? ⟨b, o + i * 2, none⟩ = some (.int .i64 x.what) ∧ w.cell? ⟨b, o + i * 2 + 1, none⟩ = some (.int .i64 x.n) ∧ (Lit.int .i64 x.what).wf = true ∧ (Lit.int .i64 x.n).wf = true := by
  obtain ⟨hi, rfl⟩ := List.getElem?_eq_some_iff.1 hx
  obtain ⟨b, o, rfl, hb, hc⟩ := h (by omega)
  obtain ⟨cs, hK, hcell⟩ := hc i hi
  obtain ⟨rfl, f0, f1⟩ := k_ask_open hK
  exact ⟨b, o, rfl, hb, hcell 0 _ rfl, hcell 1 _ rfl, f0, f1⟩
theorem row_u64_at {S : Nat → Prop} {w : World} {A : Option Addr} {xs : List Int} {i : Nat} {x : Int} (h : (Rd.int .u64).Row S w A xs) (hx : xs[i]? = some x) : ∃ b o, A = some ⟨b, o, none⟩ ∧ S b ∧ w.cell? ⟨b, o + i, none⟩ = some (.int .u64 x) ∧ (Lit.int .u64 x).wf = true := by
  obtain ⟨hi, rfl⟩ := List.getElem?_eq_some_iff.1 hx
  obtain ⟨b, o, rfl, hb, hc⟩ := h (by omega)
  obtain ⟨cs, ⟨rfl, hw⟩, hcell⟩ := hc i hi
  refine ⟨b, o, rfl, hb, ?_, hw⟩
  have h1 := hcell 0 _ rfl
  simpa [Rd.int, Rd.str] using h1
theorem row_i64_at {S : Nat → Prop} {w : World} {A : Option Addr} {xs : List Int} {i : Nat} {x : Int} (h : (Rd.int .i64).Row S w A xs) (hx : xs[i]? = some x) : ∃ b o, A = some ⟨b, o, none⟩ ∧ S b ∧ w.cell? ⟨b, o + i, none⟩ = some (.int .i64 x) ∧ (Lit.int .i64 x).wf = true := by
  obtain ⟨hi, rfl⟩ := List.getElem?_eq_some_iff.1 hx
  obtain ⟨b, o, rfl, hb, hc⟩ := h (by omega)
  obtain ⟨cs, ⟨rfl, hw⟩, hcell⟩ := hc i hi
  refine ⟨b, o, rfl, hb, ?_, hw⟩
  have h1 := hcell 0 _ rfl
  simpa [Rd.int, Rd.str] using h1
theorem row_u8_at {S : Nat → Prop} {w : World} {A : Option Addr} {xs : List Int} {i : Nat} {x : Int} (h : (Rd.int .u8).Row S w A xs) (hx : xs[i]? = some x) : ∃ b o, A = some ⟨b, o, none⟩ ∧ S b ∧ w.cell? ⟨b, o + i, none⟩ = some (.int .u8 x) ∧ (Lit.int .u8 x).wf = true := by
  obtain ⟨hi, rfl⟩ := List.getElem?_eq_some_iff.1 hx
  obtain ⟨b, o, rfl, hb, hc⟩ := h (by omega)
  obtain ⟨cs, ⟨rfl, hw⟩, hcell⟩ := hc i hi
  refine ⟨b, o, rfl, hb, ?_, hw⟩
  have h1 := hcell 0 _ rfl
  simpa [Rd.int, Rd.str] using h1
theorem row_str_at {S : Nat → Prop} {w : World} {A : Option Addr} {xs : List ByteArray} {i : Nat} {x : ByteArray} (h : Rd.str.Row S w A xs) (hx : xs[i]? = some x) : ∃ b o, A = some ⟨b, o, none⟩ ∧ S b ∧ w.cell? ⟨b, o + i, none⟩ = some (.string x) ∧ x.size ≤ 140737488351232 := by
  obtain ⟨hi, rfl⟩ := List.getElem?_eq_some_iff.1 hx
  obtain ⟨b, o, rfl, hb, hc⟩ := h (by omega)
  obtain ⟨cs, ⟨rfl, hw⟩, hcell⟩ := hc i hi
  refine ⟨b, o, rfl, hb, ?_, hw⟩
  have h1 := hcell 0 _ rfl
  simpa [Rd.int, Rd.str] using h1
theorem row_slice_at {α : Type} {d : Rd α} {S : Nat → Prop} {w : World} {A : Option Addr} {xs : List (List α)} {i : Nat} {x : List α} (h : (Rd.slice d).Row S w A xs) (hx : xs[i]? = some x) : ∃ b o A0 c0, A = some ⟨b, o, none⟩ ∧ S b ∧ w.cell? ⟨b, o + i, none⟩ = some (.slice A0 x.length c0) ∧ x.length ≤ c0 ∧ x.length ≤ 140737488351232 ∧ d.Row S w A0 x := by
  obtain ⟨hi, rfl⟩ := List.getElem?_eq_some_iff.1 hx
  obtain ⟨b, o, rfl, hb, hc⟩ := h (by omega)
  obtain ⟨cs, ⟨_, rfl, A0, c0, rfl, l0, m0, r0⟩, hcell⟩ := hc i hi
  refine ⟨b, o, A0, c0, rfl, hb, ?_, l0, m0, r0⟩
  have h1 := hcell 0 _ rfl
  simpa [Rd.slice] using h1
end Go.Proofs.YtdmmjckhpagibaaGreatDoor
