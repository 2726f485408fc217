/- Chapter 12's Act, and what its cells say. Printed by gen_heapact.py of this repo. -/
import Derived.Test.YtmcjjikhdjoopaaData
namespace Go.Proofs.Ytmcjjikhdjoopaa
open Go.RowKit
set_option linter.unusedVariables false
/-! HeapAct -/
structure HeapAct where
  what : Int
  obj : Ob
  ref : Int
  n : Int
  v : Int
  deriving Inhabited, DecidableEq
def HeapAct.zero : HeapAct := (⟨0, (⟨0, 0, [], []⟩ : Ob), 0, 0, 0⟩ : HeapAct)
def k_heapact : Rd HeapAct := ((Rd.int .i64).pair (k_obj.pair ((Rd.int .u64).pair ((Rd.int .u64).pair (Rd.int .u64))))).iso (fun x => (x.what, x.obj, x.ref, x.n, x.v))
theorem k_heapact_sz : k_heapact.sz = 8 := rfl
theorem k_heapact_open {S : Nat → Prop} {w : World} {x : HeapAct} {cs : List Value} (h : k_heapact.K S w x cs) : ∃ A3 c3 A4 c4, cs = [.int .i64 x.what, .int .i64 x.obj.kind, .int .i64 x.obj.n, .slice A3 x.obj.words.length c3, .slice A4 x.obj.bytes.length c4, .int .u64 x.ref, .int .u64 x.n, .int .u64 x.v] ∧ (Lit.int .i64 x.what).wf = true ∧ (Lit.int .i64 x.obj.kind).wf = true ∧ (Lit.int .i64 x.obj.n).wf = true ∧ x.obj.words.length ≤ c3 ∧ x.obj.words.length ≤ 140737488351232 ∧ (Rd.int .u64).Row S w A3 x.obj.words ∧ x.obj.bytes.length ≤ c4 ∧ x.obj.bytes.length ≤ 140737488351232 ∧ (Rd.int .u8).Row S w A4 x.obj.bytes ∧ (Lit.int .u64 x.ref).wf = true ∧ (Lit.int .u64 x.n).wf = true ∧ (Lit.int .u64 x.v).wf = true := by
  obtain ⟨_, _, rfl, ⟨rfl, f0⟩, ⟨_, _, rfl, ⟨_, _, rfl, ⟨rfl, f1⟩, ⟨_, _, rfl, ⟨rfl, f2⟩, ⟨_, _, rfl, ⟨_, rfl, A3, c3, rfl, l3, m3, r3⟩, ⟨_, rfl, A4, c4, rfl, l4, m4, r4⟩⟩⟩⟩, ⟨_, _, rfl, ⟨rfl, f5⟩, ⟨_, _, rfl, ⟨rfl, f6⟩, ⟨rfl, f7⟩⟩⟩⟩⟩ := h
  exact ⟨A3, c3, A4, c4, rfl, f0, f1, f2, l3, m3, r3, l4, m4, r4, f5, f6, f7⟩
theorem k_heapact_mk {S : Nat → Prop} {w : World} (x : HeapAct) (f0 : (Lit.int .i64 x.what).wf = true) (f1 : (Lit.int .i64 x.obj.kind).wf = true) (f2 : (Lit.int .i64 x.obj.n).wf = true) {A3 : Option Addr} {c3 : Nat} (l3 : x.obj.words.length ≤ c3) (m3 : x.obj.words.length ≤ 140737488351232) (r3 : (Rd.int .u64).Row S w A3 x.obj.words) {A4 : Option Addr} {c4 : Nat} (l4 : x.obj.bytes.length ≤ c4) (m4 : x.obj.bytes.length ≤ 140737488351232) (r4 : (Rd.int .u8).Row S w A4 x.obj.bytes) (f5 : (Lit.int .u64 x.ref).wf = true) (f6 : (Lit.int .u64 x.n).wf = true) (f7 : (Lit.int .u64 x.v).wf = true) : k_heapact.K S w x [.int .i64 x.what, .int .i64 x.obj.kind, .int .i64 x.obj.n, .slice A3 x.obj.words.length c3, .slice A4 x.obj.bytes.length c4, .int .u64 x.ref, .int .u64 x.n, .int .u64 x.v] := ⟨[.int .i64 x.what], [.int .i64 x.obj.kind, .int .i64 x.obj.n, .slice A3 x.obj.words.length c3, .slice A4 x.obj.bytes.length c4, .int .u64 x.ref, .int .u64 x.n, .int .u64 x.v], rfl, ⟨rfl, f0⟩, ⟨[.int .i64 x.obj.kind, .int .i64 x.obj.n, .slice A3 x.obj.words.length c3, .slice A4 x.obj.bytes.length c4], [.int .u64 x.ref, .int .u64 x.n, .int .u64 x.v], rfl, ⟨[.int .i64 x.obj.kind], [.int .i64 x.obj.n, .slice A3 x.obj.words.length c3, .slice A4 x.obj.bytes.length c4], rfl, ⟨rfl, f1⟩, ⟨[.int .i64 x.obj.n], [.slice A3 x.obj.words.length c3, .slice A4 x.obj.bytes.length c4], rfl, ⟨rfl, f2⟩, ⟨[.slice A3 x.obj.words.length c3], [.slice A4 x.obj.bytes.length c4], rfl, ⟨_, rfl, A3, c3, rfl, l3, m3, r3⟩, ⟨_, rfl, A4, c4, rfl, l4, m4, r4⟩⟩⟩⟩, ⟨[.int .u64 x.ref], [.int .u64 x.n, .int .u64 x.v], rfl, ⟨rfl, f5⟩, ⟨[.int .u64 x.n], [.int .u64 x.v], rfl, ⟨rfl, f6⟩, ⟨rfl, f7⟩⟩⟩⟩⟩
theorem k_heapact_at {S : Nat → Prop} {w : World} {A : Option Addr} {xs : List HeapAct} {i : Nat} {x : HeapAct} (h : k_heapact.Row S w A xs) (hx : xs[i]? = some x) : ∃ b o A3 c3 A4 c4, A = some ⟨b, o, none⟩ ∧ S b ∧ w.cell? ⟨b, o + i * 8, none⟩ = some (.int .i64 x.what) ∧ w.cell? ⟨b, o + i * 8 + 1, none⟩ = some (.int .i64 x.obj.kind) ∧ w.cell? ⟨b, o + i * 8 + 2, none⟩ = some (.int .i64 x.obj.n) ∧ w.cell? ⟨b, o + i * 8 + 3, none⟩ = some (.slice A3 x.obj.words.length c3) ∧ w.cell? ⟨b, o + i * 8 + 4, none⟩ = some (.slice A4 x.obj.bytes.length c4) ∧ w.cell? ⟨b, o + i * 8 + 5, none⟩ = some (.int .u64 x.ref) ∧ w.cell? ⟨b, o + i * 8 + 6, none⟩ = some (.int .u64 x.n) ∧ w.cell? ⟨b, o + i * 8 + 7, none⟩ = some (.int .u64 x.v) ∧ (Lit.int .i64 x.what).wf = true ∧ (Lit.int .i64 x.obj.kind).wf = true ∧ (Lit.int .i64 x.obj.n).wf = true ∧ x.obj.words.length ≤ c3 ∧ x.obj.words.length ≤ 140737488351232 ∧ (Rd.int .u64).Row S w A3 x.obj.words ∧ x.obj.bytes.length ≤ c4 ∧ x.obj.bytes.length ≤ 140737488351232 ∧ (Rd.int .u8).Row S w A4 x.obj.bytes ∧ (Lit.int .u64 x.ref).wf = true ∧ (Lit.int .u64 x.n).wf = true ∧ (Lit.int .u64 x.v).wf = true := by
  obtain ⟨hi, rfl⟩ := List.getElem?_eq_some_iff.1 hx
  obtain ⟨b, o, rfl, hb, hc⟩ := h (by omega)
  obtain ⟨cs, hK, hcell⟩ := hc i hi
  obtain ⟨A3, c3, A4, c4, rfl, f0, f1, f2, l3, m3, r3, l4, m4, r4, f5, f6, f7⟩ := k_heapact_open hK
  exact ⟨b, o, A3, c3, A4, c4, rfl, hb, hcell 0 _ rfl, hcell 1 _ rfl, hcell 2 _ rfl, hcell 3 _ rfl, hcell 4 _ rfl, hcell 5 _ rfl, hcell 6 _ rfl, hcell 7 _ rfl, f0, f1, f2, l3, m3, r3, l4, m4, r4, f5, f6, f7⟩
end Go.Proofs.Ytmcjjikhdjoopaa
