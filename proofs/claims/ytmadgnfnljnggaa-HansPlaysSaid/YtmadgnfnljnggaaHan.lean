/- Handles: their cells, and a row of them that a call owns. -/
import Derived.Test.YtmadgnfnljnggaaOwn
namespace Go.Proofs.Ytmadgnfnljnggaa
open Go.RowKit
set_option linter.unusedVariables false
def Han.cells (h : Han) : List Value := [.int .i64 h.kind, .int .u64 h.desc, .bool h.opn]
def Han.wf (h : Han) : Prop := (Lit.int .i64 h.kind).wf = true ∧ (Lit.int .u64 h.desc).wf = true
def hcells (hs : List Han) : List Value := hs.flatMap Han.cells
theorem hcells_cons (h : Han) (hs : List Han) : hcells (h :: hs) = h.cells ++ hcells hs := rfl
theorem hcells_append (a b : List Han) : hcells (a ++ b) = hcells a ++ hcells b := by simp [hcells]
theorem hcells_length (hs : List Han) : (hcells hs).length = hs.length * 3 := by
  induction hs with
  | nil => rfl
  | cons h hs ih => rw [hcells_cons, List.length_append, ih]; simp [Han.cells]; omega
theorem hcells_one (hs : List Han) : ∀ u ∈ hcells hs, u.oneCell' = true := by
  intro u hu
  simp only [hcells, List.mem_flatMap, Han.cells] at hu
  obtain ⟨h, _, hu⟩ := hu
  simp at hu
  rcases hu with rfl | rfl | rfl <;> rfl
theorem hcells_at (hs : List Han) (k : Nat) (h : Han) (hk : hs[k]? = some h) : (hcells hs)[k * 3]? = some (.int .i64 h.kind) ∧ (hcells hs)[k * 3 + 1]? = some (.int .u64 h.desc) ∧ (hcells hs)[k * 3 + 2]? = some (.bool h.opn) := by
  induction hs generalizing k with
  | nil => simp at hk
  | cons x hs ih =>
    rw [hcells_cons]
    cases k with
    | zero => simp at hk; subst hk; simp [Han.cells]
    | succ k =>
      simp at hk
      have := ih k hk
      have hl : x.cells.length = 3 := rfl
      rw [List.getElem?_append_right (by omega), List.getElem?_append_right (by omega), List.getElem?_append_right (by omega), hl, show (k + 1) * 3 - 3 = k * 3 by omega, show (k + 1) * 3 + 1 - 3 = k * 3 + 1 by omega, show (k + 1) * 3 + 2 - 3 = k * 3 + 2 by omega]
      exact this
theorem hcells_set (hs : List Han) (k : Nat) (h : Han) (hk : hs[k]? = some h) (b : Bool) : (hcells hs).set (k * 3 + 2) (.bool b) = hcells (hs.set k { h with opn := b }) := by
  induction hs generalizing k with
  | nil => simp at hk
  | cons x hs ih =>
    rw [hcells_cons]
    cases k with
    | zero => simp at hk; subst hk; simp [Han.cells, hcells_cons]
    | succ k =>
      simp at hk
      have hl : x.cells.length = 3 := rfl
      rw [List.set_append_right _ _ (by omega), hl, show (k + 1) * 3 + 2 - 3 = k * 3 + 2 by omega, ih k hk]
      rfl
theorem hcells_set1 (hs : List Han) (k : Nat) (h : Han) (hk : hs[k]? = some h) (d : Int) : (hcells hs).set (k * 3 + 1) (.int .u64 d) = hcells (hs.set k { h with desc := d }) := by
  induction hs generalizing k with
  | nil => simp at hk
  | cons x hs ih =>
    rw [hcells_cons]
    cases k with
    | zero => simp at hk; subst hk; simp [Han.cells, hcells_cons]
    | succ k =>
      simp at hk
      have hl : x.cells.length = 3 := rfl
      rw [List.set_append_right _ _ (by omega), hl, show (k + 1) * 3 + 1 - 3 = k * 3 + 1 by omega, ih k hk]
      rfl
theorem han_flat {S : Nat → Prop} {w : World} {hs : List Han} {cells : List Value} : k_han.Flat S w hs cells ↔ cells = hcells hs ∧ ∀ h ∈ hs, h.wf := by
  induction hs generalizing cells with
  | nil => simp [Rd.Flat, hcells]
  | cons h hs ih =>
    constructor
    · rintro ⟨c, r, rfl, hK, hr⟩
      obtain ⟨rfl, f0, f1⟩ := k_han_open hK
      obtain ⟨rfl, hw⟩ := ih.1 hr
      exact ⟨rfl, fun x hx => by
        rcases List.mem_cons.1 hx with rfl | hx
        · exact ⟨f0, f1⟩
        · exact hw x hx⟩
    · rintro ⟨rfl, hw⟩
      exact ⟨h.cells, hcells hs, rfl, k_han_mk h (hw h (by simp)).1 (hw h (by simp)).2, ih.2 ⟨rfl, fun x hx => hw x (by simp [hx])⟩⟩
theorem han_info : (Try.prog.info? 35).map (fun i => (i.zero, i.size, i.bytes)) = some (some (.agg #[.int .i64 0, .int .u64 0, .bool false]), 3, 24) := by kernel_rfl
end Go.Proofs.Ytmadgnfnljnggaa
