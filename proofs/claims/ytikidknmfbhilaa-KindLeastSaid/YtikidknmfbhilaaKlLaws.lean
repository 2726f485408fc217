/- The walks of KindTypes, KindChain. -/
import Derived.Test.YtikidknmfbhilaaKlGood
namespace Go.Proofs.Ytikidknmfbhilaa
open Go.RowKit
set_option linter.unusedVariables false
theorem sub_refl (a : Ty) : sub a a = true := by simp [sub]
theorem join_refl (a : Ty) : join a a = a := by simp [join, sub_refl]
theorem isRef_iff (k : Int) : isRef k = true ↔ (k = 2 ∨ k = 3 ∨ k = 4 ∨ k = 6 ∨ k = 7) := by simp [isRef]; omega
theorem sub_iff (a b : Ty) : sub a b = true ↔ ((a.kind = b.kind ∧ a.n = b.n) ∨ b.kind = 8 ∨ ((a.kind = 2 ∨ a.kind = 3 ∨ a.kind = 4 ∨ a.kind = 6 ∨ a.kind = 7) ∧ (b.kind = 2 ∨ b.kind = 3 ∨ b.kind = 4 ∨ b.kind = 6 ∨ b.kind = 7) ∧ (a.kind = 6 ∨ b.kind = 7))) := by
  unfold sub
  simp only [Bool.or_eq_true, Bool.and_eq_true, decide_eq_true_eq, isRef_iff]
  have : a = b ↔ (a.kind = b.kind ∧ a.n = b.n) := by
    constructor
    · rintro rfl; exact ⟨rfl, rfl⟩
    · rintro ⟨h1, h2⟩; cases a; cases b; simp_all
  rw [this]
  constructor
  · rintro ((h | h) | ⟨⟨h1, h2⟩, h3⟩)
    · exact .inl h
    · exact .inr (.inl h)
    · exact .inr (.inr ⟨h1, h2, h3⟩)
  · rintro (h | h | ⟨h1, h2, h3⟩)
    · exact .inl (.inl h)
    · exact .inl (.inr h)
    · exact .inr ⟨⟨h1, h2⟩, h3⟩
theorem sub_trans {a b c : Ty} (h1 : sub a b = true) (h2 : sub b c = true) : sub a c = true := by
  rw [sub_iff] at *
  obtain ⟨ak, an⟩ := a; obtain ⟨bk, bn⟩ := b; obtain ⟨ck, cn⟩ := c
  simp only at *
  omega
/-- Three boxes of two cells in a world that has grown. -/
theorem box222 {W w1 : World} {g k m : Nat} {t t' t2 : TypeId} {a b A B p q : Value} (h : W.heap[g]? = some (.cells #[a, b] t (0, 0))) (h' : W.heap[k]? = some (.cells #[A, B] t' (0, 0))) (h2 : W.heap[m]? = some (.cells #[p, q] t2 (0, 0))) (hb : Below W.heap.size W w1) :
    w1.cell? ⟨g, 0, none⟩ = some a ∧ w1.cell? ⟨g, 1, none⟩ = some b ∧ w1.cell? ⟨k, 0, none⟩ = some A ∧ w1.cell? ⟨k, 1, none⟩ = some B ∧ w1.cell? ⟨m, 0, none⟩ = some p ∧ w1.cell? ⟨m, 1, none⟩ = some q ∧ Below W.heap.size W w1 := by
  have hc := blk_cell (blk_below h hb (blk_lt h))
  have hc' := blk_cell (blk_below h' hb (blk_lt h'))
  have hc2 := blk_cell (blk_below h2 hb (blk_lt h2))
  exact ⟨hc 0, hc 1, hc' 0, hc' 1, hc2 0, hc2 1, hb⟩
theorem held6 {a b A B p q : Prop} {W w1 w2 : World} (h : a ∧ b ∧ A ∧ B ∧ p ∧ q ∧ Below W.heap.size W w1) (hb : Below w1.heap.size w1 w2) : Below W.heap.size W w2 :=
  h.2.2.2.2.2.2.trans (hb.mono h.2.2.2.2.2.2.size)
attribute [local irreducible] sub join good isRef
end Go.Proofs.Ytikidknmfbhilaa
