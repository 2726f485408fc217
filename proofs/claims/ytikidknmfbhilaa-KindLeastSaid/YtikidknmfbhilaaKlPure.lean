/- What two types have in common, plainly. -/
import Derived.Test.YtikidknmfbhilaaKlLaws
namespace Go.Proofs.Ytikidknmfbhilaa
open Go.RowKit
set_option linter.unusedVariables false
def okT (k n : Int) : Prop := 1 ≤ k ∧ k ≤ 8 ∧ (k = 4 ∨ k = 5 ∨ n = 0)
theorem sub_false_iff (a b : Ty) : sub a b = false ↔ ¬ ((a.kind = b.kind ∧ a.n = b.n) ∨ b.kind = 8 ∨ ((a.kind = 2 ∨ a.kind = 3 ∨ a.kind = 4 ∨ a.kind = 6 ∨ a.kind = 7) ∧ (b.kind = 2 ∨ b.kind = 3 ∨ b.kind = 4 ∨ b.kind = 6 ∨ b.kind = 7) ∧ (a.kind = 6 ∨ b.kind = 7))) := by
  rw [← sub_iff]; simp
theorem join_ways (a b : Ty) : (sub a b = true ∧ join a b = b) ∨ (sub a b = false ∧ sub b a = true ∧ join a b = a) ∨ (sub a b = false ∧ sub b a = false ∧ isRef a.kind = true ∧ isRef b.kind = true ∧ join a b = ⟨7, 0⟩) ∨ (sub a b = false ∧ sub b a = false ∧ ¬ (isRef a.kind = true ∧ isRef b.kind = true) ∧ join a b = ⟨8, 0⟩) := by
  unfold join
  cases h1 : sub a b <;> cases h2 : sub b a <;> cases h3 : isRef a.kind <;> cases h4 : isRef b.kind <;> simp
theorem ty_ext {a b : Ty} (h1 : a.kind = b.kind) (h2 : a.n = b.n) : a = b := by cases a; cases b; simp_all
theorem sub_anti {a b : Ty} (ha : okT a.kind a.n) (hb : okT b.kind b.n) (h1 : sub a b = true) (h2 : sub b a = true) : a = b := by
  unfold okT at ha hb
  rw [sub_iff] at h1 h2
  obtain ⟨ak, an⟩ := a; obtain ⟨bk, bn⟩ := b
  simp only at *
  exact ty_ext (show ak = bk by omega) (show an = bn by omega)
theorem join_comm_ok {a b : Ty} (ha : okT a.kind a.n) (hb : okT b.kind b.n) : join a b = join b a := by
  unfold join
  cases h1 : sub a b <;> cases h2 : sub b a
  · simp [Bool.and_comm]
  · simp
  · simp
  · simpa using (sub_anti ha hb h1 h2).symm
theorem sub_join_left {a b : Ty} : sub a (join a b) = true := by
  rcases join_ways a b with ⟨h1, e⟩ | ⟨h1, h2, e⟩ | ⟨h1, h2, h3, h4, e⟩ | ⟨h1, h2, h3, e⟩ <;> rw [e]
  · exact h1
  · exact sub_refl a
  · rw [isRef_iff] at h3; exact (sub_iff _ _).2 (.inr (.inr ⟨h3, by simp, .inr rfl⟩))
  · rw [sub_iff]; simp
theorem sub_join_right {a b : Ty} : sub b (join a b) = true := by
  rcases join_ways a b with ⟨h1, e⟩ | ⟨h1, h2, e⟩ | ⟨h1, h2, h3, h4, e⟩ | ⟨h1, h2, h3, e⟩ <;> rw [e]
  · exact sub_refl b
  · exact h2
  · rw [isRef_iff] at h4; exact (sub_iff _ _).2 (.inr (.inr ⟨h4, by simp, .inr rfl⟩))
  · rw [sub_iff]; simp
theorem join_least {a b c : Ty} (ha : okT a.kind a.n) (hb : okT b.kind b.n) (hc : okT c.kind c.n) (h1 : sub a c = true) (h2 : sub b c = true) : sub (join a b) c = true := by
  unfold okT at ha hb hc
  rcases join_ways a b with ⟨g1, e⟩ | ⟨g1, g2, e⟩ | ⟨g1, g2, g3, g4, e⟩ | ⟨g1, g2, g3, e⟩ <;> rw [e] <;> clear e
  · exact h2
  · exact h1
  · rw [sub_iff] at h1 h2 ⊢
    rw [sub_false_iff] at g1 g2
    rw [isRef_iff] at g3 g4
    obtain ⟨ak, an⟩ := a; obtain ⟨bk, bn⟩ := b; obtain ⟨ck, cn⟩ := c
    simp only at *
    omega
  · rw [sub_iff] at h1 h2 ⊢
    rw [sub_false_iff] at g1 g2
    rw [isRef_iff, isRef_iff] at g3
    obtain ⟨ak, an⟩ := a; obtain ⟨bk, bn⟩ := b; obtain ⟨ck, cn⟩ := c
    simp only at *
    omega
end Go.Proofs.Ytikidknmfbhilaa
