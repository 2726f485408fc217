/- kind.Good; kind.Sub and kind.Join over letters. Printed by gen_mc.py of this repo out of XGood. -/
import Derived.Test.YtdmmjckhpagibaaGreatDoorKlJoin
namespace Go.Proofs.YtdmmjckhpagibaaGreatDoor
open Go.RowKit
set_option linter.unusedVariables false
theorem kind_ways (k : Int) : k = 1 ∨ k = 2 ∨ k = 3 ∨ k = 7 ∨ k = 4 ∨ k = 5 ∨ ((k == 1) = false ∧ (k == 2) = false ∧ (k == 3) = false ∧ (k == 7) = false ∧ (k == 4) = false ∧ (k == 5) = false ∧ ∀ n r, good ⟨k, n⟩ r = false) := by
  have h : k = 1 ∨ k = 2 ∨ k = 3 ∨ k = 7 ∨ k = 4 ∨ k = 5 ∨ (k ≠ 1 ∧ k ≠ 2 ∧ k ≠ 3 ∧ k ≠ 7 ∧ k ≠ 4 ∧ k ≠ 5) := by omega
  rcases h with h | h | h | h | h | h | ⟨h1, h2, h3, h4, h5, h6⟩
  · exact .inl h
  · exact .inr (.inl h)
  · exact .inr (.inr (.inl h))
  · exact .inr (.inr (.inr (.inl h)))
  · exact .inr (.inr (.inr (.inr (.inl h))))
  · exact .inr (.inr (.inr (.inr (.inr (.inl h)))))
  · exact .inr (.inr (.inr (.inr (.inr (.inr ⟨by simpa using h1, by simpa using h2, by simpa using h3, by simpa using h4, by simpa using h5, by simpa using h6, fun n r => by simp [good, h1, h2, h3, h4, h5, h6]⟩)))))

theorem good_calls (w : World) (k n r : Int) : Calls Tryz.prog 142 #[.agg #[.int .i64 k, .int .i64 n], .int .i64 r] w fun e w' => e = .returned (.bool (good ⟨k, n⟩ r)) ∧ Below w.heap.size w w' := by
  rcases kind_ways k with rfl | rfl | rfl | rfl | rfl | rfl | ⟨h1, h2, h3, h4, h5, h6, h7⟩
  all_goals first
    | (have H7 := Lib.hid h7
       clear h7
       go_enter Tryz.func142, Tryz.ntmps142
       go_wp2
       go_ret
       exact ⟨ret_bool (H7.out _ _).symm, (Below.refl _ _).alloc (Nat.le_refl _) _⟩)
    | (go_enter Tryz.func142, Tryz.ntmps142
       go_wp2
       all_goals go_ret
       all_goals exact ⟨by simp_all [good, Bool.beq_eq_decide_eq] <;> omega, (Below.refl _ _).alloc (Nat.le_refl _) _⟩)

theorem sub_any (w : World) (ak an bk bn : Int) : Calls Tryz.prog 151 #[.agg #[.int .i64 ak, .int .i64 an], .agg #[.int .i64 bk, .int .i64 bn]] w fun e w' => e = .returned (.bool (sub ⟨ak, an⟩ ⟨bk, bn⟩)) ∧ Below w.heap.size w w' := sub_calls w ⟨ak, an⟩ ⟨bk, bn⟩
theorem join_any (w : World) (ak an bk bn : Int) : Calls Tryz.prog 110 #[.agg #[.int .i64 ak, .int .i64 an], .agg #[.int .i64 bk, .int .i64 bn]] w fun e w' => e = .returned (.agg #[.int .i64 (join ⟨ak, an⟩ ⟨bk, bn⟩).kind, .int .i64 (join ⟨ak, an⟩ ⟨bk, bn⟩).n]) ∧ Below w.heap.size w w' := join_calls w ⟨ak, an⟩ ⟨bk, bn⟩
end Go.Proofs.YtdmmjckhpagibaaGreatDoor
