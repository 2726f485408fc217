/- kind.Good and the reference's; the answers of chapter 04. -/
import Derived.Test.YtikidknmfbhilaaKlJoin
import Derived.Deep.RegionHeld3
namespace Go.Proofs.Ytikidknmfbhilaa
open Go.RowKit
set_option linter.unusedVariables false
theorem kind_ways (k : Int) : k = 1 ∨ k = 2 ∨ k = 3 ∨ k = 7 ∨ k = 4 ∨ k = 5 ∨ ((k == 1) = false ∧ (k == 2) = false ∧ (k == 3) = false ∧ (k == 7) = false ∧ (k == 4) = false ∧ (k == 5) = false ∧ ∀ n r, good ⟨k, n⟩ r = false) := by
  have h : k = 1 ∨ k = 2 ∨ k = 3 ∨ k = 7 ∨ k = 4 ∨ k = 5 ∨ (k ≠ 1 ∧ k ≠ 2 ∧ k ≠ 3 ∧ k ≠ 7 ∧ k ≠ 4 ∧ k ≠ 5) := by omega
  rcases h with h | h | h | h | h | h | ⟨h1, h2, h3, h4, h5, h6⟩
  · exact .inl h
  · exact .inr (.inl h)
  · exact .inr (.inr (.inl h))
  · exact .inr (.inr (.inr (.inl h)))
  · exact .inr (.inr (.inr (.inr (.inl h))))
  · exact .inr (.inr (.inr (.inr (.inr (.inl h)))))
  · exact .inr (.inr (.inr (.inr (.inr (.inr ⟨by simpa using h1, by simpa using h2, by simpa using h3, by simpa using h4, by simpa using h5, by simpa using h6, fun n r => by simp [good, h1, h2, h3, h4, h5, h6]⟩)))))

/-- Two boxes of two cells in a world that has grown. -/
theorem box22 {W w1 : World} {g k : Nat} {t t' : TypeId} {a b A B : Value} (h : W.heap[g]? = some (.cells #[a, b] t (0, 0))) (h' : W.heap[k]? = some (.cells #[A, B] t' (0, 0))) (hb : Below W.heap.size W w1) :
    w1.cell? ⟨g, 0, none⟩ = some a ∧ w1.cell? ⟨g, 1, none⟩ = some b ∧ w1.cell? ⟨k, 0, none⟩ = some A ∧ w1.cell? ⟨k, 1, none⟩ = some B ∧ Below W.heap.size W w1 := by
  have hc := blk_cell (blk_below h hb (blk_lt h))
  have hc' := blk_cell (blk_below h' hb (blk_lt h'))
  exact ⟨hc 0, hc 1, hc' 0, hc' 1, hb⟩
theorem held4 {a b A B : Prop} {W w1 w2 : World} (h : a ∧ b ∧ A ∧ B ∧ Below W.heap.size W w1) (hb : Below w1.heap.size w1 w2) : Below W.heap.size W w2 :=
  h.2.2.2.2.trans (hb.mono h.2.2.2.2.size)

theorem sub_any (w : World) (ak an bk bn : Int) : Calls Try.prog 6 #[.agg #[.int .i64 ak, .int .i64 an], .agg #[.int .i64 bk, .int .i64 bn]] w fun e w' => e = .returned (.bool (sub ⟨ak, an⟩ ⟨bk, bn⟩)) ∧ Below w.heap.size w w' := sub_calls w ⟨ak, an⟩ ⟨bk, bn⟩
theorem join_any (w : World) (ak an bk bn : Int) : Calls Try.prog 5 #[.agg #[.int .i64 ak, .int .i64 an], .agg #[.int .i64 bk, .int .i64 bn]] w fun e w' => e = .returned (.agg #[.int .i64 (join ⟨ak, an⟩ ⟨bk, bn⟩).kind, .int .i64 (join ⟨ak, an⟩ ⟨bk, bn⟩).n]) ∧ Below w.heap.size w w' := join_calls w ⟨ak, an⟩ ⟨bk, bn⟩
theorem lit_join : join ⟨6, 0⟩ ⟨2, 0⟩ = ⟨2, 0⟩ := by decide +kernel
theorem lit_sub1 : sub ⟨6, 0⟩ ⟨2, 0⟩ = true := by decide +kernel
theorem lit_sub2 : sub ⟨2, 0⟩ ⟨6, 0⟩ = false := by decide +kernel
theorem kindAnswers_calls (w : World) : Calls Try.prog 4 #[] w fun e w' => e = .returned (.bool true) ∧ Below w.heap.size w w' := by
  go_enter Try.func4, Try.ntmps4
  go_wp2_with fail
  have hX := blk_alloc (blk_new w (Obj.cells #[.int .i64 6, .int .i64 0] 23)) (Obj.cells #[.int .i64 2, .int .i64 0] 23)
  have hY := blk_new2 w (Obj.cells #[.int .i64 6, .int .i64 0] 23) (Obj.cells #[.int .i64 2, .int .i64 0] 23)
  have hB := Lib.hid (((Below.refl w.heap.size w).alloc (Nat.le_refl _) (Obj.cells #[.int .i64 6, .int .i64 0] 23)).alloc (by simp) (Obj.cells #[.int .i64 2, .int .i64 0] 23))
  generalize (w.alloc (Obj.cells #[.int .i64 6, .int .i64 0] 23)).alloc (Obj.cells #[.int .i64 2, .int .i64 0] 23) = W at hX hY hB ⊢
  have HX := Lib.hid hX
  have HY := Lib.hid hY
  clear hX hY
  go_region_held3 (fun w' => w'.cell? ⟨w.heap.size, 0, none⟩ = some (.int .i64 6) ∧ w'.cell? ⟨w.heap.size, 1, none⟩ = some (.int .i64 0) ∧ w'.cell? ⟨w.heap.size + 1, 0, none⟩ = some (.int .i64 2) ∧ w'.cell? ⟨w.heap.size + 1, 1, none⟩ = some (.int .i64 0) ∧ Below W.heap.size W w')
    (first
      | exact box22 HX.out HY.out (Below.refl _ _)
      | exact box22 HX.out HY.out (Below.refl _ _).drew
      | exact box22 HX.out HY.out (by assumption))
    (first
      | (go_at_call 5; refine (join_any _ _ _ _ _).mono ?_; rintro e w' ⟨he, hb⟩; obtain rfl := he.trans (show _ = Ending.returned (.agg #[.int .i64 2, .int .i64 0]) by rw [lit_join]); have hbW : Below W.heap.size W w' := held4 (by assumption) hb; clear he)
      | (go_at_call 7; refine (ref_calls _ 2 0).mono ?_; rintro e w' ⟨he, hb⟩; obtain rfl : e = .returned (.bool true) := he.trans (ret_bool (by decide +kernel)); have hbW : Below W.heap.size W w' := held4 (by assumption) hb; clear he)
      | (go_at_call 6; refine (sub_any _ _ _ _ _).mono ?_; rintro e w' ⟨he, hb⟩; first | obtain rfl := he.trans (ret_bool lit_sub1) | obtain rfl := he.trans (ret_bool lit_sub2)
         have hbW : Below W.heap.size W w' := held4 (by assumption) hb; clear he))
  go_wp2
  go_ret
  exact ⟨rfl, hB.out.trans (hbW.mono hB.out.size)⟩
end Go.Proofs.Ytikidknmfbhilaa
