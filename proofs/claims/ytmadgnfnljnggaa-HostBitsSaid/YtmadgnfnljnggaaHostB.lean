/- The answers that a program that does nothing does not give (chapter 23). -/
import Derived.Test.YtmadgnfnljnggaaHost
namespace Go.Proofs.Ytmadgnfnljnggaa
open Go.RowKit
set_option linter.unusedVariables false
def litHans : List Han := [⟨2, 0, true⟩, ⟨1, 0, false⟩]
theorem lit_row {W : World} {b : Nat} {t : TypeId} {fr : Nat × Nat} (h : W.heap[b]? = some (.cells #[.int .i64 2, .int .u64 0, .bool true, .int .i64 1, .int .u64 0, .bool false] t fr)) : k_han.Row (· = b) W (some ⟨b, 0, none⟩) litHans :=
  Rd.Row.of_blk h rfl (Rd.Flat.cons (k_han_mk ⟨2, 0, true⟩ rfl rfl) (Rd.Flat.cons (k_han_mk ⟨1, 0, false⟩ rfl rfl) (Rd.Flat.nil _ _ _))) (fun j v hj => by simpa using hj)
theorem hostAnswers_calls (w : World) : Calls Try.prog 16 #[] w fun e w' => e = .returned (.bool true) ∧ Below w.heap.size w w' := by
  go_enter Try.func16, Try.ntmps16
  go_wp2_with (first
    | (go_at_call 19; refine (needs_calls (S := (· = w.heap.size)) _ _ _ _ _ _ _ _ _ litHans (by decide) (by intro b hb; subst hb; simp; omega) (by exact lit_row (blk_alloc (blk_new _ _) _))).mono ?_
       rintro e w1 ⟨he, hb1⟩
       obtain rfl : e = .returned (.int .i64 4) := he.trans (ret_int (by decide +kernel))
       have hB1 := Lib.hid (show Below w.heap.size w w1 from (((Below.refl _ _).alloc (Nat.le_refl _) _).alloc (by simp) _).trans (hb1.mono (by simp; omega)))
       have hr1 := Lib.hid ((lit_row (blk_alloc (blk_new w _) _)).keep (fun b hb => hb1.block b (by rw [hb]; simp; omega)))
       have hs1 : w.heap.size + 1 < w1.heap.size := by have := hb1.size; simp at this; omega
       obtain ⟨hc1, hf1⟩ := bcell hb1
       clear he hb1)
    | (go_at_call_of 18 (Value.int .i64 4); refine (bind_calls (S := (· = w.heap.size)) _ _ _ _ _ _ _ _ _ 4 litHans (by decide) (by intro b hb; subst hb; omega) (by exact hr1.out)).mono ?_
       rintro e w2 ⟨he, hb2⟩
       obtain rfl : e = .returned (.int .i64 0) := he.trans (ret_int (by decide +kernel))
       have hB2 := Lib.hid (hB1.out.trans (hb2.mono (by omega)))
       have hr2 := Lib.hid (hr1.out.keep (fun b hb => hb2.block b (by rw [hb]; omega)))
       have hs2 : w.heap.size + 1 < w2.heap.size := by have := hb2.size; omega
       obtain ⟨hc2, hf2⟩ := bcell hb2
       clear he hb2)
    | (go_at_call_of 18 (Value.int .i64 3); refine (bind_calls (S := (· = w.heap.size)) _ _ _ _ _ _ _ _ _ 3 litHans (by decide) (by intro b hb; subst hb; omega) (by exact hr2.out)).mono ?_
       rintro e w3 ⟨he, hb3⟩
       obtain rfl : e = .returned (.int .i64 8) := he.trans (ret_int (by decide +kernel))
       have hB3 := Lib.hid (hB2.out.trans (hb3.mono (by omega)))
       clear he hb3))
  go_ret
  exact ⟨rfl, hB3.out⟩
end Go.Proofs.Ytmadgnfnljnggaa
