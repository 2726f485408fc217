/- The walk of ArithDoes. -/
import Derived.Test.YtdgeofeijgflcaaArithRef
namespace Go.Proofs.Ytdgeofeijgflcaa
open Go.RowKit
set_option linter.unusedVariables false
attribute [local irreducible] arithD
theorem arithDoes_walk (w : World) (op : Int) (w0 : (Lit.int .i64 op).wf = true) (a : Int) (w1 : (Lit.int .u64 a).wf = true) (b : Int) (w2 : (Lit.int .u64 b).wf = true) :
    Calls Try.prog 3 #[.int .i64 op, .int .u64 a, .int .u64 b] w fun e w' => e = .returned (.bool true) ∧ Below w.heap.size w w' := by
  have ha := bounds_u64 w1
  have hb := bounds_u64 w2
  cases hD : arithD op a b with
  | mk x y ok =>
    have HD := Lib.hid hD
    clear hD
    go_enter Try.func3, Try.ntmps3
    go_wp2_with (first
      | (go_at_call 15; refine (do_calls _ _ _ _ (by assumption) (by assumption)).mono ?_; rintro e w1 ⟨he, rfl⟩; rw [HD.out] at he; subst he)
      | (go_at_call 16; refine (refArith_calls _ _ _ _ (by assumption) (by assumption)).mono ?_; rintro e w2 ⟨he, hb2⟩; rw [HD.out] at he; subst he)
      | (go_at_call 17; refine (arithAnswers_calls _).mono ?_; rintro e w3 ⟨rfl, rfl⟩))
    go_ret
    exact ⟨rfl, hb2⟩
end Go.Proofs.Ytdgeofeijgflcaa
