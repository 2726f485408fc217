/- The walk of ArithOrder. -/
import Derived.Test.YtdgeofeijgflcaaArithL
namespace Go.Proofs.Ytdgeofeijgflcaa
open Go.RowKit
set_option linter.unusedVariables false
theorem bits_comm (op : BinOp) (h : op = .and ∨ op = .or ∨ op = .xor) (a b : Int) : Go.bits op .u64 a b = Go.bits op .u64 b a := by
  rcases h with rfl | rfl | rfl
  · show IntKind.u64.wrap (((BitVec.ofInt 64 a &&& BitVec.ofInt 64 b).toNat : Nat) : Int) = IntKind.u64.wrap (((BitVec.ofInt 64 b &&& BitVec.ofInt 64 a).toNat : Nat) : Int)
    rw [BitVec.and_comm]
  · show IntKind.u64.wrap (((BitVec.ofInt 64 a ||| BitVec.ofInt 64 b).toNat : Nat) : Int) = IntKind.u64.wrap (((BitVec.ofInt 64 b ||| BitVec.ofInt 64 a).toNat : Nat) : Int)
    rw [BitVec.or_comm]
  · show IntKind.u64.wrap (((BitVec.ofInt 64 a ^^^ BitVec.ofInt 64 b).toNat : Nat) : Int) = IntKind.u64.wrap (((BitVec.ofInt 64 b ^^^ BitVec.ofInt 64 a).toNat : Nat) : Int)
    rw [BitVec.xor_comm]
/-- The operators that do not hang on the order. -/
def evens : List Int := [8, 10, 13, 14, 15, 18, 19, 20]
theorem even_comm (op a b : Int) (h : op ∈ evens) : (arithD op b a).x = (arithD op a b).x ∧ (arithD op b a).ok = true ∧ (arithD op a b).ok = true := by
  simp only [evens, List.mem_cons, List.not_mem_nil, or_false] at h
  rcases h with rfl | rfl | rfl | rfl | rfl | rfl | rfl | rfl
  · refine ⟨?_, rfl, rfl⟩; show IntKind.u64.wrap (b + a) = IntKind.u64.wrap (a + b); rw [Int.add_comm]
  · refine ⟨?_, rfl, rfl⟩; show IntKind.u64.wrap (b * a) = IntKind.u64.wrap (a * b); rw [Int.mul_comm]
  · exact ⟨bits_comm .and (.inl rfl) b a, rfl, rfl⟩
  · exact ⟨bits_comm .or (.inr (.inl rfl)) b a, rfl, rfl⟩
  · exact ⟨bits_comm .xor (.inr (.inr rfl)) b a, rfl, rfl⟩
  · refine ⟨?_, rfl, rfl⟩; show (b + a) % 4294967296 = (a + b) % 4294967296; rw [Int.add_comm]
  · refine ⟨?_, rfl, rfl⟩; show b % 4294967296 * (a % 4294967296) % 4294967296 = a % 4294967296 * (b % 4294967296) % 4294967296; rw [Int.mul_comm]
  · refine ⟨?_, rfl, rfl⟩; show (if b = a then (1 : Int) else 0) = (if a = b then 1 else 0); simp [eq_comm]
theorem didSame (a : Int) : arithD 20 a a = ⟨1, 0, true⟩ := by rw [didEq, if_pos rfl]
theorem didLess (a : Int) : arithD 21 a a = ⟨0, 0, true⟩ := by rw [didLt, if_neg (by omega)]
attribute [local irreducible] arithD
theorem arithOrder_walk (w : World) (wh : Int) (w0 : (Lit.int .u8 wh).wf = true) (a : Int) (w1 : (Lit.int .u64 a).wf = true) (b : Int) (w2 : (Lit.int .u64 b).wf = true) :
    Calls Try.prog 8 #[.int .u8 wh, .int .u64 a, .int .u64 b] w fun e w' => e = .returned (.bool true) ∧ Below w.heap.size w w' := by
  have hw := bounds_u8 w0
  have ha := bounds_u64 w1
  have hb := bounds_u64 w2
  obtain ⟨op, hmem, hop⟩ : ∃ op, op ∈ evens ∧ (#[.int .i64 8, .int .i64 10, .int .i64 13, .int .i64 14, .int .i64 15, .int .i64 18, .int .i64 19, .int .i64 20] : Array Value)[(wh % 8).toNat]? = some (.int .i64 op) := by
    have h8 : wh % 8 = 0 ∨ wh % 8 = 1 ∨ wh % 8 = 2 ∨ wh % 8 = 3 ∨ wh % 8 = 4 ∨ wh % 8 = 5 ∨ wh % 8 = 6 ∨ wh % 8 = 7 := by omega
    rcases h8 with h | h | h | h | h | h | h | h <;> rw [h]
    · exact ⟨8, by decide, rfl⟩
    · exact ⟨10, by decide, rfl⟩
    · exact ⟨13, by decide, rfl⟩
    · exact ⟨14, by decide, rfl⟩
    · exact ⟨15, by decide, rfl⟩
    · exact ⟨18, by decide, rfl⟩
    · exact ⟨19, by decide, rfl⟩
    · exact ⟨20, by decide, rfl⟩
  obtain ⟨k1, k2, k3⟩ := even_comm op a b hmem
  have hcell := (blk_cell (blk_new w (Obj.cells #[.int .i64 8, .int .i64 10, .int .i64 13, .int .i64 14, .int .i64 15, .int .i64 18, .int .i64 19, .int .i64 20] 3)) (wh % 8).toNat).trans hop
  have hB := Lib.hid ((Below.refl w.heap.size w).alloc (Nat.le_refl _) (Obj.cells #[.int .i64 8, .int .i64 10, .int .i64 13, .int .i64 14, .int .i64 15, .int .i64 18, .int .i64 19, .int .i64 20] 3))
  clear hop hmem
  have h3 : a < b ∨ a = b ∨ b < a := by omega
  rcases h3 with h | h | h
  · have e1 : (if a = b then (1 : Int) else 0) = 0 := if_neg (by omega)
    have e2 : (if a < b then (1 : Int) else 0) = 1 := if_pos h
    have e3 : (if b < a then (1 : Int) else 0) = 0 := if_neg (by omega)
    go_enter Try.func8, Try.ntmps8
    go_wp2_with (first
      | (go_at_call 15; refine (do_calls _ _ _ _ (by assumption) (by assumption)).mono ?_; rintro e w1 ⟨he, rfl⟩; (first | rw [didEq, e1] at he | rw [didLt, e2] at he | rw [didLt, e3] at he | skip); subst he)
      | (go_at_call 17; refine (arithAnswers_calls _).mono ?_; rintro e w1 ⟨rfl, rfl⟩))
    go_ret
    exact ⟨rfl, hB.out⟩
  · subst h
    go_enter Try.func8, Try.ntmps8
    go_wp2_with (first
      | (go_at_call 15; refine (do_calls _ _ _ _ (by assumption) (by assumption)).mono ?_; rintro e w1 ⟨he, rfl⟩; (first | rw [didSame] at he | rw [didLess] at he | skip); subst he)
      | (go_at_call 17; refine (arithAnswers_calls _).mono ?_; rintro e w1 ⟨rfl, rfl⟩))
    go_ret
    exact ⟨rfl, hB.out⟩
  · have e1 : (if a = b then (1 : Int) else 0) = 0 := if_neg (by omega)
    have e2 : (if a < b then (1 : Int) else 0) = 0 := if_neg (by omega)
    have e3 : (if b < a then (1 : Int) else 0) = 1 := if_pos h
    go_enter Try.func8, Try.ntmps8
    go_wp2_with (first
      | (go_at_call 15; refine (do_calls _ _ _ _ (by assumption) (by assumption)).mono ?_; rintro e w1 ⟨he, rfl⟩; (first | rw [didEq, e1] at he | rw [didLt, e2] at he | rw [didLt, e3] at he | skip); subst he)
      | (go_at_call 17; refine (arithAnswers_calls _).mono ?_; rintro e w1 ⟨rfl, rfl⟩))
    go_ret
    exact ⟨rfl, hB.out⟩
end Go.Proofs.Ytdgeofeijgflcaa
