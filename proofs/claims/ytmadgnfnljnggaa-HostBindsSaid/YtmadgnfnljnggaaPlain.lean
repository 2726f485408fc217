/- Plain facts on bits and numbers. -/
import Derived.Test.YtmadgnfnljnggaaBase
import Derived.Laws.BitsAllLaws
namespace Go.Proofs.Ytmadgnfnljnggaa
open Go.RowKit
theorem low4 (y : Int) : BitVec.ofInt 64 y &&& 15#64 = BitVec.ofInt 64 (y % 16) := by
  apply BitVec.eq_of_toNat_eq
  rw [BitVec.toNat_and, BitVec.toNat_ofInt, BitVec.toNat_ofInt, show (15#64).toNat = 2 ^ 4 - 1 from rfl, Nat.and_two_pow_sub_one_eq_mod]
  omega
theorem andNot_low (x y : Int) (h : BitVec.ofInt 64 x &&& 15#64 = BitVec.ofInt 64 x) : Go.bits .andNot .i64 x y = Go.bits .andNot .i64 x (y % 16) := by
  have e : BitVec.ofInt 64 x &&& ~~~ BitVec.ofInt 64 y = BitVec.ofInt 64 x &&& ~~~ BitVec.ofInt 64 (y % 16) := by
    rw [← low4, ← h]
    apply BitVec.eq_of_getLsbD_eq
    intro i hi
    simp only [BitVec.getLsbD_and, BitVec.getLsbD_not, hi, decide_true, Bool.true_and]
    cases (BitVec.ofInt 64 x).getLsbD i <;> cases (15#64).getLsbD i <;> cases (BitVec.ofInt 64 y).getLsbD i <;> rfl
  show IntKind.i64.wrap _ = IntKind.i64.wrap _
  exact congrArg (fun b : BitVec 64 => IntKind.i64.wrap (b.toNat : Int)) e
theorem and_one (x : Int) : Go.bits .and .i64 x 1 = x % 2 := by
  have e : (BitVec.ofInt 64 x &&& BitVec.ofInt 64 1).toNat = (x % 2).toNat := by
    rw [BitVec.toNat_and, BitVec.toNat_ofInt, show (BitVec.ofInt 64 1).toNat = 2 ^ 1 - 1 from rfl, Nat.and_two_pow_sub_one_eq_mod]
    omega
  show IntKind.i64.wrap (((BitVec.ofInt 64 x &&& BitVec.ofInt 64 1).toNat : Nat) : Int) = _
  rw [e, IntKind.wrap_i64]
  omega
end Go.Proofs.Ytmadgnfnljnggaa
