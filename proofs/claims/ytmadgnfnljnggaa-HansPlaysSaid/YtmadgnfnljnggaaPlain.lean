/- Plain facts on bits and numbers. -/
import Derived.Test.YtmadgnfnljnggaaBase
import Derived.Laws.BitsAllLaws
namespace Go.Proofs.Ytmadgnfnljnggaa
open Go.RowKit
theorem low4 (y : Int) : BitVec.ofInt 64 y &&& 15#64 = BitVec.ofInt 64 (y % 16) := by
  apply BitVec.eq_of_toNat_eq
  rw [BitVec.toNat_and, BitVec.toNat_ofInt, BitVec.toNat_ofInt, show (15#64).toNat = 2 ^ 4 - 1 from rfl, Nat.and_two_pow_sub_one_eq_mod]
  omega
theorem andNot_low (x y : Int) (h : BitVec.ofInt 64 x &&& 15#64 = BitVec.ofInt 64 x) : Go.bits .andNot .i64 x y = Go.bits .andNot .i64 x (y % 16) := by
  have e : BitVec.ofInt 64 x &&& ~~~ BitVec.ofInt 64 y = BitVec.ofInt 64 x &&& ~~~ BitVec.ofInt 64 (y % 16) := by
    rw [← low4, ← h]
    apply BitVec.eq_of_getLsbD_eq
    intro i hi
    simp only [BitVec.getLsbD_and, BitVec.getLsbD_not, hi, decide_true, Bool.true_and]
    cases (BitVec.ofInt 64 x).getLsbD i <;> cases (15#64).getLsbD i <;> cases (BitVec.ofInt 64 y).getLsbD i <;> rfl
  show IntKind.i64.wrap _ = IntKind.i64.wrap _
  exact congrArg (fun b : BitVec 64 => IntKind.i64.wrap (b.toNat : Int)) e
theorem and_one (x : Int) : Go.bits .and .i64 x 1 = x % 2 := by
  have e : (BitVec.ofInt 64 x &&& BitVec.ofInt 64 1).toNat = (x % 2).toNat := by
    rw [BitVec.toNat_and, BitVec.toNat_ofInt, show (BitVec.ofInt 64 1).toNat = 2 ^ 1 - 1 from rfl, Nat.and_two_pow_sub_one_eq_mod]
    omega
  show IntKind.i64.wrap (((BitVec.ofInt 64 x &&& BitVec.ofInt 64 1).toNat : Nat) : Int) = _
  rw [e, IntKind.wrap_i64]
  omega
theorem mix_len {α : Type} (f : α → α) (xs : List α) (k : Nat) (hk : k ≤ xs.length) : ((xs.take k).map f).length = k := by rw [List.length_map, List.length_take]; omega
theorem mix_get {α : Type} (f : α → α) (xs : List α) (k : Nat) (x : α) (hx : xs[k]? = some x) : ((xs.take k).map f ++ xs.drop k)[k]? = some x := by
  have hk := (List.getElem?_eq_some_iff.1 hx).1
  have hl := mix_len f xs k (by omega)
  rw [List.getElem?_append_right (by omega), hl, Nat.sub_self, List.getElem?_drop, Nat.add_zero]; exact hx
theorem mix_set {α : Type} (f : α → α) (xs : List α) (k : Nat) (x : α) (hx : xs[k]? = some x) : ((xs.take k).map f ++ xs.drop k).set k (f x) = (xs.take (k + 1)).map f ++ xs.drop (k + 1) := by
  obtain ⟨hk, rfl⟩ := List.getElem?_eq_some_iff.1 hx
  have hl := mix_len f xs k (by omega)
  rw [List.set_append_right _ _ (by omega), hl, Nat.sub_self, List.take_succ_eq_append_getElem hk, List.drop_eq_getElem_cons hk, List.set_cons_zero, List.map_append, List.append_assoc]
  rfl
end Go.Proofs.Ytmadgnfnljnggaa
