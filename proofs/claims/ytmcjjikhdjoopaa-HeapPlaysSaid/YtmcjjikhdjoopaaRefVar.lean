/- The reference's Var and Same. -/
import Derived.Test.YtmcjjikhdjoopaaNumVar
import Derived.BigQuiet
namespace Go.Proofs.Ytmcjjikhdjoopaa
open Go.RowKit
set_option linter.unusedVariables false
set_option maxRecDepth 100000 in
theorem refVar_calls (v : Nat) : ∀ (w : World) (hv : v < 18446744073709551616), Calls Try.prog 44 #[.int .u64 v] w fun e w' => ∃ A c, e = .returned (.slice A (varB v).length c) ∧ w'.ownsRow w.heap.size 5 1 (.slice A (varB v).length c) (varB v).length (bcells (varB v)) ∧ Below w.heap.size w w' := by
  induction v using Nat.strongRecOn with
  | _ v ih =>
    intro w hv
    by_cases hlt : v < 128
    · rw [varB_small hlt]
      have hm := Lib.hid (own_made w 5 1 1 [.int .u8 (v : Int)] rfl (by decide))
      go_enter Try.func44, Try.ntmps44
      go_wp2
      go_ret
      exact ⟨_, _, rfl, hm.out, (Below.refl _ _).alloc (Nat.le_refl _) _⟩
    · rw [varB_big hlt]
      have hm := Lib.hid (own_made w 5 1 1 [.int .u8 (128 + (v : Int) % 128)] rfl (by decide))
      have hlen := varB_ten hv
      rw [varB_big hlt, List.length_cons] at hlen
      have hq := ih (v / 128) (by omega)
      go_enter Try.func44, Try.ntmps44
      go_wp2_with (first
        | (go_at_call 44; refine (Calls.mono (hq _ (by omega)) ?_); rintro e w1 ⟨A, c, rfl, ho, hb⟩; have HO := Lib.hid ho; have HB := Lib.hid hb; have HM := Lib.hid (own_below hm.out hb); have hsz := hb.size; clear ho hb)
        | (at_builtin; refine list_app _ rfl (.tmp 12) (.tmp 15) _ rfl 5 Try.underlying29 byte_info rfl (by decide) (by decide) w.heap.size rfl HM.out rfl (bcells_length _) (by exact own_lie HO.out) (bcells_one _) (by omega) (by simp at hsz; omega) ?_; intro v' w3 hown hg hat; have hB := Lib.hid (grown_below (((Below.refl _ _).alloc (Nat.le_refl _) _).trans (HB.out.mono (by simp))) hg (by simp at hsz; omega) (own_ge HM.out)); obtain ⟨A3, c3, rfl, hn3, _, _⟩ := own_shape hown; have HO3 := Lib.hid hown; clear hown hg hat))
      go_ret
      have e1 : (varB (v / 128)).length + 1 = 1 + (varB (v / 128)).length := Nat.add_comm _ _
      have e2 : bcells (((128 + v % 128 : Nat) : Int) :: varB (v / 128)) = [.int .u8 (128 + (v : Int) % 128)] ++ bcells (varB (v / 128)) := rfl
      (try rw [List.length_cons])
      rw [e1, e2]
      exact ⟨_, _, rfl, HO3.out, hB.out⟩
theorem same_calls {S T : Nat → Prop} (w : World) (A B : Option Addr) (n m c d : Nat) (xs ys : List Int) (hn : xs.length = n) (hm : ys.length = m) (hb : n ≤ 1000000) (hb2 : m ≤ 1000000) (hS : ∀ b, S b → b < w.heap.size) (hT : ∀ b, T b → b < w.heap.size) (hx : (Rd.int .u8).Row S w A xs) (hy : (Rd.int .u8).Row T w B ys) :
    Calls Try.prog 21 #[.slice A n c, .slice B m d] w fun e w' => e = .returned (.bool (decide (xs = ys))) ∧ Below w.heap.size w w' := by
  subst hn; subst hm
  have HX := Lib.hid hx
  have HY := Lib.hid hy
  clear hx hy
  by_cases hl : xs.length = ys.length
  · go_enter Try.func21, Try.ntmps21
    go_wp2
    go_loopw [5] (fun i wr => ∃ k : Nat, k ≤ xs.length ∧ i = .int .i64 k ∧ Hid (xs.take k = ys.take k) ∧ Below w.heap.size w wr) (fun i _ => xs.length - (intOf i).toNat)
    case atStart => exact ⟨0, Nat.zero_le _, rfl, Lib.hid rfl, Below.refl _ _⟩
    case round =>
      obtain ⟨k, hk, rfl, ht, hb⟩ := hrel
      by_cases hlt : k < xs.length
      · obtain ⟨x, hx⟩ : ∃ x, xs[k]? = some x := ⟨_, List.getElem?_eq_getElem hlt⟩
        obtain ⟨y, hy⟩ : ∃ y, ys[k]? = some y := ⟨_, List.getElem?_eq_getElem (by omega)⟩
        obtain ⟨b, o, rfl, hSb, c0, _⟩ := row_u8_at (HX.out.keep (fun b hb' => hb.block b (hS b hb'))) hx
        obtain ⟨b', o', rfl, hSb', d0, _⟩ := row_u8_at (HY.out.keep (fun b hb' => hb.block b (hT b hb'))) hy
        have hxh := Lib.hid hx
        have hyh := Lib.hid hy
        clear hx hy
        by_cases hE : x = y
        · have HE := Lib.hid hE
          subst hE
          go_wp2_with (go_quiet (fail))
          go_roundw
          case rel => exact ⟨k + 1, by omega, by go_num, Lib.hid (by rw [List.take_add_one, List.take_add_one, hxh.out, hyh.out, ht.out]), below_drewN hb _⟩
          case measure => simp [intOf]; omega
        · have hf := Lib.hid (show (decide (xs = ys) : Bool) = false from decide_eq_false (fun e => hE (by have h1 := hxh.out; rw [e, hyh.out] at h1; exact (Option.some.inj h1).symm)))
          go_wp2_with (go_quiet (fail))
          go_ret
          exact ⟨ret_bool hf.out.symm, below_drewN hb _⟩
      · have he := Lib.hid (show (decide (xs = ys) : Bool) = true from decide_eq_true (by have := ht.out; rwa [List.take_of_length_le (by omega), List.take_of_length_le (by omega)] at this))
        go_wp2
        go_ret
        exact ⟨ret_bool he.out.symm, hb⟩
  · have hne := Lib.hid (show (decide (xs = ys) : Bool) = false from decide_eq_false (fun e => hl (by rw [e])))
    go_enter Try.func21, Try.ntmps21
    go_wp2
    go_ret
    exact ⟨ret_bool hne.out.symm, Below.refl _ _⟩
end Go.Proofs.Ytmcjjikhdjoopaa
