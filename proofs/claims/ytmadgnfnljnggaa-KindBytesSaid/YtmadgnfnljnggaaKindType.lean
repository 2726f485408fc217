/- The reference's bytes of a type. -/
import Derived.Test.YtmadgnfnljnggaaKindGet
import Derived.Test.YtmadgnfnljnggaaRefVar
import Derived.BigQuiet
namespace Go.Proofs.Ytmadgnfnljnggaa
open Go.RowKit
set_option linter.unusedVariables false
theorem ownDown {w : World} {base base' : Nat} {e : TypeId} {size : Nat} {v : Value} {n : Nat} {xs : List Value} (h : w.ownsRow base e size v n xs) (hb : base' ≤ base) : w.ownsRow base' e size v n xs := by
  refine ⟨h.1, ?_⟩
  rcases h.2 with h2 | ⟨g, cap, cur, h1, h2, h3⟩
  · exact .inl h2
  · exact .inr ⟨g, cap, cur, h1, Nat.le_trans hb h2, h3⟩
set_option maxRecDepth 100000 in
set_option maxHeartbeats 2000000 in
theorem refType_calls (w : World) (k n : Int) (a b : Nat) (ha : a < 9223372036854775808) (hb : b < 9223372036854775808) (hwa : (k < 0 ∧ a = 0) ∨ k = (a : Int)) (hwb : (n < 0 ∧ b = 0) ∨ n = (b : Int)) : Calls Try.prog 43 #[.agg #[.int .i64 k, .int .i64 n]] w fun e w' => ∃ A c, e = .returned (.slice A (varB a ++ varB b).length c) ∧ w'.ownsRow w.heap.size 5 1 (.slice A (varB a ++ varB b).length c) (varB a ++ varB b).length (bcells (varB a ++ varB b)) ∧ Below w.heap.size w w' := by
  have ha64 : a < 18446744073709551616 := by omega
  have hb64 : b < 18446744073709551616 := by omega
  have la := varB_ten ha64
  have lb := varB_ten hb64
  have hX := blk_new w (Obj.cells #[.int .i64 k, .int .i64 n] 38)
  have c0 := blk_cell hX 0
  have c1 := blk_cell hX 1
  have HBW := Lib.hid ((Below.refl w.heap.size w).alloc (Nat.le_refl _) (Obj.cells #[.int .i64 k, .int .i64 n] 38))
  have HBD := Lib.hid ((Below.refl w.heap.size w).alloc (Nat.le_refl _) (Obj.cells #[.int .i64 k, .int .i64 n] 38)).drew
  clear hX
  have hwa2 : (decide (k < 0) = true ∧ a = 0) ∨ (decide (k < 0) = false ∧ k = (a : Int)) := by
    rcases hwa with ⟨h, h2⟩ | h
    · exact .inl ⟨decide_eq_true h, h2⟩
    · exact .inr ⟨decide_eq_false (by omega), h⟩
  have hwb2 : (decide (n < 0) = true ∧ b = 0) ∨ (decide (n < 0) = false ∧ n = (b : Int)) := by
    rcases hwb with ⟨h, h2⟩ | h
    · exact .inl ⟨decide_eq_true h, h2⟩
    · exact .inr ⟨decide_eq_false (by omega), h⟩
  clear hwa hwb
  have HA := Lib.hid (fun w' => refVar_calls a w' ha64)
  have HB := Lib.hid (fun w' => refVar_calls b w' hb64)
  obtain ⟨L, hL⟩ : ∃ L, L = (varB a).length := ⟨_, rfl⟩
  obtain ⟨M, hM⟩ : ∃ M, M = (varB b).length := ⟨_, rfl⟩
  rw [← hL] at la
  rw [← hM] at lb
  rw [show (varB a ++ varB b).length = L + M by rw [List.length_append, hL, hM], bcells_append]
  rw [← hL] at HA
  rw [← hM] at HB
  obtain ⟨xs, hxs⟩ : ∃ xs, xs = varB a := ⟨_, rfl⟩
  obtain ⟨ys, hys⟩ : ∃ ys, ys = varB b := ⟨_, rfl⟩
  rw [← hxs] at HA hL ⊢
  rw [← hys] at HB hM ⊢
  have HL := Lib.hid hL
  have HM := Lib.hid hM
  clear hxs hys hL hM
  rcases hwa2 with ⟨hk, h0⟩ | ⟨hk, rfl⟩
  all_goals rcases hwb2 with ⟨hn, h1⟩ | ⟨hn, rfl⟩
  all_goals (try rw [h0] at HA)
  all_goals (try rw [h1] at HB)
  all_goals (try clear h0)
  all_goals (try clear h1)
  all_goals
    have HTok := HBW
    go_enter Try.func43, Try.ntmps43
    go_wp2_with (first
      | (go_quiet (fail))
      | (go_at_call 51; have tok := HTok; refine (HA.out _).mono ?_; rintro e w1 ⟨A1, c1, rfl, ho1, hb1⟩; have HO1 := Lib.hid ho1; have hbW : Below w.heap.size w w1 := (below_drewN HBW.out _).trans (hb1.mono (by simp)); have HBW1 := Lib.hid hbW; have hs1 := hbW.size; have hs1' := hb1.size; clear ho1 hb1 tok hbW; clear HTok)
      | (go_at_call 51; refine (HB.out _).mono ?_; rintro e w2 ⟨A2, c2, rfl, ho2, hb2⟩; have HO2 := Lib.hid ho2; have HOO := Lib.hid (own_below HO1.out hb2); have hbW : Below w.heap.size w w2 := HBW1.out.trans (hb2.mono (by omega)); have HBW2 := Lib.hid hbW; have hs2 := hbW.size; clear ho2 hb2 hbW)
      | (at_builtin; refine list_app _ rfl (.tmp 15) (.tmp 18) _ rfl 5 Try.underlying77 byte_info rfl (by decide) (by decide) w.heap.size rfl (ownDown HOO.out (by simp)) rfl (by rw [bcells_length, HM.out]) (own_lie HO2.out) (bcells_one _) (by omega) hs2 ?_; intro v' w3 hown hg hat; have hbW := grown_below HBW2.out hg hs2 (own_ge (ownDown HOO.out (by simp))); obtain ⟨A3, c3, rfl, hn3, _, _⟩ := own_shape hown; have HO3 := Lib.hid hown; have HBW3 := Lib.hid hbW; clear hown hg hat hbW))
    go_ret
    exact ⟨A3, c3, rfl, HO3.out, HBW3.out⟩
end Go.Proofs.Ytmadgnfnljnggaa
