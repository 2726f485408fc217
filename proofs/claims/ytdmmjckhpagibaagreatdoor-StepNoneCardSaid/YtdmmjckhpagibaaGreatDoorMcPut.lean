/- kind.Put. Printed by gen_mc.py of this repo out of XKindB. -/
import Derived.Test.YtdmmjckhpagibaaGreatDoorMcGood
import Derived.Test.YtdmmjckhpagibaaGreatDoorMcInst
import Derived.Deep.RegionHeld3
namespace Go.Proofs.YtdmmjckhpagibaaGreatDoor
open Go.RowKit
set_option linter.unusedVariables false
theorem hold2 {W w1 : World} {g : Nat} {t : TypeId} {x y : Value} (h : W.heap[g]? = some (.cells #[x, y] t (0, 0))) (hb : Below W.heap.size W w1) : w1.cell? ⟨g, 0, none⟩ = some x ∧ w1.cell? ⟨g, 1, none⟩ = some y ∧ Below W.heap.size W w1 := by
  have h := blk_below h hb (blk_lt h)
  exact ⟨blk_cell h 0, blk_cell h 1, hb⟩
theorem held2 {a b : Prop} {W w1 w2 : World} (h : a ∧ b ∧ Below W.heap.size W w1) (hb : Below w1.heap.size w1 w2) : Below W.heap.size W w2 := h.2.2.trans (hb.mono h.2.2.size)
theorem wrap_u64 {a : Nat} (ha : a < 9223372036854775808) : IntKind.u64.wrap (a : Int) = (a : Int) := by rw [IntKind.wrap_u64]; omega
theorem wrap_zero : IntKind.u64.wrap 0 = ((0 : Nat) : Int) := rfl
set_option maxRecDepth 100000 in
set_option maxHeartbeats 4000000 in
theorem kput_calls (w : World) (k n : Int) (a b : Nat) (ha : a < 9223372036854775808) (hb : b < 9223372036854775808) (hwa : (k < 0 ∧ a = 0) ∨ k = (a : Int)) (hwb : (n < 0 ∧ b = 0) ∨ n = (b : Int)) : Calls Tryz.prog 148 #[.agg #[.int .i64 k, .int .i64 n]] w fun e w' => ∃ A c, e = .returned (.slice A (varB a ++ varB b).length c) ∧ w'.ownsRow w.heap.size 5 1 (.slice A (varB a ++ varB b).length c) (varB a ++ varB b).length (bcells (varB a ++ varB b)) ∧ Below w.heap.size w w' := by
  have ha64 : a < 18446744073709551616 := by omega
  have hb64 : b < 18446744073709551616 := by omega
  have la := varB_ten ha64
  have lb := varB_ten hb64
  have HA := Lib.hid (fun w' => var_calls w' a ha64)
  have HB := Lib.hid (fun w' => var_calls w' b hb64)
  obtain ⟨L, hL⟩ : ∃ L, L = (varB a).length := ⟨_, rfl⟩
  obtain ⟨M, hM⟩ : ∃ M, M = (varB b).length := ⟨_, rfl⟩
  rw [← hL] at la
  rw [← hM] at lb
  rw [show (varB a ++ varB b).length = L + M by rw [List.length_append, hL, hM], bcells_append]
  rw [← hL] at HA
  rw [← hM] at HB
  obtain ⟨xs, hxs⟩ : ∃ xs, xs = varB a := ⟨_, rfl⟩
  obtain ⟨ys, hys⟩ : ∃ ys, ys = varB b := ⟨_, rfl⟩
  rw [← hxs] at HA hL ⊢
  rw [← hys] at HB hM ⊢
  have HL := Lib.hid hL
  have HM := Lib.hid hM
  clear hxs hys hL hM ha64 hb64
  have hwa2 : (k < 0 ∧ Hid (∀ w', Calls Tryz.prog 145 #[.int .u64 (IntKind.u64.wrap 0)] w' fun e w'' => ∃ A c, e = .returned (.slice A L c) ∧ w''.ownsRow w'.heap.size 5 1 (.slice A L c) L (bcells xs) ∧ Below w'.heap.size w' w'')) ∨ (∃ a' : Nat, k = (a' : Int) ∧ a' < 9223372036854775808 ∧ Hid (∀ w', Calls Tryz.prog 145 #[.int .u64 (IntKind.u64.wrap (a' : Int))] w' fun e w'' => ∃ A c, e = .returned (.slice A L c) ∧ w''.ownsRow w'.heap.size 5 1 (.slice A L c) L (bcells xs) ∧ Below w'.heap.size w' w'')) := by
    rcases hwa with ⟨h, rfl⟩ | h
    · exact .inl ⟨h, HA⟩
    · exact .inr ⟨a, h, ha, by rw [wrap_u64 ha]; exact HA⟩
  have hwb2 : (n < 0 ∧ Hid (∀ w', Calls Tryz.prog 145 #[.int .u64 (IntKind.u64.wrap 0)] w' fun e w'' => ∃ A c, e = .returned (.slice A M c) ∧ w''.ownsRow w'.heap.size 5 1 (.slice A M c) M (bcells ys) ∧ Below w'.heap.size w' w'')) ∨ (∃ b' : Nat, n = (b' : Int) ∧ b' < 9223372036854775808 ∧ Hid (∀ w', Calls Tryz.prog 145 #[.int .u64 (IntKind.u64.wrap (b' : Int))] w' fun e w'' => ∃ A c, e = .returned (.slice A M c) ∧ w''.ownsRow w'.heap.size 5 1 (.slice A M c) M (bcells ys) ∧ Below w'.heap.size w' w'')) := by
    rcases hwb with ⟨h, rfl⟩ | h
    · exact .inl ⟨h, HB⟩
    · exact .inr ⟨b, h, hb, by rw [wrap_u64 hb]; exact HB⟩
  clear HA HB hwa hwb ha hb
  rcases hwa2 with ⟨hk, HA⟩ | ⟨a', rfl, hk, HA⟩
  · rcases hwb2 with ⟨hn, HB⟩ | ⟨b', rfl, hn, HB⟩
    · skip
      have HX := Lib.hid (blk_new w (Obj.cells #[.int .i64 k, .int .i64 n] 23))
      have HBW := Lib.hid ((Below.refl w.heap.size w).alloc (Nat.le_refl _) (Obj.cells #[.int .i64 k, .int .i64 n] 23))
      go_enter Tryz.func148, Tryz.ntmps148
      go_wp2_with fail
      generalize w.alloc (Obj.cells #[.int .i64 k, .int .i64 n] 23) = W at HX HBW ⊢
      have hsw := HBW.out.size
      have HTok := HX
      go_region_held3 (fun w' => w'.cell? ⟨w.heap.size, 0, none⟩ = some (.int .i64 k) ∧ w'.cell? ⟨w.heap.size, 1, none⟩ = some (.int .i64 n) ∧ Below W.heap.size W w')
        (first
          | exact hold2 HX.out (Below.refl _ _)
          | exact hold2 HX.out (Below.refl _ _).drew
          | exact hold2 HX.out (by assumption))
        (first
          | (go_at_call 145; have tok := HTok; refine (HA.out _).mono ?_; rintro e w' ⟨A1, c1, rfl, ho1, hb1⟩; have HO1 := Lib.hid ho1; have hbW : Below W.heap.size W w' := held2 (by assumption) hb1; clear ho1 hb1 tok; clear HTok)
          | (go_at_call 145; refine (HB.out _).mono ?_; rintro e w' ⟨A2, c2, rfl, ho2, hb2⟩; have HO2 := Lib.hid ho2; have HOO := Lib.hid (own_below HO1.out hb2); have hbW : Below W.heap.size W w' := held2 (by assumption) hb2; have hsz := hbW.size; have HBW2 := Lib.hid hbW; clear ho2 hb2)
          | (refine step_app _ (by rfl) (.tmp 7) (.tmp 12) _ (by rfl) 5 Tryz.underlying134 byte_info rfl (by decide) (by decide) W.heap.size (by rfl) HOO.out (by rfl) (by rw [bcells_length, HM.out]) (own_lie HO2.out) (bcells_one _) (by omega) hsz ?_; intro v' w' hown hg hat; have hbW : Below W.heap.size W w' := grown_below HBW2.out hg hsz (own_ge HOO.out); obtain ⟨A3, c3, rfl, hn3, _, _⟩ := own_shape hown; have HO3 := Lib.hid hown; have HBW3 := Lib.hid hbW; clear hown hg hat))
      all_goals
        go_wp2
        go_ret
        exact ⟨A3, c3, rfl, own_down HO3.out hsw, HBW.out.trans (HBW3.out.mono hsw)⟩
    · skip
      have HX := Lib.hid (blk_new w (Obj.cells #[.int .i64 k, .int .i64 (b' : Int)] 23))
      have HBW := Lib.hid ((Below.refl w.heap.size w).alloc (Nat.le_refl _) (Obj.cells #[.int .i64 k, .int .i64 (b' : Int)] 23))
      go_enter Tryz.func148, Tryz.ntmps148
      go_wp2_with fail
      generalize w.alloc (Obj.cells #[.int .i64 k, .int .i64 (b' : Int)] 23) = W at HX HBW ⊢
      have hsw := HBW.out.size
      have HTok := HX
      go_region_held3 (fun w' => w'.cell? ⟨w.heap.size, 0, none⟩ = some (.int .i64 k) ∧ w'.cell? ⟨w.heap.size, 1, none⟩ = some (.int .i64 (b' : Int)) ∧ Below W.heap.size W w')
        (first
          | exact hold2 HX.out (Below.refl _ _)
          | exact hold2 HX.out (Below.refl _ _).drew
          | exact hold2 HX.out (by assumption))
        (first
          | (go_at_call 145; have tok := HTok; refine (HA.out _).mono ?_; rintro e w' ⟨A1, c1, rfl, ho1, hb1⟩; have HO1 := Lib.hid ho1; have hbW : Below W.heap.size W w' := held2 (by assumption) hb1; clear ho1 hb1 tok; clear HTok)
          | (go_at_call 145; refine (HB.out _).mono ?_; rintro e w' ⟨A2, c2, rfl, ho2, hb2⟩; have HO2 := Lib.hid ho2; have HOO := Lib.hid (own_below HO1.out hb2); have hbW : Below W.heap.size W w' := held2 (by assumption) hb2; have hsz := hbW.size; have HBW2 := Lib.hid hbW; clear ho2 hb2)
          | (refine step_app _ (by rfl) (.tmp 7) (.tmp 12) _ (by rfl) 5 Tryz.underlying134 byte_info rfl (by decide) (by decide) W.heap.size (by rfl) HOO.out (by rfl) (by rw [bcells_length, HM.out]) (own_lie HO2.out) (bcells_one _) (by omega) hsz ?_; intro v' w' hown hg hat; have hbW : Below W.heap.size W w' := grown_below HBW2.out hg hsz (own_ge HOO.out); obtain ⟨A3, c3, rfl, hn3, _, _⟩ := own_shape hown; have HO3 := Lib.hid hown; have HBW3 := Lib.hid hbW; clear hown hg hat))
      all_goals
        go_wp2
        go_ret
        exact ⟨A3, c3, rfl, own_down HO3.out hsw, HBW.out.trans (HBW3.out.mono hsw)⟩
  · rcases hwb2 with ⟨hn, HB⟩ | ⟨b', rfl, hn, HB⟩
    · skip
      have HX := Lib.hid (blk_new w (Obj.cells #[.int .i64 (a' : Int), .int .i64 n] 23))
      have HBW := Lib.hid ((Below.refl w.heap.size w).alloc (Nat.le_refl _) (Obj.cells #[.int .i64 (a' : Int), .int .i64 n] 23))
      go_enter Tryz.func148, Tryz.ntmps148
      go_wp2_with fail
      generalize w.alloc (Obj.cells #[.int .i64 (a' : Int), .int .i64 n] 23) = W at HX HBW ⊢
      have hsw := HBW.out.size
      have HTok := HX
      go_region_held3 (fun w' => w'.cell? ⟨w.heap.size, 0, none⟩ = some (.int .i64 (a' : Int)) ∧ w'.cell? ⟨w.heap.size, 1, none⟩ = some (.int .i64 n) ∧ Below W.heap.size W w')
        (first
          | exact hold2 HX.out (Below.refl _ _)
          | exact hold2 HX.out (Below.refl _ _).drew
          | exact hold2 HX.out (by assumption))
        (first
          | (go_at_call 145; have tok := HTok; refine (HA.out _).mono ?_; rintro e w' ⟨A1, c1, rfl, ho1, hb1⟩; have HO1 := Lib.hid ho1; have hbW : Below W.heap.size W w' := held2 (by assumption) hb1; clear ho1 hb1 tok; clear HTok)
          | (go_at_call 145; refine (HB.out _).mono ?_; rintro e w' ⟨A2, c2, rfl, ho2, hb2⟩; have HO2 := Lib.hid ho2; have HOO := Lib.hid (own_below HO1.out hb2); have hbW : Below W.heap.size W w' := held2 (by assumption) hb2; have hsz := hbW.size; have HBW2 := Lib.hid hbW; clear ho2 hb2)
          | (refine step_app _ (by rfl) (.tmp 7) (.tmp 12) _ (by rfl) 5 Tryz.underlying134 byte_info rfl (by decide) (by decide) W.heap.size (by rfl) HOO.out (by rfl) (by rw [bcells_length, HM.out]) (own_lie HO2.out) (bcells_one _) (by omega) hsz ?_; intro v' w' hown hg hat; have hbW : Below W.heap.size W w' := grown_below HBW2.out hg hsz (own_ge HOO.out); obtain ⟨A3, c3, rfl, hn3, _, _⟩ := own_shape hown; have HO3 := Lib.hid hown; have HBW3 := Lib.hid hbW; clear hown hg hat))
      all_goals
        go_wp2
        go_ret
        exact ⟨A3, c3, rfl, own_down HO3.out hsw, HBW.out.trans (HBW3.out.mono hsw)⟩
    · skip
      have HX := Lib.hid (blk_new w (Obj.cells #[.int .i64 (a' : Int), .int .i64 (b' : Int)] 23))
      have HBW := Lib.hid ((Below.refl w.heap.size w).alloc (Nat.le_refl _) (Obj.cells #[.int .i64 (a' : Int), .int .i64 (b' : Int)] 23))
      go_enter Tryz.func148, Tryz.ntmps148
      go_wp2_with fail
      generalize w.alloc (Obj.cells #[.int .i64 (a' : Int), .int .i64 (b' : Int)] 23) = W at HX HBW ⊢
      have hsw := HBW.out.size
      have HTok := HX
      go_region_held3 (fun w' => w'.cell? ⟨w.heap.size, 0, none⟩ = some (.int .i64 (a' : Int)) ∧ w'.cell? ⟨w.heap.size, 1, none⟩ = some (.int .i64 (b' : Int)) ∧ Below W.heap.size W w')
        (first
          | exact hold2 HX.out (Below.refl _ _)
          | exact hold2 HX.out (Below.refl _ _).drew
          | exact hold2 HX.out (by assumption))
        (first
          | (go_at_call 145; have tok := HTok; refine (HA.out _).mono ?_; rintro e w' ⟨A1, c1, rfl, ho1, hb1⟩; have HO1 := Lib.hid ho1; have hbW : Below W.heap.size W w' := held2 (by assumption) hb1; clear ho1 hb1 tok; clear HTok)
          | (go_at_call 145; refine (HB.out _).mono ?_; rintro e w' ⟨A2, c2, rfl, ho2, hb2⟩; have HO2 := Lib.hid ho2; have HOO := Lib.hid (own_below HO1.out hb2); have hbW : Below W.heap.size W w' := held2 (by assumption) hb2; have hsz := hbW.size; have HBW2 := Lib.hid hbW; clear ho2 hb2)
          | (refine step_app _ (by rfl) (.tmp 7) (.tmp 12) _ (by rfl) 5 Tryz.underlying134 byte_info rfl (by decide) (by decide) W.heap.size (by rfl) HOO.out (by rfl) (by rw [bcells_length, HM.out]) (own_lie HO2.out) (bcells_one _) (by omega) hsz ?_; intro v' w' hown hg hat; have hbW : Below W.heap.size W w' := grown_below HBW2.out hg hsz (own_ge HOO.out); obtain ⟨A3, c3, rfl, hn3, _, _⟩ := own_shape hown; have HO3 := Lib.hid hown; have HBW3 := Lib.hid hbW; clear hown hg hat))
      all_goals
        go_wp2
        go_ret
        exact ⟨A3, c3, rfl, own_down HO3.out hsw, HBW.out.trans (HBW3.out.mono hsw)⟩

end Go.Proofs.YtdmmjckhpagibaaGreatDoor
