/- The walk of InstBack. -/
import Derived.Test.YtjcceabdphkalaaInstLaws
namespace Go.Proofs.Ytjcceabdphkalaa
open Go.RowKit
set_option linter.unusedVariables false
theorem hold3 {W w1 : World} {g : Nat} {t : TypeId} {x y z : Value} (h : W.heap[g]? = some (.cells #[x, y, z] t (0, 0))) (hb : Below W.heap.size W w1) : w1.cell? ⟨g, 0, none⟩ = some x ∧ w1.cell? ⟨g, 1, none⟩ = some y ∧ w1.cell? ⟨g, 2, none⟩ = some z ∧ Below W.heap.size W w1 := by
  obtain ⟨h1, h2, h3⟩ := box3 (blk_below h hb (blk_lt h))
  exact ⟨h1, h2, h3, hb⟩
theorem held3 {a b c : Prop} {W w1 w2 : World} (h : a ∧ b ∧ c ∧ Below W.heap.size W w1) (hb : Below w1.heap.size w1 w2) : Below W.heap.size W w2 := h.2.2.2.trans (hb.mono h.2.2.2.size)
set_option maxRecDepth 100000 in
set_option maxHeartbeats 4000000 in
theorem instBack_walk (w : World) (cs0 : List Value) (x0 : Ins) (K0 : k_instr.K (· < w.heap.size) w x0 cs0) (A1 : Option Addr) (c1 : Nat) (x1 : (List Int)) (l1 : x1.length ≤ c1) (m1 : x1.length ≤ 140737488351232) (row1 : (Rd.int .u8).Row (· < w.heap.size) w A1 x1) :
    Calls Try.prog 12 #[.agg cs0.toArray, .slice A1 x1.length c1] w fun e w' => e = .returned (.bool true) ∧ Below w.heap.size w w' := by
  obtain ⟨cells, hfl, hlie⟩ := row1.flat
  obtain ⟨rfl, hB⟩ := byte_flat.1 hfl
  obtain ⟨rfl, f0, f1, f2⟩ := k_instr_open K0
  obtain ⟨op, a, b⟩ := x0
  have HL := Lib.hid hlie
  have HB := Lib.hid hB
  have HX0 := Lib.hid (blk_new w (Obj.cells #[.int .i64 op, .int .i64 a, .int .i64 b] 54))
  have HB0 := Lib.hid ((Below.refl w.heap.size w).alloc (Nat.le_refl _) (Obj.cells #[.int .i64 op, .int .i64 a, .int .i64 b] 54))
  clear hfl hlie row1 hB K0 f0 f1 f2
  by_cases hbig : 50 < x1.length
  · go_enter Try.func12, Try.ntmps12
    go_wp2_with (go_at_call 34; refine (instAnswers_calls _).mono ?_; rintro e w5 ⟨rfl, hb5⟩)
    go_ret
    exact ⟨rfl, HB0.out.trans (hb5.mono (by simp))⟩
  · obtain ⟨L, hL⟩ : ∃ L, L = (instB ⟨op, a, b⟩).length := ⟨_, rfl⟩
    have hL2 : L ≤ 30 := by rw [hL]; exact instB_len _
    have hL3 : L ≤ 1000000 := by omega
    have HLn := Lib.hid hL
    obtain ⟨n, hn⟩ : ∃ n, argsN op = n := ⟨_, rfl⟩
    have HN := Lib.hid hn
    have hIB := Lib.hid (instB_isB ⟨op, a, b⟩)
    have hway : (L = 0) ∨ (0 < L ∧ Hid (goodI ⟨op, a, b⟩ = true)) := by
      rcases Nat.eq_zero_or_pos L with h | h
      · exact .inl h
      · exact .inr ⟨h, Lib.hid (instB_good (fun e => by rw [hL, e] at h; simp at h))⟩
    clear hL hn
    go_enter Try.func12, Try.ntmps12
    go_wp2_with (first
      | (go_at_call 31; refine (put_calls _ op a b).mono ?_; rw [← HLn.out]; rintro e w1 ⟨A3, c3, rfl, ho, hb1⟩; have HO1 := Lib.hid ho; have HX1 := Lib.hid (blk_below HX0.out hb1 (by simp)); have HB1 := Lib.hid (HB0.out.trans (hb1.mono (by simp))); have hs1 := HB1.out.size; clear ho hb1))
    go_region_held3 (fun w' => w'.cell? ⟨w.heap.size, 0, none⟩ = some (.int .i64 op) ∧ w'.cell? ⟨w.heap.size, 1, none⟩ = some (.int .i64 a) ∧ w'.cell? ⟨w.heap.size, 2, none⟩ = some (.int .i64 b) ∧ Below w1.heap.size w1 w')
      (first
        | exact hold3 HX1.out (Below.refl _ _)
        | exact hold3 HX1.out (Below.refl _ _).drew
        | exact hold3 HX1.out (by assumption))
      (first
        | (go_at_call 35; refine (refInstr_calls _ op a b).mono ?_; rw [← HLn.out]; rintro e w' ⟨A4, c4, rfl, ho4, hb4⟩; have HO4 := Lib.hid ho4; have hbW : Below w1.heap.size w1 w' := held3 (by assumption) hb4; have HBW4 := Lib.hid hbW; clear ho4 hb4)
        | (go_at_call 25; refine (same_calls (S := fun b => (Value.slice A3 L c3).ownBlock = some b) (T := fun b => (Value.slice A4 L c4).ownBlock = some b) _ _ _ _ _ _ _ (instB ⟨op, a, b⟩) (instB ⟨op, a, b⟩) HLn.out.symm HLn.out.symm hL3 hL3 (fun b hb => Nat.lt_of_lt_of_le (HO1.out.lt b hb).2 HBW4.out.size) (fun b hb => (HO4.out.lt b hb).2) (own_brow (own_below HO1.out HBW4.out) HLn.out.symm hIB.out hL3) (own_brow HO4.out HLn.out.symm hIB.out hL3)).mono ?_; rintro e w' ⟨he, hb5⟩; obtain rfl := he.trans (ret_bool (decide_eq_true rfl)); have hbW : Below w1.heap.size w1 w' := held3 (by assumption) hb5; clear he hb5)
        | (go_at_call 36; refine (args_at _ op n HN.out).mono ?_; rintro e w' ⟨rfl, rfl⟩)
        | (go_at_call 30; refine (refArgs_at _ op n HN.out).mono ?_; rintro e w' ⟨rfl, hb6⟩; have hbW : Below w1.heap.size w1 w' := held3 (by assumption) hb6; clear hb6))
    have HW := Lib.hid hbW
    have hsW := hbW.size
    have HXW := Lib.hid (blk_below HX1.out hbW (blk_lt HX1.out))
    have hRl := blk_lt HXW.out
    have HBW := Lib.hid (HB1.out.trans (hbW.mono hs1))
    have hsw := HBW.out.size
    have HOW := Lib.hid (own_below HO1.out hbW)
    clear hbW HO4 HBW4 HO1
    rcases hway with rfl | ⟨hL1, hgd⟩
    · go_wp2_with (first
        | (go_at_call 34; refine (instAnswers_calls _).mono ?_; rintro e w5 ⟨rfl, hb5⟩))
      go_ret
      exact ⟨rfl, HBW.out.trans (hb5.mono hsw)⟩
    · have hL0 : (L == 0) = false := beq_eq_false_iff_ne.2 (by omega)
      have hL0' : ((L : Int) == 0) = false := beq_eq_false_iff_ne.2 (by omega)
      have hLz : ¬ L = 0 := by omega
      have HG := Lib.hid (getI_back ⟨op, a, b⟩ hgd.out x1)
      have hall := Lib.hid (show (instB ⟨op, a, b⟩ ++ x1).length = L + x1.length by rw [List.length_append, ← HLn.out])
      have hBall := Lib.hid (isB_append hIB.out HB.out)
      go_wp2_with (first
        | (at_builtin; refine list_app _ rfl (.tmp 33) (.tmp 34) _ rfl 5 Try.underlying29 byte_info rfl (by decide) (by decide) w'.heap.size rfl (World.ownsRow_made w' #[] 0 (Nat.le_refl _) (Nat.zero_le _) rfl) rfl (by rw [bcells_length, ← HLn.out]) (by exact (own_lie HOW.out).below ((Below.refl _ _).alloc (Nat.le_refl _) _)) (bcells_one _) (by omega) (by simp) ?_; intro v' w4 hown hg hat; have hB := grown_below ((Below.refl w'.heap.size w').alloc (Nat.le_refl _) _) hg (by simp) (.inr ⟨_, rfl, Nat.le_refl _⟩); simp only [Nat.zero_add, List.nil_append] at hown; obtain ⟨A4, c4, rfl, hn4, _, _⟩ := own_shape hown; have HO4 := Lib.hid hown; have HB4 := Lib.hid hB; have hs4 := hB.size; clear hown hg hat hB)
        | (at_builtin; refine list_app _ rfl (.tmp 35) (.tmp 36) _ rfl 5 Try.underlying29 byte_info rfl (by decide) (by decide) w'.heap.size rfl HO4.out rfl (bcells_length _) (by exact HL.out.below (HBW.out.trans (HB4.out.mono hsw))) (bcells_one _) (by omega) (by omega) ?_; intro v' w5 hown hg hat; have hB := grown_below HB4.out hg (by omega) (own_ge HO4.out); rw [← bcells_append] at hown; obtain ⟨A5, c5, rfl, hn5, _, _⟩ := own_shape hown; have HO5 := Lib.hid hown; have HB5 := Lib.hid hB; have hs5 := hB.size; clear hown hg hat hB)
        | (go_at_call 33; refine (newReader_calls _ _ _ _ (instB ⟨op, a, b⟩ ++ x1) hall.out (by omega) (own_lie HO5.out) hBall.out).mono ?_; rintro e w6 ⟨p, S, rfl, hR, hp, hS, hb6⟩; have HR6 := Lib.hid hR; have HB6 := Lib.hid (HB5.out.trans (hb6.mono (by omega))); have hp3 : w'.heap.size ≤ p := by omega
           have hs6 := HB6.out.size
           clear hR hS hb6)
        | (go_at_call 32; refine (get_ok _ _ _ _ HR6.out _ _ HG.out).mono ?_; rintro e w7 ⟨rfl, hR, hK⟩; have HB7 := Lib.hid (HB6.out.trans (hK.below hs6 (fun x hx e => by omega))); have hs7 := HB7.out.size; have HR7 := Lib.hid (hR.below ((Below.refl w7.heap.size w7).alloc (Nat.le_refl _) (Obj.cells #[.int .i64 op, .int .i64 a, .int .i64 b] 54))); have HX7 := Lib.hid (blk_new w7 (Obj.cells #[.int .i64 op, .int .i64 a, .int .i64 b] 54)); have HY7 := Lib.hid (blk_alloc (blk_below HXW.out HB7.out hRl) (Obj.cells #[.int .i64 op, .int .i64 a, .int .i64 b] 54)); clear hR hK)
        | (go_at_call 34; refine (instAnswers_calls _).mono ?_; rintro e w8 ⟨rfl, hb8⟩; have HR8 := Lib.hid (HR7.out.below hb8); obtain ⟨k0, k1, k2⟩ := box3 (blk_below HX7.out hb8 (by simp)); obtain ⟨j0, j1, j2⟩ := box3 (blk_below HY7.out hb8 (blk_lt HY7.out)); have HB8 := Lib.hid ((HB7.out.alloc hs7 (Obj.cells #[.int .i64 op, .int .i64 a, .int .i64 b] 54)).trans (hb8.mono (by first | omega | (simp; omega)))); clear hb8)
        | (go_at_call 37; refine (left_calls _ _ _ _ _ HR8.out).mono ?_; rintro e w9 ⟨rfl, rfl⟩))
      go_ret
      exact ⟨rfl, HBW.out.trans (HB8.out.mono hsw)⟩
end Go.Proofs.Ytjcceabdphkalaa
