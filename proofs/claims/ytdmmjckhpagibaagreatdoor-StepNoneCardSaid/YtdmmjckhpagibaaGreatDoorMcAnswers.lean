/- chrysalislaw15.answers. -/
import Derived.Test.YtdmmjckhpagibaaGreatDoorMcBegin
namespace Go.Proofs.YtdmmjckhpagibaaGreatDoor
open Go.RowKit Go.Sort
set_option linter.unusedVariables false
theorem rowA {V : World} {b1 b2 b3 : Nat} (h1 : V.heap[b1]? = some (.cells #[.int .u64 7] 43 (0, 0))) (h2 : V.heap[b2]? = some (.cells #[.int .i64 0, .int .i64 0, .int .i64 0, .int .i64 26, .int .i64 0, .int .i64 0] 27 (0, 0))) (h3 : V.heap[b3]? = some (.cells #[.slice none 0 0, .int .i64 1, .int .i64 0, .slice none 0 0, .slice (some ⟨b2, 0, none⟩) 2 2] 54 (0, 0))) : MRow (fun b => b < V.heap.size) V mA none (some ⟨b3, 0, none⟩) none (some ⟨b1, 0, none⟩) none 0 1 0 1 0 := by
  have hc : k_instr.Row (fun b => b < V.heap.size) V (some ⟨b2, 0, none⟩) [⟨0, 0, 0⟩, ⟨26, 0, 0⟩] :=
    Rd.Row.of_blk h2 (blk_lt h2) (cells := [.int .i64 0, .int .i64 0, .int .i64 0, .int .i64 26, .int .i64 0, .int .i64 0]) (Rd.Flat.cons (c := [.int .i64 0, .int .i64 0, .int .i64 0]) (k_instr_mk ⟨0, 0, 0⟩ (by decide) (by decide) (by decide)) (Rd.Flat.cons (c := [.int .i64 26, .int .i64 0, .int .i64 0]) (k_instr_mk ⟨26, 0, 0⟩ (by decide) (by decide) (by decide)) (Rd.Flat.nil _ _ _))) (fun j v hj => by simpa using hj)
  refine ⟨rfl, rfl, rfl, rfl, rfl, Rd.Row.nil _ _ _ _, ?_, Rd.Row.nil _ _ _ _, ?_, Rd.Row.nil _ _ _ _, fun b h => h⟩
  · exact Rd.Row.of_blk h3 (blk_lt h3) (cells := [.slice none 0 0, .int .i64 1, .int .i64 0, .slice none 0 0, .slice (some ⟨b2, 0, none⟩) 2 2]) (Rd.Flat.one (k_func_mk fA (A0 := none) (c0 := 0) (Nat.le_refl _) (Nat.zero_le _) (Rd.Row.nil _ _ _ _) (by decide) (by decide) (A3 := none) (c3 := 0) (Nat.le_refl _) (Nat.zero_le _) (Rd.Row.nil _ _ _ _) (A4 := some ⟨b2, 0, none⟩) (c4 := 2) (Nat.le_refl _) (by decide) hc)) (fun j v hj => by simpa using hj)
  · exact Rd.Row.of_blk h1 (blk_lt h1) (cells := [.int .u64 7]) (Rd.Flat.one (c := [.int .u64 7]) ⟨rfl, by decide⟩) (fun j v hj => by simpa using hj)
set_option maxRecDepth 100000 in
set_option maxHeartbeats 8000000 in
theorem answers_calls (w : World) (hg : Glob w) : Calls Tryz.prog 14 #[] w fun e w' => e = .returned (.bool true) ∧ Below w.heap.size w w' := by
  have HG := Lib.hid hg
  clear hg
  go_enter Tryz.func14, Tryz.ntmps14
  go_upto_region 3 with fail
  have hV : Below w.heap.size w (((((w.alloc (Obj.cells #[.int .i64 1, .int .i64 0] 23)).alloc (Obj.cells #[.int .u64 7] 43)).alloc (Obj.cells #[.int .i64 0, .int .i64 0, .int .i64 0, .int .i64 26, .int .i64 0, .int .i64 0] 27)).alloc (Obj.cells #[.slice none 0 0, .int .i64 1, .int .i64 0, .slice none 0 0, .slice (some ⟨w.heap.size + 1 + 1, 0, none⟩) 2 2] 54)).alloc (Obj.cells #[.slice none 0 0, .slice (some ⟨w.heap.size + 1 + 1 + 1, 0, none⟩) 1 1, .slice none 0 0, .slice (some ⟨w.heap.size + 1, 0, none⟩) 1 1, .slice none 0 0] 34)) := below_up (below_up (below_up (below_up (below_a1 w _) _) _) _) _
  have hM : MRow (fun b => b < (((((w.alloc (Obj.cells #[.int .i64 1, .int .i64 0] 23)).alloc (Obj.cells #[.int .u64 7] 43)).alloc (Obj.cells #[.int .i64 0, .int .i64 0, .int .i64 0, .int .i64 26, .int .i64 0, .int .i64 0] 27)).alloc (Obj.cells #[.slice none 0 0, .int .i64 1, .int .i64 0, .slice none 0 0, .slice (some ⟨w.heap.size + 1 + 1, 0, none⟩) 2 2] 54)).alloc (Obj.cells #[.slice none 0 0, .slice (some ⟨w.heap.size + 1 + 1 + 1, 0, none⟩) 1 1, .slice none 0 0, .slice (some ⟨w.heap.size + 1, 0, none⟩) 1 1, .slice none 0 0] 34)).heap.size) (((((w.alloc (Obj.cells #[.int .i64 1, .int .i64 0] 23)).alloc (Obj.cells #[.int .u64 7] 43)).alloc (Obj.cells #[.int .i64 0, .int .i64 0, .int .i64 0, .int .i64 26, .int .i64 0, .int .i64 0] 27)).alloc (Obj.cells #[.slice none 0 0, .int .i64 1, .int .i64 0, .slice none 0 0, .slice (some ⟨w.heap.size + 1 + 1, 0, none⟩) 2 2] 54)).alloc (Obj.cells #[.slice none 0 0, .slice (some ⟨w.heap.size + 1 + 1 + 1, 0, none⟩) 1 1, .slice none 0 0, .slice (some ⟨w.heap.size + 1, 0, none⟩) 1 1, .slice none 0 0] 34)) mA none (some ⟨w.heap.size + 1 + 1 + 1, 0, none⟩) none (some ⟨w.heap.size + 1, 0, none⟩) none 0 1 0 1 0 := rowA (b2 := w.heap.size + 1 + 1) (blk_alloc (blk_alloc (blk_alloc (blk_new2 w _ _) _) _) _) (blk_alloc (blk_alloc (blk_new3 w _ _ _) _) _) (blk_alloc (blk_new4 w _ _ _ _) _)
  have hX : (((((w.alloc (Obj.cells #[.int .i64 1, .int .i64 0] 23)).alloc (Obj.cells #[.int .u64 7] 43)).alloc (Obj.cells #[.int .i64 0, .int .i64 0, .int .i64 0, .int .i64 26, .int .i64 0, .int .i64 0] 27)).alloc (Obj.cells #[.slice none 0 0, .int .i64 1, .int .i64 0, .slice none 0 0, .slice (some ⟨w.heap.size + 1 + 1, 0, none⟩) 2 2] 54)).alloc (Obj.cells #[.slice none 0 0, .slice (some ⟨w.heap.size + 1 + 1 + 1, 0, none⟩) 1 1, .slice none 0 0, .slice (some ⟨w.heap.size + 1, 0, none⟩) 1 1, .slice none 0 0] 34)).heap[w.heap.size + 1 + 1 + 1 + 1]? = some (Obj.cells #[.slice none 0 0, .slice (some ⟨w.heap.size + 1 + 1 + 1, 0, none⟩) 1 1, .slice none 0 0, .slice (some ⟨w.heap.size + 1, 0, none⟩) 1 1, .slice none 0 0] 34) := by simpa using blk_new ((((w.alloc (Obj.cells #[.int .i64 1, .int .i64 0] 23)).alloc (Obj.cells #[.int .u64 7] 43)).alloc (Obj.cells #[.int .i64 0, .int .i64 0, .int .i64 0, .int .i64 26, .int .i64 0, .int .i64 0] 27)).alloc (Obj.cells #[.slice none 0 0, .int .i64 1, .int .i64 0, .slice none 0 0, .slice (some ⟨w.heap.size + 1 + 1, 0, none⟩) 2 2] 54)) (Obj.cells #[.slice none 0 0, .slice (some ⟨w.heap.size + 1 + 1 + 1, 0, none⟩) 1 1, .slice none 0 0, .slice (some ⟨w.heap.size + 1, 0, none⟩) 1 1, .slice none 0 0] 34)
  generalize (((((w.alloc (Obj.cells #[.int .i64 1, .int .i64 0] 23)).alloc (Obj.cells #[.int .u64 7] 43)).alloc (Obj.cells #[.int .i64 0, .int .i64 0, .int .i64 0, .int .i64 26, .int .i64 0, .int .i64 0] 27)).alloc (Obj.cells #[.slice none 0 0, .int .i64 1, .int .i64 0, .slice none 0 0, .slice (some ⟨w.heap.size + 1 + 1, 0, none⟩) 2 2] 54)).alloc (Obj.cells #[.slice none 0 0, .slice (some ⟨w.heap.size + 1 + 1 + 1, 0, none⟩) 1 1, .slice none 0 0, .slice (some ⟨w.heap.size + 1, 0, none⟩) 1 1, .slice none 0 0] 34)) = V at *
  have HM := Lib.hid hM
  have HX := Lib.hid hX
  have HV := Lib.hid hV
  clear hM hX hV
  go_region_held3 (fun w' => w'.cell? ⟨w.heap.size + 1 + 1 + 1 + 1, 0, none⟩ = some (.slice none 0 0) ∧ w'.cell? ⟨w.heap.size + 1 + 1 + 1 + 1, 1, none⟩ = some (.slice (some ⟨w.heap.size + 1 + 1 + 1, 0, none⟩) 1 1) ∧ w'.cell? ⟨w.heap.size + 1 + 1 + 1 + 1, 2, none⟩ = some (.slice none 0 0) ∧ w'.cell? ⟨w.heap.size + 1 + 1 + 1 + 1, 3, none⟩ = some (.slice (some ⟨w.heap.size + 1, 0, none⟩) 1 1) ∧ w'.cell? ⟨w.heap.size + 1 + 1 + 1 + 1, 4, none⟩ = some (.slice none 0 0) ∧ Below V.heap.size V w')
    (first | (refine hold5 HX.out ?_; first | with_reducible assumption | (repeat (first | exact Below.refl _ _ | refine Below.drew ?_))))
    (first
      | (go_at_call 12; go_must (refine (begin_calls _ mA _ _ _ _ _ _ _ _ _ _ 0 1 0 1 0 (HM.out.below (held5' (by assumption))) fA rfl rfl 0).mono ?_; rintro e w1 ⟨fb, LA, rfl, hfb, hgb, hb1⟩; have hbV1 : Below V.heap.size V w1 := Below.trans (held5' (by assumption)) (hb1.mono (held5' (by assumption)).size)))
      | (go_at_call 11; go_must (refine (load_calls (S := fun b => b < w1.heap.size) w1 mA _ _ _ _ _ _ _ _ _ _ 0 1 0 1 0 ((HM.out.below hbV1).mono (fun b hb => Nat.lt_of_lt_of_le hb hbV1.size) (fun b h => h)) mainA [[[], [⟨1, 0⟩]]] (straightA (HG.out.below (HV.out.trans (hbV1.mono HV.out.size)) HG.out.big) _ _ _ _ _ _ _ _ _ _ _ _ _ _ _) fA rfl rfl (by decide) (by decide) _ rfl rfl (by decide) fb 0 1 LA 0 [] rfl (fun x hx => by cases hx) (blk_lt hfb) (Rd.Row.nil _ _ _ _) (Nat.le_refl _) (blk_cell hfb 0) (blk_cell hfb 1) (blk_cell hfb 2) (blk_cell hfb 3) 0 (by decide) (by decide)).mono ?_; rintro e w2 ⟨p, FB, hp, tp, MA, mn, mc, c, L1, l1, rfl, hmc, hh, ht, hgF, hgp, hb2⟩; have hbV2 : Below V.heap.size V w2 := hbV1.trans (hb2.mono hbV1.size))))
  all_goals
    have hs1 : w.heap.size ≤ w1.heap.size := Nat.le_trans HV.out.size hbV1.size
    have hs2 : w1.heap.size ≤ w2.heap.size := hb2.size
    have hM2 : MRow (fun b => b < w1.heap.size) w2 mA none (some ⟨w.heap.size + 1 + 1 + 1, 0, none⟩) none (some ⟨w.heap.size + 1, 0, none⟩) none 0 1 0 1 0 := ((HM.out.below hbV1).mono (fun b hb => Nat.lt_of_lt_of_le hb hbV1.size) (fun b h => h)).below hb2
    have hbw2 : Below w.heap.size w w2 := HV.out.trans (hbV2.mono HV.out.size)
    have hfr2 := hmc.fr
    have hpx2 := hmc.box
    have K0 := Lib.hid (next_0 hmc hM2 (fun b hb => by omega) fA rfl (by decide) 0 0 rfl 7 rfl (.int .u64 0))
    have hhF : hp ≠ FB := by obtain ⟨cs, h1, _⟩ := hfr2; exact blk_ne hh h1 (by decide)
    have htF : tp ≠ FB := by obtain ⟨cs, h1, _⟩ := hfr2; exact blk_ne ht h1 (by decide)
    have hhp : hp ≠ p := blk_ne hh hpx2 (by decide)
    have htp : tp ≠ p := blk_ne ht hpx2 (by decide)
    have HM2 := Lib.hid hM2
    have HBw2 := Lib.hid hbw2
    have HH := Lib.hid hh
    have HT := Lib.hid ht
    clear hM2 hbw2 hfr2 hpx2 hh ht hmc hfb hb1 hb2 hbV1 hbV2
    go_upto_region 7 with (first
      | (go_at_call 13; (refine K0.out.mono ?_; rintro e w3 ⟨rfl, SA, sc, hm3, hsc, hl3, -, hk3⟩; have HK3 := Lib.hid hk3; have K1 := Lib.hid (next_26 hm3 (HM2.out.keepF (fun b hb => hk3.block b (HM2.out.lt b hb) (by rintro (h | h) <;> omega)) hk3.size) fA rfl (by decide) 0 0 rfl 7 hsc hl3 (.int .u64 0)); clear hm3 hl3 hk3 K0))
      | (go_at_call 13; (refine K1.out.mono ?_; rintro e w4 ⟨rfl, hE, hk4⟩; have HK4 := Lib.hid (HK3.out.trans hk4); have K2 := Lib.hid (state_calls hE ⟨_, (HK4.out.block hp (blk_lt HH.out) (by rintro (h | h) <;> contradiction)).trans HH.out⟩ ((HK4.out.block tp (blk_lt HT.out) (by rintro (h | h) <;> contradiction)).trans HT.out)); clear hE hk4))
      | (go_at_call 15; go_must (refine K2.out.mono ?_; rintro e w5 ⟨rfl, hb5⟩; have HB5 := Lib.hid hb5; clear hb5)))
    have hbk : Below w.heap.size w w4 := HBw2.out.trans (HK4.out.below (Nat.le_trans hs1 hs2) (fun x hx h => by rcases h with h | h <;> omega))
    have HBk := Lib.hid (hbk.trans (HB5.out.mono hbk.size))
    clear hbk
    go_wp2
    go_ret
    exact ⟨rfl, HBk.out.alloc HBk.out.size _⟩
end Go.Proofs.YtdmmjckhpagibaaGreatDoor
