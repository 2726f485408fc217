/- chrysalislaw18.answers; chrysalislaw18.ExecNone. -/
import Derived.Test.YtdmmjckhpagibaaGreatDoorExEnd
import Derived.Test.YtdmmjckhpagibaaGreatDoorZI
namespace Go.Proofs.YtdmmjckhpagibaaGreatDoor
open Go.RowKit Go.Sort
set_option linter.unusedVariables false
set_option linter.unusedSimpArgs false
def irssA : List (List Ir) := [[⟨0, 0, 0, 0, 0, 1⟩, ⟨26, 0, 0, 0, 1, 0⟩]]
theorem irOKA {w0 : World} (hg : Glob w0) (B0 B1 B2 B3 B4 : Option Addr) (m0 m1 m2 m3 m4 d0 d1 d2 d3 d4 : Nat) : IrOK w0 mA B0 B1 B2 B3 B4 m0 m1 m2 m3 m4 d0 d1 d2 d3 d4 [[[], [⟨1, 0⟩]]] irssA := fun n f h1 => by
  match n with
  | 0 =>
    injection h1 with h1
    subst h1
    refine ⟨_, _, rfl, rfl, by decide, by decide, by decide, by decide, by decide, fun k i h3 => ?_⟩
    match k with
    | 0 =>
      injection h3 with h3
      subst h3
      exact ⟨[], ([], [⟨1, 0⟩]), true, rfl, by decide, ofc_0 hg _ _ _ _ _ _ _ _ _ _ _ _ _ _ _ _ _ _ _ _, by decide, rfl⟩
    | 1 =>
      injection h3 with h3
      subst h3
      exact ⟨[⟨1, 0⟩], ([⟨1, 0⟩], []), true, rfl, by decide, ofc_26 hg _ _ _ _ _ _ _ _ _ _ _ _ _ _ _ _ _ _ _ _, by decide, rfl⟩
    | k + 2 => cases h3
  | n + 1 => cases h1
set_option maxRecDepth 100000 in
set_option maxHeartbeats 8000000 in
theorem answers18_calls (w : World) (hg : Glob w) : Calls Tryz.prog 21 #[] w fun e w' => e = .returned (.bool true) ∧ Below w.heap.size w w' := by
  have HG := Lib.hid hg
  clear hg
  go_enter Tryz.func21, Tryz.ntmps21
  go_upto_region 3 with fail
  have hV : Below w.heap.size w (((((w.alloc (Obj.cells #[.int .i64 1, .int .i64 0] 23)).alloc (Obj.cells #[.int .u64 7] 43)).alloc (Obj.cells #[.int .i64 0, .int .i64 0, .int .i64 0, .int .i64 26, .int .i64 0, .int .i64 0] 27)).alloc (Obj.cells #[.slice none 0 0, .int .i64 1, .int .i64 0, .slice none 0 0, .slice (some ⟨w.heap.size + 1 + 1, 0, none⟩) 2 2] 54)).alloc (Obj.cells #[.slice none 0 0, .slice (some ⟨w.heap.size + 1 + 1 + 1, 0, none⟩) 1 1, .slice none 0 0, .slice (some ⟨w.heap.size + 1, 0, none⟩) 1 1, .slice none 0 0] 34)) := below_up (below_up (below_up (below_up (below_a1 w _) _) _) _) _
  have hM : MRow (fun b => b < (((((w.alloc (Obj.cells #[.int .i64 1, .int .i64 0] 23)).alloc (Obj.cells #[.int .u64 7] 43)).alloc (Obj.cells #[.int .i64 0, .int .i64 0, .int .i64 0, .int .i64 26, .int .i64 0, .int .i64 0] 27)).alloc (Obj.cells #[.slice none 0 0, .int .i64 1, .int .i64 0, .slice none 0 0, .slice (some ⟨w.heap.size + 1 + 1, 0, none⟩) 2 2] 54)).alloc (Obj.cells #[.slice none 0 0, .slice (some ⟨w.heap.size + 1 + 1 + 1, 0, none⟩) 1 1, .slice none 0 0, .slice (some ⟨w.heap.size + 1, 0, none⟩) 1 1, .slice none 0 0] 34)).heap.size) (((((w.alloc (Obj.cells #[.int .i64 1, .int .i64 0] 23)).alloc (Obj.cells #[.int .u64 7] 43)).alloc (Obj.cells #[.int .i64 0, .int .i64 0, .int .i64 0, .int .i64 26, .int .i64 0, .int .i64 0] 27)).alloc (Obj.cells #[.slice none 0 0, .int .i64 1, .int .i64 0, .slice none 0 0, .slice (some ⟨w.heap.size + 1 + 1, 0, none⟩) 2 2] 54)).alloc (Obj.cells #[.slice none 0 0, .slice (some ⟨w.heap.size + 1 + 1 + 1, 0, none⟩) 1 1, .slice none 0 0, .slice (some ⟨w.heap.size + 1, 0, none⟩) 1 1, .slice none 0 0] 34)) mA none (some ⟨w.heap.size + 1 + 1 + 1, 0, none⟩) none (some ⟨w.heap.size + 1, 0, none⟩) none 0 1 0 1 0 := rowA (b2 := w.heap.size + 1 + 1) (blk_alloc (blk_alloc (blk_alloc (blk_new2 w _ _) _) _) _) (blk_alloc (blk_alloc (blk_new3 w _ _ _) _) _) (blk_alloc (blk_new4 w _ _ _ _) _)
  have hX : (((((w.alloc (Obj.cells #[.int .i64 1, .int .i64 0] 23)).alloc (Obj.cells #[.int .u64 7] 43)).alloc (Obj.cells #[.int .i64 0, .int .i64 0, .int .i64 0, .int .i64 26, .int .i64 0, .int .i64 0] 27)).alloc (Obj.cells #[.slice none 0 0, .int .i64 1, .int .i64 0, .slice none 0 0, .slice (some ⟨w.heap.size + 1 + 1, 0, none⟩) 2 2] 54)).alloc (Obj.cells #[.slice none 0 0, .slice (some ⟨w.heap.size + 1 + 1 + 1, 0, none⟩) 1 1, .slice none 0 0, .slice (some ⟨w.heap.size + 1, 0, none⟩) 1 1, .slice none 0 0] 34)).heap[w.heap.size + 1 + 1 + 1 + 1]? = some (Obj.cells #[.slice none 0 0, .slice (some ⟨w.heap.size + 1 + 1 + 1, 0, none⟩) 1 1, .slice none 0 0, .slice (some ⟨w.heap.size + 1, 0, none⟩) 1 1, .slice none 0 0] 34) := by simpa using blk_new ((((w.alloc (Obj.cells #[.int .i64 1, .int .i64 0] 23)).alloc (Obj.cells #[.int .u64 7] 43)).alloc (Obj.cells #[.int .i64 0, .int .i64 0, .int .i64 0, .int .i64 26, .int .i64 0, .int .i64 0] 27)).alloc (Obj.cells #[.slice none 0 0, .int .i64 1, .int .i64 0, .slice none 0 0, .slice (some ⟨w.heap.size + 1 + 1, 0, none⟩) 2 2] 54)) (Obj.cells #[.slice none 0 0, .slice (some ⟨w.heap.size + 1 + 1 + 1, 0, none⟩) 1 1, .slice none 0 0, .slice (some ⟨w.heap.size + 1, 0, none⟩) 1 1, .slice none 0 0] 34)
  generalize (((((w.alloc (Obj.cells #[.int .i64 1, .int .i64 0] 23)).alloc (Obj.cells #[.int .u64 7] 43)).alloc (Obj.cells #[.int .i64 0, .int .i64 0, .int .i64 0, .int .i64 26, .int .i64 0, .int .i64 0] 27)).alloc (Obj.cells #[.slice none 0 0, .int .i64 1, .int .i64 0, .slice none 0 0, .slice (some ⟨w.heap.size + 1 + 1, 0, none⟩) 2 2] 54)).alloc (Obj.cells #[.slice none 0 0, .slice (some ⟨w.heap.size + 1 + 1 + 1, 0, none⟩) 1 1, .slice none 0 0, .slice (some ⟨w.heap.size + 1, 0, none⟩) 1 1, .slice none 0 0] 34)) = V at *
  have HM := Lib.hid hM
  have HX := Lib.hid hX
  have HV := Lib.hid hV
  clear hM hX hV
  go_region_held3 (fun w' => w'.cell? ⟨w.heap.size + 1 + 1 + 1 + 1, 0, none⟩ = some (.slice none 0 0) ∧ w'.cell? ⟨w.heap.size + 1 + 1 + 1 + 1, 1, none⟩ = some (.slice (some ⟨w.heap.size + 1 + 1 + 1, 0, none⟩) 1 1) ∧ w'.cell? ⟨w.heap.size + 1 + 1 + 1 + 1, 2, none⟩ = some (.slice none 0 0) ∧ w'.cell? ⟨w.heap.size + 1 + 1 + 1 + 1, 3, none⟩ = some (.slice (some ⟨w.heap.size + 1, 0, none⟩) 1 1) ∧ w'.cell? ⟨w.heap.size + 1 + 1 + 1 + 1, 4, none⟩ = some (.slice none 0 0) ∧ Below V.heap.size V w')
    (first | (refine hold5 HX.out ?_; first | with_reducible assumption | (repeat (first | exact Below.refl _ _ | refine Below.drew ?_))))
    (first
      | (go_at_call 12; go_must (refine (begin_calls _ mA _ _ _ _ _ _ _ _ _ _ 0 1 0 1 0 (HM.out.below (held5' (by assumption))) fA rfl rfl 0).mono ?_; rintro e w1 ⟨fb, LA, rfl, hfb, hgb, hb1⟩; have hbV1 : Below V.heap.size V w1 := Below.trans (held5' (by assumption)) (hb1.mono (held5' (by assumption)).size)))
      | (go_at_call 18; go_must (refine (eload_calls (S := fun b => b < w1.heap.size) w1 mA _ _ _ _ _ _ _ _ _ _ 0 1 0 1 0 ((HM.out.below hbV1).mono (fun b hb => Nat.lt_of_lt_of_le hb hbV1.size) (fun b h => h)) mainA [[[], [⟨1, 0⟩]]] (straightA (HG.out.below (HV.out.trans (hbV1.mono HV.out.size)) HG.out.big) _ _ _ _ _ _ _ _ _ _ _ _ _ _ _) irssA rfl (irOKA (HG.out.below (HV.out.trans (hbV1.mono HV.out.size)) HG.out.big) _ _ _ _ _ _ _ _ _ _ _ _ _ _ _) fA rfl rfl rfl _ rfl rfl (by decide) fb 0 1 LA 0 (blk_lt hfb) (blk_cell hfb 0) (blk_cell hfb 1) (blk_cell hfb 2) (blk_cell hfb 3) 0 (by decide) (by decide)).mono ?_; rintro e w2 ⟨p, FB, hp, tp, C, cc, c, rfl, hen, hcr, hh, ht, hgF, hgp, hb2⟩; have hbV2 := hbV1.trans (hb2.mono hbV1.size))))
  all_goals
    have hs1 : w.heap.size ≤ w1.heap.size := Nat.le_trans HV.out.size hbV1.size
    have hs2 : w1.heap.size ≤ w2.heap.size := hb2.size
    have hM2 : MRow (fun b => b < w1.heap.size) w2 mA none (some ⟨w.heap.size + 1 + 1 + 1, 0, none⟩) none (some ⟨w.heap.size + 1, 0, none⟩) none 0 1 0 1 0 := ((HM.out.below hbV1).mono (fun b hb => Nat.lt_of_lt_of_le hb hbV1.size) (fun b h => h)).below hb2
    have hbw2 : Below w.heap.size w w2 := HV.out.trans (hbV2.mono HV.out.size)
    have K0 := Lib.hid (enext_0 hen hM2 (fun b hb => by omega) hcr rfl _ rfl (by decide) 0 0 rfl 7 rfl (.int .u64 0))
    obtain ⟨csF, hfb2, -⟩ := hen.fr
    have hhF : hp ≠ FB := blk_ne hh hfb2 (by decide)
    have htF : tp ≠ FB := blk_ne ht hfb2 (by decide)
    have hhp : hp ≠ p := blk_ne hh hen.box (by decide)
    have htp : tp ≠ p := blk_ne ht hen.box (by decide)
    have HI : Hid (∀ (g : Nat) (cs : Array Value), w2.heap[g]? = some (Go.Obj.cells cs 106 (0, 0)) → g ≠ FB ∧ g ≠ p) := Lib.hid (fun g cs e => ⟨blk_ne e hfb2 (by decide), blk_ne e hen.box (by decide)⟩)
    have HI2 : Hid (∀ (g : Nat) (cs : Array Value), w2.heap[g]? = some (Go.Obj.cells cs 140 (0, 0)) → g ≠ FB ∧ g ≠ p) := Lib.hid (fun g cs e => ⟨blk_ne e hfb2 (by decide), blk_ne e hen.box (by decide)⟩)
    have HCr := Lib.hid hcr
    have HBw2 := Lib.hid hbw2
    have HH := Lib.hid hh
    have HT := Lib.hid ht
    clear hM2 hbw2 hh ht hen hfb hfb2 hb1 hb2 hbV1 hbV2 hcr
    go_upto_region 7 with (first
      | (go_at_call 19; (refine K0.out.mono ?_; rintro e w3 ⟨rfl, he3, hk3⟩; have HK3 := Lib.hid hk3; have K1 := Lib.hid (enext_26 he3 (HCr.out.keep (fun g cs e => hk3.block g (blk_lt e) (by rintro (h | h); exact (HI.out g cs e).1 h; exact (HI.out g cs e).2 h)) (fun g cs e => hk3.block g (blk_lt e) (by rintro (h | h); exact (HI2.out g cs e).1 h; exact (HI2.out g cs e).2 h))) rfl _ rfl (by decide) 0 0 1 0 rfl (.int .u64 0)); clear he3 hk3 K0))
      | (go_at_call 19; (refine K1.out.mono ?_; rintro e w4 ⟨rfl, hE, hk4⟩; have HK4 := Lib.hid (HK3.out.trans hk4); have hE7 : EnE w4 p FB hp tp none (some ⟨w.heap.size + 1 + 1 + 1, 0, none⟩) none (some ⟨w.heap.size + 1, 0, none⟩) none 0 1 0 1 0 0 1 0 1 0 0 C 1 cc c 7 := hE; have K2 := Lib.hid (estate_calls hE7 ⟨_, (HK4.out.block hp (blk_lt HH.out) (by rintro (h | h) <;> contradiction)).trans HH.out⟩ ((HK4.out.block tp (blk_lt HT.out) (by rintro (h | h) <;> contradiction)).trans HT.out)); clear hE hE7 hk4))
      | (go_at_call 20; go_must (refine K2.out.mono ?_; rintro e w5 ⟨rfl, hb5⟩; have HB5 := Lib.hid hb5; clear hb5)))
    have hbk : Below w.heap.size w w4 := HBw2.out.trans (HK4.out.below (Nat.le_trans hs1 hs2) (fun x hx h => by rcases h with h | h <;> omega))
    have HBk := Lib.hid (hbk.trans (HB5.out.mono hbk.size))
    clear hbk
    go_wp2
    go_ret
    exact ⟨rfl, HBk.out.alloc HBk.out.size _⟩
set_option maxRecDepth 100000 in
set_option maxHeartbeats 8000000 in
theorem execNone_walk (w : World) (hg : Glob w) (a0 : Int) (w0 : (Lit.int .u64 a0).wf = true) : Calls Tryz.prog 9 #[.int .u64 a0] w fun e w' => e = .returned (.bool true) ∧ Below w.heap.size w w' := by
  have HG := Lib.hid hg
  clear hg
  go_enter Tryz.func9, Tryz.ntmps9
  go_wp2_with (first
    | (go_at_call 24; (refine (ewant_none _).mono ?_; rintro e w1 ⟨rfl, hb1⟩; have HB1 := Lib.hid hb1; clear hb1))
    | (go_at_call 19; (refine (enext_none _ _).mono ?_; rintro e w2 ⟨rfl, hb2⟩; have HB2 := Lib.hid (HB1.out.trans (hb2.mono HB1.out.size)); clear hb2))
    | (go_at_call 21; (refine (answers18_calls _ (HG.out.below HB2.out HG.out.big)).mono ?_; rintro e w3 ⟨rfl, hb3⟩; have HB3 := Lib.hid (HB2.out.trans (hb3.mono HB2.out.size)); clear hb3))
    | (go_at_call 20; (refine (estate_none _).mono ?_; rintro e w4 ⟨rfl, hb4⟩; have HB4 := Lib.hid (HB3.out.trans (hb4.mono HB3.out.size)); clear hb4))
    | (go_at_call 17; (refine (states_zero _).mono ?_; rintro e w5 ⟨rfl, hb5⟩; have HB5 := Lib.hid (HB4.out.trans (hb5.mono HB4.out.size)); clear hb5)))
  go_ret
  exact ⟨rfl, HB5.out⟩
end Go.Proofs.YtdmmjckhpagibaaGreatDoor
