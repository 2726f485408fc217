/- step.Load of a state at a module's beginning. -/
import Derived.Test.YtdmmjckhpagibaaGreatDoorMcFr
namespace Go.Proofs.YtdmmjckhpagibaaGreatDoor
open Go.RowKit Go.Sort
set_option linter.unusedVariables false
theorem hold12 {V w' : World} {p g : Nat} {t t' : TypeId} {a0 a1 a2 a3 a4 b0 b1 b2 b3 b4 b5 b6 : Value} (hp : V.heap[p]? = some (.cells #[a0, a1, a2, a3, a4] t (0, 0))) (hg : V.heap[g]? = some (.cells #[b0, b1, b2, b3, b4, b5, b6] t' (0, 0))) (hb : Below V.heap.size V w') :
    w'.cell? ⟨p, 0, none⟩ = some a0 ∧ w'.cell? ⟨p, 1, none⟩ = some a1 ∧ w'.cell? ⟨p, 2, none⟩ = some a2 ∧ w'.cell? ⟨p, 3, none⟩ = some a3 ∧ w'.cell? ⟨p, 4, none⟩ = some a4 ∧ w'.cell? ⟨g, 0, none⟩ = some b0 ∧ w'.cell? ⟨g, 1, none⟩ = some b1 ∧ w'.cell? ⟨g, 2, none⟩ = some b2 ∧ w'.cell? ⟨g, 3, none⟩ = some b3 ∧ w'.cell? ⟨g, 4, none⟩ = some b4 ∧ w'.cell? ⟨g, 5, none⟩ = some b5 ∧ w'.cell? ⟨g, 6, none⟩ = some b6 ∧ Below V.heap.size V w' :=
  have x := blk_below hp hb (blk_lt hp)
  have y := blk_below hg hb (blk_lt hg)
  ⟨blk_cell x 0, blk_cell x 1, blk_cell x 2, blk_cell x 3, blk_cell x 4, blk_cell y 0, blk_cell y 1, blk_cell y 2, blk_cell y 3, blk_cell y 4, blk_cell y 5, blk_cell y 6, hb⟩
theorem held12 {a b c d e f g h i j k l : Prop} {V w' : World} (hh : a ∧ b ∧ c ∧ d ∧ e ∧ f ∧ g ∧ h ∧ i ∧ j ∧ k ∧ l ∧ Below V.heap.size V w') : Below V.heap.size V w' := hh.2.2.2.2.2.2.2.2.2.2.2.2
theorem word_lie {S : Nat → Prop} {w : World} {A : Option Addr} {ws : List Int} (h : (Rd.int .u64).Row S w A ws) : Lie w A ws.length (wcells ws) := by
  obtain ⟨cells, hf, hl⟩ := h.flat
  obtain ⟨rfl, -⟩ := word_flat.1 hf
  exact hl
set_option maxRecDepth 100000 in
set_option maxHeartbeats 8000000 in
theorem load_calls {S : Nat → Prop} (w : World) (m : Md) (B0 B1 B2 B3 B4 : Option Addr) (m0 m1 m2 m3 m4 d0 d1 d2 d3 d4 : Nat) (h : MRow S w m B0 B1 B2 B3 B4 m0 m1 m2 m3 m4) (hm : mainL m = true) (stss : List (List (List Ty))) (hA : AllStr w m B0 B1 B2 B3 B4 m0 m1 m2 m3 m4 d0 d1 d2 d3 d4 stss) (f : Fn) (hf : m.funcs[0]? = some f) (ha : f.args = []) (hl : f.locals.length ≤ 1000) (h5 : ∀ t ∈ f.locals, t.kind ≠ 5) (sts0 : List (List Ty)) (hs0 : stss[0]? = some sts0) (hs00 : sts0[0]? = some []) (hc0 : 0 < f.code.length)
    (fb fo fc : Nat) (LA : Option Addr) (lc : Nat) (ws : List Int) (hw : ws.length = f.locals.length) (hz : ∀ x ∈ ws, x = 0) (hSfb : S fb) (hL : (Rd.int .u64).Row S w LA ws) (hlc : f.locals.length ≤ lc) (e0 : w.cell? ⟨fb, fo, none⟩ = some (.int .i64 0)) (e1 : w.cell? ⟨fb, fo + 1, none⟩ = some (.int .i64 0)) (e2 : w.cell? ⟨fb, fo + 2, none⟩ = some (.slice LA f.locals.length lc)) (e3 : w.cell? ⟨fb, fo + 3, none⟩ = some (.slice none 0 0)) (q : Int) (hq0 : 0 ≤ q) (hq1 : q ≤ 65536) :
    Calls Tryz.prog 11 #[.agg #[.slice B0 m0 d0, .slice B1 m1 d1, .slice B2 m2 d2, .slice B3 m3 d3, .slice B4 m4 d4], .agg #[.slice (some ⟨fb, fo, none⟩) 1 fc, .slice none 0 0, .slice none 0 0, .int .i64 q, .int .i64 0, .int .i64 0, .int .u64 0]] w fun e w' => ∃ p FB hp tp MA mn mc c L1 l1, e = .returned (.tuple #[.pointer (some ⟨p, 0, none⟩), .int .i64 0]) ∧ Mc1 w' p FB hp tp B0 B1 B2 B3 B4 m0 m1 m2 m3 m4 d0 d1 d2 d3 d4 q MA mn mc c 0 L1 f.locals.length l1 none 0 0 ∧
      w'.heap[hp]? = some (.cells #[.slice none 0 0, .int .i64 q, .int .i64 0] 167 (0, 0)) ∧ w'.heap[tp]? = some (.cells #[.slice none 0 0] 170 (0, 0)) ∧ w.heap.size ≤ FB ∧ w.heap.size ≤ p ∧ Below w.heap.size w w' := by
  have hV := below_up (below_a1 w (Obj.cells #[.slice B0 m0 d0, .slice B1 m1 d1, .slice B2 m2 d2, .slice B3 m3 d3, .slice B4 m4 d4] 34)) (Obj.cells #[.slice (some ⟨fb, fo, none⟩) 1 fc, .slice none 0 0, .slice none 0 0, .int .i64 q, .int .i64 0, .int .i64 0, .int .u64 0] 45)
  have HMb := Lib.hid (blk_alloc (blk_new w (Obj.cells #[.slice B0 m0 d0, .slice B1 m1 d1, .slice B2 m2 d2, .slice B3 m3 d3, .slice B4 m4 d4] 34)) (Obj.cells #[.slice (some ⟨fb, fo, none⟩) 1 fc, .slice none 0 0, .slice none 0 0, .int .i64 q, .int .i64 0, .int .i64 0, .int .u64 0] 45))
  have HSb := Lib.hid (blk_new2 w (Obj.cells #[.slice B0 m0 d0, .slice B1 m1 d1, .slice B2 m2 d2, .slice B3 m3 d3, .slice B4 m4 d4] 34) (Obj.cells #[.slice (some ⟨fb, fo, none⟩) 1 fc, .slice none 0 0, .slice none 0 0, .int .i64 q, .int .i64 0, .int .i64 0, .int .u64 0] 45))
  have hA2 : AllStr ((w.alloc (Obj.cells #[.slice B0 m0 d0, .slice B1 m1 d1, .slice B2 m2 d2, .slice B3 m3 d3, .slice B4 m4 d4] 34)).alloc (Obj.cells #[.slice (some ⟨fb, fo, none⟩) 1 fc, .slice none 0 0, .slice none 0 0, .int .i64 q, .int .i64 0, .int .i64 0, .int .u64 0] 45)) m B0 B1 B2 B3 B4 m0 m1 m2 m3 m4 d0 d1 d2 d3 d4 stss := ⟨hA.len, fun n f sts h1 h2 => ⟨(hA.each n f sts h1 h2).1.up hV, (hA.each n f sts h1 h2).2⟩, hA.many⟩
  have KC := Lib.hid (check_calls _ m B0 B1 B2 B3 B4 m0 m1 m2 m3 m4 d0 d1 d2 d3 d4 (h.below hV) hm stss hA2)
  have rF : ∀ W, Below w.heap.size w W → k_frame.Row S W (some ⟨fb, fo, none⟩) [⟨0, 0, ws, []⟩] := fun W hb _ => ⟨fb, fo, rfl, hSfb, fun i hi => by
    obtain rfl : i = 0 := by simp at hi; omega
    have hk := fun b hS => hb.block b (h.lt b hS)
    refine ⟨_, k_frame_mk (⟨0, 0, ws, []⟩ : Fr) (show (Lit.int .i64 0).wf = true by decide) (show (Lit.int .i64 0).wf = true by decide) (l2 := by rw [hw]; exact hlc) (by rw [hw]; omega) (hL.keep hk) (A3 := none) (c3 := 0) (Nat.le_refl _) (Nat.zero_le _) (Rd.Row.nil _ _ _ _), fun j v hj => ?_⟩
    match j with
    | 0 => injection hj with hj; subst hj; simpa using below_cell e0 hb
    | 1 => injection hj with hj; subst hj; simpa using below_cell e1 hb
    | 2 => injection hj with hj; subst hj; simpa [hw] using below_cell e2 hb
    | 3 => injection hj with hj; subst hj; simpa using below_cell e3 hb
    | j + 4 => cases hj⟩
  have KF := Lib.hid (fun W (hb : Below w.heap.size w W) MA mc (hmp : (Rd.slice k_shape).Row (fun b => b < W.heap.size) W MA (stss.map seenL)) => fits_zero (S := fun b => b < W.heap.size) W m B0 B1 B2 B3 B4 m0 m1 m2 m3 m4 d0 d1 d2 d3 d4 ((h.below hb).mono (fun b hS => Nat.lt_of_lt_of_le (h.lt b hS) hb.size) (fun b h => h)) MA stss.length mc (stss.map seenL) hmp (List.length_map ..) (some ⟨fb, fo, none⟩) none none fc 0 0 q hq0 hq1 f hf ha hl h5 (seenL sts0) (by rw [List.getElem?_map, hs0]; rfl) (by rw [seenL, List.getElem?_map, hs00]; rfl) hc0 ws hw hz ((rF W hb).mono (fun b hS => Nat.lt_of_lt_of_le (h.lt b hS) hb.size)))
  have KE := Lib.hid (fun W => enter_calls W B0 B1 B2 B3 B4 m0 m1 m2 m3 m4 d0 d1 d2 d3 d4 (.slice (some ⟨fb, fo, none⟩) 1 fc) ⟨_, _, _, rfl⟩ q)
  have KFr := Lib.hid (fun W (hb : Below w.heap.size w W) => frames_one W fb fo fc LA f.locals.length lc ws hw hl (by have := (word_lie ((hL.keep (fun b hS => hb.block b (h.lt b hS))))); rw [hw] at this; exact this) (below_cell e0 hb) (below_cell e1 hb) (below_cell e2 hb) (below_cell e3 hb))
  have HV := Lib.hid hV
  clear h hA hA2 hf ha h5 hs0 hs00 hz hL e0 e1 e2 e3 rF hV hm
  go_enter Tryz.func11, Tryz.ntmps11
  go_upto_region 6 with (first
    | (go_at_call 25; go_must (refine KC.out.mono ?_; rintro e w1 ⟨MA, mc, rfl, hmp, hmc, hb1⟩; have HMp := Lib.hid hmp; have HB1 := Lib.hid hb1; have hx1 := blk_below HMb.out hb1 (blk_lt HMb.out); have hy1 := blk_below HSb.out hb1 (blk_lt HSb.out); obtain ⟨a0, a1, a2, a3, a4⟩ := cells5 hx1; obtain ⟨⟨b0, b1, b2, b3, b4, b5, b6⟩, -⟩ := box7f hy1; have HX1 := Lib.hid hx1; have HY1 := Lib.hid hy1; clear hmp hb1 hx1 hy1))
    | (go_at_call 26; go_must (refine (KF.out _ (HV.out.trans (HB1.out.mono HV.out.size)) MA mc HMp.out).mono ?_; rintro e w2 ⟨rfl, hb2⟩; have HB2 := Lib.hid hb2; have HX2 := Lib.hid (blk_below HX1.out hb2 (blk_lt HX1.out)); have HY2 := Lib.hid (blk_below HY1.out hb2 (blk_lt HY1.out)); clear hb2)))
  have HB2w := Lib.hid (HV.out.trans ((HB1.out.trans (HB2.out.mono HB1.out.size)).mono HV.out.size))
  go_region_held3 (fun w' => w'.cell? ⟨w.heap.size, 0, none⟩ = some (.slice B0 m0 d0) ∧ w'.cell? ⟨w.heap.size, 1, none⟩ = some (.slice B1 m1 d1) ∧ w'.cell? ⟨w.heap.size, 2, none⟩ = some (.slice B2 m2 d2) ∧ w'.cell? ⟨w.heap.size, 3, none⟩ = some (.slice B3 m3 d3) ∧ w'.cell? ⟨w.heap.size, 4, none⟩ = some (.slice B4 m4 d4) ∧ w'.cell? ⟨w.heap.size + 1, 0, none⟩ = some (.slice (some ⟨fb, fo, none⟩) 1 fc) ∧ w'.cell? ⟨w.heap.size + 1, 1, none⟩ = some (.slice none 0 0) ∧ w'.cell? ⟨w.heap.size + 1, 2, none⟩ = some (.slice none 0 0) ∧ w'.cell? ⟨w.heap.size + 1, 3, none⟩ = some (.int .i64 q) ∧ w'.cell? ⟨w.heap.size + 1, 4, none⟩ = some (.int .i64 0) ∧ w'.cell? ⟨w.heap.size + 1, 5, none⟩ = some (.int .i64 0) ∧ w'.cell? ⟨w.heap.size + 1, 6, none⟩ = some (.int .u64 0) ∧ Below w2.heap.size w2 w')
    (first | (refine hold12 HX2.out HY2.out ?_; first | with_reducible assumption | (repeat (first | exact Below.refl _ _ | exact held12 (by assumption) | refine Below.drew ?_ | refine below_up ?_ _))))
    (first
      | (go_at_call 27; go_must (refine (KE.out _).mono ?_; rintro e w3 ⟨hp, tp, rfl, hh3, ht3, hgh, hgt, hb3⟩; have hbV3 : Below w2.heap.size w2 w3 := Below.trans (held12 (by assumption)) (hb3.mono (held12 (by assumption)).size)))
      | (go_at_call 28; go_must (refine (KFr.out _ (HB2w.out.trans ((held12 (by assumption)).mono HB2w.out.size))).mono ?_; rintro e w4 ⟨FB, c, L1, l1, rfl, hfr4, hgF, hb4⟩; have hbV4 : Below w2.heap.size w2 w4 := Below.trans (held12 (by assumption)) (hb4.mono (held12 (by assumption)).size))))
  all_goals
    go_wp2
    go_ret2
    obtain ⟨cs, h4, h5, h6⟩ := hfr4
    refine ⟨w4.heap.size, FB, hp, tp, MA, stss.length, mc, c, L1, l1, rfl, ⟨blk_new w4 _, cs, blk_alloc h4 _, h5, h6⟩, blk_alloc (blk_below hh3 hb4 (blk_lt hh3)) _, blk_alloc (blk_below ht3 hb4 (blk_lt ht3)) _, ?_, ?_, (HB2w.out.trans (hbV4.mono HB2w.out.size)).alloc (HB2w.out.trans (hbV4.mono HB2w.out.size)).size _⟩
    · exact Nat.le_trans (Nat.le_trans HB2w.out.size hbV3.size) hgF
    · exact Nat.le_trans HB2w.out.size hbV4.size
end Go.Proofs.YtdmmjckhpagibaaGreatDoor
