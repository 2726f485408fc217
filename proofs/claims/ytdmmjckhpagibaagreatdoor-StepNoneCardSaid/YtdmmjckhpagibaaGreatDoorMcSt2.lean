/- state.Fits, of a state at a module's beginning (2): frames, whole, Fits. -/
import Derived.Test.YtdmmjckhpagibaaGreatDoorMcSt
namespace Go.Proofs.YtdmmjckhpagibaaGreatDoor
open Go.RowKit Go.Sort
set_option linter.unusedVariables false
theorem calls_behind0 {P : Program} {f : FuncId} {args : Array Value} {V : World} {v : Value} (h : ∀ W, Below V.heap.size V W → Calls P f args W fun e w' => e = .returned v ∧ Below W.heap.size W w') (d : Nat) (os : Array Go.Obj) : Calls P f args (grow (redrawn V d) os) fun e w'' => e = .returned v ∧ ∃ p : Regrown, w'' = grow (redrawn V p.d) p.os := calls_behind h d os
set_option maxRecDepth 100000 in
set_option maxHeartbeats 8000000 in
theorem frames_zero {S : Nat → Prop} (w : World) (p : Nat) {m : Md} {B0 B1 B2 B3 B4 : Option Addr} {m0 m1 m2 m3 m4 d0 d1 d2 d3 d4 : Nat} {MA : Option Addr} {mn mc : Nat} {mps : List (List Shp)} {FA OA HA : Option Addr} {fc oc hc : Nat} {q : Int} (h : Lk S w p m B0 B1 B2 B3 B4 m0 m1 m2 m3 m4 d0 d1 d2 d3 d4 MA mn mc mps FA OA HA fc oc hc q)
    (f : Fn) (hf : m.funcs[0]? = some f) (ha : f.args = []) (hl : f.locals.length ≤ 1000) (h5 : ∀ t ∈ f.locals, t.kind ≠ 5) (sh0 : List Shp) (hsh : mps[0]? = some sh0) (hs0 : sh0[0]? = some ⟨true, []⟩) (hc0 : 0 < f.code.length) (ws : List Int) (hw : ws.length = f.locals.length) (hz : ∀ x ∈ ws, x = 0) (rF : k_frame.Row S w FA [⟨0, 0, ws, []⟩]) :
    Calls Tryz.prog 52 #[.pointer (some ⟨p, 0, none⟩)] w fun e w' => e = .returned (.bool true) ∧ Below w.heap.size w w' := by
  obtain ⟨fb, fo, LA, lc, SA, sc, rfl, hSf, f0, f1, f2, f3, -, -, l2, -, rL, l3, -, rS⟩ := k_frame_at rF (i := 0) rfl
  simp only [Nat.zero_mul, Nat.add_zero, List.length_nil] at f0 f1 f2 f3
  rw [hw] at f2 l2
  have b6 : w.cell? ⟨p, 6, none⟩ = some (.slice (some ⟨fb, fo, none⟩) 1 fc) := blk_cell h.box 6
  have hV := below_a1 w (Obj.cells #[.int .i64 0, .int .i64 0, .slice LA f.locals.length lc, .slice SA 0 sc] 83)
  have hLV := h.below hV
  have hbx := blk_new w (Obj.cells #[.int .i64 0, .int .i64 0, .slice LA f.locals.length lc, .slice SA 0 sc] 83)
  obtain ⟨x0, x1, x2, x3⟩ : _ ∧ _ ∧ _ ∧ _ := ⟨blk_cell hbx 0, blk_cell hbx 1, blk_cell hbx 2, blk_cell hbx 3⟩
  have KA := Lib.hid (at_zero _ p hLV f hf ha hl h5 sh0 hsh [] hs0 hc0 LA SA lc sc ws hw hz (rL.keep (fun b hb => hV.block b (h.mrow.lt b hb))))
  have HL := Lib.hid h
  have HSh := Lib.hid hsh
  have HS0 := Lib.hid hs0
  have HV := Lib.hid hV
  have HBx := Lib.hid hbx
  clear h hf ha h5 hsh hs0 hc0 hz rL rS rF hV hLV hbx
  go_enter Tryz.func52, Tryz.ntmps52
  go_wp2_with fail
  go_loopw [13] (fun ix wr => ix = .int .i64 0 ∧ Hid (w = wr)) (fun _ _ => 0)
  case atStart => exact ⟨rfl, Lib.hid rfl⟩
  case round =>
    obtain ⟨rfl, he⟩ := hrel
    have e := he.out
    subst e
    go_upto_region 8 with (go_at_call 83; go_must (refine KA.out.mono ?_; rintro e w1 ⟨rfl, hb1⟩; have HB1 := Lib.hid (HV.out.trans (hb1.mono HV.out.size)); have hx1 := blk_below HBx.out hb1 (blk_lt HBx.out); have y0 : w1.cell? ⟨w.heap.size, 0, none⟩ = some (.int .i64 0) := blk_cell hx1 0; have y1 : w1.cell? ⟨w.heap.size, 1, none⟩ = some (.int .i64 0) := blk_cell hx1 1; have y3 : w1.cell? ⟨w.heap.size, 3, none⟩ = some (.slice SA 0 sc) := blk_cell hx1 3; clear hb1 hx1))
    obtain ⟨mb, mo, A5, c5, rfl, hSm, mm0, l5, m5, rS⟩ := row_slice_at (HL.out.below HB1.out).mp HSh.out
    obtain ⟨sb, so, A6, c6, rfl, hSs, -, ss1, -, -, -⟩ := k_shape_at rS HS0.out
    simp only [Nat.zero_mul, Nat.add_zero, List.length_nil] at mm0 ss1
    have hsl0 : 0 < sh0.length := (List.getElem?_eq_some_iff.1 HS0.out).1
    have hmn : 0 < mn := by have := (List.getElem?_eq_some_iff.1 HSh.out).1; have := HL.out.ml; omega
    have p5 : w1.cell? ⟨p, 5, none⟩ = some (.slice (some ⟨mb, mo, none⟩) mn mc) := blk_cell (HL.out.below HB1.out).box 5
    have g0 := cell_regrown y0
    have g1 := cell_regrown y1
    have g2 := cell_regrown y3
    have g3 := cell_regrown p5
    have g4 := cell_regrown mm0
    have g5 := cell_regrown ss1
    have KH := Lib.hid (fun W => have_zero (S := fun _ => False) W (.pointer (some ⟨p, 0, none⟩)) SA A6 0 sc c6 [] [] rfl (by omega) rfl (fun b h => h.elim) (Rd.Row.nil _ _ _ _) (Rd.Row.nil _ _ _ _) (fun x h => by cases h) (fun x h => by cases h))
    clear y0 y1 y3 p5 mm0 ss1 rS b6 f0 f1 f2 f3 x0 x1 x2 x3
    refine wp_region_quiet_below (by kernel_rfl) (by kernel_rfl) ?_
    repeat (first | go_big_quiet_step (with_reducible exact calls_regrown KH.out _ _) | quiet_step (with_reducible exact calls_regrown KH.out _ _))
    refine wpQuiet_nil ?_
    intro _ hw'
    obtain ⟨⟨dq, osq⟩, hw''⟩ := hw'
    subst hw''
    clear g0 g1 g2 g3 g4 g5
    have HBq := Lib.hid (below_regrown w1 dq osq)
    generalize grow (redrawn w1 dq) osq = wq at *
    go_wp2
    go_ret
    exact ⟨rfl, HB1.out.trans (HBq.out.mono HB1.out.size)⟩
theorem eg_whole1 : ∀ (args : Array Value) (w : World), (callFunc 78 args).run Tryz.prog w = .ok (.enter 78 args) w := eg_of Tryz.func78 (by kernel_rfl) rfl
theorem eg_whole2 : ∀ (args : Array Value) (w : World), (callFunc 81 args).run Tryz.prog w = .ok (.enter 81 args) w := eg_of Tryz.func81 (by kernel_rfl) rfl
set_option maxRecDepth 100000 in
set_option maxHeartbeats 8000000 in
theorem whole_zero {S : Nat → Prop} (w : World) (p : Nat) {m : Md} {B0 B1 B2 B3 B4 : Option Addr} {m0 m1 m2 m3 m4 d0 d1 d2 d3 d4 : Nat} {MA : Option Addr} {mn mc : Nat} {mps : List (List Shp)} {FA OA HA : Option Addr} {fc oc hc : Nat} {q : Int} (h : Lk S w p m B0 B1 B2 B3 B4 m0 m1 m2 m3 m4 d0 d1 d2 d3 d4 MA mn mc mps FA OA HA fc oc hc q) (hq0 : 0 ≤ q) (hq1 : q ≤ 65536) :
    Calls Tryz.prog 51 #[.pointer (some ⟨p, 0, none⟩)] w fun e w' => e = .returned (.bool true) ∧ Below w.heap.size w w' := by
  have hV := below_a1 w (Obj.cells #[.pointer (some ⟨p, 0, none⟩)] 123)
  have hb := blk_below h.box hV (blk_lt h.box)
  have p6 : (w.alloc (Obj.cells #[.pointer (some ⟨p, 0, none⟩)] 123)).cell? ⟨p, 6, none⟩ = some (.slice FA 1 fc) := blk_cell hb 6
  have p7 : (w.alloc (Obj.cells #[.pointer (some ⟨p, 0, none⟩)] 123)).cell? ⟨p, 7, none⟩ = some (.slice OA 0 oc) := blk_cell hb 7
  have p8 : (w.alloc (Obj.cells #[.pointer (some ⟨p, 0, none⟩)] 123)).cell? ⟨p, 8, none⟩ = some (.slice HA 0 hc) := blk_cell hb 8
  have p9 : (w.alloc (Obj.cells #[.pointer (some ⟨p, 0, none⟩)] 123)).cell? ⟨p, 9, none⟩ = some (.int .i64 q) := blk_cell hb 9
  have p10 : (w.alloc (Obj.cells #[.pointer (some ⟨p, 0, none⟩)] 123)).cell? ⟨p, 10, none⟩ = some (.int .i64 0) := blk_cell hb 10
  have p11 : (w.alloc (Obj.cells #[.pointer (some ⟨p, 0, none⟩)] 123)).cell? ⟨p, 11, none⟩ = some (.int .i64 0) := blk_cell hb 11
  have p12 : (w.alloc (Obj.cells #[.pointer (some ⟨p, 0, none⟩)] 123)).cell? ⟨p, 12, none⟩ = some (.int .u64 0) := blk_cell hb 12
  have K1 := Lib.hid (fun W => contains_Han (S := fun _ => False) W HA 0 hc [] rfl (by omega) (fun b h => h.elim) (Rd.Row.nil _ _ _ _) 78 eg_whole1 #[] (fun _ => false) (fun W x h => by cases h))
  have K2 := Lib.hid (fun W lb => contains_Ob (S := fun _ => False) W OA 0 oc [] rfl (by omega) (fun b h => h.elim) (Rd.Row.nil _ _ _ _) 81 eg_whole2 lb (fun _ => false) (fun W x _ _ _ _ h => by cases h))
  have HV := Lib.hid hV
  have HX := Lib.hid (blk_new2 w (Obj.cells #[.pointer (some ⟨p, 0, none⟩)] 123) (Obj.cells #[.slice FA 1 fc, .slice OA 0 oc, .slice HA 0 hc, .int .i64 q, .int .i64 0, .int .i64 0, .int .u64 0] 45))
  have HV2 := Lib.hid (below_up hV (Obj.cells #[.slice FA 1 fc, .slice OA 0 oc, .slice HA 0 hc, .int .i64 q, .int .i64 0, .int .i64 0, .int .u64 0] 45))
  clear h hV hb
  go_enter Tryz.func51, Tryz.ntmps51
  go_wp2_with (first
    | (go_at_call 79; go_must (refine (K1.out _).mono ?_; rintro e w1 ⟨rfl, hb1⟩; have HB1 := Lib.hid (HV2.out.trans (hb1.mono HV2.out.size)); have z1 : w1.cell? ⟨w.heap.size + 1, 1, none⟩ = some (.slice OA 0 oc) := blk_cell (blk_below HX.out hb1 (blk_lt HX.out)) 1; clear hb1))
    | (go_at_call 80; go_must (refine (K2.out _ _).mono ?_; rintro e w2 ⟨rfl, hb2⟩; have HB2 := Lib.hid (HB1.out.trans (hb2.mono HB1.out.size)); clear hb2)))
  go_ret
  exact ⟨rfl, HB2.out⟩
set_option maxRecDepth 100000 in
set_option maxHeartbeats 8000000 in
theorem fits_zero {S : Nat → Prop} (w : World) (m : Md) (B0 B1 B2 B3 B4 : Option Addr) (m0 m1 m2 m3 m4 d0 d1 d2 d3 d4 : Nat) (h : MRow S w m B0 B1 B2 B3 B4 m0 m1 m2 m3 m4) (MA : Option Addr) (mn mc : Nat) (mps : List (List Shp)) (hmp : (Rd.slice k_shape).Row S w MA mps) (hml : mps.length = mn) (FA OA HA : Option Addr) (fc oc hc : Nat) (q : Int) (hq0 : 0 ≤ q) (hq1 : q ≤ 65536)
    (f : Fn) (hf : m.funcs[0]? = some f) (ha : f.args = []) (hl : f.locals.length ≤ 1000) (h5 : ∀ t ∈ f.locals, t.kind ≠ 5) (sh0 : List Shp) (hsh : mps[0]? = some sh0) (hs0 : sh0[0]? = some ⟨true, []⟩) (hc0 : 0 < f.code.length) (ws : List Int) (hw : ws.length = f.locals.length) (hz : ∀ x ∈ ws, x = 0) (rF : k_frame.Row S w FA [⟨0, 0, ws, []⟩]) :
    Calls Tryz.prog 26 #[.agg #[.slice B0 m0 d0, .slice B1 m1 d1, .slice B2 m2 d2, .slice B3 m3 d3, .slice B4 m4 d4], .slice MA mn mc, .agg #[.slice FA 1 fc, .slice OA 0 oc, .slice HA 0 hc, .int .i64 q, .int .i64 0, .int .i64 0, .int .u64 0]] w fun e w' => e = .returned (.bool true) ∧ Below w.heap.size w w' := by
  have hV := below_up (below_up (below_a1 w (Obj.cells #[.slice B0 m0 d0, .slice B1 m1 d1, .slice B2 m2 d2, .slice B3 m3 d3, .slice B4 m4 d4] 34)) (Obj.cells #[.slice FA 1 fc, .slice OA 0 oc, .slice HA 0 hc, .int .i64 q, .int .i64 0, .int .i64 0, .int .u64 0] 45)) (Obj.cells #[.slice B0 m0 d0, .slice B1 m1 d1, .slice B2 m2 d2, .slice B3 m3 d3, .slice B4 m4 d4, .slice MA mn mc, .slice FA 1 fc, .slice OA 0 oc, .slice HA 0 hc, .int .i64 q, .int .i64 0, .int .i64 0, .int .u64 0] 125)
  have hL : Lk S _ (w.heap.size + 1 + 1) m B0 B1 B2 B3 B4 m0 m1 m2 m3 m4 d0 d1 d2 d3 d4 MA mn mc mps FA OA HA fc oc hc q := ⟨h.below hV, blk_new3 w _ _ _, hmp.keep (fun b hb => hV.block b (h.lt b hb)), hml⟩
  have hX := blk_alloc (blk_new2 w (Obj.cells #[.slice B0 m0 d0, .slice B1 m1 d1, .slice B2 m2 d2, .slice B3 m3 d3, .slice B4 m4 d4] 34) (Obj.cells #[.slice FA 1 fc, .slice OA 0 oc, .slice HA 0 hc, .int .i64 q, .int .i64 0, .int .i64 0, .int .u64 0] 45)) (Obj.cells #[.slice B0 m0 d0, .slice B1 m1 d1, .slice B2 m2 d2, .slice B3 m3 d3, .slice B4 m4 d4, .slice MA mn mc, .slice FA 1 fc, .slice OA 0 oc, .slice HA 0 hc, .int .i64 q, .int .i64 0, .int .i64 0, .int .u64 0] 125)
  have KW := Lib.hid (whole_zero _ _ hL hq0 hq1)
  have KF := Lib.hid (fun W (hb : Below _ _ W) => frames_zero W _ (hL.below hb) f hf ha hl h5 sh0 hsh hs0 hc0 ws hw hz (rF.keep (fun b hS => ((hb.block b (Nat.lt_of_lt_of_le (h.lt b hS) hV.size)).trans (hV.block b (h.lt b hS))))))
  have HV := Lib.hid hV
  have HX := Lib.hid hX
  clear h hmp hml hf ha h5 hsh hs0 hc0 hw hz rF hV hL hX
  go_enter Tryz.func26, Tryz.ntmps26
  go_wp2_with (first
    | (go_at_call 51; go_must (refine KW.out.mono ?_; rintro e w1 ⟨rfl, hb1⟩; have hx1 := blk_below HX.out hb1 (blk_lt HX.out); have z0 : w1.cell? ⟨w.heap.size + 1, 0, none⟩ = some (.slice FA 1 fc) := blk_cell hx1 0; have z1 : w1.cell? ⟨w.heap.size + 1, 5, none⟩ = some (.int .i64 0) := blk_cell hx1 5; have z2 : w1.cell? ⟨w.heap.size + 1, 6, none⟩ = some (.int .u64 0) := blk_cell hx1 6; have HB1 := Lib.hid hb1; clear hb1 hx1))
    | (go_at_call 52; go_must (refine (KF.out _ HB1.out).mono ?_; rintro e w2 ⟨rfl, hb2⟩; have HB2 := Lib.hid hb2; clear hb2)))
  go_ret
  exact ⟨rfl, HV.out.trans ((HB1.out.trans (HB2.out.mono HB1.out.size)).mono HV.out.size)⟩
end Go.Proofs.YtdmmjckhpagibaaGreatDoor
