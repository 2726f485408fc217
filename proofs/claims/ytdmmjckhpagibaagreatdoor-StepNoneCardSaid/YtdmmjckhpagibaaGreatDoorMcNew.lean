/- heap.New of nothing, hans.New of nothing. -/
import Derived.Test.YtdmmjckhpagibaaGreatDoorMcEnd
namespace Go.Proofs.YtdmmjckhpagibaaGreatDoor
open Go.RowKit Go.Sort
set_option linter.unusedVariables false
set_option maxRecDepth 100000 in
theorem copy_nil (w : World) : Calls Tryz.prog 86 #[.slice none 0 0] w fun e w' => e = .returned (.slice none 0 0) ∧ Below w.heap.size w w' := by
  go_enter Tryz.func86, Tryz.ntmps86
  go_wp2_with fail
  go_loopw [3, 8] (fun o ix wr => o = .slice none 0 0 ∧ ix = .int .i64 0 ∧ Hid (w = wr)) (fun _ _ _ => 0)
  case atStart => exact ⟨rfl, rfl, Lib.hid rfl⟩
  case round =>
    obtain ⟨rfl, rfl, he⟩ := hrel
    have e := he.out
    subst e
    go_wp2
    go_ret
    exact ⟨rfl, Below.refl _ _⟩
set_option maxRecDepth 100000 in
theorem heapNew_nil (w : World) (q u : Int) : Calls Tryz.prog 53 #[.slice none 0 0, .int .i64 q, .int .i64 u] w fun e w' => ∃ g, e = .returned (.pointer (some ⟨g, 0, none⟩)) ∧ w'.heap[g]? = some (.cells #[.slice none 0 0, .int .i64 q, .int .i64 u] 167 (0, 0)) ∧ w.heap.size ≤ g ∧ Below w.heap.size w w' := by
  go_enter Tryz.func53, Tryz.ntmps53
  go_wp2_with (go_at_call 86; refine (copy_nil _).mono ?_; rintro e w1 ⟨rfl, hb1⟩)
  go_ret
  exact ⟨_, rfl, blk_new _ _, hb1.size, hb1.alloc hb1.size _⟩
set_option maxRecDepth 100000 in
theorem hansNew_nil (w : World) : Calls Tryz.prog 54 #[.slice none 0 0] w fun e w' => ∃ g, e = .returned (.pointer (some ⟨g, 0, none⟩)) ∧ w'.heap[g]? = some (.cells #[.slice none 0 0] 170 (0, 0)) ∧ w.heap.size ≤ g ∧ Below w.heap.size w w' := by
  go_enter Tryz.func54, Tryz.ntmps54
  go_wp2_with (go_at_call 87; refine (cloneH_nil _).mono ?_; rintro e w1 ⟨rfl, hb1⟩)
  go_ret
  exact ⟨_, rfl, blk_new _ _, hb1.size, hb1.alloc hb1.size _⟩
theorem enter_results (tmps : Array Value) (w : World) (b : Nat) (cs : Array Value) (hs : cs.size = 11) (h : tmps.getD 4 undef = .pointer (some ⟨b, 0, none⟩)) (hb : w.heap[b]? = some (.cells cs 77 (0, 0))) :
    (results Tryz.f27 tmps).run Tryz.prog w = .ok (.agg cs) w :=
  results_cell_row Tryz.results27 tmps w b _ _ _ _ h hb Tryz.underlying77 rfl (by rw [hs]; kernel_rfl)
theorem hold11 {V w' : World} {p g : Nat} {t t' : TypeId} {cs cs' : Array Value} {a0 a1 a2 a3 a4 b1 b2 b3 b4 b5 b6 : Value} (hp : V.heap[p]? = some (.cells cs t (0, 0))) (hg : V.heap[g]? = some (.cells cs' t' (0, 0))) (h0 : cs[0]? = some a0) (h1 : cs[1]? = some a1) (h2 : cs[2]? = some a2) (h3 : cs[3]? = some a3) (h4 : cs[4]? = some a4) (k1 : cs'[1]? = some b1) (k2 : cs'[2]? = some b2) (k3 : cs'[3]? = some b3) (k4 : cs'[4]? = some b4) (k5 : cs'[5]? = some b5) (k6 : cs'[6]? = some b6) (hb : Below V.heap.size V w') :
    w'.cell? ⟨p, 0, none⟩ = some a0 ∧ w'.cell? ⟨p, 1, none⟩ = some a1 ∧ w'.cell? ⟨p, 2, none⟩ = some a2 ∧ w'.cell? ⟨p, 3, none⟩ = some a3 ∧ w'.cell? ⟨p, 4, none⟩ = some a4 ∧ w'.cell? ⟨g, 1, none⟩ = some b1 ∧ w'.cell? ⟨g, 2, none⟩ = some b2 ∧ w'.cell? ⟨g, 3, none⟩ = some b3 ∧ w'.cell? ⟨g, 4, none⟩ = some b4 ∧ w'.cell? ⟨g, 5, none⟩ = some b5 ∧ w'.cell? ⟨g, 6, none⟩ = some b6 ∧ Below V.heap.size V w' :=
  have x := blk_below hp hb (blk_lt hp)
  have y := blk_below hg hb (blk_lt hg)
  ⟨(blk_cell x 0).trans h0, (blk_cell x 1).trans h1, (blk_cell x 2).trans h2, (blk_cell x 3).trans h3, (blk_cell x 4).trans h4, (blk_cell y 1).trans k1, (blk_cell y 2).trans k2, (blk_cell y 3).trans k3, (blk_cell y 4).trans k4, (blk_cell y 5).trans k5, (blk_cell y 6).trans k6, hb⟩
theorem held11 {a b c d e f g h i j k : Prop} {V w' : World} (hh : a ∧ b ∧ c ∧ d ∧ e ∧ f ∧ g ∧ h ∧ i ∧ j ∧ k ∧ Below V.heap.size V w') : Below V.heap.size V w' := hh.2.2.2.2.2.2.2.2.2.2.2
theorem box11f {W : World} {g : Nat} {t : TypeId} {z0 z1 z2 z3 z4 z5 z6 z7 z8 z9 z10 : Value} (hh : W.heap[g]? = some (.cells #[z0, z1, z2, z3, z4, z5, z6, z7, z8, z9, z10] t (0, 0))) : (W.cell? ⟨g, 0, none⟩ = some z0 ∧ W.cell? ⟨g, 1, none⟩ = some z1 ∧ W.cell? ⟨g, 2, none⟩ = some z2 ∧ W.cell? ⟨g, 3, none⟩ = some z3 ∧ W.cell? ⟨g, 4, none⟩ = some z4 ∧ W.cell? ⟨g, 5, none⟩ = some z5 ∧ W.cell? ⟨g, 6, none⟩ = some z6 ∧ W.cell? ⟨g, 7, none⟩ = some z7 ∧ W.cell? ⟨g, 8, none⟩ = some z8 ∧ W.cell? ⟨g, 9, none⟩ = some z9 ∧ W.cell? ⟨g, 10, none⟩ = some z10) ∧ W.frozen? ⟨g, 0, none⟩ = false ∧ W.frozen? ⟨g, 1, none⟩ = false ∧ W.frozen? ⟨g, 2, none⟩ = false ∧ W.frozen? ⟨g, 3, none⟩ = false ∧ W.frozen? ⟨g, 4, none⟩ = false ∧ W.frozen? ⟨g, 5, none⟩ = false ∧ W.frozen? ⟨g, 6, none⟩ = false ∧ W.frozen? ⟨g, 7, none⟩ = false ∧ W.frozen? ⟨g, 8, none⟩ = false ∧ W.frozen? ⟨g, 9, none⟩ = false ∧ W.frozen? ⟨g, 10, none⟩ = false :=
  ⟨⟨blk_cell hh 0, blk_cell hh 1, blk_cell hh 2, blk_cell hh 3, blk_cell hh 4, blk_cell hh 5, blk_cell hh 6, blk_cell hh 7, blk_cell hh 8, blk_cell hh 9, blk_cell hh 10⟩, blk_frozen hh 0, blk_frozen hh 1, blk_frozen hh 2, blk_frozen hh 3, blk_frozen hh 4, blk_frozen hh 5, blk_frozen hh 6, blk_frozen hh 7, blk_frozen hh 8, blk_frozen hh 9, blk_frozen hh 10⟩
theorem set11f {W : World} {g : Nat} {t : TypeId} {z0 z1 z2 z3 z4 z5 z6 z7 z8 z9 z10 : Value} (hh : W.heap[g]? = some (.cells #[z0, z1, z2, z3, z4, z5, z6, z7, z8, z9, z10] t (0, 0))) (y0 y1 y2 y3 y4 y5 y6 y7 y8 y9 y10 : Value) :
    (((((((((((W.setCell ⟨g, 0, none⟩ y0).setCell ⟨g, 1, none⟩ y1).setCell ⟨g, 2, none⟩ y2).setCell ⟨g, 3, none⟩ y3).setCell ⟨g, 4, none⟩ y4).setCell ⟨g, 5, none⟩ y5).setCell ⟨g, 6, none⟩ y6).setCell ⟨g, 7, none⟩ y7).setCell ⟨g, 8, none⟩ y8).setCell ⟨g, 9, none⟩ y9).setCell ⟨g, 10, none⟩ y10).heap[g]? = some (.cells #[y0, y1, y2, y3, y4, y5, y6, y7, y8, y9, y10] t (0, 0)) := by
  have h2 := (blk_set (blk_set (blk_set (blk_set (blk_set (blk_set (blk_set (blk_set (blk_set (blk_set (blk_set hh 0 y0) 1 y1) 2 y2) 3 y3) 4 y4) 5 y5) 6 y6) 7 y7) 8 y8) 9 y9) 10 y10)
  simpa using h2
theorem below11f {B : Nat} {w W : World} {g : Nat} (hh : Below B w W) (hb : B ≤ g) (y0 y1 y2 y3 y4 y5 y6 y7 y8 y9 y10 : Value) : Below B w (((((((((((W.setCell ⟨g, 0, none⟩ y0).setCell ⟨g, 1, none⟩ y1).setCell ⟨g, 2, none⟩ y2).setCell ⟨g, 3, none⟩ y3).setCell ⟨g, 4, none⟩ y4).setCell ⟨g, 5, none⟩ y5).setCell ⟨g, 6, none⟩ y6).setCell ⟨g, 7, none⟩ y7).setCell ⟨g, 8, none⟩ y8).setCell ⟨g, 9, none⟩ y9).setCell ⟨g, 10, none⟩ y10) :=
  (((((((((((hh.setCell (p := ⟨g, 0, none⟩) hb y0).setCell (p := ⟨g, 1, none⟩) hb y1).setCell (p := ⟨g, 2, none⟩) hb y2).setCell (p := ⟨g, 3, none⟩) hb y3).setCell (p := ⟨g, 4, none⟩) hb y4).setCell (p := ⟨g, 5, none⟩) hb y5).setCell (p := ⟨g, 6, none⟩) hb y6).setCell (p := ⟨g, 7, none⟩) hb y7).setCell (p := ⟨g, 8, none⟩) hb y8).setCell (p := ⟨g, 9, none⟩) hb y9).setCell (p := ⟨g, 10, none⟩) hb y10)
theorem far11f {W : World} {g x : Nat} (hx : x ≠ g) (y0 y1 y2 y3 y4 y5 y6 y7 y8 y9 y10 : Value) : (((((((((((W.setCell ⟨g, 0, none⟩ y0).setCell ⟨g, 1, none⟩ y1).setCell ⟨g, 2, none⟩ y2).setCell ⟨g, 3, none⟩ y3).setCell ⟨g, 4, none⟩ y4).setCell ⟨g, 5, none⟩ y5).setCell ⟨g, 6, none⟩ y6).setCell ⟨g, 7, none⟩ y7).setCell ⟨g, 8, none⟩ y8).setCell ⟨g, 9, none⟩ y9).setCell ⟨g, 10, none⟩ y10).heap[x]? = W.heap[x]? :=
  (Below.heap_setCell _ _ _ x hx).trans ((Below.heap_setCell _ _ _ x hx).trans ((Below.heap_setCell _ _ _ x hx).trans ((Below.heap_setCell _ _ _ x hx).trans ((Below.heap_setCell _ _ _ x hx).trans ((Below.heap_setCell _ _ _ x hx).trans ((Below.heap_setCell _ _ _ x hx).trans ((Below.heap_setCell _ _ _ x hx).trans ((Below.heap_setCell _ _ _ x hx).trans ((Below.heap_setCell _ _ _ x hx).trans (Below.heap_setCell _ _ _ x hx))))))))))
set_option maxRecDepth 100000 in
set_option maxHeartbeats 8000000 in
theorem enter_calls (w : World) (B0 B1 B2 B3 B4 : Option Addr) (m0 m1 m2 m3 m4 d0 d1 d2 d3 d4 : Nat) (fs : Value) (hfs : ∃ A n c, fs = .slice A n c) (q : Int) :
    Calls Tryz.prog 27 #[.agg #[.slice B0 m0 d0, .slice B1 m1 d1, .slice B2 m2 d2, .slice B3 m3 d3, .slice B4 m4 d4], .agg #[fs, .slice none 0 0, .slice none 0 0, .int .i64 q, .int .i64 0, .int .i64 0, .int .u64 0]] w fun e w' => ∃ hp tp, e = .returned (.agg #[.slice B0 m0 d0, .slice B1 m1 d1, .slice B2 m2 d2, .slice B3 m3 d3, .slice B4 m4 d4, .pointer (some ⟨hp, 0, none⟩), .pointer (some ⟨tp, 0, none⟩), .int .i64 q, .int .i64 0, .int .u64 0, .slice none 0 0]) ∧
      w'.heap[hp]? = some (.cells #[.slice none 0 0, .int .i64 q, .int .i64 0] 167 (0, 0)) ∧ w'.heap[tp]? = some (.cells #[.slice none 0 0] 170 (0, 0)) ∧ w.heap.size ≤ hp ∧ w.heap.size ≤ tp ∧ Below w.heap.size w w' := by
  obtain ⟨FA, fn, fc, rfl⟩ := hfs
  have hV := below_up (below_a1 w (Obj.cells #[.slice B0 m0 d0, .slice B1 m1 d1, .slice B2 m2 d2, .slice B3 m3 d3, .slice B4 m4 d4] 34)) (Obj.cells #[.slice FA fn fc, .slice none 0 0, .slice none 0 0, .int .i64 q, .int .i64 0, .int .i64 0, .int .u64 0] 45)
  have HM := Lib.hid (blk_alloc (blk_new w (Obj.cells #[.slice B0 m0 d0, .slice B1 m1 d1, .slice B2 m2 d2, .slice B3 m3 d3, .slice B4 m4 d4] 34)) (Obj.cells #[.slice FA fn fc, .slice none 0 0, .slice none 0 0, .int .i64 q, .int .i64 0, .int .i64 0, .int .u64 0] 45))
  have HSt := Lib.hid (blk_new2 w (Obj.cells #[.slice B0 m0 d0, .slice B1 m1 d1, .slice B2 m2 d2, .slice B3 m3 d3, .slice B4 m4 d4] 34) (Obj.cells #[.slice FA fn fc, .slice none 0 0, .slice none 0 0, .int .i64 q, .int .i64 0, .int .i64 0, .int .u64 0] 45))
  have HV := Lib.hid hV
  have hUs : ((w.alloc (Obj.cells #[.slice B0 m0 d0, .slice B1 m1 d1, .slice B2 m2 d2, .slice B3 m3 d3, .slice B4 m4 d4] 34)).alloc (Obj.cells #[.slice FA fn fc, .slice none 0 0, .slice none 0 0, .int .i64 q, .int .i64 0, .int .i64 0, .int .u64 0] 45)).heap.size = w.heap.size + 1 + 1 := by simp
  have HN := Lib.hid (show (((w.alloc (Obj.cells #[.slice B0 m0 d0, .slice B1 m1 d1, .slice B2 m2 d2, .slice B3 m3 d3, .slice B4 m4 d4] 34)).alloc (Obj.cells #[.slice FA fn fc, .slice none 0 0, .slice none 0 0, .int .i64 q, .int .i64 0, .int .i64 0, .int .u64 0] 45)).alloc (Obj.cells #[.slice none 0 0, .slice none 0 0, .slice none 0 0, .slice none 0 0, .slice none 0 0, .pointer none, .pointer none, .int .i64 0, .int .i64 0, .int .u64 0, .slice none 0 0] 77)).heap[w.heap.size + 1 + 1]? = some (Obj.cells #[.slice none 0 0, .slice none 0 0, .slice none 0 0, .slice none 0 0, .slice none 0 0, .pointer none, .pointer none, .int .i64 0, .int .i64 0, .int .u64 0, .slice none 0 0] 77) from blk_new3 w _ _ _)
  clear hV
  go_enter Tryz.func27, Tryz.ntmps27
  go_upto_region 1 with fail
  generalize ((w.alloc (Obj.cells #[.slice B0 m0 d0, .slice B1 m1 d1, .slice B2 m2 d2, .slice B3 m3 d3, .slice B4 m4 d4] 34)).alloc (Obj.cells #[.slice FA fn fc, .slice none 0 0, .slice none 0 0, .int .i64 q, .int .i64 0, .int .i64 0, .int .u64 0] 45)) = U at *
  go_region_held3 (fun w' => w'.cell? ⟨w.heap.size, 0, none⟩ = some (.slice B0 m0 d0) ∧ w'.cell? ⟨w.heap.size, 1, none⟩ = some (.slice B1 m1 d1) ∧ w'.cell? ⟨w.heap.size, 2, none⟩ = some (.slice B2 m2 d2) ∧ w'.cell? ⟨w.heap.size, 3, none⟩ = some (.slice B3 m3 d3) ∧ w'.cell? ⟨w.heap.size, 4, none⟩ = some (.slice B4 m4 d4) ∧ w'.cell? ⟨w.heap.size + 1, 1, none⟩ = some (.slice none 0 0) ∧ w'.cell? ⟨w.heap.size + 1, 2, none⟩ = some (.slice none 0 0) ∧ w'.cell? ⟨w.heap.size + 1, 3, none⟩ = some (.int .i64 q) ∧ w'.cell? ⟨w.heap.size + 1, 4, none⟩ = some (.int .i64 0) ∧ w'.cell? ⟨w.heap.size + 1, 5, none⟩ = some (.int .i64 0) ∧ w'.cell? ⟨w.heap.size + 1, 6, none⟩ = some (.int .u64 0) ∧ Below U.heap.size U w')
    (first | (refine hold11 HM.out HSt.out rfl rfl rfl rfl rfl rfl rfl rfl rfl rfl rfl ?_; first | (with_reducible refine below11f ?_ (Nat.le_of_eq hUs) _ _ _ _ _ _ _ _ _ _ _; with_reducible assumption) | with_reducible assumption | (repeat (first | exact Below.refl _ _ | refine Below.drew ?_ | refine below_up ?_ _))))
    (first
      | (go_at_call 53; go_must (refine (heapNew_nil _ q 0).mono ?_; rintro e w1 ⟨hp, rfl, hh1, hge1, hb1⟩; have hbU1 : Below U.heap.size U w1 := Below.trans (held11 (by assumption)) (hb1.mono (held11 (by assumption)).size); have hx1 := blk_below (blk_drew HN.out) hb1 (blk_lt HN.out)))
      | (go_at_call 54; go_must (refine (hansNew_nil _).mono ?_; rintro e w2 ⟨tp, rfl, ht2, hge2, hb2⟩; have hbU2 : Below U.heap.size U w2 := Below.trans (held11 (by assumption)) (hb2.mono (held11 (by assumption)).size); have hx2 := blk_below hx1 hb2 (blk_lt hx1); obtain ⟨⟨q0, q1, q2, q3, q4, q5, q6, q7, q8, q9, q10⟩, r0, r1, r2, r3, r4, r5, r6, r7, r8, r9, r10⟩ := box11f hx2)))
  all_goals
    have hz1 := blk_lt HN.out
    have hp1 : hp ≠ w.heap.size + 1 + 1 := fun e => by have h1 : _ ≤ hp := hge1; rw [e] at h1; exact absurd hz1 (Nat.not_lt.2 h1)
    have ht1 : tp ≠ w.heap.size + 1 + 1 := fun e => by have h1 := blk_lt hx1; rw [← e] at h1; exact absurd h1 (Nat.not_lt.2 hge2)
    have hgh : w.heap.size ≤ hp := Nat.le_trans (Nat.le_of_lt (Nat.lt_of_le_of_lt (by omega) hz1)) hge1
    have hgt : w.heap.size ≤ tp := Nat.le_trans (Nat.le_of_lt (Nat.lt_of_le_of_lt (by omega) (blk_lt hx1))) hge2
    have hfin := below11f hbU2 (Nat.le_of_eq hUs) (.slice B0 m0 d0) (.slice B1 m1 d1) (.slice B2 m2 d2) (.slice B3 m3 d3) (.slice B4 m4 d4) (.pointer (some ⟨hp, 0, none⟩)) (.pointer (some ⟨tp, 0, none⟩)) (.int .i64 q) (.int .i64 0) (.int .u64 0) (.slice none 0 0)
    have hres := set11f hx2 (.slice B0 m0 d0) (.slice B1 m1 d1) (.slice B2 m2 d2) (.slice B3 m3 d3) (.slice B4 m4 d4) (.pointer (some ⟨hp, 0, none⟩)) (.pointer (some ⟨tp, 0, none⟩)) (.int .i64 q) (.int .i64 0) (.int .u64 0) (.slice none 0 0)
    have hfh := (far11f (W := w2) hp1 (.slice B0 m0 d0) (.slice B1 m1 d1) (.slice B2 m2 d2) (.slice B3 m3 d3) (.slice B4 m4 d4) (.pointer (some ⟨hp, 0, none⟩)) (.pointer (some ⟨tp, 0, none⟩)) (.int .i64 q) (.int .i64 0) (.int .u64 0) (.slice none 0 0)).trans (blk_below hh1 hb2 (blk_lt hh1))
    have hft := (far11f (W := w2) ht1 (.slice B0 m0 d0) (.slice B1 m1 d1) (.slice B2 m2 d2) (.slice B3 m3 d3) (.slice B4 m4 d4) (.pointer (some ⟨hp, 0, none⟩)) (.pointer (some ⟨tp, 0, none⟩)) (.int .i64 q) (.int .i64 0) (.int .u64 0) (.slice none 0 0)).trans ht2
    generalize (((((((((((w2.setCell ⟨w.heap.size + 1 + 1, 0, none⟩ (.slice B0 m0 d0)).setCell ⟨w.heap.size + 1 + 1, 1, none⟩ (.slice B1 m1 d1)).setCell ⟨w.heap.size + 1 + 1, 2, none⟩ (.slice B2 m2 d2)).setCell ⟨w.heap.size + 1 + 1, 3, none⟩ (.slice B3 m3 d3)).setCell ⟨w.heap.size + 1 + 1, 4, none⟩ (.slice B4 m4 d4)).setCell ⟨w.heap.size + 1 + 1, 5, none⟩ (.pointer (some ⟨hp, 0, none⟩))).setCell ⟨w.heap.size + 1 + 1, 6, none⟩ (.pointer (some ⟨tp, 0, none⟩))).setCell ⟨w.heap.size + 1 + 1, 7, none⟩ (.int .i64 q)).setCell ⟨w.heap.size + 1 + 1, 8, none⟩ (.int .i64 0)).setCell ⟨w.heap.size + 1 + 1, 9, none⟩ (.int .u64 0)).setCell ⟨w.heap.size + 1 + 1, 10, none⟩ (.slice none 0 0)) = Y at *
    go_wp2
    refine bodyPost_ret (enter_results _ _ (w.heap.size + 1 + 1) _ rfl rfl hres) rfl ⟨hp, tp, rfl, hfh, hft, hgh, hgt, HV.out.trans (hfin.mono HV.out.size)⟩
end Go.Proofs.YtdmmjckhpagibaaGreatDoor
