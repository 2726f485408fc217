/- exec's engine with one frame: top, ins. -/
import Derived.Test.YtdmmjckhpagibaaGreatDoorExLoad
namespace Go.Proofs.YtdmmjckhpagibaaGreatDoor
open Go.RowKit Go.Sort
set_option linter.unusedVariables false
set_option linter.unusedSimpArgs false
set_option maxRecDepth 100000 in
theorem etop_calls (w : World) (p FB fc : Nat) (h : w.cell? ⟨p, 12, none⟩ = some (.slice (some ⟨FB, 0, none⟩) 1 fc)) :
    Calls Tryz.prog 40 #[.pointer (some ⟨p, 0, none⟩)] w fun e w' => e = .returned (.pointer (some ⟨FB, 0, none⟩)) ∧ Below w.heap.size w w' := by
  have g := cell_regrown h
  clear h
  go_enter Tryz.func40, Tryz.ntmps40
  go_wp2_with fail
  refine wp_region_quiet_below (by kernel_rfl) (by kernel_rfl) ?_
  repeat (first | go_big_quiet_step (fail) | quiet_step (fail))
  refine wpQuiet_nil ?_
  intro _ hw'
  obtain ⟨⟨dq, osq⟩, hw''⟩ := hw'
  subst hw''
  have HBq := Lib.hid (below_regrown w dq osq)
  clear g
  generalize grow (redrawn w dq) osq = wq at *
  go_wp2
  go_ret
  exact ⟨rfl, HBq.out⟩
theorem eins_results (tmps : Array Value) (w : World) (b : Nat) (x0 x1 x2 x3 x4 x5 : Int) (h : tmps.getD 2 undef = .pointer (some ⟨b, 0, none⟩)) (hb : w.heap[b]? = some (.cells #[.int .i64 x0, .int .i64 x1, .int .i64 x2, .int .i64 x3, .int .i64 x4, .int .i64 x5] 106 (0, 0))) :
    (results Tryz.f41 tmps).run Tryz.prog w = .ok (.agg #[.int .i64 x0, .int .i64 x1, .int .i64 x2, .int .i64 x3, .int .i64 x4, .int .i64 x5]) w :=
  results_cell_row Tryz.results41 tmps w b _ _ _ _ h hb Tryz.underlying106 rfl (by kernel_rfl)
theorem hold10e {V w' : World} {p FB C g k : Nat} {t : TypeId} {cs : Array Value} {a f0 f1 c0 x0 x1 x2 x3 x4 x5 : Value} (hp : V.heap[p]? = some (.cells cs t (0, 0))) (h11 : cs[11]? = some a) (hf0 : V.cell? ⟨FB, 0, none⟩ = some f0) (hf1 : V.cell? ⟨FB, 1, none⟩ = some f1) (hc : V.cell? ⟨C, 0, none⟩ = some c0) (h0 : V.cell? ⟨g, k, none⟩ = some x0) (h1 : V.cell? ⟨g, k + 1, none⟩ = some x1) (h2 : V.cell? ⟨g, k + 2, none⟩ = some x2) (h3 : V.cell? ⟨g, k + 3, none⟩ = some x3) (h4 : V.cell? ⟨g, k + 4, none⟩ = some x4) (h5 : V.cell? ⟨g, k + 5, none⟩ = some x5) (hb : Below V.heap.size V w') :
    w'.cell? ⟨p, 11, none⟩ = some a ∧ w'.cell? ⟨FB, 0, none⟩ = some f0 ∧ w'.cell? ⟨FB, 1, none⟩ = some f1 ∧ w'.cell? ⟨C, 0, none⟩ = some c0 ∧ w'.cell? ⟨g, k, none⟩ = some x0 ∧ w'.cell? ⟨g, k + 1, none⟩ = some x1 ∧ w'.cell? ⟨g, k + 2, none⟩ = some x2 ∧ w'.cell? ⟨g, k + 3, none⟩ = some x3 ∧ w'.cell? ⟨g, k + 4, none⟩ = some x4 ∧ w'.cell? ⟨g, k + 5, none⟩ = some x5 ∧ Below V.heap.size V w' :=
  ⟨(blk_cell (blk_below hp hb (blk_lt hp)) 11).trans h11, below_cell hf0 hb, below_cell hf1 hb, below_cell hc hb, below_cell h0 hb, below_cell h1 hb, below_cell h2 hb, below_cell h3 hb, below_cell h4 hb, below_cell h5 hb, hb⟩
theorem held10e {a b c d e f g h i j : Prop} {V w' : World} (hh : a ∧ b ∧ c ∧ d ∧ e ∧ f ∧ g ∧ h ∧ i ∧ j ∧ Below V.heap.size V w') : Below V.heap.size V w' := hh.2.2.2.2.2.2.2.2.2.2
theorem cells6 {w : World} {g : Nat} {t : TypeId} {x0 x1 x2 x3 x4 x5 : Value} (h : w.heap[g]? = some (.cells #[x0, x1, x2, x3, x4, x5] t (0, 0))) : (w.cell? ⟨g, 0, none⟩ = some x0 ∧ w.cell? ⟨g, 1, none⟩ = some x1 ∧ w.cell? ⟨g, 2, none⟩ = some x2 ∧ w.cell? ⟨g, 3, none⟩ = some x3 ∧ w.cell? ⟨g, 4, none⟩ = some x4 ∧ w.cell? ⟨g, 5, none⟩ = some x5) ∧ w.frozen? ⟨g, 0, none⟩ = false ∧ w.frozen? ⟨g, 1, none⟩ = false ∧ w.frozen? ⟨g, 2, none⟩ = false ∧ w.frozen? ⟨g, 3, none⟩ = false ∧ w.frozen? ⟨g, 4, none⟩ = false ∧ w.frozen? ⟨g, 5, none⟩ = false :=
  ⟨⟨blk_cell h 0, blk_cell h 1, blk_cell h 2, blk_cell h 3, blk_cell h 4, blk_cell h 5⟩, blk_frozen h 0, blk_frozen h 1, blk_frozen h 2, blk_frozen h 3, blk_frozen h 4, blk_frozen h 5⟩
theorem below6 {B : Nat} {w w' : World} {g : Nat} (h : Below B w w') (hg : B ≤ g) {v0 v1 v2 v3 v4 v5 : Value} : Below B w ((((((w'.setCell ⟨g, 0, none⟩ v0).setCell ⟨g, 1, none⟩ v1).setCell ⟨g, 2, none⟩ v2).setCell ⟨g, 3, none⟩ v3).setCell ⟨g, 4, none⟩ v4).setCell ⟨g, 5, none⟩ v5) :=
  (((((h.setCell (p := ⟨g, 0, none⟩) hg _).setCell (p := ⟨g, 1, none⟩) hg _).setCell (p := ⟨g, 2, none⟩) hg _).setCell (p := ⟨g, 3, none⟩) hg _).setCell (p := ⟨g, 4, none⟩) hg _).setCell (p := ⟨g, 5, none⟩) hg _
set_option maxRecDepth 100000 in
set_option maxHeartbeats 8000000 in
theorem eins_calls {w : World} {p FB hp tp : Nat} {B0 B1 B2 B3 B4 : Option Addr} {m0 m1 m2 m3 m4 d0 d1 d2 d3 d4 : Nat} {q : Int} {C cn cc fc pc : Nat} {regs : Nat → Int} {high : Nat} (h : En1 w p FB hp tp B0 B1 B2 B3 B4 m0 m1 m2 m3 m4 d0 d1 d2 d3 d4 q C cn cc fc pc regs high) {irss : List (List Ir)} (hC : CodeR w C irss) (hcn : irss.length = cn) (irs : List Ir) (h0 : irss[0]? = some irs) (x : Ir) (hx : irs[pc]? = some x) (hl : irs.length ≤ 1000) :
    Calls Tryz.prog 41 #[.pointer (some ⟨p, 0, none⟩)] w fun e w' => e = .returned (.agg #[.int .i64 x.op, .int .i64 x.a, .int .i64 x.b, .int .i64 x.at_, .int .i64 x.inn, .int .i64 x.out]) ∧ Below w.heap.size w w' := by
  have hcn0 : 0 < cn := by have := (List.getElem?_eq_some_iff.1 h0).1; omega
  have hpl : pc < irs.length := (List.getElem?_eq_some_iff.1 hx).1
  obtain ⟨g, c0, i0, i1, i2, i3, i4, i5⟩ := hC.at_ h0 hx
  obtain ⟨cs, hf, -, f0, f1, -, -⟩ := h.fr
  have HB := Lib.hid h.box
  have HF0 := Lib.hid ((blk_cell hf 0).trans f0)
  have HF1 := Lib.hid ((blk_cell hf 1).trans f1)
  have HC0 := Lib.hid c0
  have HI0 := Lib.hid i0
  have HI1 := Lib.hid i1
  have HI2 := Lib.hid i2
  have HI3 := Lib.hid i3
  have HI4 := Lib.hid i4
  have HI5 := Lib.hid i5
  have KT := Lib.hid (fun W (hb : Below w.heap.size w W) => etop_calls W p FB fc (blk_cell (blk_below h.box hb (blk_lt h.box)) 12))
  clear h hC h0 hx hf f0 f1 c0 i0 i1 i2 i3 i4 i5 hcn
  go_enter Tryz.func41, Tryz.ntmps41
  go_upto_region 1 with fail
  go_region_held3 (fun w' => w'.cell? ⟨p, 11, none⟩ = some (.slice (some ⟨C, 0, none⟩) cn cc) ∧ w'.cell? ⟨FB, 0, none⟩ = some (.int .i64 0) ∧ w'.cell? ⟨FB, 1, none⟩ = some (.int .i64 pc) ∧ w'.cell? ⟨C, 0, none⟩ = some (.slice (some ⟨g, 0, none⟩) irs.length irs.length) ∧ w'.cell? ⟨g, pc * 6, none⟩ = some (.int .i64 x.op) ∧ w'.cell? ⟨g, pc * 6 + 1, none⟩ = some (.int .i64 x.a) ∧ w'.cell? ⟨g, pc * 6 + 2, none⟩ = some (.int .i64 x.b) ∧ w'.cell? ⟨g, pc * 6 + 3, none⟩ = some (.int .i64 x.at_) ∧ w'.cell? ⟨g, pc * 6 + 4, none⟩ = some (.int .i64 x.inn) ∧ w'.cell? ⟨g, pc * 6 + 5, none⟩ = some (.int .i64 x.out) ∧ Below w.heap.size w w')
    (first | (refine hold10e HB.out rfl HF0.out HF1.out HC0.out HI0.out HI1.out HI2.out HI3.out HI4.out HI5.out ?_; first | with_reducible assumption | with_reducible exact below6 hbw (Nat.le_refl _) | (repeat (first | with_reducible exact Below.refl _ _ | with_reducible refine Below.drew ?_ | with_reducible refine below_up ?_ _))))
    (first
      | (go_at_call 40; go_must (refine (KT.out _ (held10e (by assumption))).mono ?_; rintro e w1 ⟨rfl, hb1⟩; have hbw : Below w.heap.size w w1 := Below.trans (held10e (by assumption)) (hb1.mono (held10e (by assumption)).size); first | (have hx2 : w1.heap[w.heap.size]? = some (.cells #[.int .i64 0, .int .i64 0, .int .i64 0, .int .i64 0, .int .i64 0, .int .i64 0] 106 (0, 0)) := blk_below hx1 hb1 (blk_lt hx1); obtain ⟨⟨q0, q1, q2, q3, q4, q5⟩, y0, y1, y2, y3, y4, y5⟩ := cells6 hx2) | (have hx1 : w1.heap[w.heap.size]? = some (.cells #[.int .i64 0, .int .i64 0, .int .i64 0, .int .i64 0, .int .i64 0, .int .i64 0] 106 (0, 0)) := blk_below (blk_drew (blk_new w (Obj.cells #[.int .i64 0, .int .i64 0, .int .i64 0, .int .i64 0, .int .i64 0, .int .i64 0] 106))) hb1 (blk_lt (blk_new w (Obj.cells #[.int .i64 0, .int .i64 0, .int .i64 0, .int .i64 0, .int .i64 0, .int .i64 0] 106)))))))
  all_goals
    go_wp2
    have hr := blk_set (blk_set (blk_set (blk_set (blk_set (blk_set hx2 0 (.int .i64 x.op)) 1 (.int .i64 x.a)) 2 (.int .i64 x.b)) 3 (.int .i64 x.at_)) 4 (.int .i64 x.inn)) 5 (.int .i64 x.out)
    refine bodyPost_ret (eins_results _ _ w.heap.size x.op x.a x.b x.at_ x.inn x.out rfl (by simpa using hr)) rfl ⟨rfl, ?_⟩
    exact below6 hbw (Nat.le_refl _)
end Go.Proofs.YtdmmjckhpagibaaGreatDoor
