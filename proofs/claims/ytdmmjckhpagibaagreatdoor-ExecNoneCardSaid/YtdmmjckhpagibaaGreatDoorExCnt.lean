/- flow.Counts; ir.Locals. -/
import Derived.Test.YtdmmjckhpagibaaGreatDoorZE
namespace Go.Proofs.YtdmmjckhpagibaaGreatDoor
open Go.RowKit Go.Sort
set_option linter.unusedVariables false
set_option maxRecDepth 100000 in
theorem locals_calls (w : World) (A0 A3 A4 : Option Addr) (a0 c0 a3 c3 a4 c4 : Nat) (k n : Int) (h0 : a0 ≤ 1000) (h3 : a3 ≤ 1000) :
    Calls Tryz.prog 46 #[.agg #[.slice A0 a0 c0, .int .i64 k, .int .i64 n, .slice A3 a3 c3, .slice A4 a4 c4]] w fun e w' => e = .returned (.int .i64 ((a0 + a3 : Nat) : Int)) ∧ Below w.heap.size w w' := by
  have hw : wrap64 ((a0 : Int) + a3) = ((a0 + a3 : Nat) : Int) := by unfold wrap64; omega
  have HB := Lib.hid (below_a1 w (Obj.cells #[.slice A0 a0 c0, .int .i64 k, .int .i64 n, .slice A3 a3 c3, .slice A4 a4 c4] 54))
  go_enter Tryz.func46, Tryz.ntmps46
  go_wp2
  go_ret
  exact ⟨by push_cast; rfl, HB.out⟩
theorem hold13c {V w' : World} {p b o cb co : Nat} {t : TypeId} {a0 a1 a2 a3 a4 b0 b1 b2 b3 b4 c0 c1 c2 : Value} (hp : V.heap[p]? = some (.cells #[a0, a1, a2, a3, a4] t (0, 0))) (hq : V.cell? ⟨b, o, none⟩ = some b0 ∧ V.cell? ⟨b, o + 1, none⟩ = some b1 ∧ V.cell? ⟨b, o + 2, none⟩ = some b2 ∧ V.cell? ⟨b, o + 3, none⟩ = some b3 ∧ V.cell? ⟨b, o + 4, none⟩ = some b4) (hc : V.cell? ⟨cb, co, none⟩ = some c0 ∧ V.cell? ⟨cb, co + 1, none⟩ = some c1 ∧ V.cell? ⟨cb, co + 2, none⟩ = some c2) (hb : Below V.heap.size V w') :
    w'.cell? ⟨p, 0, none⟩ = some a0 ∧ w'.cell? ⟨p, 1, none⟩ = some a1 ∧ w'.cell? ⟨p, 2, none⟩ = some a2 ∧ w'.cell? ⟨p, 3, none⟩ = some a3 ∧ w'.cell? ⟨p, 4, none⟩ = some a4 ∧ w'.cell? ⟨b, o, none⟩ = some b0 ∧ w'.cell? ⟨b, o + 1, none⟩ = some b1 ∧ w'.cell? ⟨b, o + 2, none⟩ = some b2 ∧ w'.cell? ⟨b, o + 3, none⟩ = some b3 ∧ w'.cell? ⟨b, o + 4, none⟩ = some b4 ∧ w'.cell? ⟨cb, co, none⟩ = some c0 ∧ w'.cell? ⟨cb, co + 1, none⟩ = some c1 ∧ w'.cell? ⟨cb, co + 2, none⟩ = some c2 ∧ Below V.heap.size V w' :=
  have x := blk_below hp hb (blk_lt hp)
  ⟨blk_cell x 0, blk_cell x 1, blk_cell x 2, blk_cell x 3, blk_cell x 4, below_cell hq.1 hb, below_cell hq.2.1 hb, below_cell hq.2.2.1 hb, below_cell hq.2.2.2.1 hb, below_cell hq.2.2.2.2 hb, below_cell hc.1 hb, below_cell hc.2.1 hb, below_cell hc.2.2 hb, hb⟩
set_option maxRecDepth 100000 in
set_option maxHeartbeats 8000000 in
theorem counts_calls {S : Nat → Prop} (w : World) (m : Md) (B0 B1 B2 B3 B4 : Option Addr) (m0 m1 m2 m3 m4 d0 d1 d2 d3 d4 : Nat) (h : MRow S w m B0 B1 B2 B3 B4 m0 m1 m2 m3 m4) (fi : Nat) (f : Fn) (hfi : m.funcs[fi]? = some f) (hl0 : f.args.length ≤ 1000) (hl3 : f.locals.length ≤ 1000) (hl4 : f.code.length ≤ 1000) (pc : Nat) (i : Ins) (hpc : f.code[pc]? = some i)
    (A : Option Addr) (n c : Nat) (st : List Ty) (hn : st.length = n) (row : k_ty.Row S w A st) (r : List Ty × List Ty) (ok : Bool) (hof : OfC w m B0 B1 B2 B3 B4 m0 m1 m2 m3 m4 d0 d1 d2 d3 d4 f i st r ok) :
    Calls Tryz.prog 64 #[.agg #[.slice B0 m0 d0, .slice B1 m1 d1, .slice B2 m2 d2, .slice B3 m3 d3, .slice B4 m4 d4], .int .i64 fi, .int .i64 pc, .slice A n c] w fun e w' => e = .returned (.tuple #[.int .i64 r.1.length, .int .i64 r.2.length]) ∧ Below w.heap.size w w' := by
  have hfl : fi < m1 := by have := (List.getElem?_eq_some_iff.1 hfi).1; have := h.e1; omega
  have hpl : pc < f.code.length := (List.getElem?_eq_some_iff.1 hpc).1
  subst hn
  have hV := below_a1 w (Obj.cells #[.slice B0 m0 d0, .slice B1 m1 d1, .slice B2 m2 d2, .slice B3 m3 d3, .slice B4 m4 d4] 34)
  obtain ⟨b, o, A0, c0, A3, c3, A4, c4, rfl, hSb, f0, f1, f2, f3, f4, l0, -, r0, wk, wn, l3, -, r3, l4, -, r4⟩ := k_func_at (h.below hV).r1 hfi
  obtain ⟨cb, co, rfl, hScb, i0, i1, i2, wi0, wi1, wi2⟩ := k_instr_at r4 hpc
  have hf : FRow S (w.alloc (Obj.cells #[.slice B0 m0 d0, .slice (some ⟨b, o, none⟩) m1 d1, .slice B2 m2 d2, .slice B3 m3 d3, .slice B4 m4 d4] 34)) f A0 A3 (some ⟨cb, co, none⟩) f.args.length f.locals.length f.code.length := ⟨rfl, rfl, rfl, r0, r3, r4, wk, wn, hl0, hl3, hl4⟩
  have HM := Lib.hid h
  have HP := Lib.hid (blk_new w (Obj.cells #[.slice B0 m0 d0, .slice (some ⟨b, o, none⟩) m1 d1, .slice B2 m2 d2, .slice B3 m3 d3, .slice B4 m4 d4] 34))
  have HFR := Lib.hid hf
  have HR := Lib.hid (row.keep (fun b hb => hV.block b (h.lt b hb)))
  have HS := Lib.hid h.lt
  have KO := Lib.hid hof
  have HQ := Lib.hid (And.intro f0 (And.intro f1 (And.intro f2 (And.intro f3 f4))))
  have HC := Lib.hid (And.intro i0 (And.intro i1 i2))
  have HV := Lib.hid hV
  clear h hf row hof hV r0 r3 r4 i0 i1 i2 wi0 wi1 wi2 wk wn hfi hpc f0 f1 f2 f3 f4
  go_enter Tryz.func64, Tryz.ntmps64
  go_upto_region 1 with fail
  generalize hVV : w.alloc (Obj.cells #[.slice B0 m0 d0, .slice (some ⟨b, o, none⟩) m1 d1, .slice B2 m2 d2, .slice B3 m3 d3, .slice B4 m4 d4] 34) = V at *
  clear hVV
  go_cut [10, 11] (fun s12 s13 wx => ∃ g A1 n1 c1 B5 n2 c2, s12 = .pointer (some ⟨g, 0, none⟩) ∧ Hid (wx.heap[g]? = some (.cells #[.slice A1 n1 c1, .slice B5 n2 c2] 179 (0, 0))) ∧ r.1.length = n1 ∧ r.2.length = n2 ∧ Hid (Below V.heap.size V wx))
  case first =>
    go_region_held3 (fun w' => w'.cell? ⟨w.heap.size, 0, none⟩ = some (.slice B0 m0 d0) ∧ w'.cell? ⟨w.heap.size, 1, none⟩ = some (.slice (some ⟨b, o, none⟩) m1 d1) ∧ w'.cell? ⟨w.heap.size, 2, none⟩ = some (.slice B2 m2 d2) ∧ w'.cell? ⟨w.heap.size, 3, none⟩ = some (.slice B3 m3 d3) ∧ w'.cell? ⟨w.heap.size, 4, none⟩ = some (.slice B4 m4 d4) ∧
      w'.cell? ⟨b, o + fi * 5, none⟩ = some (.slice A0 f.args.length c0) ∧ w'.cell? ⟨b, o + fi * 5 + 1, none⟩ = some (.int .i64 f.ret.kind) ∧ w'.cell? ⟨b, o + fi * 5 + 2, none⟩ = some (.int .i64 f.ret.n) ∧ w'.cell? ⟨b, o + fi * 5 + 3, none⟩ = some (.slice A3 f.locals.length c3) ∧ w'.cell? ⟨b, o + fi * 5 + 4, none⟩ = some (.slice (some ⟨cb, co, none⟩) f.code.length c4) ∧
      w'.cell? ⟨cb, co + pc * 3, none⟩ = some (.int .i64 i.op) ∧ w'.cell? ⟨cb, co + pc * 3 + 1, none⟩ = some (.int .i64 i.a) ∧ w'.cell? ⟨cb, co + pc * 3 + 2, none⟩ = some (.int .i64 i.b) ∧ Below V.heap.size V w')
      (first | (refine hold13c HP.out HQ.out HC.out ?_; repeat (first | assumption | exact Below.refl _ _ | exact held13 (by assumption) | refine Below.drew ?_ | refine below_up ?_ _ | refine Below.setCell (p := ⟨_, _, none⟩) ?_ (by first | exact Nat.le_refl _ | (simp; done) | omega) _)))
      (first | (go_at_call 96; go_must (refine (KO.out S _ (HV.out.trans ((held13 (by assumption)).mono HV.out.size)) (HM.out.below (HV.out.trans ((held13 (by assumption)).mono HV.out.size))) A0 c0 A3 c3 _ c4 A _ (HFR.out.keep (fun b hb => (held13 (by assumption)).block b (Nat.lt_of_lt_of_le (HS.out b hb) HV.out.size))) (HR.out.keep (fun b hb => (held13 (by assumption)).block b (Nat.lt_of_lt_of_le (HS.out b hb) HV.out.size)))).mono ?_; rintro e w1 ⟨A1, n1, c1, B5, n2, c2, rfl, HRR, hb1⟩; have hbV : Below V.heap.size V w1 := Below.trans (held13 (by assumption)) (hb1.mono (held13 (by assumption)).size); try (have hx : w1.heap[V.heap.size]? = some (.cells #[.slice none 0 0, .slice none 0 0] 179 (0, 0)) := blk_below (blk_new V.drew (Obj.cells #[.slice none 0 0, .slice none 0 0] 179)) hb1 (blk_lt (blk_new V.drew (Obj.cells #[.slice none 0 0, .slice none 0 0] 179))); have q0 := (cells2 hx).1; have q1 := (cells2 hx).2; have q2 := blk_frozen hx 0; have q3 := blk_frozen hx 1))))
    · go_wp2
      go_meet
      exact ⟨_, A1, n1, c1, B5, n2, c2, rfl, Lib.hid (blk_new _ _), HRR.i, HRR.o, Lib.hid (hbV.alloc hbV.size _)⟩
    · go_wp2
      go_meet
      exact ⟨_, A1, n1, c1, B5, n2, c2, rfl, Lib.hid (blk_set (blk_set hx 0 (.slice A1 n1 c1)) 1 (.slice B5 n2 c2)), HRR.i, HRR.o, Lib.hid ((hbV.setCell (p := ⟨_, 0, none⟩) (Nat.le_refl _) _).setCell (p := ⟨_, 1, none⟩) (Nat.le_refl _) _)⟩
  case rest =>
    obtain ⟨g, A1, n1, c1, B5, n2, c2, rfl, HG, rfl, rfl, HB⟩ := hcut
    obtain ⟨g0, g1⟩ := cells2 HG.out
    have k0 := cell_regrown g0
    have k1 := cell_regrown g1
    have HBw := Lib.hid (HV.out.trans (HB.out.mono HV.out.size))
    clear g0 g1
    go_wp2_with fail
    refine wp_region_quiet_below (by kernel_rfl) (by kernel_rfl) ?_
    repeat (first | go_big_quiet_step (fail) | quiet_step (fail))
    refine wpQuiet_nil ?_
    intro _ hw'
    obtain ⟨⟨dq, osq⟩, hw''⟩ := hw'
    subst hw''
    have HBq := Lib.hid (below_regrown wc dq osq)
    clear k0 k1
    generalize grow (redrawn wc dq) osq = wq at *
    go_wp2
    go_ret2
    exact ⟨rfl, HBw.out.trans (HBq.out.mono HBw.out.size)⟩
end Go.Proofs.YtdmmjckhpagibaaGreatDoor
