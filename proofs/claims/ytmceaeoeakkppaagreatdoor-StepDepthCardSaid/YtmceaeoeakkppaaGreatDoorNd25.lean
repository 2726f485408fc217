/- flow.named of a call: the rule of the function that is called. -/
import Derived.Test.YtmceaeoeakkppaaGreatDoorZI
namespace Go.Proofs.YtmceaeoeakkppaaGreatDoor
open Go.RowKit Go.Sort
set_option linter.unusedVariables false
set_option linter.unusedSimpArgs false
theorem hold5n {V w' : World} {p q r fb o : Nat} {t t' : TypeId} {cs cs' : Array Value} {a c x0 x1 x2 : Value} (hp : V.heap[p]? = some (.cells cs t (0, 0))) (i : Nat) (ha : cs[i]? = some a) (hq : V.heap[q]? = some (.cells cs' t' (0, 0))) (hc : cs'[1]? = some c) (h0 : V.cell? ⟨fb, o, none⟩ = some x0) (h1 : V.cell? ⟨fb, o + 1, none⟩ = some x1) (h2 : V.cell? ⟨fb, o + 2, none⟩ = some x2) (np : p ≠ r) (nq : q ≠ r) (nf : fb ≠ r) (hk : Keeps (fun x => x = r) V w') :
    w'.cell? ⟨p, i, none⟩ = some a ∧ w'.cell? ⟨q, 1, none⟩ = some c ∧ w'.cell? ⟨fb, o, none⟩ = some x0 ∧ w'.cell? ⟨fb, o + 1, none⟩ = some x1 ∧ w'.cell? ⟨fb, o + 2, none⟩ = some x2 ∧ Keeps (fun x => x = r) V w' := by
  have hF := hk.block fb (World.block_lt_of_cell? V ⟨fb, o, none⟩ h0) nf
  exact ⟨(blk_cell (blk_keeps hp hk np) i).trans ha, (blk_cell (blk_keeps hq hk nq) 1).trans hc, (World.cell?_of_block (a := ⟨fb, o, none⟩) hF).trans h0, (World.cell?_of_block (a := ⟨fb, o + 1, none⟩) hF).trans h1, (World.cell?_of_block (a := ⟨fb, o + 2, none⟩) hF).trans h2, hk⟩
theorem keeps2 {F : Nat → Prop} {w w' : World} {g : Nat} {v0 v1 : Value} (h : Keeps F w w') (hF : F g) : Keeps F w ((w'.setCell ⟨g, 0, none⟩ v0).setCell ⟨g, 1, none⟩ v1) := (h.setCell (p := ⟨g, 0, none⟩) (fun _ => hF) _).setCell (p := ⟨g, 1, none⟩) (fun _ => hF) _
set_option maxRecDepth 100000 in
set_option maxHeartbeats 8000000 in
theorem named_25 {S : Nat → Prop} (w : World) (m : Md) (B0 B1 B2 B3 B4 : Option Addr) (m0 m1 m2 m3 m4 d0 d1 d2 d3 d4 : Nat) (h : MRow S w m B0 B1 B2 B3 B4 m0 m1 m2 m3 m4) (fv : Value) (f : Fn) (G0 G3 G4 : Option Addr) (g0 g3 g4 c0 c3 c4 : Nat) (j : Nat) (g : Fn) (hj : m.funcs[j]? = some g) (hg : g.args.length ≤ 1000) (b : Int) :
    Calls Tryz.prog 192 #[.agg #[.slice B0 m0 d0, .slice B1 m1 d1, .slice B2 m2 d2, .slice B3 m3 d3, .slice B4 m4 d4], .agg #[.slice G0 g0 c0, .int .i64 f.ret.kind, .int .i64 f.ret.n, .slice G3 g3 c3, .slice G4 g4 c4], .agg #[.int .i64 25, .int .i64 j, .int .i64 b]] w fun e w' => RuleOut1 S w (g.args, [g.ret]) e w' := by
  have hjl : j < m1 := by have := (List.getElem?_eq_some_iff.1 hj).1; have := h.e1; omega
  obtain ⟨fb, fo, A0, e0, A3, e3, A4, e4, rfl, hSb, f0, f1, f2, -, -, l0, -, r0, wk, wn, -, -, -, -, -, -⟩ := k_func_at h.r1 hj
  have hV := below_up (below_up (below_up (below_a1 w (Obj.cells #[.slice B0 m0 d0, .slice (some ⟨fb, fo, none⟩) m1 d1, .slice B2 m2 d2, .slice B3 m3 d3, .slice B4 m4 d4] 28)) (Obj.cells #[.slice G0 g0 c0, .int .i64 f.ret.kind, .int .i64 f.ret.n, .slice G3 g3 c3, .slice G4 g4 c4] 67)) (Obj.cells #[.int .i64 25, .int .i64 (j : Int), .int .i64 b] 62)) (Obj.cells #[.slice none 0 0, .slice none 0 0] 221)
  have HP := Lib.hid (blk_alloc (blk_alloc (blk_alloc (blk_new w (Obj.cells #[.slice B0 m0 d0, .slice (some ⟨fb, fo, none⟩) m1 d1, .slice B2 m2 d2, .slice B3 m3 d3, .slice B4 m4 d4] 28)) (Obj.cells #[.slice G0 g0 c0, .int .i64 f.ret.kind, .int .i64 f.ret.n, .slice G3 g3 c3, .slice G4 g4 c4] 67)) (Obj.cells #[.int .i64 25, .int .i64 (j : Int), .int .i64 b] 62)) (Obj.cells #[.slice none 0 0, .slice none 0 0] 221))
  have HQ := Lib.hid (blk_alloc (blk_new3 w (Obj.cells #[.slice B0 m0 d0, .slice (some ⟨fb, fo, none⟩) m1 d1, .slice B2 m2 d2, .slice B3 m3 d3, .slice B4 m4 d4] 28) (Obj.cells #[.slice G0 g0 c0, .int .i64 f.ret.kind, .int .i64 f.ret.n, .slice G3 g3 c3, .slice G4 g4 c4] 67) (Obj.cells #[.int .i64 25, .int .i64 (j : Int), .int .i64 b] 62)) (Obj.cells #[.slice none 0 0, .slice none 0 0] 221))
  have HR := Lib.hid (blk_new4 w (Obj.cells #[.slice B0 m0 d0, .slice (some ⟨fb, fo, none⟩) m1 d1, .slice B2 m2 d2, .slice B3 m3 d3, .slice B4 m4 d4] 28) (Obj.cells #[.slice G0 g0 c0, .int .i64 f.ret.kind, .int .i64 f.ret.n, .slice G3 g3 c3, .slice G4 g4 c4] 67) (Obj.cells #[.int .i64 25, .int .i64 (j : Int), .int .i64 b] 62) (Obj.cells #[.slice none 0 0, .slice none 0 0] 221))
  have HF0 := Lib.hid (below_cell f0 hV)
  have HF1 := Lib.hid (below_cell f1 hV)
  have HF2 := Lib.hid (below_cell f2 hV)
  have hfb := h.lt fb hSb
  have HR0 := Lib.hid r0
  have HV := Lib.hid hV
  have HM := Lib.hid h
  have n1 : w.heap.size ≠ w.heap.size + 1 + 1 + 1 := by omega
  have n2 : w.heap.size + 1 + 1 ≠ w.heap.size + 1 + 1 + 1 := by omega
  have n3 : fb ≠ w.heap.size + 1 + 1 + 1 := by omega
  clear h hj hV f0 f1 f2 r0
  go_enter Tryz.func192, Tryz.ntmps192
  go_upto_region 11 with fail
  generalize ((((w.alloc (Obj.cells #[.slice B0 m0 d0, .slice (some ⟨fb, fo, none⟩) m1 d1, .slice B2 m2 d2, .slice B3 m3 d3, .slice B4 m4 d4] 28)).alloc (Obj.cells #[.slice G0 g0 c0, .int .i64 f.ret.kind, .int .i64 f.ret.n, .slice G3 g3 c3, .slice G4 g4 c4] 67)).alloc (Obj.cells #[.int .i64 25, .int .i64 (j : Int), .int .i64 b] 62)).alloc (Obj.cells #[.slice none 0 0, .slice none 0 0] 221)) = V at *
  go_region_held3 (fun w' => w'.cell? ⟨w.heap.size, 1, none⟩ = some (.slice (some ⟨fb, fo, none⟩) m1 d1) ∧ w'.cell? ⟨w.heap.size + 1 + 1, 1, none⟩ = some (.int .i64 (j : Int)) ∧ w'.cell? ⟨fb, fo + j * 5, none⟩ = some (.slice A0 g.args.length e0) ∧ w'.cell? ⟨fb, fo + j * 5 + 1, none⟩ = some (.int .i64 g.ret.kind) ∧ w'.cell? ⟨fb, fo + j * 5 + 2, none⟩ = some (.int .i64 g.ret.n) ∧ Keeps (fun x => x = w.heap.size + 1 + 1 + 1) V w')
    (first | (refine hold5n HP.out 1 rfl HQ.out rfl HF0.out HF1.out HF2.out n1 n2 n3 ?_; first | with_reducible exact keeps2 hkk rfl | with_reducible assumption | (repeat (first | with_reducible exact Keeps.refl _ _ | with_reducible refine Keeps.drew ?_ | with_reducible refine keeps2 ?_ rfl | refine Keeps.alloc ?_ _))))
    (first | (go_at_call 226; refine (types_calls _ _).mono ?_; rintro e w1 ⟨rfl, hw⟩; have hx : w1.heap[w.heap.size + 1 + 1 + 1]? = some (.cells #[.slice none 0 0, .slice none 0 0] 221 (0, 0)) := (by rw [hw]; first | exact blk_alloc (blk_drew HR.out) _ | exact blk_drew (blk_alloc HR.out _)); have hty : w1.heap[V.heap.size]? = some (Obj.cells #[.int .i64 g.ret.kind, .int .i64 g.ret.n] 58) := (by rw [hw]; first | exact blk_new V.drew _ | exact blk_drew (blk_new V _)); have hk1 : Below V.heap.size V w1 := (by rw [hw]; first | exact (Below.refl _ V).drew.alloc (Nat.le_refl _) _ | exact ((Below.refl _ V).alloc (Nat.le_refl _) _).drew); have hkk : Keeps (fun x => x = w.heap.size + 1 + 1 + 1) V w1 := Keeps.of_below hk1; have q0 := (cells2 hx).1; have q1 := (cells2 hx).2; have q2 := blk_frozen hx 0; have q3 := blk_frozen hx 1; clear hw))
  all_goals
    have hbw1 : Below w.heap.size w w1 := HV.out.trans (hk1.mono HV.out.size)
    have hbf : Below w.heap.size w ((w1.setCell ⟨w.heap.size + 1 + 1 + 1, 0, none⟩ (.slice A0 g.args.length e0)).setCell ⟨w.heap.size + 1 + 1 + 1, 1, none⟩ (.slice (some ⟨V.heap.size, 0, none⟩) 1 1)) := (hbw1.setCell (p := ⟨w.heap.size + 1 + 1 + 1, 0, none⟩) (show w.heap.size ≤ w.heap.size + 1 + 1 + 1 by omega) _).setCell (p := ⟨w.heap.size + 1 + 1 + 1, 1, none⟩) (show w.heap.size ≤ w.heap.size + 1 + 1 + 1 by omega) _
    have hrb := blk_set (blk_set hx 0 (.slice A0 g.args.length e0)) 1 (.slice (some ⟨V.heap.size, 0, none⟩) 1 1)
    have hne : V.heap.size ≠ w.heap.size + 1 + 1 + 1 := by have := blk_lt HR.out; omega
    have htf := blk_far (blk_far hty hne (p := ⟨w.heap.size + 1 + 1 + 1, 0, none⟩) (.slice A0 g.args.length e0)) hne (p := ⟨w.heap.size + 1 + 1 + 1, 1, none⟩) (.slice (some ⟨V.heap.size, 0, none⟩) 1 1)
    have hVs : w.heap.size ≤ V.heap.size := HV.out.size
    generalize ((w1.setCell ⟨w.heap.size + 1 + 1 + 1, 0, none⟩ (.slice A0 g.args.length e0)).setCell ⟨w.heap.size + 1 + 1 + 1, 1, none⟩ (.slice (some ⟨V.heap.size, 0, none⟩) 1 1)) = wz at *
    have HBf := Lib.hid hbf
    have HRb := Lib.hid hrb
    have HTf := Lib.hid htf
    clear hbf hrb htf hx hty hk1 hkk q0 q1 q2 q3 hbw1
    go_wp2
    refine bodyPost_ret (named_results _ _ (w.heap.size + 1 + 1 + 1) _ _ ⟨_, _, _, rfl⟩ ⟨_, _, _, rfl⟩ rfl HRb.out) rfl ?_
    exact ⟨_, _, _, _, _, _, rfl, ⟨rfl, rfl, l0, Nat.le_refl _, (HR0.out.keep (fun b hS => HBf.out.block b (HM.out.lt b hS))).mono (fun b hS => ⟨Nat.lt_of_lt_of_le (HM.out.lt b hS) HBf.out.size, .inl hS⟩), row_cells (xs := [g.ret]) HTf.out ⟨blk_lt HTf.out, .inr hVs⟩ rfl (by intro x hx; rw [List.mem_singleton.1 hx]; exact ⟨wk, wn⟩), hg, by decide⟩, HBf.out⟩
end Go.Proofs.YtmceaeoeakkppaaGreatDoor
