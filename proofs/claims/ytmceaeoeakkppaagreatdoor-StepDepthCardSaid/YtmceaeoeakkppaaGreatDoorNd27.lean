/- flow.named of a host's call; the rules of a call, of a host's call, of a pop. -/
import Derived.Test.YtmceaeoeakkppaaGreatDoorNd25
namespace Go.Proofs.YtmceaeoeakkppaaGreatDoor
open Go.RowKit Go.Sort
set_option linter.unusedVariables false
set_option linter.unusedSimpArgs false
set_option maxRecDepth 100000 in
set_option maxHeartbeats 8000000 in
theorem named_27 {S : Nat → Prop} (w : World) (m : Md) (B0 B1 B2 B3 B4 : Option Addr) (m0 m1 m2 m3 m4 d0 d1 d2 d3 d4 : Nat) (h : MRow S w m B0 B1 B2 B3 B4 m0 m1 m2 m3 m4) (fv : Value) (f : Fn) (G0 G3 G4 : Option Addr) (g0 g3 g4 c0 c3 c4 : Nat) (j : Nat) (g : Imp) (hj : m.imports[j]? = some g) (hg : g.args.length ≤ 1000) (b : Int) :
    Calls Tryz.prog 192 #[.agg #[.slice B0 m0 d0, .slice B1 m1 d1, .slice B2 m2 d2, .slice B3 m3 d3, .slice B4 m4 d4], .agg #[.slice G0 g0 c0, .int .i64 f.ret.kind, .int .i64 f.ret.n, .slice G3 g3 c3, .slice G4 g4 c4], .agg #[.int .i64 27, .int .i64 j, .int .i64 b]] w fun e w' => RuleOut1 S w (g.args, [g.ret]) e w' := by
  have hjl : j < m2 := by have := (List.getElem?_eq_some_iff.1 hj).1; have := h.e2; omega
  obtain ⟨fb, fo, A0, e0, rfl, hSb, f0, f1, f2, l0, -, r0, wk, wn⟩ := k_imp_at h.r2 hj
  have hV := below_up (below_up (below_up (below_a1 w (Obj.cells #[.slice B0 m0 d0, .slice B1 m1 d1, .slice (some ⟨fb, fo, none⟩) m2 d2, .slice B3 m3 d3, .slice B4 m4 d4] 28)) (Obj.cells #[.slice G0 g0 c0, .int .i64 f.ret.kind, .int .i64 f.ret.n, .slice G3 g3 c3, .slice G4 g4 c4] 67)) (Obj.cells #[.int .i64 27, .int .i64 (j : Int), .int .i64 b] 62)) (Obj.cells #[.slice none 0 0, .slice none 0 0] 221)
  have HP := Lib.hid (blk_alloc (blk_alloc (blk_alloc (blk_new w (Obj.cells #[.slice B0 m0 d0, .slice B1 m1 d1, .slice (some ⟨fb, fo, none⟩) m2 d2, .slice B3 m3 d3, .slice B4 m4 d4] 28)) (Obj.cells #[.slice G0 g0 c0, .int .i64 f.ret.kind, .int .i64 f.ret.n, .slice G3 g3 c3, .slice G4 g4 c4] 67)) (Obj.cells #[.int .i64 27, .int .i64 (j : Int), .int .i64 b] 62)) (Obj.cells #[.slice none 0 0, .slice none 0 0] 221))
  have HQ := Lib.hid (blk_alloc (blk_new3 w (Obj.cells #[.slice B0 m0 d0, .slice B1 m1 d1, .slice (some ⟨fb, fo, none⟩) m2 d2, .slice B3 m3 d3, .slice B4 m4 d4] 28) (Obj.cells #[.slice G0 g0 c0, .int .i64 f.ret.kind, .int .i64 f.ret.n, .slice G3 g3 c3, .slice G4 g4 c4] 67) (Obj.cells #[.int .i64 27, .int .i64 (j : Int), .int .i64 b] 62)) (Obj.cells #[.slice none 0 0, .slice none 0 0] 221))
  have HR := Lib.hid (blk_new4 w (Obj.cells #[.slice B0 m0 d0, .slice B1 m1 d1, .slice (some ⟨fb, fo, none⟩) m2 d2, .slice B3 m3 d3, .slice B4 m4 d4] 28) (Obj.cells #[.slice G0 g0 c0, .int .i64 f.ret.kind, .int .i64 f.ret.n, .slice G3 g3 c3, .slice G4 g4 c4] 67) (Obj.cells #[.int .i64 27, .int .i64 (j : Int), .int .i64 b] 62) (Obj.cells #[.slice none 0 0, .slice none 0 0] 221))
  have HF0 := Lib.hid (below_cell f0 hV)
  have HF1 := Lib.hid (below_cell f1 hV)
  have HF2 := Lib.hid (below_cell f2 hV)
  have hfb := h.lt fb hSb
  have HR0 := Lib.hid r0
  have HV := Lib.hid hV
  have HM := Lib.hid h
  have n1 : w.heap.size ≠ w.heap.size + 1 + 1 + 1 := by omega
  have n2 : w.heap.size + 1 + 1 ≠ w.heap.size + 1 + 1 + 1 := by omega
  have n3 : fb ≠ w.heap.size + 1 + 1 + 1 := by omega
  clear h hj hV f0 f1 f2 r0
  go_enter Tryz.func192, Tryz.ntmps192
  go_upto_region 15 with fail
  generalize ((((w.alloc (Obj.cells #[.slice B0 m0 d0, .slice B1 m1 d1, .slice (some ⟨fb, fo, none⟩) m2 d2, .slice B3 m3 d3, .slice B4 m4 d4] 28)).alloc (Obj.cells #[.slice G0 g0 c0, .int .i64 f.ret.kind, .int .i64 f.ret.n, .slice G3 g3 c3, .slice G4 g4 c4] 67)).alloc (Obj.cells #[.int .i64 27, .int .i64 (j : Int), .int .i64 b] 62)).alloc (Obj.cells #[.slice none 0 0, .slice none 0 0] 221)) = V at *
  go_region_held3 (fun w' => w'.cell? ⟨w.heap.size, 2, none⟩ = some (.slice (some ⟨fb, fo, none⟩) m2 d2) ∧ w'.cell? ⟨w.heap.size + 1 + 1, 1, none⟩ = some (.int .i64 (j : Int)) ∧ w'.cell? ⟨fb, fo + j * 3, none⟩ = some (.slice A0 g.args.length e0) ∧ w'.cell? ⟨fb, fo + j * 3 + 1, none⟩ = some (.int .i64 g.ret.kind) ∧ w'.cell? ⟨fb, fo + j * 3 + 2, none⟩ = some (.int .i64 g.ret.n) ∧ Keeps (fun x => x = w.heap.size + 1 + 1 + 1) V w')
    (first | (refine hold5n HP.out 2 rfl HQ.out rfl HF0.out HF1.out HF2.out n1 n2 n3 ?_; first | with_reducible exact keeps2 hkk rfl | with_reducible assumption | (repeat (first | with_reducible exact Keeps.refl _ _ | with_reducible refine Keeps.drew ?_ | with_reducible refine keeps2 ?_ rfl | refine Keeps.alloc ?_ _))))
    (first | (go_at_call 226; refine (types_calls _ _).mono ?_; rintro e w1 ⟨rfl, hw⟩; have hx : w1.heap[w.heap.size + 1 + 1 + 1]? = some (.cells #[.slice none 0 0, .slice none 0 0] 221 (0, 0)) := (by rw [hw]; first | exact blk_alloc (blk_drew HR.out) _ | exact blk_drew (blk_alloc HR.out _)); have hty : w1.heap[V.heap.size]? = some (Obj.cells #[.int .i64 g.ret.kind, .int .i64 g.ret.n] 58) := (by rw [hw]; first | exact blk_new V.drew _ | exact blk_drew (blk_new V _)); have hk1 : Below V.heap.size V w1 := (by rw [hw]; first | exact (Below.refl _ V).drew.alloc (Nat.le_refl _) _ | exact ((Below.refl _ V).alloc (Nat.le_refl _) _).drew); have hkk : Keeps (fun x => x = w.heap.size + 1 + 1 + 1) V w1 := Keeps.of_below hk1; have q0 := (cells2 hx).1; have q1 := (cells2 hx).2; have q2 := blk_frozen hx 0; have q3 := blk_frozen hx 1; clear hw))
  all_goals
    have hbw1 : Below w.heap.size w w1 := HV.out.trans (hk1.mono HV.out.size)
    have hbf : Below w.heap.size w ((w1.setCell ⟨w.heap.size + 1 + 1 + 1, 0, none⟩ (.slice A0 g.args.length e0)).setCell ⟨w.heap.size + 1 + 1 + 1, 1, none⟩ (.slice (some ⟨V.heap.size, 0, none⟩) 1 1)) := (hbw1.setCell (p := ⟨w.heap.size + 1 + 1 + 1, 0, none⟩) (show w.heap.size ≤ w.heap.size + 1 + 1 + 1 by omega) _).setCell (p := ⟨w.heap.size + 1 + 1 + 1, 1, none⟩) (show w.heap.size ≤ w.heap.size + 1 + 1 + 1 by omega) _
    have hrb := blk_set (blk_set hx 0 (.slice A0 g.args.length e0)) 1 (.slice (some ⟨V.heap.size, 0, none⟩) 1 1)
    have hne : V.heap.size ≠ w.heap.size + 1 + 1 + 1 := by have := blk_lt HR.out; omega
    have htf := blk_far (blk_far hty hne (p := ⟨w.heap.size + 1 + 1 + 1, 0, none⟩) (.slice A0 g.args.length e0)) hne (p := ⟨w.heap.size + 1 + 1 + 1, 1, none⟩) (.slice (some ⟨V.heap.size, 0, none⟩) 1 1)
    have hVs : w.heap.size ≤ V.heap.size := HV.out.size
    generalize ((w1.setCell ⟨w.heap.size + 1 + 1 + 1, 0, none⟩ (.slice A0 g.args.length e0)).setCell ⟨w.heap.size + 1 + 1 + 1, 1, none⟩ (.slice (some ⟨V.heap.size, 0, none⟩) 1 1)) = wz at *
    have HBf := Lib.hid hbf
    have HRb := Lib.hid hrb
    have HTf := Lib.hid htf
    clear hbf hrb htf hx hty hk1 hkk q0 q1 q2 q3 hbw1
    go_wp2
    refine bodyPost_ret (named_results _ _ (w.heap.size + 1 + 1 + 1) _ _ ⟨_, _, _, rfl⟩ ⟨_, _, _, rfl⟩ rfl HRb.out) rfl ?_
    exact ⟨_, _, _, _, _, _, rfl, ⟨rfl, rfl, l0, Nat.le_refl _, (HR0.out.keep (fun b hS => HBf.out.block b (HM.out.lt b hS))).mono (fun b hS => ⟨Nat.lt_of_lt_of_le (HM.out.lt b hS) HBf.out.size, .inl hS⟩), row_cells (xs := [g.ret]) HTf.out ⟨blk_lt HTf.out, .inr hVs⟩ rfl (by intro x hx; rw [List.mem_singleton.1 hx]; exact ⟨wk, wn⟩), hg, by decide⟩, HBf.out⟩
theorem ofc_25 {w0 : World} (hg : Glob w0) (m : Md) (B0 B1 B2 B3 B4 : Option Addr) (m0 m1 m2 m3 m4 d0 d1 d2 d3 d4 : Nat) (f : Fn) (j : Nat) (g : Fn) (hj : m.funcs[j]? = some g) (hl : g.args.length ≤ 1000) (b : Int) (st : List Ty) : OfC w0 m B0 B1 B2 B3 B4 m0 m1 m2 m3 m4 d0 d1 d2 d3 d4 f ⟨25, j, b⟩ st (g.args, [g.ret]) true := by
  intro S W hb hM A0 c0 A3 c3 A4 c4 A c hF row
  have hgW : Glob W := hg.below hb hg.big
  refine (of_calls W hgW m B0 B1 B2 B3 B4 m0 m1 m2 m3 m4 d0 d1 d2 d3 d4 hM f A0 A3 A4 _ _ _ c0 c3 c4 25 j b A st.length c rfl rfl rfl (plainL 25).1 (g.args, [g.ret]) false (fun V hV => plain_25 V hV) (fun _ V hV => named_25 V m B0 B1 B2 B3 B4 m0 m1 m2 m3 m4 d0 d1 d2 d3 d4 (hM.below hV) (.int .i64 0) f A0 A3 A4 _ _ _ c0 c3 c4 j g hj hl b)).mono ?_
  intro e w' h
  exact h
theorem ofc_27 {w0 : World} (hg : Glob w0) (m : Md) (B0 B1 B2 B3 B4 : Option Addr) (m0 m1 m2 m3 m4 d0 d1 d2 d3 d4 : Nat) (f : Fn) (j : Nat) (g : Imp) (hj : m.imports[j]? = some g) (hl : g.args.length ≤ 1000) (b : Int) (st : List Ty) : OfC w0 m B0 B1 B2 B3 B4 m0 m1 m2 m3 m4 d0 d1 d2 d3 d4 f ⟨27, j, b⟩ st (g.args, [g.ret]) true := by
  intro S W hb hM A0 c0 A3 c3 A4 c4 A c hF row
  have hgW : Glob W := hg.below hb hg.big
  refine (of_calls W hgW m B0 B1 B2 B3 B4 m0 m1 m2 m3 m4 d0 d1 d2 d3 d4 hM f A0 A3 A4 _ _ _ c0 c3 c4 27 j b A st.length c rfl rfl rfl (plainL 27).1 (g.args, [g.ret]) false (fun V hV => plain_27 V hV) (fun _ V hV => named_27 V m B0 B1 B2 B3 B4 m0 m1 m2 m3 m4 d0 d1 d2 d3 d4 (hM.below hV) (.int .i64 0) f A0 A3 A4 _ _ _ c0 c3 c4 j g hj hl b)).mono ?_
  intro e w' h
  exact h
end Go.Proofs.YtmceaeoeakkppaaGreatDoor
