/- flow.of: the rule of an instruction on a stack; flow.next. -/
import Derived.Test.YtdmmjckhpagibaaGreatDoorMcNamed
namespace Go.Proofs.YtdmmjckhpagibaaGreatDoor
open Go.RowKit Go.Sort
set_option linter.unusedVariables false
theorem RuleR.out {S S' : Nat → Prop} {w W w1 w2 : World} {A B : Option Addr} {n c k d : Nat} {r : List Ty × List Ty} (h : RuleR S' W w1 A n c B k d r) (hS : ∀ b, S' b → S b) (hSw : ∀ b, S b → b < w.heap.size) (hW : w.heap.size ≤ W.heap.size) (h2 : w1.heap.size ≤ w2.heap.size)
    (hk : ∀ b, b < w1.heap.size → b < w.heap.size ∨ W.heap.size ≤ b → w2.heap[b]? = w1.heap[b]?) : RuleR S w w2 A n c B k d r := by
  have hm : ∀ b, SP S' W w1 b → SP S w w2 b := fun b hb => ⟨Nat.lt_of_lt_of_le hb.1 h2, hb.2.imp (hS b) (fun h => Nat.le_trans hW h)⟩
  have hkk : ∀ b, SP S' W w1 b → w2.heap[b]? = w1.heap[b]? := fun b hb => hk b hb.1 (hb.2.imp (fun h => hSw b (hS b h)) id)
  exact ⟨h.i, h.o, h.ci, h.co, (h.ri.keep hkk).mono hm, (h.ro.keep hkk).mono hm, h.si, h.so⟩
theorem of_results (tmps : Array Value) (w : World) (b : Nat) (A B : Option Addr) (n c k d : Nat) (r : Bool) (h2 : tmps.getD 8 undef = .pointer (some ⟨b, 0, none⟩)) (h3 : tmps.getD 9 undef = .bool r) (hb : w.heap[b]? = some (.cells #[.slice A n c, .slice B k d] 179 (0, 0))) :
    (results Tryz.f96 tmps).run Tryz.prog w = .ok (.tuple #[.agg #[.slice A n c, .slice B k d], .bool r]) w := by
  rw [results_cell_tmp Tryz.results96, h2, h3]
  have c0 := blk_cell hb 0
  have c1 := blk_cell hb 1
  simp at c0 c1
  simp [go_sem, c0, c1]
theorem cells5 {W : World} {g : Nat} {t : TypeId} {a b c d e : Value} (h : W.heap[g]? = some (.cells #[a, b, c, d, e] t (0, 0))) : W.cell? ⟨g, 0, none⟩ = some a ∧ W.cell? ⟨g, 1, none⟩ = some b ∧ W.cell? ⟨g, 2, none⟩ = some c ∧ W.cell? ⟨g, 3, none⟩ = some d ∧ W.cell? ⟨g, 4, none⟩ = some e := ⟨blk_cell h 0, blk_cell h 1, blk_cell h 2, blk_cell h 3, blk_cell h 4⟩
theorem cells3 {W : World} {g : Nat} {t : TypeId} {a b c : Value} (h : W.heap[g]? = some (.cells #[a, b, c] t (0, 0))) : W.cell? ⟨g, 0, none⟩ = some a ∧ W.cell? ⟨g, 1, none⟩ = some b ∧ W.cell? ⟨g, 2, none⟩ = some c := ⟨blk_cell h 0, blk_cell h 1, blk_cell h 2⟩
theorem cells2 {W : World} {g : Nat} {t : TypeId} {a b : Value} (h : W.heap[g]? = some (.cells #[a, b] t (0, 0))) : W.cell? ⟨g, 0, none⟩ = some a ∧ W.cell? ⟨g, 1, none⟩ = some b := ⟨blk_cell h 0, blk_cell h 1⟩
set_option maxRecDepth 100000 in
set_option maxHeartbeats 8000000 in
theorem of_calls {S : Nat → Prop} (w : World) (hg : Glob w) (m : Md) (B0 B1 B2 B3 B4 : Option Addr) (m0 m1 m2 m3 m4 d0 d1 d2 d3 d4 : Nat) (h : MRow S w m B0 B1 B2 B3 B4 m0 m1 m2 m3 m4) (f : Fn) (G0 G3 G4 : Option Addr) (g0 g3 g4 c0 c3 c4 : Nat) (op a b : Int) (A : Option Addr) (n c : Nat) (h6 : (op == 6) = false) (h7 : (op == 7) = false) (h41 : (op == 41) = false) (r1 r2 : List Ty × List Ty) (ok : Bool)
    (hpl : ∀ W, Glob W → Calls Tryz.prog 133 #[.int .i64 op] W fun e w' => RuleOut (fun _ => False) W r1 ok e w')
    (hnm : ok = false → ∀ W, Below w.heap.size w W → Calls Tryz.prog 134 #[.agg #[.slice B0 m0 d0, .slice B1 m1 d1, .slice B2 m2 d2, .slice B3 m3 d3, .slice B4 m4 d4], .agg #[.slice G0 g0 c0, .int .i64 f.ret.kind, .int .i64 f.ret.n, .slice G3 g3 c3, .slice G4 g4 c4], .agg #[.int .i64 op, .int .i64 a, .int .i64 b]] W fun e w' => RuleOut1 S W r2 e w') :
    Calls Tryz.prog 96 #[.agg #[.slice B0 m0 d0, .slice B1 m1 d1, .slice B2 m2 d2, .slice B3 m3 d3, .slice B4 m4 d4], .agg #[.slice G0 g0 c0, .int .i64 f.ret.kind, .int .i64 f.ret.n, .slice G3 g3 c3, .slice G4 g4 c4], .agg #[.int .i64 op, .int .i64 a, .int .i64 b], .slice A n c] w fun e w' => RuleOut S w (bif ok then r1 else r2) true e w' := by
  have hs := hg.big
  have hV : Below w.heap.size w ((((w.alloc (Obj.cells #[.slice B0 m0 d0, .slice B1 m1 d1, .slice B2 m2 d2, .slice B3 m3 d3, .slice B4 m4 d4] 34)).alloc (Obj.cells #[.slice G0 g0 c0, .int .i64 f.ret.kind, .int .i64 f.ret.n, .slice G3 g3 c3, .slice G4 g4 c4] 54)).alloc (Obj.cells #[.int .i64 op, .int .i64 a, .int .i64 b] 27)).alloc (Obj.cells #[.slice none 0 0, .slice none 0 0] 179)) := below_up (below_up (below_up (below_a1 w _) _) _) _
  have KP := Lib.hid (hpl _ (hg.below hV hs))
  have KN := Lib.hid hnm
  have HS := Lib.hid h.lt
  have HV := Lib.hid hV
  have HX := Lib.hid (blk_new4 w (Obj.cells #[.slice B0 m0 d0, .slice B1 m1 d1, .slice B2 m2 d2, .slice B3 m3 d3, .slice B4 m4 d4] 34) (Obj.cells #[.slice G0 g0 c0, .int .i64 f.ret.kind, .int .i64 f.ret.n, .slice G3 g3 c3, .slice G4 g4 c4] 54) (Obj.cells #[.int .i64 op, .int .i64 a, .int .i64 b] 27) (Obj.cells #[.slice none 0 0, .slice none 0 0] 179))
  have H0 := Lib.hid (blk_alloc (blk_alloc (blk_alloc (blk_new w (Obj.cells #[.slice B0 m0 d0, .slice B1 m1 d1, .slice B2 m2 d2, .slice B3 m3 d3, .slice B4 m4 d4] 34)) (Obj.cells #[.slice G0 g0 c0, .int .i64 f.ret.kind, .int .i64 f.ret.n, .slice G3 g3 c3, .slice G4 g4 c4] 54)) (Obj.cells #[.int .i64 op, .int .i64 a, .int .i64 b] 27)) (Obj.cells #[.slice none 0 0, .slice none 0 0] 179))
  have H1 := Lib.hid (blk_alloc (blk_alloc (blk_new2 w (Obj.cells #[.slice B0 m0 d0, .slice B1 m1 d1, .slice B2 m2 d2, .slice B3 m3 d3, .slice B4 m4 d4] 34) (Obj.cells #[.slice G0 g0 c0, .int .i64 f.ret.kind, .int .i64 f.ret.n, .slice G3 g3 c3, .slice G4 g4 c4] 54)) (Obj.cells #[.int .i64 op, .int .i64 a, .int .i64 b] 27)) (Obj.cells #[.slice none 0 0, .slice none 0 0] 179))
  have H2 := Lib.hid (blk_alloc (blk_new3 w (Obj.cells #[.slice B0 m0 d0, .slice B1 m1 d1, .slice B2 m2 d2, .slice B3 m3 d3, .slice B4 m4 d4] 34) (Obj.cells #[.slice G0 g0 c0, .int .i64 f.ret.kind, .int .i64 f.ret.n, .slice G3 g3 c3, .slice G4 g4 c4] 54) (Obj.cells #[.int .i64 op, .int .i64 a, .int .i64 b] 27)) (Obj.cells #[.slice none 0 0, .slice none 0 0] 179))
  clear hV hg h hnm hpl
  go_enter Tryz.func96, Tryz.ntmps96
  cases ok
  · replace KN := Lib.hid (KN.out rfl)
    go_wp2_with (first
      | (go_at_call 133; refine KP.out.mono ?_; rintro e w1 ⟨A1, n1, e1, B5, k1, e2, rfl, HR, hb1⟩
         have hb2 := hb1.alloc hb1.size (Obj.cells #[.slice A1 n1 e1, .slice B5 k1 e2] 179)
         have HB2 := Lib.hid hb2
         obtain ⟨p0, p1, p2, p3, p4⟩ := cells5 (blk_below H0.out hb2 (by simp <;> omega))
         obtain ⟨q0, q1, q2, q3, q4⟩ := cells5 (blk_below H1.out hb2 (by simp <;> omega))
         obtain ⟨i0, i1, i2⟩ := cells3 (blk_below H2.out hb2 (by simp <;> omega))
         clear HR hb1 hb2)
      | (go_at_call 134; refine (KN.out _ (HV.out.trans (HB2.out.mono HV.out.size))).mono ?_; rintro e w2 ⟨A3, n3, e3, B6, k3, e4, rfl, HR, hb1⟩
         have hx2 := blk_below (blk_below HX.out HB2.out (by simp <;> omega)) hb1 (Nat.lt_of_lt_of_le (blk_lt HX.out) HB2.out.size)
         have HX2 := Lib.hid hx2
         obtain ⟨t0, t1⟩ := cells2 hx2
         have t2 := blk_frozen hx2 0
         have t3 := blk_frozen hx2 1
         have HR := Lib.hid HR
         have HB3 := Lib.hid hb1
         clear hb1 hx2))
    have hr := blk_set (blk_set HX2.out 0 (.slice A3 n3 e3)) 1 (.slice B6 k3 e4)
    have hsz := HB2.out.size
    refine bodyPost_ret (of_results _ _ (w.heap.size + 1 + 1 + 1) A3 B6 n3 e3 k3 e4 true rfl rfl hr) rfl ?_
    refine ⟨_, _, _, _, _, _, rfl, HR.out.out (fun b hb => hb) HS.out ?_ ?_ ?_, ?_⟩
    · exact Nat.le_trans HV.out.size HB2.out.size
    · simp
    · intro b hb hb'
      refine (Below.heap_setCell _ _ _ b ?_).trans (Below.heap_setCell _ _ _ b ?_) <;> (simp at hsz hb' ⊢; omega)
    · exact (((HV.out.trans (HB2.out.mono HV.out.size)).trans (HB3.out.mono (Nat.le_trans HV.out.size HB2.out.size))).setCell (p := ⟨_, 0, none⟩) (by simp; omega) _).setCell (p := ⟨_, 1, none⟩) (by simp; omega) _
  · go_wp2_with (first
      | (go_at_call 133; refine KP.out.mono ?_; rintro e w1 ⟨A1, n1, e1, B5, k1, e2, rfl, HR, hb1⟩
         have hb2 := hb1.alloc hb1.size (Obj.cells #[.slice A1 n1 e1, .slice B5 k1 e2] 179)
         have hx2 := blk_below HX.out hb2 (by simp <;> omega)
         have HX2 := Lib.hid hx2
         obtain ⟨t0, t1⟩ := cells2 hx2
         have t2 := blk_frozen hx2 0
         have t3 := blk_frozen hx2 1
         have HR := Lib.hid HR
         have HB2 := Lib.hid hb2
         have HB1 := Lib.hid hb1
         clear hb1 hx2 hb2))
    have hr := blk_set (blk_set HX2.out 0 (.slice A1 n1 e1)) 1 (.slice B5 k1 e2)
    have hsz := HB1.out.size
    refine bodyPost_ret (of_results _ _ (w.heap.size + 1 + 1 + 1) A1 B5 n1 e1 k1 e2 true rfl rfl hr) rfl ?_
    refine ⟨_, _, _, _, _, _, rfl, HR.out.out (fun b hb => hb.elim) HS.out ?_ ?_ ?_, ?_⟩
    · exact HV.out.size
    · simp
    · intro b hb hb'
      refine ((Below.heap_setCell _ _ _ b ?_).trans (Below.heap_setCell _ _ _ b ?_)).trans (Below.heap_alloc _ _ b hb) <;> (simp at hsz hb' ⊢; omega)
    · exact ((HV.out.trans (HB2.out.mono HV.out.size)).setCell (p := ⟨_, 0, none⟩) (by simp; omega) _).setCell (p := ⟨_, 1, none⟩) (by simp; omega) _
end Go.Proofs.YtdmmjckhpagibaaGreatDoor
