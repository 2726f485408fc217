/- step's machine with any number of frames: instr, takes of a call, Trap. -/
import Derived.Test.YtmceaeoeakkppaaGreatDoorMk
namespace Go.Proofs.YtmceaeoeakkppaaGreatDoor
open Go.RowKit Go.Sort
set_option linter.unusedVariables false
set_option linter.unusedSimpArgs false
theorem hold8k {V w' : World} {p fb fo cb co g gk : Nat} {t : TypeId} {cs : Array Value} {a b c0 cg c1 i0 i1 i2 : Value} (hp : V.heap[p]? = some (.cells cs t (0, 0))) (h1 : cs[1]? = some a) (h12 : cs[12]? = some b) (hf : V.cell? ⟨fb, fo, none⟩ = some c0) (hg0 : V.cell? ⟨g, gk, none⟩ = some cg) (hg1 : V.cell? ⟨g, gk + 1, none⟩ = some c1) (h3 : V.cell? ⟨cb, co, none⟩ = some i0) (h4 : V.cell? ⟨cb, co + 1, none⟩ = some i1) (h5 : V.cell? ⟨cb, co + 2, none⟩ = some i2) (hb : Below V.heap.size V w') :
    w'.cell? ⟨p, 1, none⟩ = some a ∧ w'.cell? ⟨p, 12, none⟩ = some b ∧ w'.cell? ⟨fb, fo, none⟩ = some c0 ∧ w'.cell? ⟨g, gk, none⟩ = some cg ∧ w'.cell? ⟨g, gk + 1, none⟩ = some c1 ∧ w'.cell? ⟨cb, co, none⟩ = some i0 ∧ w'.cell? ⟨cb, co + 1, none⟩ = some i1 ∧ w'.cell? ⟨cb, co + 2, none⟩ = some i2 ∧ Below V.heap.size V w' :=
  have h := blk_below hp hb (blk_lt hp)
  ⟨(blk_cell h 1).trans h1, (blk_cell h 12).trans h12, below_cell hf hb, below_cell hg0 hb, below_cell hg1 hb, below_cell h3 hb, below_cell h4 hb, below_cell h5 hb, hb⟩
set_option maxRecDepth 100000 in
set_option maxHeartbeats 8000000 in
theorem instrk_calls {S : Nat → Prop} {bs : Nat} {w : World} {p hp tp : Nat} {m : Md} {B0 B1 B2 B3 B4 : Option Addr} {m0 m1 m2 m3 m4 d0 d1 d2 d3 d4 : Nat} {q en v : Int} {MA : Option Addr} {mn mc : Nat} {FA : Option Addr} {fc : Nat} {fs : List Fra} (h : Mk bs w p hp tp B0 B1 B2 B3 B4 m0 m1 m2 m3 m4 d0 d1 d2 d3 d4 q en v MA mn mc FA fc fs) (hM : MRow S w m B0 B1 B2 B3 B4 m0 m1 m2 m3 m4) {k : Nat} (hk : fs.length = k + 1) (hk8 : k ≤ 1000) {x : Fra} (hx : fs[k]? = some x) (f : Fn) (hf : m.funcs[x.fn]? = some f) (i : Ins) (hi : f.code[x.pc]? = some i) (hl : f.code.length ≤ 1000) :
    Calls Tryz.prog 58 #[.pointer (some ⟨p, 0, none⟩)] w fun e w' => e = .returned (.agg #[.int .i64 i.op, .int .i64 i.a, .int .i64 i.b]) ∧ Below w.heap.size w w' := by
  have hm1 : x.fn < m1 := by have := (List.getElem?_eq_some_iff.1 hf).1; have := hM.e1; omega
  have hpl : x.pc < f.code.length := (List.getElem?_eq_some_iff.1 hi).1
  obtain ⟨b, o, A0, c0, A3, c3, A4, c4, rfl, hSb, -, -, -, -, f4, -, -, -, -, -, -, -, -, -, -, r4⟩ := k_func_at hM.r1 hf
  obtain ⟨cb, co, rfl, -, i0, i1, i2, -, -, -⟩ := k_instr_at r4 hi
  obtain ⟨FB, cur, rfl, hcur, hfc, e0, e1, -, -, hpF⟩ := h.last hk hx
  have hbox := h.box
  rw [hk] at hbox
  have HB := Lib.hid hbox
  have HF4 := Lib.hid f4
  have HE0 := Lib.hid e0
  have HE1 := Lib.hid e1
  have HI0 := Lib.hid i0
  have HI1 := Lib.hid i1
  have HI2 := Lib.hid i2
  have KT := Lib.hid (fun W (hb : Below w.heap.size w W) => topk_calls W p FB fc k hk8 (blk_cell (blk_below hbox hb (blk_lt hbox)) 12))
  clear h hM hf hi hbox hx hk hcur f4 r4 i0 i1 i2 e0 e1
  go_enter Tryz.func58, Tryz.ntmps58
  go_upto_region 1 with fail
  go_region_held3 (fun w' => w'.cell? ⟨p, 1, none⟩ = some (.slice (some ⟨b, o, none⟩) m1 d1) ∧ w'.cell? ⟨p, 12, none⟩ = some (.slice (some ⟨FB, 0, none⟩) (k + 1) fc) ∧ w'.cell? ⟨b, o + x.fn * 5 + 4, none⟩ = some (.slice (some ⟨cb, co, none⟩) f.code.length c4) ∧ w'.cell? ⟨FB, k * 4, none⟩ = some (.int .i64 x.fn) ∧ w'.cell? ⟨FB, k * 4 + 1, none⟩ = some (.int .i64 x.pc) ∧ w'.cell? ⟨cb, co + x.pc * 3, none⟩ = some (.int .i64 i.op) ∧ w'.cell? ⟨cb, co + x.pc * 3 + 1, none⟩ = some (.int .i64 i.a) ∧ w'.cell? ⟨cb, co + x.pc * 3 + 2, none⟩ = some (.int .i64 i.b) ∧ Below w.heap.size w w')
    (first | (refine hold8k HB.out rfl rfl HF4.out HE0.out HE1.out HI0.out HI1.out HI2.out ?_; repeat (first | assumption | exact Below.refl _ _ | exact held8 (by assumption) | refine Below.setCell (p := ⟨_, _, none⟩) ?_ (by first | exact Nat.le_refl _ | (simp; done) | omega) _ | refine Below.drew ?_ | refine below_up ?_ _)))
    (first
      | (go_at_call 59; go_must (refine (KT.out _ (held8 (by assumption))).mono ?_; rintro e w1 ⟨rfl, hb1⟩; have hbw : Below w.heap.size w w1 := Below.trans (held8 (by assumption)) (hb1.mono (held8 (by assumption)).size); first | (have hx2 : w1.heap[w.heap.size]? = some (.cells #[.int .i64 0, .int .i64 0, .int .i64 0] 62 (0, 0)) := blk_below hx1 hb1 (blk_lt hx1); have q0 := (cells3 hx2).1; have q1 := (cells3 hx2).2.1; have q2 := (cells3 hx2).2.2; have q3 := blk_frozen hx2 0; have q4 := blk_frozen hx2 1; have q5 := blk_frozen hx2 2) | (have hx1 : w1.heap[w.heap.size]? = some (.cells #[.int .i64 0, .int .i64 0, .int .i64 0] 62 (0, 0)) := blk_below (blk_drew (blk_new w (Obj.cells #[.int .i64 0, .int .i64 0, .int .i64 0] 62))) hb1 (blk_lt (blk_new w (Obj.cells #[.int .i64 0, .int .i64 0, .int .i64 0] 62))))))
    )
  all_goals
    go_wp2
    have hr := blk_set (blk_set (blk_set hx2 0 (.int .i64 i.op)) 1 (.int .i64 i.a)) 2 (.int .i64 i.b)
    refine bodyPost_ret (instr_results _ _ w.heap.size i.op i.a i.b rfl (by simpa using hr)) rfl ⟨rfl, ?_⟩
    exact ((hbw.setCell (p := ⟨_, 0, none⟩) (Nat.le_refl _) _).setCell (p := ⟨_, 1, none⟩) (Nat.le_refl _) _).setCell (p := ⟨_, 2, none⟩) (Nat.le_refl _) _
set_option maxRecDepth 100000 in
set_option maxHeartbeats 4000000 in
theorem takes_25 {S : Nat → Prop} (w : World) (p : Nat) (cs : Array Value) (t : TypeId) (m : Md) (B0 B1 B2 B3 B4 : Option Addr) (m0 m1 m2 m3 m4 d1 : Nat) (hp : w.heap[p]? = some (.cells cs t (0, 0))) (h1 : cs[1]? = some (.slice B1 m1 d1)) (hM : MRow S w m B0 B1 B2 B3 B4 m0 m1 m2 m3 m4) (j : Nat) (g : Fn) (hj : m.funcs[j]? = some g) (b : Int) :
    Calls Tryz.prog 60 #[.pointer (some ⟨p, 0, none⟩), .agg #[.int .i64 25, .int .i64 j, .int .i64 b]] w fun e w' => e = .returned (.int .i64 g.args.length) ∧ Below w.heap.size w w' := by
  have hjl : j < m1 := by have := (List.getElem?_eq_some_iff.1 hj).1; have := hM.e1; omega
  obtain ⟨fb, fo, A0, e0, A3, e3, A4, e4, rfl, hSb, f0, f1, f2, -, -, l0, -, r0, wk, wn, -, -, -, -, -, -⟩ := k_func_at hM.r1 hj
  have hV := below_a1 w (Obj.cells #[.int .i64 25, .int .i64 (j : Int), .int .i64 b] 62)
  have HX := Lib.hid (blk_new w (Obj.cells #[.int .i64 25, .int .i64 (j : Int), .int .i64 b] 62))
  have k1 := below_cell ((blk_cell hp 1).trans h1) hV
  have k2 := below_cell f0 hV
  have HV := Lib.hid hV
  clear hp h1 hM hj f0 f1 f2 r0 hV
  go_enter Tryz.func60, Tryz.ntmps60
  go_upto_region 12 with fail
  have x1 := (cells3 HX.out).2.1
  generalize (w.alloc (Obj.cells #[.int .i64 25, .int .i64 (j : Int), .int .i64 b] 62)) = V at *
  have g0 := cell_regrown k1
  have g1 := cell_regrown k2
  have g2 := cell_regrown x1
  clear k1 k2 x1
  refine wp_region_quiet_below (by kernel_rfl) (by kernel_rfl) ?_
  repeat (first | go_big_quiet_step (fail) | quiet_step (fail))
  refine wpQuiet_nil ?_
  intro _ hw'
  obtain ⟨⟨dq, osq⟩, hw''⟩ := hw'
  subst hw''
  have HBq := Lib.hid (below_regrown V dq osq)
  clear g0 g1 g2
  generalize grow (redrawn V dq) osq = wq at *
  go_wp2
  go_ret
  exact ⟨rfl, HV.out.trans (HBq.out.mono HV.out.size)⟩
set_option maxRecDepth 100000 in
theorem trap_calls (w : World) (p : Nat) (cs : Array Value) (t : TypeId) (e : Int) (hp : w.heap[p]? = some (.cells cs t (0, 0))) (h8 : cs[8]? = some (.int .i64 0)) :
    Calls Tryz.prog 105 #[.pointer (some ⟨p, 0, none⟩), .int .i64 e] w fun r w' => r = .returned (.tuple #[]) ∧ w'.heap[p]? = some (.cells (cs.setIfInBounds 8 (.int .i64 e)) t (0, 0)) ∧ Keeps (fun x => x = p) w w' := by
  have c8 := (blk_cell hp 8).trans h8
  have f8 := blk_frozen hp 8
  have HP := Lib.hid (blk_set hp 8 (.int .i64 e))
  clear hp h8
  go_enter Tryz.func105, Tryz.ntmps105
  go_wp2
  (try simp only [Exit.inBlock, Exit.then])
  refine bodyPost_end (v := .tuple #[]) (by simp [results, Tryz.results105, go_sem]) rfl ⟨rfl, HP.out, (Keeps.refl (fun x => x = p) w).setCell (p := ⟨p, 8, none⟩) (fun _ => rfl) _⟩
end Go.Proofs.YtmceaeoeakkppaaGreatDoor
