/- step's machine: instr. -/
import Derived.Test.YtdmmjckhpagibaaGreatDoorMcMach
namespace Go.Proofs.YtdmmjckhpagibaaGreatDoor
open Go.RowKit Go.Sort
set_option linter.unusedVariables false
set_option maxRecDepth 100000 in
set_option maxHeartbeats 8000000 in
theorem instr_calls {S : Nat → Prop} {w : World} {p FB hp tp : Nat} {m : Md} {B0 B1 B2 B3 B4 : Option Addr} {m0 m1 m2 m3 m4 d0 d1 d2 d3 d4 : Nat} {q : Int} {MA : Option Addr} {mn mc fc pc : Nat} {LA : Option Addr} {ln lc : Nat} {SA : Option Addr} {sn sc : Nat} (h : Mc1 w p FB hp tp B0 B1 B2 B3 B4 m0 m1 m2 m3 m4 d0 d1 d2 d3 d4 q MA mn mc fc pc LA ln lc SA sn sc) (hM : MRow S w m B0 B1 B2 B3 B4 m0 m1 m2 m3 m4) (f : Fn) (hf : m.funcs[0]? = some f) (i : Ins) (hi : f.code[pc]? = some i) (hl : f.code.length ≤ 1000) :
    Calls Tryz.prog 29 #[.pointer (some ⟨p, 0, none⟩)] w fun e w' => e = .returned (.agg #[.int .i64 i.op, .int .i64 i.a, .int .i64 i.b]) ∧ Below w.heap.size w w' := by
  have hm1 : 0 < m1 := by have := (List.getElem?_eq_some_iff.1 hf).1; have := hM.e1; omega
  have hpl : pc < f.code.length := (List.getElem?_eq_some_iff.1 hi).1
  obtain ⟨b, o, A0, c0, A3, c3, A4, c4, rfl, hSb, -, -, -, -, f4, -, -, -, -, -, -, -, -, -, -, r4⟩ := k_func_at hM.r1 hf
  obtain ⟨cb, co, rfl, -, i0, i1, i2, -, -, -⟩ := k_instr_at r4 hi
  simp only [Nat.zero_mul, Nat.add_zero] at f4
  obtain ⟨e0, e1, -, -⟩ := h.cells
  have HB := Lib.hid h.box
  have HF4 := Lib.hid f4
  have HE0 := Lib.hid e0
  have HE1 := Lib.hid e1
  have HI0 := Lib.hid i0
  have HI1 := Lib.hid i1
  have HI2 := Lib.hid i2
  have KT := Lib.hid (fun W (hb : Below w.heap.size w W) => top_calls W p FB fc (blk_cell (blk_below h.box hb (blk_lt h.box)) 12))
  clear h hM hf hi f4 r4 i0 i1 i2 e0 e1
  go_enter Tryz.func29, Tryz.ntmps29
  go_upto_region 1 with fail
  go_region_held3 (fun w' => w'.cell? ⟨p, 1, none⟩ = some (.slice (some ⟨b, o, none⟩) m1 d1) ∧ w'.cell? ⟨p, 12, none⟩ = some (.slice (some ⟨FB, 0, none⟩) 1 fc) ∧ w'.cell? ⟨b, o + 4, none⟩ = some (.slice (some ⟨cb, co, none⟩) f.code.length c4) ∧ w'.cell? ⟨FB, 0, none⟩ = some (.int .i64 0) ∧ w'.cell? ⟨FB, 1, none⟩ = some (.int .i64 pc) ∧ w'.cell? ⟨cb, co + pc * 3, none⟩ = some (.int .i64 i.op) ∧ w'.cell? ⟨cb, co + pc * 3 + 1, none⟩ = some (.int .i64 i.a) ∧ w'.cell? ⟨cb, co + pc * 3 + 2, none⟩ = some (.int .i64 i.b) ∧ Below w.heap.size w w')
    (first | (refine hold8 HB.out rfl rfl HF4.out HE0.out HE1.out HI0.out HI1.out HI2.out ?_; repeat (first | assumption | exact Below.refl _ _ | exact held8 (by assumption) | refine Below.setCell (p := ⟨_, _, none⟩) ?_ (by first | exact Nat.le_refl _ | (simp; done) | omega) _ | refine Below.drew ?_ | refine below_up ?_ _)))
    (first
      | (go_at_call 30; go_must (refine (KT.out _ (held8 (by assumption))).mono ?_; rintro e w1 ⟨rfl, hb1⟩; have hbw : Below w.heap.size w w1 := Below.trans (held8 (by assumption)) (hb1.mono (held8 (by assumption)).size); first | (have hx2 : w1.heap[w.heap.size]? = some (.cells #[.int .i64 0, .int .i64 0, .int .i64 0] 27 (0, 0)) := blk_below hx1 hb1 (blk_lt hx1); have q0 := (cells3 hx2).1; have q1 := (cells3 hx2).2.1; have q2 := (cells3 hx2).2.2; have q3 := blk_frozen hx2 0; have q4 := blk_frozen hx2 1; have q5 := blk_frozen hx2 2) | (have hx1 : w1.heap[w.heap.size]? = some (.cells #[.int .i64 0, .int .i64 0, .int .i64 0] 27 (0, 0)) := blk_below (blk_drew (blk_new w (Obj.cells #[.int .i64 0, .int .i64 0, .int .i64 0] 27))) hb1 (blk_lt (blk_new w (Obj.cells #[.int .i64 0, .int .i64 0, .int .i64 0] 27))))))
    )
  all_goals
    go_wp2
    have hr := blk_set (blk_set (blk_set hx2 0 (.int .i64 i.op)) 1 (.int .i64 i.a)) 2 (.int .i64 i.b)
    refine bodyPost_ret (instr_results _ _ w.heap.size i.op i.a i.b rfl (by simpa using hr)) rfl ⟨rfl, ?_⟩
    exact ((hbw.setCell (p := ⟨_, 0, none⟩) (Nat.le_refl _) _).setCell (p := ⟨_, 1, none⟩) (Nat.le_refl _) _).setCell (p := ⟨_, 2, none⟩) (Nat.le_refl _) _
end Go.Proofs.YtdmmjckhpagibaaGreatDoor
