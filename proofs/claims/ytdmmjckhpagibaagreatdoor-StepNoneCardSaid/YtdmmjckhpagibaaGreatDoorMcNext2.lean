/- step's machine: Next of a return. -/
import Derived.Test.YtdmmjckhpagibaaGreatDoorMcNext
namespace Go.Proofs.YtdmmjckhpagibaaGreatDoor
open Go.RowKit Go.Sort
set_option linter.unusedVariables false
theorem slice_all (w : World) (A : Option Addr) (c : Nat) (_h : 1 ≤ c) : (Instr.slice 31 (.slice A 1 c) (some (.int .i64 0)) none none).run Tryz.prog w = .ok (.slice A 1 c) w := by
  have hu := Tryz.underlying31
  simp [Instr.slice, run_underlying hu, go_sem]
theorem slice_zero (w : World) (A : Option Addr) (c : Nat) (_h : 1 ≤ c) : (Instr.slice 31 (.slice A 1 c) none (some (.int .i64 0)) none).run Tryz.prog w = .ok (.slice A 0 c) w := by
  have hu := Tryz.underlying31
  simp [Instr.slice, run_underlying hu, go_sem]
set_option maxRecDepth 100000 in
set_option maxHeartbeats 8000000 in
theorem next_26 {S : Nat → Prop} {w : World} {p FB hp tp : Nat} {m : Md} {B0 B1 B2 B3 B4 : Option Addr} {m0 m1 m2 m3 m4 d0 d1 d2 d3 d4 : Nat} {q : Int} {MA : Option Addr} {mn mc fc pc : Nat} {LA : Option Addr} {ln lc : Nat} {SA : Option Addr} {sc : Nat} (h : Mc1 w p FB hp tp B0 B1 B2 B3 B4 m0 m1 m2 m3 m4 d0 d1 d2 d3 d4 q MA mn mc fc pc LA ln lc SA 1 sc) (hM : MRow S w m B0 B1 B2 B3 B4 m0 m1 m2 m3 m4) (f : Fn) (hf : m.funcs[0]? = some f) (hl : f.code.length ≤ 1000) (ia b : Int) (hi : f.code[pc]? = some ⟨26, ia, b⟩) (v : Int) (hsc : 1 ≤ sc) (hL : Lie w SA 1 [.int .u64 v]) (ans : Value) :
    Calls Tryz.prog 13 #[.pointer (some ⟨p, 0, none⟩), ans] w fun e w' => e = .returned (.tuple #[.slice none 0 0, .bool true]) ∧ McE w' p FB hp tp B0 B1 B2 B3 B4 m0 m1 m2 m3 m4 d0 d1 d2 d3 d4 q MA mn mc fc v ∧ Keeps (fun x => x = FB ∨ x = p) w w' := by
  have hpc : pc ≤ 1000 := by have := (List.getElem?_eq_some_iff.1 hi).1; omega
  have c8 : w.cell? ⟨p, 8, none⟩ = some (.int .i64 0) := blk_cell h.box 8
  have KI := Lib.hid (instr_calls h hM f hf _ hi hl)
  have HH := Lib.hid h
  have HM := Lib.hid hM
  have HLs := Lib.hid hL
  clear h hM hf hi hL
  go_enter Tryz.func13, Tryz.ntmps13
  go_upto_region 4 with (first
    | (go_at_call 29; go_must (refine KI.out.mono ?_; rintro e w1 ⟨rfl, hb1⟩; have HB1 := Lib.hid hb1; have KT := Lib.hid (top_calls w1 p FB fc (blk_cell (HH.out.below hb1).box 12)); clear hb1))
    | (go_at_call 30; go_must (refine KT.out.mono ?_; rintro e w2 ⟨rfl, hb2⟩; have HB2 := Lib.hid (HB1.out.trans (hb2.mono HB1.out.size)); clear hb2)))
  have hBV : Below w.heap.size w (w2.alloc (Obj.cells #[.int .i64 26, .int .i64 ia, .int .i64 b] 27)) := HB2.out.alloc HB2.out.size _
  have HX := Lib.hid (blk_new w2 (Obj.cells #[.int .i64 26, .int .i64 ia, .int .i64 b] 27))
  have hz := HB2.out.size
  generalize hzz : w2.heap.size = z at *
  generalize (w2.alloc (Obj.cells #[.int .i64 26, .int .i64 ia, .int .i64 b] 27)) = V at *
  clear hzz
  have HBV := Lib.hid hBV
  have hmc := HH.out.below hBV
  obtain ⟨-, -, -, e3⟩ := hmc.cells
  obtain ⟨x0, x1, x2⟩ := cells3 HX.out
  have g3 := cell_regrown e3
  have g0 := cell_regrown x0
  have g1 := cell_regrown x1
  have g2 := cell_regrown x2
  have KTk := Lib.hid (fun W => takes_26 W (.pointer (some ⟨p, 0, none⟩)) ia b)
  have hw0 : IntKind.i64.wrap 0 = 0 := rfl
  have hs0 := fun W => slice_all W SA sc hsc
  have hs1 := fun W => slice_zero W SA sc hsc
  have HMc := Lib.hid hmc
  clear hmc e3 x0 x1 x2 hBV c8
  refine wp_region_quiet_below (by kernel_rfl) (by kernel_rfl) ?_
  repeat (first | go_big_quiet_step (with_reducible exact calls_regrown KTk.out _ _) | quiet_step (with_reducible exact calls_regrown KTk.out _ _))
  refine wpQuiet_nil ?_
  intro _ hw'
  obtain ⟨⟨dq, osq⟩, hw''⟩ := hw'
  subst hw''
  clear g0 g1 g2 g3
  have HBq := Lib.hid (below_regrown V dq osq)
  generalize grow (redrawn V dq) osq = wq at *
  have HMq := Lib.hid (HMc.out.below HBq.out)
  obtain ⟨-, -, -, e3⟩ := HMq.out.cells
  have HXq := Lib.hid (blk_below HX.out HBq.out (blk_lt HX.out))
  go_upto_region 7 with (go_at_call 32; go_must (refine (clone64_calls _ SA 1 sc [v] rfl (by omega) (HLs.out.below (HBV.out.trans (HBq.out.mono HBV.out.size)))).mono ?_; rintro e w6 ⟨u, rfl, hmem, hgu, hb6⟩; obtain ⟨g9, c9, rfl, -, -, -, -⟩ := hmem.at_ (by decide); have HL9 := Lib.hid hmem.lie; have hg9 := hgu g9 rfl; clear hmem hgu; have HB6 := Lib.hid hb6; have HM6 := Lib.hid (HMq.out.below hb6); have HX6 := Lib.hid (blk_below HXq.out hb6 (blk_lt HXq.out)); have y3 : w6.cell? ⟨FB, 3, none⟩ = some (.slice SA 1 sc) := (HMq.out.below hb6).cells.2.2.2; have y4 := (HMq.out.below hb6).fz; clear hb6))
  have hlt := HH.out.lt
  have hplt : p < w.heap.size := blk_lt HH.out.box
  have hbq : Below w.heap.size w wq := HBV.out.trans (HBq.out.mono HBV.out.size)
  have hb6 : Below w.heap.size w w6 := hbq.trans (HB6.out.mono hbq.size)
  have hk6 : Keeps (fun x => x = FB) w (w6.setCell ⟨FB, 3, none⟩ (.slice SA 0 sc)) := (Keeps.of_below (F := fun x => x = FB) hb6).setCell (p := ⟨FB, 3, none⟩) (fun _ => rfl) _
  have hm6 := HM6.out.stack SA 0 sc
  have hx6 := blk_far HX6.out (p := ⟨FB, 3, none⟩) (show z ≠ FB by omega) (.slice SA 0 sc)
  have hg9F : g9 ≠ FB := by have h1 := hbq.size; omega
  have hgF : ∀ g o, (some ⟨g9, 0, none⟩ : Option Addr) = some ⟨g, o, none⟩ → g ≠ FB := fun g o e => by cases e; exact hg9F
  have hL6 : Lie (w6.setCell ⟨FB, 3, none⟩ (.slice SA 0 sc)) (some ⟨g9, 0, none⟩) 1 [.int .u64 v] := fun hp1 => by
    obtain ⟨g, o, e, hc⟩ := HL9.out hp1
    cases e
    refine ⟨g9, 0, rfl, fun j u hj => ?_⟩
    rw [World.cell?_setCell_far _ _ _ _ (by exact fun e => hg9F e.symm)]
    exact hc j u hj
  generalize (w6.setCell ⟨FB, 3, none⟩ (.slice SA 0 sc)) = V6 at *
  obtain ⟨q0, q1, q2⟩ := cells3 hx6
  have KD := Lib.hid (do_26 hm6 hpc ia b (some ⟨g9, 0, none⟩) c9 v hL6 hgF ans)
  have HK6 := Lib.hid hk6
  clear hm6 hx6 hk6 hb6 y3 y4 e3 hL6 hgF hg9F
  go_wp2_with (first
    | (go_at_call 33; go_must (refine KD.out.mono ?_; rintro e w7 ⟨rfl, hE, hk7⟩; have HK7 := Lib.hid hk7; have KTa := Lib.hid (taken_calls w7 p _ _ hE rfl); clear hE hk7))
    | (go_at_call 34; go_must (refine KTa.out.mono ?_; rintro e w8 ⟨rfl, hb8, hk8⟩; have HB8 := Lib.hid hb8; have HK8 := Lib.hid hk8; clear hb8 hk8)))
  go_ret2
  exact ⟨rfl, HB8.out, (((HK6.out.mono (fun x _ h => .inl h)).step HK7.out (fun x _ h => h.symm)).step HK8.out (fun x _ h => .inr h))⟩
end Go.Proofs.YtdmmjckhpagibaaGreatDoor
