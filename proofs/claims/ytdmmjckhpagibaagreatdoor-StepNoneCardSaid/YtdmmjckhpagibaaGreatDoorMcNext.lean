/- step's machine: Taken; Next of an int, of a return. -/
import Derived.Test.YtdmmjckhpagibaaGreatDoorMcBack
namespace Go.Proofs.YtdmmjckhpagibaaGreatDoor
open Go.RowKit Go.Sort
set_option linter.unusedVariables false
theorem set_same {cs : Array Value} {i : Nat} {v : Value} (h : cs[i]? = some v) : cs.setIfInBounds i v = cs := by
  apply Array.ext'
  rw [Array.toList_setIfInBounds]
  apply List.ext_getElem?
  intro j
  rw [List.getElem?_set]
  split
  · rename_i hj
    subst hj
    split
    · simpa using h.symm
    · rename_i hlt
      simp at hlt
      simp [hlt]
  · rfl
theorem Mc1.fz {w : World} {p FB hp tp : Nat} {B0 B1 B2 B3 B4 : Option Addr} {m0 m1 m2 m3 m4 d0 d1 d2 d3 d4 : Nat} {q : Int} {MA : Option Addr} {mn mc fc pc : Nat} {LA : Option Addr} {ln lc : Nat} {SA : Option Addr} {sn sc : Nat} (h : Mc1 w p FB hp tp B0 B1 B2 B3 B4 m0 m1 m2 m3 m4 d0 d1 d2 d3 d4 q MA mn mc fc pc LA ln lc SA sn sc) : w.frozen? ⟨FB, 3, none⟩ = false := by
  obtain ⟨cs', h', _⟩ := h.fr
  exact blk_frozen h' 3
theorem Mc1.lt {w : World} {p FB hp tp : Nat} {B0 B1 B2 B3 B4 : Option Addr} {m0 m1 m2 m3 m4 d0 d1 d2 d3 d4 : Nat} {q : Int} {MA : Option Addr} {mn mc fc pc : Nat} {LA : Option Addr} {ln lc : Nat} {SA : Option Addr} {sn sc : Nat} (h : Mc1 w p FB hp tp B0 B1 B2 B3 B4 m0 m1 m2 m3 m4 d0 d1 d2 d3 d4 q MA mn mc fc pc LA ln lc SA sn sc) : FB < w.heap.size ∧ p ≠ FB := by
  obtain ⟨cs', h', _⟩ := h.fr
  exact ⟨blk_lt h', blk_ne h.box h' (by decide)⟩
/-- Another stack. -/
theorem Mc1.stack {w : World} {p FB hp tp : Nat} {B0 B1 B2 B3 B4 : Option Addr} {m0 m1 m2 m3 m4 d0 d1 d2 d3 d4 : Nat} {q : Int} {MA : Option Addr} {mn mc fc pc : Nat} {LA : Option Addr} {ln lc : Nat} {SA : Option Addr} {sn sc : Nat} (h : Mc1 w p FB hp tp B0 B1 B2 B3 B4 m0 m1 m2 m3 m4 d0 d1 d2 d3 d4 q MA mn mc fc pc LA ln lc SA sn sc) (A : Option Addr) (n c : Nat) : Mc1 (w.setCell ⟨FB, 3, none⟩ (.slice A n c)) p FB hp tp B0 B1 B2 B3 B4 m0 m1 m2 m3 m4 d0 d1 d2 d3 d4 q MA mn mc fc pc LA ln lc A n c := by
  obtain ⟨cs', h', hs, e0, e1, e2, e3⟩ := h.fr
  refine ⟨blk_far h.box h.lt.2 _, _, blk_set h' 3 _, by simpa using hs, ?_, ?_, ?_, ?_⟩
  · rw [Array.getElem?_setIfInBounds_ne (by decide)]; exact e0
  · rw [Array.getElem?_setIfInBounds_ne (by decide)]; exact e1
  · rw [Array.getElem?_setIfInBounds_ne (by decide)]; exact e2
  · rw [Array.getElem?_setIfInBounds_self_of_lt (by omega)]
set_option maxRecDepth 100000 in
theorem taken_calls (w : World) (p : Nat) (cs : Array Value) (t : TypeId) (h : w.heap[p]? = some (.cells cs t (0, 0))) (h10 : cs[10]? = some (.slice none 0 0)) :
    Calls Tryz.prog 34 #[.pointer (some ⟨p, 0, none⟩)] w fun e w' => e = .returned (.slice none 0 0) ∧ w'.heap[p]? = some (.cells cs t (0, 0)) ∧ Keeps (fun x => x = p) w w' := by
  have c10 : w.cell? ⟨p, 10, none⟩ = some (.slice none 0 0) := (blk_cell h 10).trans h10
  have f10 := blk_frozen h 10
  have HS := Lib.hid (blk_set h 10 (.slice none 0 0))
  have HC := Lib.hid (set_same h10)
  clear h h10
  go_enter Tryz.func34, Tryz.ntmps34
  go_wp2
  go_ret
  refine ⟨rfl, ?_, (Keeps.refl (fun x => x = p) w).setCell (p := ⟨p, 10, none⟩) (fun _ => rfl) _⟩
  have := HS.out
  rw [HC.out] at this
  exact this
theorem slice_nil0 (w : World) : (Instr.slice 31 (.slice none 0 0) (some (.int .i64 0)) none none).run Tryz.prog w = .ok (.slice none 0 0) w := by
  have hu := Tryz.underlying31
  simp [Instr.slice, run_underlying hu, go_sem]
theorem slice_nil1 (w : World) : (Instr.slice 31 (.slice none 0 0) none (some (.int .i64 0)) none).run Tryz.prog w = .ok (.slice none 0 0) w := by
  have hu := Tryz.underlying31
  simp [Instr.slice, run_underlying hu, go_sem]
theorem MRow.keepF {S : Nat → Prop} {w w' : World} {m : Md} {B0 B1 B2 B3 B4 : Option Addr} {m0 m1 m2 m3 m4 : Nat} (h : MRow S w m B0 B1 B2 B3 B4 m0 m1 m2 m3 m4) (hk : ∀ b, S b → w'.heap[b]? = w.heap[b]?) (hs : w.heap.size ≤ w'.heap.size) : MRow S w' m B0 B1 B2 B3 B4 m0 m1 m2 m3 m4 :=
  ⟨h.e0, h.e1, h.e2, h.e3, h.e4, h.r0.keep hk, h.r1.keep hk, h.r2.keep hk, h.r3.keep hk, h.r4.keep hk, fun b hb' => Nat.lt_of_lt_of_le (h.lt b hb') hs⟩
set_option maxRecDepth 100000 in
set_option maxHeartbeats 8000000 in
theorem next_0 {S : Nat → Prop} {w : World} {p FB hp tp : Nat} {m : Md} {B0 B1 B2 B3 B4 : Option Addr} {m0 m1 m2 m3 m4 d0 d1 d2 d3 d4 : Nat} {q : Int} {MA : Option Addr} {mn mc fc pc : Nat} {LA : Option Addr} {ln lc : Nat} (h : Mc1 w p FB hp tp B0 B1 B2 B3 B4 m0 m1 m2 m3 m4 d0 d1 d2 d3 d4 q MA mn mc fc pc LA ln lc none 0 0) (hM : MRow S w m B0 B1 B2 B3 B4 m0 m1 m2 m3 m4) (hSF : ∀ b, S b → b ≠ FB) (f : Fn) (hf : m.funcs[0]? = some f) (hl : f.code.length ≤ 1000) (k : Nat) (b : Int) (hi : f.code[pc]? = some ⟨0, k, b⟩) (v : Int) (hv : m.ints[k]? = some v) (ans : Value) :
    Calls Tryz.prog 13 #[.pointer (some ⟨p, 0, none⟩), ans] w fun e w' => e = .returned (.tuple #[.slice none 0 0, .bool true]) ∧ ∃ SA sc, Mc1 w' p FB hp tp B0 B1 B2 B3 B4 m0 m1 m2 m3 m4 d0 d1 d2 d3 d4 q MA mn mc fc (pc + 1) LA ln lc SA 1 sc ∧ 1 ≤ sc ∧ Lie w' SA 1 [.int .u64 v] ∧ (∀ g o, SA = some ⟨g, o, none⟩ → w.heap.size ≤ g) ∧ Keeps (fun x => x = FB ∨ x = p) w w' := by
  have hpc : pc ≤ 1000 := by have := (List.getElem?_eq_some_iff.1 hi).1; omega
  have c8 : w.cell? ⟨p, 8, none⟩ = some (.int .i64 0) := blk_cell h.box 8
  have KI := Lib.hid (instr_calls h hM f hf _ hi hl)
  have HH := Lib.hid h
  have HM := Lib.hid hM
  have HSF := Lib.hid hSF
  have HVv := Lib.hid hv
  have hnil : ∀ w' : World, (binOp .eql 31 (.slice none 0 0) (.slice none 0 0)).run Tryz.prog w' = .ok (.bool true) w' := fun w' => Lib.run_eql_slice_nil w' _ _ none _ _ 0 0 Tryz.underlying31
  clear h hM hSF hf hi hv
  go_enter Tryz.func13, Tryz.ntmps13
  go_upto_region 4 with (first
    | (go_at_call 29; go_must (refine KI.out.mono ?_; rintro e w1 ⟨rfl, hb1⟩; have HB1 := Lib.hid hb1; have KT := Lib.hid (top_calls w1 p FB fc (blk_cell (HH.out.below hb1).box 12)); clear hb1))
    | (go_at_call 30; go_must (refine KT.out.mono ?_; rintro e w2 ⟨rfl, hb2⟩; have HB2 := Lib.hid (HB1.out.trans (hb2.mono HB1.out.size)); clear hb2)))
  have hBV : Below w.heap.size w (w2.alloc (Obj.cells #[.int .i64 0, .int .i64 (k : Int), .int .i64 b] 27)) := HB2.out.alloc HB2.out.size _
  have HX := Lib.hid (blk_new w2 (Obj.cells #[.int .i64 0, .int .i64 (k : Int), .int .i64 b] 27))
  have hz := HB2.out.size
  generalize hzz : w2.heap.size = z at *
  generalize (w2.alloc (Obj.cells #[.int .i64 0, .int .i64 (k : Int), .int .i64 b] 27)) = V at *
  clear hzz
  have HBV := Lib.hid hBV
  have hmc := HH.out.below hBV
  obtain ⟨-, -, -, e3⟩ := hmc.cells
  obtain ⟨x0, x1, x2⟩ := cells3 HX.out
  have g3 := cell_regrown e3
  have g0 := cell_regrown x0
  have g1 := cell_regrown x1
  have g2 := cell_regrown x2
  have KTk := Lib.hid (fun W => takes_0 W (.pointer (some ⟨p, 0, none⟩)) (k : Int) b)
  have hw0 : IntKind.i64.wrap 0 = 0 := rfl
  have hs0 := slice_nil0
  have hs1 := slice_nil1
  have HMc := Lib.hid hmc
  clear hmc e3 x0 x1 x2 hBV c8
  refine wp_region_quiet_below (by kernel_rfl) (by kernel_rfl) ?_
  repeat (first | go_big_quiet_step (with_reducible exact calls_regrown KTk.out _ _) | quiet_step (with_reducible exact calls_regrown KTk.out _ _))
  refine wpQuiet_nil ?_
  intro _ hw'
  obtain ⟨⟨dq, osq⟩, hw''⟩ := hw'
  subst hw''
  clear g0 g1 g2 g3
  have HBq := Lib.hid (below_regrown V dq osq)
  generalize grow (redrawn V dq) osq = wq at *
  have HMq := Lib.hid (HMc.out.below HBq.out)
  obtain ⟨-, -, -, e3⟩ := HMq.out.cells
  have HXq := Lib.hid (blk_below HX.out HBq.out (blk_lt HX.out))
  go_upto_region 7 with (go_at_call 32; go_must (refine (clone64_calls _ none 0 0 [] rfl (by omega) (fun h => absurd h (Nat.lt_irrefl 0))).mono ?_; rintro e w6 ⟨u, rfl, -, -, hb6⟩; have HB6 := Lib.hid hb6; have HM6 := Lib.hid (HMq.out.below hb6); have HX6 := Lib.hid (blk_below HXq.out hb6 (blk_lt HXq.out)); have y3 : w6.cell? ⟨FB, 3, none⟩ = some (.slice none 0 0) := (HMq.out.below hb6).cells.2.2.2; have y4 := (HMq.out.below hb6).fz; clear hb6))
  have hlt := HH.out.lt
  have hplt : p < w.heap.size := blk_lt HH.out.box
  have hb6 : Below w.heap.size w w6 := HBV.out.trans ((HBq.out.trans (HB6.out.mono HBq.out.size)).mono HBV.out.size)
  have hk6 : Keeps (fun x => x = FB) w (w6.setCell ⟨FB, 3, none⟩ (.slice none 0 0)) := (Keeps.of_below (F := fun x => x = FB) hb6).setCell (p := ⟨FB, 3, none⟩) (fun _ => rfl) _
  have hm6 := HM6.out.stack none 0 0
  have hx6 := blk_far HX6.out (p := ⟨FB, 3, none⟩) (show z ≠ FB by omega) (.slice none 0 0)
  generalize (w6.setCell ⟨FB, 3, none⟩ (.slice none 0 0)) = V6 at *
  obtain ⟨q0, q1, q2⟩ := cells3 hx6
  have KD := Lib.hid (do_0 hm6 (HM.out.keepF (fun b hb => hk6.block b (HM.out.lt b hb) (HSF.out b hb)) hk6.size) HSF.out hpc k v HVv.out b u ans)
  have HK6 := Lib.hid hk6
  clear hm6 hx6 hk6 hb6 y3 y4 e3
  go_wp2_with (first
    | (go_at_call 33; go_must (refine KD.out.mono ?_; rintro e w7 ⟨rfl, SA, sc, hm7, hsc, hl7, hg7, hk7⟩; have HM7 := Lib.hid hm7; have HL7 := Lib.hid hl7; have HG7 := Lib.hid hg7; have HK7 := Lib.hid hk7; have KTa := Lib.hid (taken_calls w7 p _ _ hm7.box rfl); clear hm7 hl7 hg7 hk7))
    | (go_at_call 34; go_must (refine KTa.out.mono ?_; rintro e w8 ⟨rfl, hb8, hk8⟩; have HB8 := Lib.hid hb8; have HK8 := Lib.hid hk8; clear hb8 hk8)))
  go_ret2
  refine ⟨rfl, SA, sc, ⟨HB8.out, ?_⟩, hsc, ?_, ?_, ?_⟩
  · obtain ⟨cs', h', hs⟩ := HM7.out.fr
    exact ⟨cs', (HK8.out.block FB (blk_lt h') (Ne.symm hlt.2)).trans h', hs⟩
  · intro hp1
    obtain ⟨g, o, rfl, hc⟩ := HL7.out hp1
    refine ⟨g, o, rfl, fun j u hj => ?_⟩
    have hgp : g ≠ p := by have := HG7.out g o rfl; have := HK6.out.size; omega
    exact (World.cell?_of_block (a := ⟨g, o + j, none⟩) (HK8.out.block g (World.block_lt_of_cell? w7 ⟨g, o + j, none⟩ (hc j u hj)) hgp)).trans (hc j u hj)
  · intro g o e
    exact Nat.le_trans HK6.out.size (HG7.out g o e)
  · exact (((HK6.out.trans HK7.out).mono (fun x _ h => .inl h)).step HK8.out (fun x _ h => .inr h))
end Go.Proofs.YtdmmjckhpagibaaGreatDoor
