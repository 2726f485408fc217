/- step's machine: back from the last frame; do of a return. -/
import Derived.Test.YtdmmjckhpagibaaGreatDoorMcDo
namespace Go.Proofs.YtdmmjckhpagibaaGreatDoor
open Go.RowKit Go.Sort
set_option linter.unusedVariables false
/-- A machine that has ended with a number. -/
def McE (w : World) (p FB hp tp : Nat) (B0 B1 B2 B3 B4 : Option Addr) (m0 m1 m2 m3 m4 d0 d1 d2 d3 d4 : Nat) (q : Int) (MA : Option Addr) (mn mc fc : Nat) (v : Int) : Prop :=
  w.heap[p]? = some (.cells #[.slice B0 m0 d0, .slice B1 m1 d1, .slice B2 m2 d2, .slice B3 m3 d3, .slice B4 m4 d4, .pointer (some ⟨hp, 0, none⟩), .pointer (some ⟨tp, 0, none⟩), .int .i64 q, .int .i64 1, .int .u64 v, .slice none 0 0, .slice MA mn mc, .slice (some ⟨FB, 0, none⟩) 0 fc] 81 (0, 0))
theorem slice_none (w : World) (FB fc : Nat) : (Instr.slice 40 (.slice (some ⟨FB, 0, none⟩) 1 fc) none (some (.int .i64 0)) none).run Tryz.prog w = .ok (.slice (some ⟨FB, 0, none⟩) 0 fc) w := by
  have hu := Tryz.underlying40
  simp [Instr.slice, run_underlying hu, go_sem]
set_option maxRecDepth 100000 in
set_option maxHeartbeats 4000000 in
theorem back_calls {w : World} {p FB hp tp : Nat} {B0 B1 B2 B3 B4 : Option Addr} {m0 m1 m2 m3 m4 d0 d1 d2 d3 d4 : Nat} {q : Int} {MA : Option Addr} {mn mc fc pc : Nat} {LA : Option Addr} {ln lc : Nat} {SA : Option Addr} {sn sc : Nat} (h : Mc1 w p FB hp tp B0 B1 B2 B3 B4 m0 m1 m2 m3 m4 d0 d1 d2 d3 d4 q MA mn mc fc pc LA ln lc SA sn sc) (v : Int) :
    Calls Tryz.prog 57 #[.pointer (some ⟨p, 0, none⟩), .int .u64 v] w fun e w' => e = .returned (.tuple #[]) ∧ McE w' p FB hp tp B0 B1 B2 B3 B4 m0 m1 m2 m3 m4 d0 d1 d2 d3 d4 q MA mn mc fc v ∧ Keeps (fun x => x = p) w w' := by
  have hb := h.box
  have c12 : w.cell? ⟨p, 12, none⟩ = some (.slice (some ⟨FB, 0, none⟩) 1 fc) := blk_cell hb 12
  have f12 := blk_frozen hb 12
  have hsl := fun W => slice_none W FB fc
  have hw0 : IntKind.i64.wrap 0 = 0 := rfl
  have HB := Lib.hid hb
  clear h hb
  go_enter Tryz.func57, Tryz.ntmps57
  go_upto_region 0 with fail
  go_region_law (first | fail)
  all_goals
    have hr := blk_set HB.out 12 (.slice (some ⟨FB, 0, none⟩) 0 fc)
    have hk : Keeps (fun x => x = p) w (w.setCell ⟨p, 12, none⟩ (.slice (some ⟨FB, 0, none⟩) 0 fc)).drew := ((Keeps.refl (fun x => x = p) w).setCell (p := ⟨p, 12, none⟩) (fun _ => rfl) _).drew
    have hx : (w.setCell ⟨p, 12, none⟩ (.slice (some ⟨FB, 0, none⟩) 0 fc)).drew.heap[p]? = some (.cells #[.slice B0 m0 d0, .slice B1 m1 d1, .slice B2 m2 d2, .slice B3 m3 d3, .slice B4 m4 d4, .pointer (some ⟨hp, 0, none⟩), .pointer (some ⟨tp, 0, none⟩), .int .i64 q, .int .i64 0, .int .u64 0, .slice none 0 0, .slice MA mn mc, .slice (some ⟨FB, 0, none⟩) 0 fc] 81 (0, 0)) := blk_drew (by simpa using hr)
    generalize (w.setCell ⟨p, 12, none⟩ (.slice (some ⟨FB, 0, none⟩) 0 fc)).drew = V at *
    clear c12 f12 hr
    have y12 : V.cell? ⟨p, 12, none⟩ = some (.slice (some ⟨FB, 0, none⟩) 0 fc) := blk_cell hx 12
    have y8 : V.cell? ⟨p, 8, none⟩ = some (.int .i64 0) := blk_cell hx 8
    have y9 : V.cell? ⟨p, 9, none⟩ = some (.int .u64 0) := blk_cell hx 9
    have z8 := blk_frozen hx 8
    have z9 := blk_frozen hx 9
    have HX := Lib.hid hx
    have HK := Lib.hid hk
    clear hx hk
    go_wp2
    have hr := blk_set (blk_set HX.out 8 (.int .i64 1)) 9 (.int .u64 v)
    (try simp only [Exit.inBlock, Exit.then])
    first
    | refine bodyPost_ret (v := .tuple #[]) (by simp [results, Tryz.results57, go_sem]) rfl ⟨rfl, by unfold McE; simpa using hr, (HK.out.setCell (p := ⟨p, 8, none⟩) (fun _ => rfl) _).setCell (p := ⟨p, 9, none⟩) (fun _ => rfl) _⟩
    | refine bodyPost_end (v := .tuple #[]) (by simp [results, Tryz.results57, go_sem]) rfl ⟨rfl, by unfold McE; simpa using hr, (HK.out.setCell (p := ⟨p, 8, none⟩) (fun _ => rfl) _).setCell (p := ⟨p, 9, none⟩) (fun _ => rfl) _⟩
set_option maxRecDepth 100000 in
set_option maxHeartbeats 4000000 in
theorem do_26 {w : World} {p FB hp tp : Nat} {B0 B1 B2 B3 B4 : Option Addr} {m0 m1 m2 m3 m4 d0 d1 d2 d3 d4 : Nat} {q : Int} {MA : Option Addr} {mn mc fc pc : Nat} {LA : Option Addr} {ln lc : Nat} {SA : Option Addr} {sn sc : Nat} (h : Mc1 w p FB hp tp B0 B1 B2 B3 B4 m0 m1 m2 m3 m4 d0 d1 d2 d3 d4 q MA mn mc fc pc LA ln lc SA sn sc) (hpc : pc ≤ 1000) (a b : Int) (IA : Option Addr) (ic : Nat) (v : Int) (hI : Lie w IA 1 [.int .u64 v]) (hIF : ∀ g o, IA = some ⟨g, o, none⟩ → g ≠ FB) (ans : Value) :
    Calls Tryz.prog 33 #[.pointer (some ⟨p, 0, none⟩), .agg #[.int .i64 26, .int .i64 a, .int .i64 b], .slice IA 1 ic, ans] w fun e w' => e = .returned (.tuple #[]) ∧ McE w' p FB hp tp B0 B1 B2 B3 B4 m0 m1 m2 m3 m4 d0 d1 d2 d3 d4 q MA mn mc fc v ∧ Keeps (fun x => x = p ∨ x = FB) w w' := by
  have hV := below_a1 w (Obj.cells #[.int .i64 26, .int .i64 a, .int .i64 b] 27)
  have hX := blk_new w (Obj.cells #[.int .i64 26, .int .i64 a, .int .i64 b] 27)
  have hh := h.below hV
  have KT := Lib.hid (top_calls _ p FB fc (blk_cell hh.box 12))
  obtain ⟨cs, h1, h2, h3, h4, h5, h6⟩ := hh.fr
  have hFlt : FB < w.heap.size := by obtain ⟨cs', h', _⟩ := h.fr; exact blk_lt h'
  have hpF : p ≠ FB := by obtain ⟨cs', h', _⟩ := h.fr; exact blk_ne h.box h' (by decide)
  obtain ⟨ig, io, rfl, hI1⟩ := hI (by decide)
  have v1 : w.cell? ⟨ig, io, none⟩ = some (.int .u64 v) := by have := hI1 0 _ rfl; simpa using this
  have hgF := hIF ig io rfl
  have HF := Lib.hid h1
  have HC0 := Lib.hid h3
  have HC1 := Lib.hid h4
  have HC2 := Lib.hid h5
  have HC3 := Lib.hid h6
  have HCs := Lib.hid h2
  have HX := Lib.hid hX
  have HV := Lib.hid hV
  have HH := Lib.hid h
  have HVv := Lib.hid v1
  have hwp : wrap64 ((pc : Int) + 1) = pc + 1 := by unfold wrap64; omega
  clear h hV hX hh h1 h2 h3 h4 h5 h6 hI hIF hI1 v1
  go_enter Tryz.func33, Tryz.ntmps33
  go_upto_region 4 with (go_at_call 30; go_must (refine KT.out.mono ?_; rintro e w1 ⟨rfl, hb1⟩; have hf1 := blk_below HF.out hb1 (blk_lt HF.out); have y1 : w1.cell? ⟨FB, 1, none⟩ = some (.int .i64 pc) := (blk_cell hf1 1).trans HC1.out; have y2 := blk_frozen hf1 1; have HB1 := Lib.hid (HV.out.trans (hb1.mono HV.out.size)); have HX1 := Lib.hid (blk_below HX.out hb1 (blk_lt HX.out)); have HF1 := Lib.hid hf1; clear hb1 hf1))
  have hne : w.heap.size ≠ FB := by omega
  have hkV : Keeps (fun x => x = FB) w (w1.setCell ⟨FB, 1, none⟩ (.int .i64 ((pc : Int) + 1))) := (Keeps.of_below (F := fun x => x = FB) HB1.out).setCell (p := ⟨FB, 1, none⟩) (fun _ => rfl) _
  have hXV : (w1.setCell ⟨FB, 1, none⟩ (.int .i64 ((pc : Int) + 1))).heap[w.heap.size]? = some (.cells #[.int .i64 26, .int .i64 a, .int .i64 b] 27 (0, 0)) := blk_far HX1.out hne _
  have hFV := blk_set HF1.out 1 (.int .i64 ((pc : Int) + 1))
  generalize (w1.setCell ⟨FB, 1, none⟩ (.int .i64 ((pc : Int) + 1))) = V at *
  have x0 : V.cell? ⟨w.heap.size, 0, none⟩ = some (.int .i64 26) := blk_cell hXV 0
  have x3 : V.cell? ⟨ig, io, none⟩ = some (.int .u64 v) := (World.cell?_of_block (a := ⟨ig, io, none⟩) (hkV.block ig (World.block_lt_of_cell? w ⟨ig, io, none⟩ HVv.out) hgF)).trans HVv.out
  have hmc : Mc1 V p FB hp tp B0 B1 B2 B3 B4 m0 m1 m2 m3 m4 d0 d1 d2 d3 d4 q MA mn mc fc (pc + 1) LA ln lc SA sn sc := by
    refine ⟨blk_keeps HH.out.box hkV hpF, _, hFV, by simpa using HCs.out, ?_, ?_, ?_, ?_⟩
    · rw [Array.getElem?_setIfInBounds_ne (by decide)]; exact HC0.out
    · have := HCs.out
      rw [Array.getElem?_setIfInBounds_self_of_lt (by omega)]; push_cast; rfl
    · rw [Array.getElem?_setIfInBounds_ne (by decide)]; exact HC2.out
    · rw [Array.getElem?_setIfInBounds_ne (by decide)]; exact HC3.out
  have KB := Lib.hid (back_calls hmc v)
  have HKV := Lib.hid hkV
  clear hmc hkV hXV hFV y1 y2
  go_wp2_with (go_at_call 57; go_must (refine KB.out.mono ?_; rintro e w5 ⟨rfl, hE, hk5⟩; have HE := Lib.hid hE; have HK5 := Lib.hid hk5; clear hE hk5))
  (try simp only [Exit.inBlock, Exit.then])
  have hkk : Keeps (fun x => x = p ∨ x = FB) w w5 := (HKV.out.mono (fun x _ h => .inr h)).step HK5.out (fun x _ h => .inl h)
  first
  | exact bodyPost_end (v := .tuple #[]) (by simp [results, Tryz.results33, go_sem]) rfl ⟨rfl, HE.out, hkk⟩
  | exact bodyPost_ret (v := .tuple #[]) (by simp [results, Tryz.results33, go_sem]) rfl ⟨rfl, HE.out, hkk⟩
end Go.Proofs.YtdmmjckhpagibaaGreatDoor
