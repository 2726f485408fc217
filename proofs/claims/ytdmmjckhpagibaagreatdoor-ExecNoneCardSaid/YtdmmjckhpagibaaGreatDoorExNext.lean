/- exec's engine: Next of an int; back; Next of a return. -/
import Derived.Test.YtdmmjckhpagibaaGreatDoorExPlain
namespace Go.Proofs.YtdmmjckhpagibaaGreatDoor
open Go.RowKit Go.Sort
set_option linter.unusedVariables false
set_option linter.unusedSimpArgs false
theorem En1.pcs {w : World} {p FB hp tp : Nat} {B0 B1 B2 B3 B4 : Option Addr} {m0 m1 m2 m3 m4 d0 d1 d2 d3 d4 : Nat} {q : Int} {C cn cc fc pc : Nat} {regs : Nat → Int} {high : Nat} (h : En1 w p FB hp tp B0 B1 B2 B3 B4 m0 m1 m2 m3 m4 d0 d1 d2 d3 d4 q C cn cc fc pc regs high) : En1 (w.setCell ⟨FB, 1, none⟩ (.int .i64 ((pc : Int) + 1))) p FB hp tp B0 B1 B2 B3 B4 m0 m1 m2 m3 m4 d0 d1 d2 d3 d4 q C cn cc fc (pc + 1) regs high := by
  obtain ⟨cs, h1, h2, h3, h4, h5, h6⟩ := h.fr
  refine ⟨blk_far h.box (blk_ne h.box h1 (by decide)) _, _, blk_set h1 1 _, by simpa using h2, ?_, ?_, ?_, fun j hj => ?_⟩
  · rw [Array.getElem?_setIfInBounds_ne (by decide)]; exact h3
  · rw [Array.getElem?_setIfInBounds_self_of_lt (by omega)]; push_cast; rfl
  · rw [Array.getElem?_setIfInBounds_ne (by decide)]; exact h5
  · rw [Array.getElem?_setIfInBounds_ne (by omega)]; exact h6 j hj
theorem En1.lt {w : World} {p FB hp tp : Nat} {B0 B1 B2 B3 B4 : Option Addr} {m0 m1 m2 m3 m4 d0 d1 d2 d3 d4 : Nat} {q : Int} {C cn cc fc pc : Nat} {regs : Nat → Int} {high : Nat} (h : En1 w p FB hp tp B0 B1 B2 B3 B4 m0 m1 m2 m3 m4 d0 d1 d2 d3 d4 q C cn cc fc pc regs high) : FB < w.heap.size ∧ p ≠ FB ∧ p < w.heap.size := by
  obtain ⟨cs, h1, _⟩ := h.fr
  exact ⟨blk_lt h1, blk_ne h.box h1 (by decide), blk_lt h.box⟩
theorem En1.pcAt {w : World} {p FB hp tp : Nat} {B0 B1 B2 B3 B4 : Option Addr} {m0 m1 m2 m3 m4 d0 d1 d2 d3 d4 : Nat} {q : Int} {C cn cc fc pc : Nat} {regs : Nat → Int} {high : Nat} (h : En1 w p FB hp tp B0 B1 B2 B3 B4 m0 m1 m2 m3 m4 d0 d1 d2 d3 d4 q C cn cc fc pc regs high) : w.cell? ⟨FB, 1, none⟩ = some (.int .i64 pc) ∧ w.frozen? ⟨FB, 1, none⟩ = false := by
  obtain ⟨cs, h1, h2, h3, h4, h5, h6⟩ := h.fr
  exact ⟨(blk_cell h1 1).trans h4, blk_frozen h1 1⟩
set_option maxRecDepth 100000 in
set_option maxHeartbeats 8000000 in
theorem enext_0 {S : Nat → Prop} {w : World} {p FB hp tp : Nat} {m : Md} {B0 B1 B2 B3 B4 : Option Addr} {m0 m1 m2 m3 m4 d0 d1 d2 d3 d4 : Nat} {q : Int} {C cn cc fc pc : Nat} {regs : Nat → Int} {high : Nat} (h : En1 w p FB hp tp B0 B1 B2 B3 B4 m0 m1 m2 m3 m4 d0 d1 d2 d3 d4 q C cn cc fc pc regs high) (hM : MRow S w m B0 B1 B2 B3 B4 m0 m1 m2 m3 m4) (hSF : ∀ b, S b → b ≠ FB) {irss : List (List Ir)} (hC : CodeR w C irss) (hcn : irss.length = cn) (irs : List Ir) (h0 : irss[0]? = some irs) (hl : irs.length ≤ 1000) (k : Nat) (b : Int) (hx : irs[pc]? = some ⟨0, k, b, 0, 0, 1⟩) (v : Int) (hv : m.ints[k]? = some v) (ans : Value) :
    Calls Tryz.prog 19 #[.pointer (some ⟨p, 0, none⟩), ans] w fun e w' => e = .returned (.tuple #[.slice none 0 0, .bool true]) ∧ En1 w' p FB hp tp B0 B1 B2 B3 B4 m0 m1 m2 m3 m4 d0 d1 d2 d3 d4 q C cn cc fc (pc + 1) (fun j => if j = 0 then v else regs j) 1 ∧ Keeps (fun x => x = FB ∨ x = p) w w' := by
  have hpc : pc ≤ 1000 := by have := (List.getElem?_eq_some_iff.1 hx).1; omega
  have c8 : w.cell? ⟨p, 8, none⟩ = some (.int .i64 0) := blk_cell h.box 8
  have KT := Lib.hid (etop_calls w p FB fc (blk_cell h.box 12))
  have KI := Lib.hid (fun W (hb : Below w.heap.size w W) => eins_calls (h.below hb) (hC.below hb) hcn irs h0 _ hx hl)
  have HH := Lib.hid h
  have HM := Lib.hid hM
  have HSF := Lib.hid hSF
  have HVv := Lib.hid hv
  clear h hM hSF hC h0 hx hv hcn
  go_enter Tryz.func19, Tryz.ntmps19
  go_upto_region 4 with (first
    | (go_at_call 40; go_must (refine KT.out.mono ?_; rintro e w1 ⟨rfl, hb1⟩; have HB1 := Lib.hid hb1; clear hb1))
    | (go_at_call 41; go_must (refine (KI.out _ HB1.out).mono ?_; rintro e w2 ⟨rfl, hb2⟩; have HB2 := Lib.hid (HB1.out.trans (hb2.mono HB1.out.size)); clear hb2)))
  have hBV : Below w.heap.size w (w2.alloc (Obj.cells #[.int .i64 0, .int .i64 (k : Int), .int .i64 b, .int .i64 0, .int .i64 0, .int .i64 1] 106)) := HB2.out.alloc HB2.out.size _
  have HX := Lib.hid (blk_new w2 (Obj.cells #[.int .i64 0, .int .i64 (k : Int), .int .i64 b, .int .i64 0, .int .i64 0, .int .i64 1] 106))
  have hz := HB2.out.size
  generalize hzz : w2.heap.size = z at *
  generalize (w2.alloc (Obj.cells #[.int .i64 0, .int .i64 (k : Int), .int .i64 b, .int .i64 0, .int .i64 0, .int .i64 1] 106)) = V at *
  clear hzz c8
  have hlt := HH.out.lt
  have hzF : z ≠ FB := by omega
  have hen := HH.out.below hBV
  obtain ⟨f1, f2⟩ := hen.pcAt
  have HEn := Lib.hid hen
  have HBV := Lib.hid hBV
  have hwp : wrap64 ((pc : Int) + 1) = pc + 1 := by unfold wrap64; omega
  clear hen hBV
  go_upto_region 5 with fail
  have hk4 : Keeps (fun x => x = FB) w (V.setCell ⟨FB, 1, none⟩ (.int .i64 ((pc : Int) + 1))) := (Keeps.of_below (F := fun x => x = FB) HBV.out).setCell (p := ⟨FB, 1, none⟩) (fun _ => rfl) _
  have hx4 := blk_far HX.out hzF (p := ⟨FB, 1, none⟩) (.int .i64 ((pc : Int) + 1))
  have he4 := HEn.out.pcs
  generalize (V.setCell ⟨FB, 1, none⟩ (.int .i64 ((pc : Int) + 1))) = V4 at *
  obtain ⟨⟨q0, q1, q2, q3, q4, q5⟩, -⟩ := cells6 hx4
  have KP := Lib.hid (eplain_0 he4 (HM.out.keepF (fun b hb => hk4.block b (HM.out.lt b hb) (HSF.out b hb)) hk4.size) HSF.out k v HVv.out b ans)
  have HK4 := Lib.hid hk4
  clear f1 f2 hk4 hx4 he4 hwp
  go_wp2_with (first
    | (go_at_call 45; go_must (refine KP.out.mono ?_; rintro e w7 ⟨rfl, he7, hk7⟩; have HE7 := Lib.hid he7; have HK7 := Lib.hid hk7; have KTa := Lib.hid (taken_calls w7 p _ _ he7.box rfl); clear he7 hk7))
    | (go_at_call 34; go_must (refine KTa.out.mono ?_; rintro e w8 ⟨rfl, hb8, hk8⟩; have HB8 := Lib.hid hb8; have HK8 := Lib.hid hk8; clear hb8 hk8)))
  go_ret2
  refine ⟨rfl, ⟨HB8.out, ?_⟩, ((HK4.out.trans HK7.out).mono (fun x _ h => .inl h)).step HK8.out (fun x _ h => .inr h)⟩
  obtain ⟨cs', h', hs⟩ := HE7.out.fr
  exact ⟨cs', (HK8.out.block FB (blk_lt h') (Ne.symm hlt.2.1)).trans h', hs⟩
/-- An engine that has ended with a number. -/
def EnE (w : World) (p FB hp tp : Nat) (B0 B1 B2 B3 B4 : Option Addr) (m0 m1 m2 m3 m4 d0 d1 d2 d3 d4 : Nat) (q : Int) (C cn cc fc : Nat) (v : Int) : Prop :=
  w.heap[p]? = some (.cells #[.slice B0 m0 d0, .slice B1 m1 d1, .slice B2 m2 d2, .slice B3 m3 d3, .slice B4 m4 d4, .pointer (some ⟨hp, 0, none⟩), .pointer (some ⟨tp, 0, none⟩), .int .i64 q, .int .i64 1, .int .u64 v, .slice none 0 0, .slice (some ⟨C, 0, none⟩) cn cc, .slice (some ⟨FB, 0, none⟩) 0 fc] 99 (0, 0))
theorem slice_none_e (w : World) (FB fc : Nat) : (Instr.slice 97 (.slice (some ⟨FB, 0, none⟩) 1 fc) none (some (.int .i64 0)) none).run Tryz.prog w = .ok (.slice (some ⟨FB, 0, none⟩) 0 fc) w := by
  have hu := Tryz.underlying97
  simp [Instr.slice, run_underlying hu, go_sem]
set_option maxRecDepth 100000 in
set_option maxHeartbeats 4000000 in
theorem eback_calls {w : World} {p FB hp tp : Nat} {B0 B1 B2 B3 B4 : Option Addr} {m0 m1 m2 m3 m4 d0 d1 d2 d3 d4 : Nat} {q : Int} {C cn cc fc pc : Nat} {regs : Nat → Int} {high : Nat} (h : En1 w p FB hp tp B0 B1 B2 B3 B4 m0 m1 m2 m3 m4 d0 d1 d2 d3 d4 q C cn cc fc pc regs high) (v : Int) :
    Calls Tryz.prog 44 #[.pointer (some ⟨p, 0, none⟩), .int .u64 v] w fun e w' => e = .returned (.tuple #[]) ∧ EnE w' p FB hp tp B0 B1 B2 B3 B4 m0 m1 m2 m3 m4 d0 d1 d2 d3 d4 q C cn cc fc v ∧ Keeps (fun x => x = p) w w' := by
  have hb := h.box
  have c12 : w.cell? ⟨p, 12, none⟩ = some (.slice (some ⟨FB, 0, none⟩) 1 fc) := blk_cell hb 12
  have f12 := blk_frozen hb 12
  have hsl := fun W => slice_none_e W FB fc
  have hw0 : IntKind.i64.wrap 0 = 0 := rfl
  have HB := Lib.hid hb
  clear h hb
  go_enter Tryz.func44, Tryz.ntmps44
  go_upto_region 0 with fail
  go_region_law (first | fail)
  all_goals
    have hr := blk_set HB.out 12 (.slice (some ⟨FB, 0, none⟩) 0 fc)
    have hk : Keeps (fun x => x = p) w (w.setCell ⟨p, 12, none⟩ (.slice (some ⟨FB, 0, none⟩) 0 fc)).drew := ((Keeps.refl (fun x => x = p) w).setCell (p := ⟨p, 12, none⟩) (fun _ => rfl) _).drew
    have hx : (w.setCell ⟨p, 12, none⟩ (.slice (some ⟨FB, 0, none⟩) 0 fc)).drew.heap[p]? = some (.cells #[.slice B0 m0 d0, .slice B1 m1 d1, .slice B2 m2 d2, .slice B3 m3 d3, .slice B4 m4 d4, .pointer (some ⟨hp, 0, none⟩), .pointer (some ⟨tp, 0, none⟩), .int .i64 q, .int .i64 0, .int .u64 0, .slice none 0 0, .slice (some ⟨C, 0, none⟩) cn cc, .slice (some ⟨FB, 0, none⟩) 0 fc] 99 (0, 0)) := blk_drew (by simpa using hr)
    generalize (w.setCell ⟨p, 12, none⟩ (.slice (some ⟨FB, 0, none⟩) 0 fc)).drew = V at *
    clear c12 f12 hr
    have y12 : V.cell? ⟨p, 12, none⟩ = some (.slice (some ⟨FB, 0, none⟩) 0 fc) := blk_cell hx 12
    have y8 : V.cell? ⟨p, 8, none⟩ = some (.int .i64 0) := blk_cell hx 8
    have y9 : V.cell? ⟨p, 9, none⟩ = some (.int .u64 0) := blk_cell hx 9
    have z8 := blk_frozen hx 8
    have z9 := blk_frozen hx 9
    have HX := Lib.hid hx
    have HK := Lib.hid hk
    clear hx hk
    go_wp2
    have hr := blk_set (blk_set HX.out 8 (.int .i64 1)) 9 (.int .u64 v)
    (try simp only [Exit.inBlock, Exit.then])
    first
    | refine bodyPost_ret (v := .tuple #[]) (by simp [results, Tryz.results44, go_sem]) rfl ⟨rfl, by unfold EnE; simpa using hr, (HK.out.setCell (p := ⟨p, 8, none⟩) (fun _ => rfl) _).setCell (p := ⟨p, 9, none⟩) (fun _ => rfl) _⟩
    | refine bodyPost_end (v := .tuple #[]) (by simp [results, Tryz.results44, go_sem]) rfl ⟨rfl, by unfold EnE; simpa using hr, (HK.out.setCell (p := ⟨p, 8, none⟩) (fun _ => rfl) _).setCell (p := ⟨p, 9, none⟩) (fun _ => rfl) _⟩
end Go.Proofs.YtdmmjckhpagibaaGreatDoor
