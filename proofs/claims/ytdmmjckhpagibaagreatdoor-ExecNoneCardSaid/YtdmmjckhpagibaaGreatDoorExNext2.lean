/- exec's engine: Next of a return; nothing more behind the end; State at the end. -/
import Derived.Test.YtdmmjckhpagibaaGreatDoorExNext
namespace Go.Proofs.YtdmmjckhpagibaaGreatDoor
open Go.RowKit Go.Sort
set_option linter.unusedVariables false
set_option linter.unusedSimpArgs false
theorem hold2p {V w' : World} {z p : Nat} {t : TypeId} {x0 x1 x2 x3 x4 x5 y : Value} {FB o : Nat} (hz : V.heap[z]? = some (.cells #[x0, x1, x2, x3, x4, x5] t (0, 0))) (hzp : z ≠ p) (hF : V.cell? ⟨FB, o, none⟩ = some y) (hFp : FB ≠ p) (hk : Keeps (fun x => x = p) V w') : w'.cell? ⟨z, 3, none⟩ = some x3 ∧ w'.cell? ⟨FB, o, none⟩ = some y ∧ Keeps (fun x => x = p) V w' :=
  ⟨blk_cell (blk_keeps hz hk hzp) 3, (World.cell?_of_block (a := ⟨FB, o, none⟩) (hk.block FB (World.block_lt_of_cell? V ⟨FB, o, none⟩ hF) hFp)).trans hF, hk⟩
set_option maxRecDepth 100000 in
set_option maxHeartbeats 8000000 in
theorem enext_26 {w : World} {p FB hp tp : Nat} {B0 B1 B2 B3 B4 : Option Addr} {m0 m1 m2 m3 m4 d0 d1 d2 d3 d4 : Nat} {q : Int} {C cn cc fc pc : Nat} {regs : Nat → Int} {high : Nat} (h : En1 w p FB hp tp B0 B1 B2 B3 B4 m0 m1 m2 m3 m4 d0 d1 d2 d3 d4 q C cn cc fc pc regs high) {irss : List (List Ir)} (hC : CodeR w C irss) (hcn : irss.length = cn) (irs : List Ir) (h0 : irss[0]? = some irs) (hl : irs.length ≤ 1000) (a b inn out : Int) (hx : irs[pc]? = some ⟨26, a, b, 0, inn, out⟩) (ans : Value) :
    Calls Tryz.prog 19 #[.pointer (some ⟨p, 0, none⟩), ans] w fun e w' => e = .returned (.tuple #[.slice none 0 0, .bool true]) ∧ EnE w' p FB hp tp B0 B1 B2 B3 B4 m0 m1 m2 m3 m4 d0 d1 d2 d3 d4 q C cn cc fc (regs 0) ∧ Keeps (fun x => x = FB ∨ x = p) w w' := by
  have hpc : pc ≤ 1000 := by have := (List.getElem?_eq_some_iff.1 hx).1; omega
  have c8 : w.cell? ⟨p, 8, none⟩ = some (.int .i64 0) := blk_cell h.box 8
  have KT := Lib.hid (etop_calls w p FB fc (blk_cell h.box 12))
  have KI := Lib.hid (fun W (hb : Below w.heap.size w W) => eins_calls (h.below hb) (hC.below hb) hcn irs h0 _ hx hl)
  have HH := Lib.hid h
  clear h hC h0 hx hcn
  go_enter Tryz.func19, Tryz.ntmps19
  go_upto_region 4 with (first
    | (go_at_call 40; go_must (refine KT.out.mono ?_; rintro e w1 ⟨rfl, hb1⟩; have HB1 := Lib.hid hb1; clear hb1))
    | (go_at_call 41; go_must (refine (KI.out _ HB1.out).mono ?_; rintro e w2 ⟨rfl, hb2⟩; have HB2 := Lib.hid (HB1.out.trans (hb2.mono HB1.out.size)); clear hb2)))
  have hBV : Below w.heap.size w (w2.alloc (Obj.cells #[.int .i64 26, .int .i64 a, .int .i64 b, .int .i64 0, .int .i64 inn, .int .i64 out] 106)) := HB2.out.alloc HB2.out.size _
  have HX := Lib.hid (blk_new w2 (Obj.cells #[.int .i64 26, .int .i64 a, .int .i64 b, .int .i64 0, .int .i64 inn, .int .i64 out] 106))
  have hz := HB2.out.size
  generalize hzz : w2.heap.size = z at *
  generalize (w2.alloc (Obj.cells #[.int .i64 26, .int .i64 a, .int .i64 b, .int .i64 0, .int .i64 inn, .int .i64 out] 106)) = V at *
  clear hzz c8
  have hlt := HH.out.lt
  have hzF : z ≠ FB := by omega
  have hzp : z ≠ p := by omega
  have hen := HH.out.below hBV
  obtain ⟨f1, f2⟩ := hen.pcAt
  have HEn := Lib.hid hen
  have HBV := Lib.hid hBV
  have hwp : wrap64 ((pc : Int) + 1) = pc + 1 := by unfold wrap64; omega
  clear hen hBV
  go_upto_region 5 with fail
  have hk4 : Keeps (fun x => x = FB) w (V.setCell ⟨FB, 1, none⟩ (.int .i64 ((pc : Int) + 1))) := (Keeps.of_below (F := fun x => x = FB) HBV.out).setCell (p := ⟨FB, 1, none⟩) (fun _ => rfl) _
  have hx4 := blk_far HX.out hzF (p := ⟨FB, 1, none⟩) (.int .i64 ((pc : Int) + 1))
  have he4 := HEn.out.pcs
  generalize (V.setCell ⟨FB, 1, none⟩ (.int .i64 ((pc : Int) + 1))) = V4 at *
  have q0 : V4.cell? ⟨z, 0, none⟩ = some (.int .i64 26) := blk_cell hx4 0
  have KB := Lib.hid (eback_calls (he4.below (Below.refl V4.heap.size V4).drew) (regs 0))
  have HK4 := Lib.hid hk4
  have HX4 := Lib.hid hx4
  have HR := Lib.hid (show V4.cell? ⟨FB, 2, none⟩ = some (.int .u64 (regs 0)) by obtain ⟨cs, g1, g2, g3, g4, g5, g6⟩ := he4.fr; exact (blk_cell g1 2).trans (g6 0 (by decide)))
  have hfr := field_regs
  clear f1 f2 hk4 hx4 he4 hwp
  go_upto_region 19 with fail
  go_region_held3 (fun w' => w'.cell? ⟨z, 3, none⟩ = some (.int .i64 0) ∧ w'.cell? ⟨FB, 2, none⟩ = some (.int .u64 (regs 0)) ∧ Keeps (fun x => x = p) V4 w')
    (first | (refine hold2p HX4.out hzp HR.out (Ne.symm hlt.2.1) ?_; first | with_reducible assumption | (repeat (first | with_reducible exact Keeps.refl _ _ | with_reducible refine Keeps.drew ?_))))
    (first | (go_at_call 44; go_must (refine KB.out.mono ?_; rintro e w7 ⟨rfl, he7, hk7⟩; have hkk : Keeps (fun x => x = p) V4 w7 := (Keeps.refl (fun x => x = p) V4).drew.trans hk7)))
  all_goals
    have KTa := Lib.hid (taken_calls w7 p _ _ he7 rfl)
    have HKK := Lib.hid hkk
    clear he7 hk7 hkk KB KI KT
    go_wp2_with (go_at_call 34; go_must (refine KTa.out.mono ?_; rintro e w8 ⟨rfl, hb8, hk8⟩; have HB8 := Lib.hid hb8; have HK8 := Lib.hid hk8; clear hb8 hk8))
    go_ret2
    exact ⟨rfl, HB8.out, ((HK4.out.mono (fun x _ h => .inl h)).step HKK.out (fun x _ h => .inr h)).step HK8.out (fun x _ h => .inr h)⟩
set_option maxRecDepth 100000 in
theorem ewant_none (w : World) : Calls Tryz.prog 24 #[.pointer none] w fun e w' => e = .returned (.tuple #[.int .i64 0, .bool false]) ∧ Below w.heap.size w w' := by
  go_enter Tryz.func24, Tryz.ntmps24
  go_wp2
  go_ret2
  exact ⟨rfl, Below.refl _ _⟩
set_option maxRecDepth 100000 in
theorem enext_none (w : World) (x : Value) : Calls Tryz.prog 19 #[.pointer none, x] w fun e w' => e = .returned (.tuple #[.slice none 0 0, .bool false]) ∧ Below w.heap.size w w' := by
  go_enter Tryz.func19, Tryz.ntmps19
  go_wp2
  go_ret2
  exact ⟨rfl, Below.refl _ _⟩
end Go.Proofs.YtdmmjckhpagibaaGreatDoor
