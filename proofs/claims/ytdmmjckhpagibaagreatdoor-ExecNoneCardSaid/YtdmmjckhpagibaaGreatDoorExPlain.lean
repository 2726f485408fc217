/- exec's engine: plain, of an int. -/
import Derived.Test.YtdmmjckhpagibaaGreatDoorExMach
namespace Go.Proofs.YtdmmjckhpagibaaGreatDoor
open Go.RowKit Go.Sort
set_option linter.unusedVariables false
set_option linter.unusedSimpArgs false
theorem arr_zero (w : World) (g o : Nat) : (Instr.sliceAt 100 (.pointer (some ⟨g, o, none⟩)) (some (.int .i64 0)) (some (.int .i64 0)) none).run Tryz.prog w = .ok (.slice (some ⟨g, o, none⟩) 0 16) w := by
  have hu := Tryz.underlying100
  simp [Instr.sliceAt, run_underlying hu, go_sem]
theorem copy_one (w : World) (F o g : Nat) (v u : Value) (h1 : v.oneCell' = true) (e : w.cell? ⟨g, 0, none⟩ = some v) (e2 : w.cell? ⟨F, o, none⟩ = some u) (fz : w.frozen? ⟨F, o, none⟩ = false) : (Builtin.copy_ #[31, 31] 3 #[.slice (some ⟨F, o, none⟩) 16 16, .slice (some ⟨g, 0, none⟩) 1 1]).run Tryz.prog w = .ok (.int .i64 1) (w.setCell ⟨F, o, none⟩ v) := by
  have hu := Tryz.underlying31
  have hst : ∀ m, (store ⟨F, o, none⟩ v m).run Tryz.prog w = .ok () (w.setCell ⟨F, o, none⟩ v) := fun m => by rw [run_store _ _ _ _ m h1, e2]; simp [fz]
  simp [Builtin.copy_, run_underlying hu, go_sem, storeCells, e, hst]
theorem keeps1 {F : Nat → Prop} {w : World} {g o : Nat} {v : Value} (hF : F g) : Keeps F w (w.setCell ⟨g, o, none⟩ v).drew := ((Keeps.refl F w).setCell (p := ⟨g, o, none⟩) (fun _ => hF) _).drew
theorem hold6k {V w' : World} {p FB : Nat} {t : TypeId} {x0 x1 x2 x3 x4 x5 : Value} (hp : V.heap[p]? = some (.cells #[x0, x1, x2, x3, x4, x5] t (0, 0))) (hne : p ≠ FB) (hk : Keeps (fun x => x = FB) V w') :
    w'.cell? ⟨p, 0, none⟩ = some x0 ∧ w'.cell? ⟨p, 1, none⟩ = some x1 ∧ w'.cell? ⟨p, 2, none⟩ = some x2 ∧ w'.cell? ⟨p, 3, none⟩ = some x3 ∧ w'.cell? ⟨p, 4, none⟩ = some x4 ∧ w'.cell? ⟨p, 5, none⟩ = some x5 ∧ Keeps (fun x => x = FB) V w' := by
  have h := blk_keeps hp hk hne
  exact ⟨blk_cell h 0, blk_cell h 1, blk_cell h 2, blk_cell h 3, blk_cell h 4, blk_cell h 5, hk⟩
theorem held6k {a b c d e f : Prop} {V w' : World} {F : Nat → Prop} (hh : a ∧ b ∧ c ∧ d ∧ e ∧ f ∧ Keeps F V w') : Keeps F V w' := hh.2.2.2.2.2.2
theorem hold6b {V w' : World} {p : Nat} {t : TypeId} {x0 x1 x2 x3 x4 x5 : Value} (hp : V.heap[p]? = some (.cells #[x0, x1, x2, x3, x4, x5] t (0, 0))) (hb : Below V.heap.size V w') :
    w'.cell? ⟨p, 0, none⟩ = some x0 ∧ w'.cell? ⟨p, 1, none⟩ = some x1 ∧ w'.cell? ⟨p, 2, none⟩ = some x2 ∧ w'.cell? ⟨p, 3, none⟩ = some x3 ∧ w'.cell? ⟨p, 4, none⟩ = some x4 ∧ w'.cell? ⟨p, 5, none⟩ = some x5 ∧ Below V.heap.size V w' := by
  have h := blk_below hp hb (blk_lt hp)
  exact ⟨blk_cell h 0, blk_cell h 1, blk_cell h 2, blk_cell h 3, blk_cell h 4, blk_cell h 5, hb⟩
theorem held6b {a b c d e f : Prop} {V w' : World} (hh : a ∧ b ∧ c ∧ d ∧ e ∧ f ∧ Below V.heap.size V w') : Below V.heap.size V w' := hh.2.2.2.2.2.2
theorem En1.keeps {w w' : World} {p FB hp tp : Nat} {B0 B1 B2 B3 B4 : Option Addr} {m0 m1 m2 m3 m4 d0 d1 d2 d3 d4 : Nat} {q : Int} {C cn cc fc pc : Nat} {regs : Nat → Int} {high : Nat} (h : En1 w p FB hp tp B0 B1 B2 B3 B4 m0 m1 m2 m3 m4 d0 d1 d2 d3 d4 q C cn cc fc pc regs high) (hp' : w'.heap[p]? = w.heap[p]?) (hf : w'.heap[FB]? = w.heap[FB]?) : En1 w' p FB hp tp B0 B1 B2 B3 B4 m0 m1 m2 m3 m4 d0 d1 d2 d3 d4 q C cn cc fc pc regs high := by
  obtain ⟨cs, h1, h2⟩ := h.fr
  exact ⟨hp'.trans h.box, cs, hf.trans h1, h2⟩
set_option maxRecDepth 100000 in
set_option maxHeartbeats 8000000 in
theorem eplain_0 {S : Nat → Prop} {w : World} {p FB hp tp : Nat} {m : Md} {B0 B1 B2 B3 B4 : Option Addr} {m0 m1 m2 m3 m4 d0 d1 d2 d3 d4 : Nat} {q : Int} {C cn cc fc pc : Nat} {regs : Nat → Int} {high : Nat} (h : En1 w p FB hp tp B0 B1 B2 B3 B4 m0 m1 m2 m3 m4 d0 d1 d2 d3 d4 q C cn cc fc pc regs high) (hM : MRow S w m B0 B1 B2 B3 B4 m0 m1 m2 m3 m4) (hSF : ∀ b, S b → b ≠ FB) (k : Nat) (v : Int) (hv : m.ints[k]? = some v) (b : Int) (ans : Value) :
    Calls Tryz.prog 45 #[.pointer (some ⟨p, 0, none⟩), .pointer (some ⟨FB, 0, none⟩), .agg #[.int .i64 0, .int .i64 (k : Int), .int .i64 b, .int .i64 0, .int .i64 0, .int .i64 1], ans] w fun e w' => e = .returned (.tuple #[]) ∧ En1 w' p FB hp tp B0 B1 B2 B3 B4 m0 m1 m2 m3 m4 d0 d1 d2 d3 d4 q C cn cc fc pc (fun j => if j = 0 then v else regs j) 1 ∧ Keeps (fun x => x = FB) w w' := by
  have hV := below_a1 w (Obj.cells #[.int .i64 0, .int .i64 (k : Int), .int .i64 b, .int .i64 0, .int .i64 0, .int .i64 1] 106)
  have HX := Lib.hid (blk_new w (Obj.cells #[.int .i64 0, .int .i64 (k : Int), .int .i64 b, .int .i64 0, .int .i64 0, .int .i64 1] 106))
  have HEn := Lib.hid (h.below hV)
  have HM := Lib.hid (hM.below hV)
  have HSF := Lib.hid hSF
  have HVv := Lib.hid hv
  have HV := Lib.hid hV
  have hFlt : FB < w.heap.size := by obtain ⟨cs, h1, _⟩ := h.fr; exact blk_lt h1
  have hne : w.heap.size ≠ FB := by omega
  have hz := arr_zero
  have hw0 : IntKind.i64.wrap 0 = 0 := rfl
  have hfr := field_regs
  have hsf := arr_from
  clear h hM hSF hv hV
  go_enter Tryz.func45, Tryz.ntmps45
  go_upto_region 1 with fail
  generalize (w.alloc (Obj.cells #[.int .i64 0, .int .i64 (k : Int), .int .i64 b, .int .i64 0, .int .i64 0, .int .i64 1] 106)) = V at *
  have KD := Lib.hid (fun W (hb : Below V.heap.size V W) inn => Do_0 (S := S) W p _ _ B3 m3 d3 m.ints (blk_below HEn.out.box hb (blk_lt HEn.out.box)) rfl HM.out.e3 (fun b hS => Nat.lt_of_lt_of_le (HM.out.lt b hS) hb.size) (HM.out.below hb).r3 k v HVv.out b inn ans)
  go_region_held3 (fun w' => w'.cell? ⟨w.heap.size, 0, none⟩ = some (.int .i64 0) ∧ w'.cell? ⟨w.heap.size, 1, none⟩ = some (.int .i64 (k : Int)) ∧ w'.cell? ⟨w.heap.size, 2, none⟩ = some (.int .i64 b) ∧ w'.cell? ⟨w.heap.size, 3, none⟩ = some (.int .i64 0) ∧ w'.cell? ⟨w.heap.size, 4, none⟩ = some (.int .i64 0) ∧ w'.cell? ⟨w.heap.size, 5, none⟩ = some (.int .i64 1) ∧ Below V.heap.size V w')
    (first | (refine hold6b HX.out ?_; first | with_reducible assumption | (repeat (first | with_reducible exact Below.refl _ _ | with_reducible refine Below.drew ?_))))
    (first | fail)
  go_upto_region 2 with fail
  have hV1 : Below V.heap.size V V.drew := (Below.refl _ _).drew
  have HX1 := Lib.hid (blk_drew HX.out)
  go_region_held3 (fun w' => w'.cell? ⟨w.heap.size, 0, none⟩ = some (.int .i64 0) ∧ w'.cell? ⟨w.heap.size, 1, none⟩ = some (.int .i64 (k : Int)) ∧ w'.cell? ⟨w.heap.size, 2, none⟩ = some (.int .i64 b) ∧ w'.cell? ⟨w.heap.size, 3, none⟩ = some (.int .i64 0) ∧ w'.cell? ⟨w.heap.size, 4, none⟩ = some (.int .i64 0) ∧ w'.cell? ⟨w.heap.size, 5, none⟩ = some (.int .i64 1) ∧ Below V.heap.size V w')
    (first | (refine hold6b HX.out ?_; first | with_reducible assumption | (repeat (first | with_reducible exact Below.refl _ _ | with_reducible refine Below.drew ?_))))
    (first | (go_at_call 58; go_must (refine (KD.out _ (held6b (by assumption)) _).mono ?_; rintro e w5 ⟨g, rfl, hg5, hge5, hb5⟩; have hbV5 : Below V.heap.size V w5 := Below.trans (held6b (by assumption)) (hb5.mono (held6b (by assumption)).size))))
  go_upto_region 3 with fail
  have hgF : g ≠ FB := by have := HV.out.size; have h2 := hbV5.size; simp at hge5; omega
  have hE5 := HEn.out.below hbV5
  obtain ⟨cs, hf5, hcs, c0, c1, c18, cr⟩ := hE5.fr
  have HX5 := Lib.hid (blk_below HX.out hbV5 (blk_lt HX.out))
  have y2 : w5.drew.cell? ⟨FB, 2, none⟩ = some (.int .u64 (regs 0)) := (blk_cell (blk_drew hf5) 2).trans (cr 0 (by decide))
  have y3 := blk_frozen (blk_drew hf5) 2
  have hcp := copy_one w5.drew FB 2 g (.int .u64 v) _ rfl (blk_cell (blk_drew hg5) 0) y2 y3
  go_region_held3 (fun w' => w'.cell? ⟨w.heap.size, 0, none⟩ = some (.int .i64 0) ∧ w'.cell? ⟨w.heap.size, 1, none⟩ = some (.int .i64 (k : Int)) ∧ w'.cell? ⟨w.heap.size, 2, none⟩ = some (.int .i64 b) ∧ w'.cell? ⟨w.heap.size, 3, none⟩ = some (.int .i64 0) ∧ w'.cell? ⟨w.heap.size, 4, none⟩ = some (.int .i64 0) ∧ w'.cell? ⟨w.heap.size, 5, none⟩ = some (.int .i64 1) ∧ Keeps (fun x => x = FB) w5 w')
    (first | (refine hold6k HX5.out hne ?_; first | with_reducible assumption | (repeat (first | with_reducible exact Keeps.refl _ _ | with_reducible exact keeps1 rfl | with_reducible refine Keeps.drew ?_))))
    (first | fail)
  have hw1 : IntKind.i64.wrap (0 + 1) = 1 := rfl
  have hk6 : Keeps (fun x => x = FB) w5 (w5.setCell ⟨FB, 2, none⟩ (.int .u64 v)).drew := keeps1 rfl
  have hf6 := blk_drew (blk_set hf5 2 (.int .u64 v))
  have hx6 := blk_keeps HX5.out hk6 hne
  have hp6 := blk_keeps hE5.box hk6 (blk_ne hE5.box hf5 (by decide))
  generalize (w5.setCell ⟨FB, 2, none⟩ (.int .u64 v)).drew = V6 at *
  clear y2 y3 hcp
  have z3 : V6.cell? ⟨w.heap.size, 3, none⟩ = some (.int .i64 0) := blk_cell hx6 3
  have z4 : V6.cell? ⟨FB, 18, none⟩ = some (.int .i64 high) := by rw [blk_cell hf6 18, Array.getElem?_setIfInBounds_ne (by decide)]; exact c18
  have z5 := blk_frozen hf6 18
  have HF6 := Lib.hid hf6
  have HP6 := Lib.hid hp6
  have HK6 := Lib.hid ((Keeps.of_below (F := fun x => x = FB) (HV.out.trans (hbV5.mono HV.out.size))).trans hk6)
  have HC0 := Lib.hid c0
  have HC1 := Lib.hid c1
  have HCr := Lib.hid cr
  have HCs := Lib.hid hcs
  clear hf6 hx6 hp6 hk6 hf5 c0 c1 c18 cr hcs hE5
  go_wp2
  (try simp only [Exit.inBlock, Exit.then])
  have hpF : p ≠ FB := blk_ne HP6.out HF6.out (by decide)
  refine bodyPost_end (v := .tuple #[]) (by simp [results, Tryz.results45, go_sem]) rfl ⟨rfl, ⟨blk_far HP6.out hpF _, _, blk_set HF6.out 18 _, ?_, ?_, ?_, ?_, fun j hj => ?_⟩, HK6.out.setCell (p := ⟨FB, 18, none⟩) (fun _ => rfl) _⟩
  · simpa using HCs.out
  · rw [Array.getElem?_setIfInBounds_ne (by decide), Array.getElem?_setIfInBounds_ne (by decide)]; exact HC0.out
  · rw [Array.getElem?_setIfInBounds_ne (by decide), Array.getElem?_setIfInBounds_ne (by decide)]; exact HC1.out
  · have := HCs.out
    rw [Array.getElem?_setIfInBounds_self_of_lt (by simp; omega)]; rfl
  · have h19 := HCs.out
    rw [Array.getElem?_setIfInBounds_ne (by omega)]
    by_cases e : j = 0
    · subst e
      rw [if_pos rfl]
      exact Array.getElem?_setIfInBounds_self_of_lt (by omega)
    · rw [if_neg e, Array.getElem?_setIfInBounds_ne (by omega)]
      exact HCr.out j hj
end Go.Proofs.YtdmmjckhpagibaaGreatDoor
