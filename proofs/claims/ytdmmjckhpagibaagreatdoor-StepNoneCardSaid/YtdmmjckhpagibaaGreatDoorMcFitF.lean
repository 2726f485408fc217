/- module.fitFunc. Printed by gen_mcfits.py of this repo. -/
import Derived.Test.YtdmmjckhpagibaaGreatDoorMcFits
namespace Go.Proofs.YtdmmjckhpagibaaGreatDoor
open Go.RowKit Go.Sort
set_option linter.unusedVariables false
/-- May a function be? -/
def fitF (f : Fn) (r : Int) : Bool := goodL f.args r 4 && (good f.ret r && (goodL f.locals r (8 - f.args.length) && (decide (1 ≤ (f.code.length : Int)) && (decide ((f.code.length : Int) ≤ 64) && !(f.code.any fun i => !goodI i)))))
theorem eg_fit1 : ∀ (args : Array Value) (w : World), (callFunc 170 args).run Tryz.prog w = .ok (.enter 170 args) w := eg_of Tryz.func170 (by kernel_rfl) rfl
set_option maxRecDepth 100000 in
set_option maxHeartbeats 4000000 in
theorem fitF_calls {S : Nat → Prop} (w : World) (A0 A3 A4 : Option Addr) (na nl nc d0 d3 d4 : Nat) (rk rn : Int) (args locals : List Ty) (code : List Ins) (r : Int) (ea : args.length = na) (el : locals.length = nl) (ec : code.length = nc) (m0 : na ≤ 140737488351232) (hS : ∀ b, S b → b < w.heap.size) (r0 : k_ty.Row S w A0 args) (r3 : k_ty.Row S w A3 locals) (r4 : k_instr.Row S w A4 code) :
    Calls Tryz.prog 140 #[.agg #[.slice A0 na d0, .int .i64 rk, .int .i64 rn, .slice A3 nl d3, .slice A4 nc d4], .int .i64 r] w fun e w' => e = .returned (.bool (fitF ⟨args, ⟨rk, rn⟩, locals, code⟩ r)) ∧ Below w.heap.size w w' := by
  have hb0 := (Below.refl w.heap.size w).alloc (Nat.le_refl _) (Obj.cells #[.slice A0 na d0, .int .i64 rk, .int .i64 rn, .slice A3 nl d3, .slice A4 nc d4] 54)
  have hx := blk_new w (Obj.cells #[.slice A0 na d0, .int .i64 rk, .int .i64 rn, .slice A3 nl d3, .slice A4 nc d4] 54)
  have hw : IntKind.i64.wrap (8 - (na : Int)) = 8 - na := by rw [IntKind.wrap_i64]; omega
  have keep : ∀ W, Below (w.alloc (Obj.cells #[.slice A0 na d0, .int .i64 rk, .int .i64 rn, .slice A3 nl d3, .slice A4 nc d4] 54)).heap.size (w.alloc (Obj.cells #[.slice A0 na d0, .int .i64 rk, .int .i64 rn, .slice A3 nl d3, .slice A4 nc d4] 54)) W → ∀ b, S b → W.heap[b]? = w.heap[b]? := fun W hW b h => (hW.block b (Nat.lt_of_lt_of_le (hS b h) (by simp))).trans (hb0.block b (hS b h))
  have lt : ∀ W, Below (w.alloc (Obj.cells #[.slice A0 na d0, .int .i64 rk, .int .i64 rn, .slice A3 nl d3, .slice A4 nc d4] 54)).heap.size (w.alloc (Obj.cells #[.slice A0 na d0, .int .i64 rk, .int .i64 rn, .slice A3 nl d3, .slice A4 nc d4] 54)) W → ∀ b, S b → b < W.heap.size := fun W hW b h => Nat.lt_of_lt_of_le (hS b h) (Nat.le_trans (by simp) hW.size)
  have K1 := Lib.hid (fun W hW => goodL_calls W A0 na d0 args r 4 ea (by decide) (lt W hW) (r0.keep (keep W hW)))
  have K2 := Lib.hid (fun W (hW : Below (w.alloc (Obj.cells #[.slice A0 na d0, .int .i64 rk, .int .i64 rn, .slice A3 nl d3, .slice A4 nc d4] 54)).heap.size (w.alloc (Obj.cells #[.slice A0 na d0, .int .i64 rk, .int .i64 rn, .slice A3 nl d3, .slice A4 nc d4] 54)) W) => good_calls W rk rn r)
  have K3 := Lib.hid (fun W hW => goodL_calls W A3 nl d3 locals r (8 - na) el (by omega) (lt W hW) (r3.keep (keep W hW)))
  have K6 : Hid (nc ≤ 64 → ∀ W, Below (w.alloc (Obj.cells #[.slice A0 na d0, .int .i64 rk, .int .i64 rn, .slice A3 nl d3, .slice A4 nc d4] 54)).heap.size (w.alloc (Obj.cells #[.slice A0 na d0, .int .i64 rk, .int .i64 rn, .slice A3 nl d3, .slice A4 nc d4] 54)) W → _) := Lib.hid (fun h W hW => contains_Ins W A4 nc d4 code ec (by omega) (lt W hW) (r4.keep (keep W hW)) 170 eg_fit1 #[] (fun i => !goodI i) (fun W x _ _ _ _ _ => fit1_calls W x))
  have HZ : Hid (fitF ⟨args, ⟨rk, rn⟩, locals, code⟩ r = _) := Lib.hid (show fitF ⟨args, ⟨rk, rn⟩, locals, code⟩ r = (goodL args r 4 && (good ⟨rk, rn⟩ r && (goodL locals r (8 - na) && (decide (1 ≤ (nc : Int)) && (decide ((nc : Int) ≤ 64) && !(code.any fun i => !goodI i)))))) by rw [← ea, ← ec]; rfl)
  have HC : Hid (∀ W, Below (w.alloc (Obj.cells #[.slice A0 na d0, .int .i64 rk, .int .i64 rn, .slice A3 nl d3, .slice A4 nc d4] 54)).heap.size (w.alloc (Obj.cells #[.slice A0 na d0, .int .i64 rk, .int .i64 rn, .slice A3 nl d3, .slice A4 nc d4] 54)) W → W.cell? ⟨w.heap.size, 0, none⟩ = some (Value.slice A0 na d0) ∧ W.cell? ⟨w.heap.size, 1, none⟩ = some (Value.int .i64 rk) ∧ W.cell? ⟨w.heap.size, 2, none⟩ = some (Value.int .i64 rn) ∧ W.cell? ⟨w.heap.size, 3, none⟩ = some (Value.slice A3 nl d3) ∧ W.cell? ⟨w.heap.size, 4, none⟩ = some (Value.slice A4 nc d4)) := Lib.hid (fun W hW => have h := blk_below hx hW (by simp); ⟨blk_cell h 0, blk_cell h 1, blk_cell h 2, blk_cell h 3, blk_cell h 4⟩)
  clear hx hb0 keep lt r0 r3 r4 hS ea el ec
  generalize goodL args r 4 = b1 at *
  generalize good ⟨rk, rn⟩ r = b2 at *
  generalize goodL locals r (8 - na) = b3 at *
  generalize (code.any fun i => !goodI i) = b6 at *
  cases b1
  · focus
      go_enter Tryz.func140, Tryz.ntmps140
      go_wp2_with (first
        | (go_at_call 137; refine (K1.out _ (Below.refl _ _)).mono ?_; clear K1; rintro e w1 ⟨rfl, hc⟩; have hb1 := hc; clear hc; obtain ⟨d0, d1, d2, d3, d4⟩ := HC.out _ hb1))
      go_ret
      exact ⟨ret_bool (by rw [HZ.out]; first | rfl | simp), below_al1 hb1⟩
  cases b2
  · focus
      go_enter Tryz.func140, Tryz.ntmps140
      go_wp2_with (first
        | (go_at_call 137; refine (K1.out _ (Below.refl _ _)).mono ?_; clear K1; rintro e w1 ⟨rfl, hc⟩; have hb1 := hc; clear hc; obtain ⟨d0, d1, d2, d3, d4⟩ := HC.out _ hb1)
        | (go_at_call 142; refine (K2.out _ hb1).mono ?_; clear K2; rintro e w2 ⟨rfl, hc⟩; have hb2 := hb1.trans (hc.mono hb1.size); clear hc; obtain ⟨d0, d1, d2, d3, d4⟩ := HC.out _ hb2))
      go_ret
      exact ⟨ret_bool (by rw [HZ.out]; first | rfl | simp), below_al1 hb2⟩
  cases b3
  · focus
      go_enter Tryz.func140, Tryz.ntmps140
      go_wp2_with (first
        | (go_at_call 137; refine (K1.out _ (Below.refl _ _)).mono ?_; clear K1; rintro e w1 ⟨rfl, hc⟩; have hb1 := hc; clear hc; obtain ⟨d0, d1, d2, d3, d4⟩ := HC.out _ hb1)
        | (go_at_call 142; refine (K2.out _ hb1).mono ?_; clear K2; rintro e w2 ⟨rfl, hc⟩; have hb2 := hb1.trans (hc.mono hb1.size); clear hc; obtain ⟨d0, d1, d2, d3, d4⟩ := HC.out _ hb2)
        | (go_at_call 137; refine (K3.out _ hb2).mono ?_; clear K3; rintro e w3 ⟨rfl, hc⟩; have hb3 := hb2.trans (hc.mono hb2.size); clear hc; obtain ⟨d0, d1, d2, d3, d4⟩ := HC.out _ hb3))
      go_ret
      exact ⟨ret_bool (by rw [HZ.out]; first | rfl | simp), below_al1 hb3⟩
  by_cases h4 : 1 ≤ (nc : Int)
  rotate_left
  · have q : decide (1 ≤ (nc : Int)) = false := decide_eq_false h4
    rw [q] at HZ
    go_enter Tryz.func140, Tryz.ntmps140
    go_wp2_with (first
      | (go_at_call 137; refine (K1.out _ (Below.refl _ _)).mono ?_; clear K1; rintro e w1 ⟨rfl, hc⟩; have hb1 := hc; clear hc; obtain ⟨d0, d1, d2, d3, d4⟩ := HC.out _ hb1)
      | (go_at_call 142; refine (K2.out _ hb1).mono ?_; clear K2; rintro e w2 ⟨rfl, hc⟩; have hb2 := hb1.trans (hc.mono hb1.size); clear hc; obtain ⟨d0, d1, d2, d3, d4⟩ := HC.out _ hb2)
      | (go_at_call 137; refine (K3.out _ hb2).mono ?_; clear K3; rintro e w3 ⟨rfl, hc⟩; have hb3 := hb2.trans (hc.mono hb2.size); clear hc; obtain ⟨d0, d1, d2, d3, d4⟩ := HC.out _ hb3))
    go_ret
    exact ⟨ret_bool (by rw [HZ.out]; first | rfl | simp), below_al1 hb3⟩
  have q4' : decide (1 ≤ (nc : Int)) = true := decide_eq_true h4
  rw [q4'] at HZ
  by_cases h5 : (nc : Int) ≤ 64
  rotate_left
  · have q : decide ((nc : Int) ≤ 64) = false := decide_eq_false h5
    rw [q] at HZ
    go_enter Tryz.func140, Tryz.ntmps140
    go_wp2_with (first
      | (go_at_call 137; refine (K1.out _ (Below.refl _ _)).mono ?_; clear K1; rintro e w1 ⟨rfl, hc⟩; have hb1 := hc; clear hc; obtain ⟨d0, d1, d2, d3, d4⟩ := HC.out _ hb1)
      | (go_at_call 142; refine (K2.out _ hb1).mono ?_; clear K2; rintro e w2 ⟨rfl, hc⟩; have hb2 := hb1.trans (hc.mono hb1.size); clear hc; obtain ⟨d0, d1, d2, d3, d4⟩ := HC.out _ hb2)
      | (go_at_call 137; refine (K3.out _ hb2).mono ?_; clear K3; rintro e w3 ⟨rfl, hc⟩; have hb3 := hb2.trans (hc.mono hb2.size); clear hc; obtain ⟨d0, d1, d2, d3, d4⟩ := HC.out _ hb3))
    go_ret
    exact ⟨ret_bool (by rw [HZ.out]; first | rfl | simp), below_al1 hb3⟩
  have q5 : decide ((nc : Int) ≤ 64) = true := decide_eq_true h5
  rw [q5] at HZ
  have K7 := Lib.hid (K6.out (by omega))
  clear K6
  go_enter Tryz.func140, Tryz.ntmps140
  go_wp2_with (first
    | (go_at_call 137; refine (K1.out _ (Below.refl _ _)).mono ?_; clear K1; rintro e w1 ⟨rfl, hc⟩; have hb1 := hc; clear hc; obtain ⟨d0, d1, d2, d3, d4⟩ := HC.out _ hb1)
    | (go_at_call 142; refine (K2.out _ hb1).mono ?_; clear K2; rintro e w2 ⟨rfl, hc⟩; have hb2 := hb1.trans (hc.mono hb1.size); clear hc; obtain ⟨d0, d1, d2, d3, d4⟩ := HC.out _ hb2)
    | (go_at_call 137; refine (K3.out _ hb2).mono ?_; clear K3; rintro e w3 ⟨rfl, hc⟩; have hb3 := hb2.trans (hc.mono hb2.size); clear hc; obtain ⟨d0, d1, d2, d3, d4⟩ := HC.out _ hb3)
    | (go_at_call 69; refine (K7.out _ hb3).mono ?_; clear K7; rintro e w4 ⟨rfl, hc⟩; have hb4 := hb3.trans (hc.mono hb3.size); clear hc; obtain ⟨d0, d1, d2, d3, d4⟩ := HC.out _ hb4))
  go_ret
  exact ⟨ret_bool (by rw [HZ.out]; first | rfl | simp), below_al1 hb4⟩
end Go.Proofs.YtdmmjckhpagibaaGreatDoor
