/- module.fits. Printed by gen_mcfits.py of this repo. -/
import Derived.Test.YtdmmjckhpagibaaGreatDoorMcFitF
namespace Go.Proofs.YtdmmjckhpagibaaGreatDoor
open Go.RowKit Go.Sort
set_option linter.unusedVariables false

theorem fits1_calls {S : Nat → Prop} (w : World) (A : Option Addr) (c : Nat) (x : List Ty) (r : Int) (g : Nat) (hc : w.cell? ⟨g, 0, none⟩ = some (.int .i64 r)) (hS : ∀ b, S b → b < w.heap.size) (row : k_ty.Row S w A x) : Calls Tryz.prog 136 #[.slice A x.length c, .pointer (some ⟨g, 0, none⟩)] w fun e w' => e = .returned (.bool (!goodL x r 6)) ∧ Below w.heap.size w w' := by
  have K := Lib.hid (goodL_calls w A x.length c x r 6 rfl (by decide) hS row)
  generalize goodL x r 6 = z at *
  generalize x.length = n at *
  clear row hS
  go_enter Tryz.func136, Tryz.ntmps136
  go_wp2_with (go_at_call 137; refine K.out.mono ?_; rintro e w1 ⟨rfl, hb1⟩)
  go_ret
  exact ⟨rfl, hb1⟩
theorem fits2_calls {S : Nat → Prop} (w : World) (A0 A3 A4 : Option Addr) (d0 d3 d4 : Nat) (x : Fn) (r : Int) (g : Nat) (hc : w.cell? ⟨g, 0, none⟩ = some (.int .i64 r)) (m0 : x.args.length ≤ 140737488351232) (hS : ∀ b, S b → b < w.heap.size) (r0 : k_ty.Row S w A0 x.args) (r3 : k_ty.Row S w A3 x.locals) (r4 : k_instr.Row S w A4 x.code) : Calls Tryz.prog 139 #[.agg #[.slice A0 x.args.length d0, .int .i64 x.ret.kind, .int .i64 x.ret.n, .slice A3 x.locals.length d3, .slice A4 x.code.length d4], .pointer (some ⟨g, 0, none⟩)] w fun e w' => e = .returned (.bool (!fitF x r)) ∧ Below w.heap.size w w' := by
  have hg := World.block_lt_of_cell? w _ hc
  have hb0 : ∀ o, Below w.heap.size w (w.alloc o) := fun o => (Below.refl w.heap.size w).alloc (Nat.le_refl _) o
  have K : Hid (∀ o, Calls Tryz.prog 140 #[.agg #[.slice A0 x.args.length d0, .int .i64 x.ret.kind, .int .i64 x.ret.n, .slice A3 x.locals.length d3, .slice A4 x.code.length d4], .int .i64 r] (w.alloc o) fun e w' => e = .returned (.bool (fitF x r)) ∧ Below (w.alloc o).heap.size (w.alloc o) w') := Lib.hid (fun o => fitF_calls (w.alloc o) A0 A3 A4 _ _ _ d0 d3 d4 _ _ x.args x.locals x.code r rfl rfl rfl m0 (fun b h => Nat.lt_of_lt_of_le (hS b h) (by simp)) (r0.keep (fun b h => (hb0 o).block b (hS b h))) (r3.keep (fun b h => (hb0 o).block b (hS b h))) (r4.keep (fun b h => (hb0 o).block b (hS b h))))
  have hc2 : ∀ o, (w.alloc o).cell? ⟨g, 0, none⟩ = some (.int .i64 r) := fun o => ((hb0 o).cell (p := ⟨g, 0, none⟩) hg).trans hc
  generalize fitF x r = z at *
  generalize x.args.length = n at *
  generalize x.locals.length = n at *
  generalize x.code.length = n at *
  clear r0 r3 r4 hS hb0 hc m0
  go_enter Tryz.func139, Tryz.ntmps139
  go_wp2_with (go_at_call 140; refine (K.out _).mono ?_; rintro e w1 ⟨rfl, hb1⟩)
  go_ret
  exact ⟨rfl, below_al1 hb1⟩
theorem fits3_calls {S : Nat → Prop} (w : World) (A0 : Option Addr) (d0 : Nat) (x : Imp) (r : Int) (g : Nat) (hc : w.cell? ⟨g, 0, none⟩ = some (.int .i64 r)) (hS : ∀ b, S b → b < w.heap.size) (r0 : k_ty.Row S w A0 x.args) : Calls Tryz.prog 141 #[.agg #[.slice A0 x.args.length d0, .int .i64 x.ret.kind, .int .i64 x.ret.n], .pointer (some ⟨g, 0, none⟩)] w fun e w' => e = .returned (.bool (!goodL x.args r 4 || !good x.ret r)) ∧ Below w.heap.size w w' := by
  have hg := World.block_lt_of_cell? w _ hc
  have hb0 : ∀ o, Below w.heap.size w (w.alloc o) := fun o => (Below.refl w.heap.size w).alloc (Nat.le_refl _) o
  have hx := fun o => blk_new w o
  have K : Hid (∀ o, Calls Tryz.prog 137 #[.slice A0 x.args.length d0, .int .i64 r, .int .i64 4] (w.alloc o) fun e w' => e = .returned (.bool (goodL x.args r 4)) ∧ Below (w.alloc o).heap.size (w.alloc o) w') := Lib.hid (fun o => goodL_calls (w.alloc o) A0 _ d0 x.args r 4 rfl (by decide) (fun b h => Nat.lt_of_lt_of_le (hS b h) (by simp)) (r0.keep (fun b h => (hb0 o).block b (hS b h))))
  have K2 := Lib.hid (fun W => good_calls W x.ret.kind x.ret.n r)
  have HC : Hid (∀ W, Below (w.alloc (Obj.cells #[.slice A0 x.args.length d0, .int .i64 x.ret.kind, .int .i64 x.ret.n] 68)).heap.size (w.alloc (Obj.cells #[.slice A0 x.args.length d0, .int .i64 x.ret.kind, .int .i64 x.ret.n] 68)) W → W.cell? ⟨w.heap.size, 1, none⟩ = some (Value.int .i64 x.ret.kind) ∧ W.cell? ⟨w.heap.size, 2, none⟩ = some (Value.int .i64 x.ret.n) ∧ W.cell? ⟨g, 0, none⟩ = some (.int .i64 r)) := Lib.hid (fun W hW => have h := blk_below (hx _) hW (by simp); ⟨blk_cell h 1, blk_cell h 2, (hW.cell (p := ⟨g, 0, none⟩) (Nat.lt_of_lt_of_le hg (by simp))).trans (((hb0 _).cell (p := ⟨g, 0, none⟩) hg).trans hc)⟩)
  have hc2 : ∀ o, (w.alloc o).cell? ⟨g, 0, none⟩ = some (.int .i64 r) := fun o => ((hb0 o).cell (p := ⟨g, 0, none⟩) hg).trans hc
  generalize goodL x.args r 4 = z at *
  generalize good x.ret r = y at *
  generalize x.args.length = n at *
  clear r0 hS hb0 hc hx
  cases z
  all_goals
    go_enter Tryz.func141, Tryz.ntmps141
    go_wp2_with (first
      | (go_at_call 137; refine (K.out _).mono ?_; rintro e w1 ⟨rfl, hb1⟩; obtain ⟨d1, d2, d3⟩ := HC.out _ hb1)
      | (go_at_call 142; refine (K2.out _).mono ?_; rintro e w2 ⟨rfl, hb2⟩))
    go_ret
    first
      | exact ⟨rfl, below_al1 (hb1.trans (hb2.mono hb1.size))⟩
      | exact ⟨rfl, below_al1 hb1⟩
theorem fits4_calls (w : World) (x : ByteArray) : Calls Tryz.prog 144 #[.string x] w fun e w' => e = .returned (.bool (decide (32 < (x.size : Int)))) ∧ Below w.heap.size w w' := by
  go_enter Tryz.func144, Tryz.ntmps144
  go_wp2
  go_ret
  exact ⟨rfl, Below.refl _ _⟩
theorem eg_fits1 : ∀ (args : Array Value) (w : World), (callFunc 136 args).run Tryz.prog w = .ok (.enter 136 args) w := eg_of Tryz.func136 (by kernel_rfl) rfl
theorem eg_fits2 : ∀ (args : Array Value) (w : World), (callFunc 139 args).run Tryz.prog w = .ok (.enter 139 args) w := eg_of Tryz.func139 (by kernel_rfl) rfl
theorem eg_fits3 : ∀ (args : Array Value) (w : World), (callFunc 141 args).run Tryz.prog w = .ok (.enter 141 args) w := eg_of Tryz.func141 (by kernel_rfl) rfl
theorem eg_fits4 : ∀ (args : Array Value) (w : World), (callFunc 144 args).run Tryz.prog w = .ok (.enter 144 args) w := eg_of Tryz.func144 (by kernel_rfl) rfl
/-- May a module be? -/
def fitsM (m : Md) : Bool := decide ((m.recs.length : Int) ≤ 8) && (!(m.recs.any fun x => !goodL x m.recs.length 6) && (decide (1 ≤ (m.funcs.length : Int)) && (decide ((m.funcs.length : Int) ≤ 8) && (!(m.funcs.any fun x => !fitF x m.recs.length) && (decide ((m.imports.length : Int) ≤ 8) && (!(m.imports.any fun x => (!goodL x.args m.recs.length 4 || !good x.ret m.recs.length)) && (decide ((m.ints.length : Int) ≤ 16) && (decide ((m.texts.length : Int) ≤ 16) && !(m.texts.any fun x => decide (32 < (x.size : Int)))))))))))
set_option maxRecDepth 100000 in
set_option maxHeartbeats 4000000 in
theorem fitsM_calls {S : Nat → Prop} (w : World) (A0 A1 A2 A3 A4 : Option Addr) (n0 n1 n2 n3 n4 c0 c1 c2 c3 c4 : Nat) (m : Md) (e0 : m.recs.length = n0) (e1 : m.funcs.length = n1) (e2 : m.imports.length = n2) (e3 : m.ints.length = n3) (e4 : m.texts.length = n4) (hS : ∀ b, S b → b < w.heap.size) (r0 : (Rd.slice k_ty).Row S w A0 m.recs) (r1 : k_func.Row S w A1 m.funcs) (r2 : k_imp.Row S w A2 m.imports) (r4 : Rd.str.Row S w A4 m.texts) :
    Calls Tryz.prog 97 #[.agg #[.slice A0 n0 c0, .slice A1 n1 c1, .slice A2 n2 c2, .slice A3 n3 c3, .slice A4 n4 c4]] w fun e w' => e = .returned (.bool (fitsM m)) ∧ Below w.heap.size w w' := by
  have hV : Below w.heap.size w ((w.alloc (Obj.cells #[.slice A0 n0 c0, .slice A1 n1 c1, .slice A2 n2 c2, .slice A3 n3 c3, .slice A4 n4 c4] 34)).alloc (Obj.cells #[.int .i64 (n0 : Int)] 3)) := below_al2 (Below.refl _ _)
  have hm : (((w.alloc (Obj.cells #[.slice A0 n0 c0, .slice A1 n1 c1, .slice A2 n2 c2, .slice A3 n3 c3, .slice A4 n4 c4] 34)).alloc (Obj.cells #[.int .i64 (n0 : Int)] 3))).heap[w.heap.size]? = some (Obj.cells #[.slice A0 n0 c0, .slice A1 n1 c1, .slice A2 n2 c2, .slice A3 n3 c3, .slice A4 n4 c4] 34 (0, 0)) := blk_alloc (blk_new w _) _
  have hx : (((w.alloc (Obj.cells #[.slice A0 n0 c0, .slice A1 n1 c1, .slice A2 n2 c2, .slice A3 n3 c3, .slice A4 n4 c4] 34)).alloc (Obj.cells #[.int .i64 (n0 : Int)] 3))).heap[w.heap.size + 1]? = some (Obj.cells #[.int .i64 (n0 : Int)] 3 (0, 0)) := blk_new2 w _ _
  have keep : ∀ W, Below (((w.alloc (Obj.cells #[.slice A0 n0 c0, .slice A1 n1 c1, .slice A2 n2 c2, .slice A3 n3 c3, .slice A4 n4 c4] 34)).alloc (Obj.cells #[.int .i64 (n0 : Int)] 3))).heap.size ((w.alloc (Obj.cells #[.slice A0 n0 c0, .slice A1 n1 c1, .slice A2 n2 c2, .slice A3 n3 c3, .slice A4 n4 c4] 34)).alloc (Obj.cells #[.int .i64 (n0 : Int)] 3)) W → ∀ b, S b → W.heap[b]? = w.heap[b]? := fun W hW b h => (hW.block b (Nat.lt_of_lt_of_le (hS b h) (by simp <;> omega))).trans (hV.block b (hS b h))
  have lt : ∀ W, Below (((w.alloc (Obj.cells #[.slice A0 n0 c0, .slice A1 n1 c1, .slice A2 n2 c2, .slice A3 n3 c3, .slice A4 n4 c4] 34)).alloc (Obj.cells #[.int .i64 (n0 : Int)] 3))).heap.size ((w.alloc (Obj.cells #[.slice A0 n0 c0, .slice A1 n1 c1, .slice A2 n2 c2, .slice A3 n3 c3, .slice A4 n4 c4] 34)).alloc (Obj.cells #[.int .i64 (n0 : Int)] 3)) W → ∀ b, S b → b < W.heap.size := fun W hW b h => Nat.lt_of_lt_of_le (hS b h) (Nat.le_trans (by simp <;> omega) hW.size)
  have HC : Hid (∀ W, Below (((w.alloc (Obj.cells #[.slice A0 n0 c0, .slice A1 n1 c1, .slice A2 n2 c2, .slice A3 n3 c3, .slice A4 n4 c4] 34)).alloc (Obj.cells #[.int .i64 (n0 : Int)] 3))).heap.size ((w.alloc (Obj.cells #[.slice A0 n0 c0, .slice A1 n1 c1, .slice A2 n2 c2, .slice A3 n3 c3, .slice A4 n4 c4] 34)).alloc (Obj.cells #[.int .i64 (n0 : Int)] 3)) W → W.cell? ⟨w.heap.size, 0, none⟩ = some (Value.slice A0 n0 c0) ∧ W.cell? ⟨w.heap.size, 1, none⟩ = some (Value.slice A1 n1 c1) ∧ W.cell? ⟨w.heap.size, 2, none⟩ = some (Value.slice A2 n2 c2) ∧ W.cell? ⟨w.heap.size, 3, none⟩ = some (Value.slice A3 n3 c3) ∧ W.cell? ⟨w.heap.size, 4, none⟩ = some (Value.slice A4 n4 c4) ∧ W.cell? ⟨w.heap.size + 1, 0, none⟩ = some (Value.int .i64 (n0 : Int))) :=
    Lib.hid (fun W hW => have h := blk_below hm hW (by simp <;> omega); have h' := blk_below hx hW (by simp); ⟨blk_cell h 0, blk_cell h 1, blk_cell h 2, blk_cell h 3, blk_cell h 4, blk_cell h' 0⟩)
  have cn : ∀ W W', Below (((w.alloc (Obj.cells #[.slice A0 n0 c0, .slice A1 n1 c1, .slice A2 n2 c2, .slice A3 n3 c3, .slice A4 n4 c4] 34)).alloc (Obj.cells #[.int .i64 (n0 : Int)] 3))).heap.size ((w.alloc (Obj.cells #[.slice A0 n0 c0, .slice A1 n1 c1, .slice A2 n2 c2, .slice A3 n3 c3, .slice A4 n4 c4] 34)).alloc (Obj.cells #[.int .i64 (n0 : Int)] 3)) W → Below W.heap.size W W' → W'.cell? ⟨w.heap.size + 1, 0, none⟩ = some (Value.int .i64 (n0 : Int)) := fun W W' hW hW' => (HC.out W' (hW.trans (hW'.mono hW.size))).2.2.2.2.2
  have K1 : Hid (n0 ≤ 8 → ∀ W, Below (((w.alloc (Obj.cells #[.slice A0 n0 c0, .slice A1 n1 c1, .slice A2 n2 c2, .slice A3 n3 c3, .slice A4 n4 c4] 34)).alloc (Obj.cells #[.int .i64 (n0 : Int)] 3))).heap.size ((w.alloc (Obj.cells #[.slice A0 n0 c0, .slice A1 n1 c1, .slice A2 n2 c2, .slice A3 n3 c3, .slice A4 n4 c4] 34)).alloc (Obj.cells #[.int .i64 (n0 : Int)] 3)) W → _) := Lib.hid (fun h W hW => contains_Sl W A0 n0 c0 m.recs e0 (by omega) (lt W hW) (r0.keep (keep W hW)) 136 eg_fits1 #[.pointer (some ⟨w.heap.size + 1, 0, none⟩)] (fun x => !goodL x n0 6)
    (fun W' x A c _ _ _ rx hb => fits1_calls W' A c x n0 _ (cn W W' hW hb) (lt W' (hW.trans (hb.mono hW.size))) rx))
  have K2 : Hid (n1 ≤ 8 → ∀ W, Below (((w.alloc (Obj.cells #[.slice A0 n0 c0, .slice A1 n1 c1, .slice A2 n2 c2, .slice A3 n3 c3, .slice A4 n4 c4] 34)).alloc (Obj.cells #[.int .i64 (n0 : Int)] 3))).heap.size ((w.alloc (Obj.cells #[.slice A0 n0 c0, .slice A1 n1 c1, .slice A2 n2 c2, .slice A3 n3 c3, .slice A4 n4 c4] 34)).alloc (Obj.cells #[.int .i64 (n0 : Int)] 3)) W → _) := Lib.hid (fun h W hW => contains_Fn W A1 n1 c1 m.funcs e1 (by omega) (lt W hW) (r1.keep (keep W hW)) 139 eg_fits2 #[.pointer (some ⟨w.heap.size + 1, 0, none⟩)] (fun x => !fitF x n0)
    (fun W' x B0 d0 B3 d3 B4 d4 _ _ m0 s0 _ _ _ _ s3 _ _ s4 hb => fits2_calls W' B0 B3 B4 d0 d3 d4 x n0 _ (cn W W' hW hb) m0 (lt W' (hW.trans (hb.mono hW.size))) s0 s3 s4))
  have K3 : Hid (n2 ≤ 8 → ∀ W, Below (((w.alloc (Obj.cells #[.slice A0 n0 c0, .slice A1 n1 c1, .slice A2 n2 c2, .slice A3 n3 c3, .slice A4 n4 c4] 34)).alloc (Obj.cells #[.int .i64 (n0 : Int)] 3))).heap.size ((w.alloc (Obj.cells #[.slice A0 n0 c0, .slice A1 n1 c1, .slice A2 n2 c2, .slice A3 n3 c3, .slice A4 n4 c4] 34)).alloc (Obj.cells #[.int .i64 (n0 : Int)] 3)) W → _) := Lib.hid (fun h W hW => contains_Imp W A2 n2 c2 m.imports e2 (by omega) (lt W hW) (r2.keep (keep W hW)) 141 eg_fits3 #[.pointer (some ⟨w.heap.size + 1, 0, none⟩)] (fun x => (!goodL x.args n0 4 || !good x.ret n0))
    (fun W' x B0 d0 _ _ _ s0 _ _ hb => fits3_calls W' B0 d0 x n0 _ (cn W W' hW hb) (lt W' (hW.trans (hb.mono hW.size))) s0))
  have K4 : Hid (n4 ≤ 16 → ∀ W, Below (((w.alloc (Obj.cells #[.slice A0 n0 c0, .slice A1 n1 c1, .slice A2 n2 c2, .slice A3 n3 c3, .slice A4 n4 c4] 34)).alloc (Obj.cells #[.int .i64 (n0 : Int)] 3))).heap.size ((w.alloc (Obj.cells #[.slice A0 n0 c0, .slice A1 n1 c1, .slice A2 n2 c2, .slice A3 n3 c3, .slice A4 n4 c4] 34)).alloc (Obj.cells #[.int .i64 (n0 : Int)] 3)) W → _) := Lib.hid (fun h W hW => contains_Str W A4 n4 c4 m.texts e4 (by omega) (lt W hW) (r4.keep (keep W hW)) 144 eg_fits4 #[] (fun x => decide (32 < (x.size : Int)))
    (fun W' x _ _ _ => fits4_calls W' x))
  have HZ : Hid (fitsM m = _) := Lib.hid (show fitsM m = (decide ((n0 : Int) ≤ 8) && (!(m.recs.any fun x => !goodL x n0 6) && (decide (1 ≤ (n1 : Int)) && (decide ((n1 : Int) ≤ 8) && (!(m.funcs.any fun x => !fitF x n0) && (decide ((n2 : Int) ≤ 8) && (!(m.imports.any fun x => (!goodL x.args n0 4 || !good x.ret n0)) && (decide ((n3 : Int) ≤ 16) && (decide ((n4 : Int) ≤ 16) && !(m.texts.any fun x => decide (32 < (x.size : Int)))))))))))) by rw [← e0, ← e1, ← e2, ← e3, ← e4]; rfl)
  clear hm hx keep lt cn r0 r1 r2 r4 hS e0 e1 e2 e3 e4 hV
  generalize (m.recs.any fun x => !goodL x n0 6) = a1 at *
  generalize (m.funcs.any fun x => !fitF x n0) = a2 at *
  generalize (m.imports.any fun x => (!goodL x.args n0 4 || !good x.ret n0)) = a3 at *
  generalize (m.texts.any fun x => decide (32 < (x.size : Int))) = a4 at *
  by_cases h1 : (n0 : Int) ≤ 8
  rotate_left
  · have q : decide ((n0 : Int) ≤ 8) = false := decide_eq_false h1
    rw [q] at HZ
    go_enter Tryz.func97, Tryz.ntmps97
    go_wp2
    go_ret
    exact ⟨ret_bool (by rw [HZ.out]; first | rfl | simp), below_al2 (Below.refl _ _)⟩
  have q1 : decide ((n0 : Int) ≤ 8) = true := decide_eq_true h1
  rw [q1] at HZ
  replace K1 := Lib.hid (K1.out (by omega))
  cases a1
  rotate_left
  · focus
      go_enter Tryz.func97, Tryz.ntmps97
      go_wp2_with (first
        | (go_at_call 135; refine (K1.out _ (Below.refl _ _)).mono ?_; clear K1; rintro e w1 ⟨rfl, hc⟩; have hb1 := hc; clear hc; obtain ⟨d0, d1, d2, d3, d4, d5⟩ := HC.out _ hb1))
      go_ret
      exact ⟨ret_bool (by rw [HZ.out]; first | rfl | simp), below_al2 hb1⟩
  by_cases h2 : 1 ≤ (n1 : Int)
  rotate_left
  · have q : decide (1 ≤ (n1 : Int)) = false := decide_eq_false h2
    rw [q] at HZ
    go_enter Tryz.func97, Tryz.ntmps97
    go_wp2_with (first
      | (go_at_call 135; refine (K1.out _ (Below.refl _ _)).mono ?_; clear K1; rintro e w1 ⟨rfl, hc⟩; have hb1 := hc; clear hc; obtain ⟨d0, d1, d2, d3, d4, d5⟩ := HC.out _ hb1))
    go_ret
    exact ⟨ret_bool (by rw [HZ.out]; first | rfl | simp), below_al2 hb1⟩
  have q2 : decide (1 ≤ (n1 : Int)) = true := decide_eq_true h2
  rw [q2] at HZ
  by_cases h3 : (n1 : Int) ≤ 8
  rotate_left
  · have q : decide ((n1 : Int) ≤ 8) = false := decide_eq_false h3
    rw [q] at HZ
    go_enter Tryz.func97, Tryz.ntmps97
    go_wp2_with (first
      | (go_at_call 135; refine (K1.out _ (Below.refl _ _)).mono ?_; clear K1; rintro e w1 ⟨rfl, hc⟩; have hb1 := hc; clear hc; obtain ⟨d0, d1, d2, d3, d4, d5⟩ := HC.out _ hb1))
    go_ret
    exact ⟨ret_bool (by rw [HZ.out]; first | rfl | simp), below_al2 hb1⟩
  have q3 : decide ((n1 : Int) ≤ 8) = true := decide_eq_true h3
  rw [q3] at HZ
  replace K2 := Lib.hid (K2.out (by omega))
  cases a2
  rotate_left
  · focus
      go_enter Tryz.func97, Tryz.ntmps97
      go_wp2_with (first
        | (go_at_call 135; refine (K1.out _ (Below.refl _ _)).mono ?_; clear K1; rintro e w1 ⟨rfl, hc⟩; have hb1 := hc; clear hc; obtain ⟨d0, d1, d2, d3, d4, d5⟩ := HC.out _ hb1)
        | (go_at_call 138; refine (K2.out _ hb1).mono ?_; clear K2; rintro e w2 ⟨rfl, hc⟩; have hb2 := hb1.trans (hc.mono hb1.size); clear hc; obtain ⟨d0, d1, d2, d3, d4, d5⟩ := HC.out _ hb2))
      go_ret
      exact ⟨ret_bool (by rw [HZ.out]; first | rfl | simp), below_al2 hb2⟩
  by_cases h4 : (n2 : Int) ≤ 8
  rotate_left
  · have q : decide ((n2 : Int) ≤ 8) = false := decide_eq_false h4
    rw [q] at HZ
    go_enter Tryz.func97, Tryz.ntmps97
    go_wp2_with (first
      | (go_at_call 135; refine (K1.out _ (Below.refl _ _)).mono ?_; clear K1; rintro e w1 ⟨rfl, hc⟩; have hb1 := hc; clear hc; obtain ⟨d0, d1, d2, d3, d4, d5⟩ := HC.out _ hb1)
      | (go_at_call 138; refine (K2.out _ hb1).mono ?_; clear K2; rintro e w2 ⟨rfl, hc⟩; have hb2 := hb1.trans (hc.mono hb1.size); clear hc; obtain ⟨d0, d1, d2, d3, d4, d5⟩ := HC.out _ hb2))
    go_ret
    exact ⟨ret_bool (by rw [HZ.out]; first | rfl | simp), below_al2 hb2⟩
  have q4 : decide ((n2 : Int) ≤ 8) = true := decide_eq_true h4
  rw [q4] at HZ
  replace K3 := Lib.hid (K3.out (by omega))
  cases a3
  rotate_left
  · focus
      go_enter Tryz.func97, Tryz.ntmps97
      go_wp2_with (first
        | (go_at_call 135; refine (K1.out _ (Below.refl _ _)).mono ?_; clear K1; rintro e w1 ⟨rfl, hc⟩; have hb1 := hc; clear hc; obtain ⟨d0, d1, d2, d3, d4, d5⟩ := HC.out _ hb1)
        | (go_at_call 138; refine (K2.out _ hb1).mono ?_; clear K2; rintro e w2 ⟨rfl, hc⟩; have hb2 := hb1.trans (hc.mono hb1.size); clear hc; obtain ⟨d0, d1, d2, d3, d4, d5⟩ := HC.out _ hb2)
        | (go_at_call 75; refine (K3.out _ hb2).mono ?_; clear K3; rintro e w3 ⟨rfl, hc⟩; have hb3 := hb2.trans (hc.mono hb2.size); clear hc; obtain ⟨d0, d1, d2, d3, d4, d5⟩ := HC.out _ hb3))
      go_ret
      exact ⟨ret_bool (by rw [HZ.out]; first | rfl | simp), below_al2 hb3⟩
  by_cases h5 : (n3 : Int) ≤ 16
  rotate_left
  · have q : decide ((n3 : Int) ≤ 16) = false := decide_eq_false h5
    rw [q] at HZ
    go_enter Tryz.func97, Tryz.ntmps97
    go_wp2_with (first
      | (go_at_call 135; refine (K1.out _ (Below.refl _ _)).mono ?_; clear K1; rintro e w1 ⟨rfl, hc⟩; have hb1 := hc; clear hc; obtain ⟨d0, d1, d2, d3, d4, d5⟩ := HC.out _ hb1)
      | (go_at_call 138; refine (K2.out _ hb1).mono ?_; clear K2; rintro e w2 ⟨rfl, hc⟩; have hb2 := hb1.trans (hc.mono hb1.size); clear hc; obtain ⟨d0, d1, d2, d3, d4, d5⟩ := HC.out _ hb2)
      | (go_at_call 75; refine (K3.out _ hb2).mono ?_; clear K3; rintro e w3 ⟨rfl, hc⟩; have hb3 := hb2.trans (hc.mono hb2.size); clear hc; obtain ⟨d0, d1, d2, d3, d4, d5⟩ := HC.out _ hb3))
    go_ret
    exact ⟨ret_bool (by rw [HZ.out]; first | rfl | simp), below_al2 hb3⟩
  have q5 : decide ((n3 : Int) ≤ 16) = true := decide_eq_true h5
  rw [q5] at HZ
  by_cases h6 : (n4 : Int) ≤ 16
  rotate_left
  · have q : decide ((n4 : Int) ≤ 16) = false := decide_eq_false h6
    rw [q] at HZ
    go_enter Tryz.func97, Tryz.ntmps97
    go_wp2_with (first
      | (go_at_call 135; refine (K1.out _ (Below.refl _ _)).mono ?_; clear K1; rintro e w1 ⟨rfl, hc⟩; have hb1 := hc; clear hc; obtain ⟨d0, d1, d2, d3, d4, d5⟩ := HC.out _ hb1)
      | (go_at_call 138; refine (K2.out _ hb1).mono ?_; clear K2; rintro e w2 ⟨rfl, hc⟩; have hb2 := hb1.trans (hc.mono hb1.size); clear hc; obtain ⟨d0, d1, d2, d3, d4, d5⟩ := HC.out _ hb2)
      | (go_at_call 75; refine (K3.out _ hb2).mono ?_; clear K3; rintro e w3 ⟨rfl, hc⟩; have hb3 := hb2.trans (hc.mono hb2.size); clear hc; obtain ⟨d0, d1, d2, d3, d4, d5⟩ := HC.out _ hb3))
    go_ret
    exact ⟨ret_bool (by rw [HZ.out]; first | rfl | simp), below_al2 hb3⟩
  have q6 : decide ((n4 : Int) ≤ 16) = true := decide_eq_true h6
  rw [q6] at HZ
  replace K4 := Lib.hid (K4.out (by omega))
  go_enter Tryz.func97, Tryz.ntmps97
  go_wp2_with (first
    | (go_at_call 135; refine (K1.out _ (Below.refl _ _)).mono ?_; clear K1; rintro e w1 ⟨rfl, hc⟩; have hb1 := hc; clear hc; obtain ⟨d0, d1, d2, d3, d4, d5⟩ := HC.out _ hb1)
    | (go_at_call 138; refine (K2.out _ hb1).mono ?_; clear K2; rintro e w2 ⟨rfl, hc⟩; have hb2 := hb1.trans (hc.mono hb1.size); clear hc; obtain ⟨d0, d1, d2, d3, d4, d5⟩ := HC.out _ hb2)
    | (go_at_call 75; refine (K3.out _ hb2).mono ?_; clear K3; rintro e w3 ⟨rfl, hc⟩; have hb3 := hb2.trans (hc.mono hb2.size); clear hc; obtain ⟨d0, d1, d2, d3, d4, d5⟩ := HC.out _ hb3)
    | (go_at_call 143; refine (K4.out _ hb3).mono ?_; clear K4; rintro e w4 ⟨rfl, hc⟩; have hb4 := hb3.trans (hc.mono hb3.size); clear hc; obtain ⟨d0, d1, d2, d3, d4, d5⟩ := HC.out _ hb4))
  go_ret
  exact ⟨ret_bool (by rw [HZ.out]; first | rfl | simp), below_al2 hb4⟩
end Go.Proofs.YtdmmjckhpagibaaGreatDoor
