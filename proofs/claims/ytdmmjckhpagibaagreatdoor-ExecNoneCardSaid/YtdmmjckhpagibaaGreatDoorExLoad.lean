/- exec.Load of a state at a module's beginning. -/
import Derived.Test.YtdmmjckhpagibaaGreatDoorExIr
import Derived.Test.YtdmmjckhpagibaaGreatDoorZG
import Derived.Deep.WholeRow
namespace Go.Proofs.YtdmmjckhpagibaaGreatDoor
open Go.RowKit Go.Sort
set_option linter.unusedVariables false
set_option linter.unusedSimpArgs false
theorem arr_info : (Tryz.prog.info? 100).map (fun i => i.size) = some 16 := by kernel_rfl
theorem size_arr (w : World) : (sizeOf 100).run Tryz.prog w = .ok 16 w := by
  have h := arr_info
  cases hh : Tryz.prog.info? 100 with
  | none => rw [hh] at h; cases h
  | some i =>
    rw [hh] at h
    have h2 : i.size = 16 := by simpa using h
    simp [sizeOf, typeInfo, hh, h2]
theorem field_regs (W : World) (g o : Nat) : (Instr.fieldAt 102 (.pointer (some ⟨g, o, none⟩)) 2).run Tryz.prog W = .ok (.pointer (some ⟨g, o + 2, none⟩)) W := by
  have hu := Tryz.underlying102
  have hs := size_arr W
  simp [Instr.fieldAt, Instr.sureAddr, fieldPlace, run_underlying hu, hs, Addr.add]
theorem arr_all (w : World) (g o : Nat) : (Instr.sliceAt 100 (.pointer (some ⟨g, o, none⟩)) none none none).run Tryz.prog w = .ok (.slice (some ⟨g, o, none⟩) 16 16) w := by
  have hu := Tryz.underlying100
  simp [Instr.sliceAt, run_underlying hu, go_sem]
theorem arr_from (w : World) (g o : Nat) : (Instr.sliceAt 100 (.pointer (some ⟨g, o, none⟩)) (some (.int .i64 0)) none none).run Tryz.prog w = .ok (.slice (some ⟨g, o, none⟩) 16 16) w := by
  have hu := Tryz.underlying100
  simp [Instr.sliceAt, run_underlying hu, go_sem]
theorem copy_none (w : World) (A B : Option Addr) (n c d : Nat) : (Builtin.copy_ #[31, 31] 3 #[.slice A n c, .slice B 0 d]).run Tryz.prog w = .ok (.int .i64 0) w := by
  have hu := Tryz.underlying31
  cases A <;> cases B <;> simp [Builtin.copy_, run_underlying hu, go_sem, storeCells]
theorem step_copy0 {P : Program} {ops : Array Oper} {o : Oper} {a : Act} {w : World} {K : Act → World → Prop} {Q : Exit → Act → World → Prop} {E : Prop} (hgd : o.guard = none) (d s : Operand) (t : TypeId)
    (ho : o.op = .call { callee := .builtin .copy, args := #[d, s], argTypes := #[t, t] }) {A B : Option Addr} {n c k : Nat} (hd : a.eval d = .slice A n c) (hs : a.eval s = .slice B 0 k) (hr : (Builtin.copy_ #[t, t] o.type #[.slice A n c, .slice B 0 k]).run P w = .ok (.int .i64 0) w)
    (h : K (a.put o.dst (.int .i64 0)) w) : if Region.wanted o (yielded ops a.tmps) = true then Oper.wp P o a w K Q else E := by
  have hw : Region.wanted o (yielded ops a.tmps) = true := by simp [Region.wanted, hgd]
  rw [if_pos hw]
  unfold Oper.wp execOp
  simp only [ho, resolve, invoke, builtin, Sem.run_bind, Sem.run_pure, Result.andThen_ok, List.map_toArray, List.map_cons, List.map_nil, hd, hs, hr]
  exact h
/-- An engine with one frame (in function 0). -/
structure En1 (w : World) (p FB hp tp : Nat) (B0 B1 B2 B3 B4 : Option Addr) (m0 m1 m2 m3 m4 d0 d1 d2 d3 d4 : Nat) (q : Int) (C cn cc fc : Nat) (pc : Nat) (regs : Nat → Int) (high : Nat) : Prop where
  box : w.heap[p]? = some (.cells #[.slice B0 m0 d0, .slice B1 m1 d1, .slice B2 m2 d2, .slice B3 m3 d3, .slice B4 m4 d4, .pointer (some ⟨hp, 0, none⟩), .pointer (some ⟨tp, 0, none⟩), .int .i64 q, .int .i64 0, .int .u64 0, .slice none 0 0, .slice (some ⟨C, 0, none⟩) cn cc, .slice (some ⟨FB, 0, none⟩) 1 fc] 99 (0, 0))
  fr : ∃ cs : Array Value, w.heap[FB]? = some (.cells cs 102 (0, 0)) ∧ 19 ≤ cs.size ∧ cs[0]? = some (.int .i64 0) ∧ cs[1]? = some (.int .i64 pc) ∧ cs[18]? = some (.int .i64 high) ∧ ∀ j, j < 16 → cs[2 + j]? = some (.int .u64 (regs j))
theorem En1.below {w w' : World} {p FB hp tp : Nat} {B0 B1 B2 B3 B4 : Option Addr} {m0 m1 m2 m3 m4 d0 d1 d2 d3 d4 : Nat} {q : Int} {C cn cc fc pc : Nat} {regs : Nat → Int} {high : Nat} (h : En1 w p FB hp tp B0 B1 B2 B3 B4 m0 m1 m2 m3 m4 d0 d1 d2 d3 d4 q C cn cc fc pc regs high) (hb : Below w.heap.size w w') : En1 w' p FB hp tp B0 B1 B2 B3 B4 m0 m1 m2 m3 m4 d0 d1 d2 d3 d4 q C cn cc fc pc regs high := by
  obtain ⟨cs, h1, h2⟩ := h.fr
  exact ⟨blk_below h.box hb (blk_lt h.box), cs, blk_below h1 hb (blk_lt h1), h2⟩
theorem eframe_info : (Tryz.prog.info? 102).map (fun i => (i.zero.map Value.cells, i.size, i.bytes)) = some (some #[.int .i64 0, .int .i64 0, .int .u64 0, .int .u64 0, .int .u64 0, .int .u64 0, .int .u64 0, .int .u64 0, .int .u64 0, .int .u64 0, .int .u64 0, .int .u64 0, .int .u64 0, .int .u64 0, .int .u64 0, .int .u64 0, .int .u64 0, .int .u64 0, .int .i64 0], 19, 152) := by kernel_rfl
theorem eframe_z : ∃ z : Value, (Tryz.prog.info? 102).map (fun i => (i.zero, i.size, i.bytes)) = some (some z, 19, 152) ∧ z.cells.size = 19 := by
  have h := eframe_info
  cases hh : Tryz.prog.info? 102 with
  | none => rw [hh] at h; cases h
  | some i =>
    rw [hh] at h
    simp only [Option.map_some, Option.some.injEq, Prod.mk.injEq] at h
    obtain ⟨h1, h2, h3⟩ := h
    cases hz : i.zero with
    | none => rw [hz] at h1; cases h1
    | some z =>
      rw [hz] at h1
      simp only [Option.map_some, Option.some.injEq] at h1
      exact ⟨z, by simp [hz, h2, h3], by rw [h1]; rfl⟩
theorem eframe_size : (Tryz.prog.info? 102).map (·.size) = some 19 := by kernel_rfl
theorem list_store_new {P : Program} {w : World} {ops : Array Oper} {rest : List Oper} {o : Oper} {a : Act} {Q : Exit → Act → World → Prop} (hgd : o.guard = none) (t : TypeId) (p x : Operand) (c c' : Array Value) (ho : o.op = .store t p x) (hdst : o.dst = none) {g : Nat} (hp : a.eval p = .pointer (some ⟨g, 0, none⟩)) (hg : g = w.heap.size) (hx : a.eval x = .agg c') (hi : (P.info? t).map (·.size) = some c'.size) (hc : c.size = c'.size) (h1 : c'.all (·.oneCell') = true)
    (h : wpList P ops Q rest a (w.alloc (.cells c' t))) : wpList P ops Q (o :: rest) a (w.alloc (.cells c t)) := by
  subst hg
  refine wpList_plain hgd fun _ hK => ?_
  have hr := run_storeAt_new (P := P) w t c c' hi hc h1
  unfold Oper.wp execOp
  simp only [ho, hp, hx, hr, Sem.run_bind, Sem.run_pure, Result.andThen_ok]
  refine hK _ _ ?_
  rw [hdst]
  exact h
theorem step_load_row {P : Program} {ops : Array Oper} {o : Oper} {a : Act} {w : World} {K : Act → World → Prop} {Q : Exit → Act → World → Prop} {E : Prop} (hgd : o.guard = none) (t : TypeId) (p : Operand)
    (ho : o.op = .load t p) {g : Nat} {cs : Array Value} {d : TypeDesc} (hp : a.eval p = .pointer (some ⟨g, 0, none⟩)) (hg : w.heap[g]? = some (.cells cs t (0, 0))) (hu : P.underlying t = some d) (hd : (match d with | .struct _ | .array _ _ => true | _ => false) = true) (hi : (P.info? t).map (·.size) = some cs.size)
    (h : K (a.put o.dst (.agg cs)) w) : if Region.wanted o (yielded ops a.tmps) = true then Oper.wp P o a w K Q else E := by
  have hw : Region.wanted o (yielded ops a.tmps) = true := by simp [Region.wanted, hgd]
  have hr := run_loadVar_row (P := P) w g t t cs (0, 0) d hg hu hd hi
  rw [if_pos hw]
  unfold Oper.wp execOp
  simp only [ho, hp, Instr.loadAt, Instr.sureAddr, Sem.run_bind, Sem.run_pure, Result.andThen_ok, hr]
  exact h
theorem frame_one : ∀ u ∈ ([.int .i64 0, .int .i64 0, .int .u64 0, .int .u64 0, .int .u64 0, .int .u64 0, .int .u64 0, .int .u64 0, .int .u64 0, .int .u64 0, .int .u64 0, .int .u64 0, .int .u64 0, .int .u64 0, .int .u64 0, .int .u64 0, .int .u64 0, .int .u64 0, .int .i64 0] : List Value), u.oneCell' = true := by
  intro u hu
  simp only [List.mem_cons, List.not_mem_nil, or_false] at hu
  rcases hu with h | h | h | h | h | h | h | h | h | h | h | h | h | h | h | h | h | h | h <;> (rw [h]; rfl)
theorem own_fr {w : World} {base : Nat} {t : TypeId} {A : Option Addr} {c : Nat} {xs : List Value} (h : w.ownsRow base t 19 (.slice A 1 c) 1 xs) : ∃ g cur, A = some ⟨g, 0, none⟩ ∧ base ≤ g ∧ w.heap[g]? = some (.cells cur t (0, 0)) ∧ 19 ≤ cur.size ∧ ∀ (j : Nat) (v : Value), xs[j]? = some v → cur[j]? = some v := by
  rcases h.2 with ⟨_, h0⟩ | ⟨g, cap, cur, e, hb, hh, h4, h5, h6, h7⟩
  · omega
  · cases e
    refine ⟨g, cur, rfl, hb, hh, by omega, fun j v hj => ?_⟩
    have hl : j < 19 := by have h1 := (List.getElem?_eq_some_iff.1 hj).1; have h2 := h.1; omega
    rw [← h7, List.getElem?_take] at hj
    rw [if_pos (by omega)] at hj
    simpa using hj
theorem en_made {w V : World} {p hp tp : Nat} {B0 B1 B2 B3 B4 : Option Addr} {m0 m1 m2 m3 m4 d0 d1 d2 d3 d4 : Nat} {q : Int} {C cn cc base : Nat} {A : Option Addr} {c : Nat} (he : w.heap[p]? = some (.cells #[.slice B0 m0 d0, .slice B1 m1 d1, .slice B2 m2 d2, .slice B3 m3 d3, .slice B4 m4 d4, .pointer (some ⟨hp, 0, none⟩), .pointer (some ⟨tp, 0, none⟩), .int .i64 q, .int .i64 0, .int .u64 0, .slice none 0 0, .slice (some ⟨C, 0, none⟩) cn cc, .slice none 0 0] 99 (0, 0)))
    (ho : w.ownsRow base 102 19 (.slice A 1 c) 1 [.int .i64 0, .int .i64 0, .int .u64 0, .int .u64 0, .int .u64 0, .int .u64 0, .int .u64 0, .int .u64 0, .int .u64 0, .int .u64 0, .int .u64 0, .int .u64 0, .int .u64 0, .int .u64 0, .int .u64 0, .int .u64 0, .int .u64 0, .int .u64 0, .int .i64 0]) (hk : Keeps (fun x => x = p) V (w.setCell ⟨p, 12, none⟩ (.slice A 1 c))) :
    ∃ FB, base ≤ FB ∧ En1 (w.setCell ⟨p, 12, none⟩ (.slice A 1 c)) p FB hp tp B0 B1 B2 B3 B4 m0 m1 m2 m3 m4 d0 d1 d2 d3 d4 q C cn cc c 0 (fun _ => 0) 0 := by
  obtain ⟨g, cur, rfl, hb, hh, hs, hc⟩ := own_fr ho
  refine ⟨g, hb, ⟨by simpa using blk_set he 12 (.slice (some ⟨g, 0, none⟩) 1 c), cur, blk_far hh (blk_ne hh he (by decide)) _, hs, hc 0 _ rfl, hc 1 _ rfl, hc 18 _ rfl, fun j hj => hc (2 + j) _ ?_⟩⟩
  have h6 : j = 0 ∨ j = 1 ∨ j = 2 ∨ j = 3 ∨ j = 4 ∨ j = 5 ∨ j = 6 ∨ j = 7 ∨ j = 8 ∨ j = 9 ∨ j = 10 ∨ j = 11 ∨ j = 12 ∨ j = 13 ∨ j = 14 ∨ j = 15 := by omega
  rcases h6 with rfl | rfl | rfl | rfl | rfl | rfl | rfl | rfl | rfl | rfl | rfl | rfl | rfl | rfl | rfl | rfl <;> rfl
theorem op_load {P : Program} {o : Oper} {a : Act} {w : World} {t : TypeId} {x : Operand} {g : Nat} {cs : Array Value} {d : TypeDesc} (ho : o.op = .load t x) (hp : a.eval x = .pointer (some ⟨g, 0, none⟩)) (hg : w.heap[g]? = some (.cells cs t (0, 0))) (hu : P.underlying t = some d) (hd : (match d with | .struct _ | .array _ _ => true | _ => false) = true) (hi : (P.info? t).map (·.size) = some cs.size) :
    (execOp a.eval o).run P w = .ok (.value (.agg cs)) w := by
  have hr := run_loadVar_row (P := P) w g t t cs (0, 0) d hg hu hd hi
  unfold execOp
  simp only [ho, hp, Instr.loadAt, Instr.sureAddr, Sem.run_bind, Sem.run_pure, Result.andThen_ok, hr]
theorem held2b {a b : Prop} {V w' : World} (hh : a ∧ b ∧ Below V.heap.size V w') : Below V.heap.size V w' := hh.2.2
set_option maxRecDepth 100000 in
set_option maxHeartbeats 8000000 in
theorem eload_calls {S : Nat → Prop} (w : World) (m : Md) (B0 B1 B2 B3 B4 : Option Addr) (m0 m1 m2 m3 m4 d0 d1 d2 d3 d4 : Nat) (h : MRow S w m B0 B1 B2 B3 B4 m0 m1 m2 m3 m4) (hm : mainL m = true) (stss : List (List (List Ty))) (hA : AllStr w m B0 B1 B2 B3 B4 m0 m1 m2 m3 m4 d0 d1 d2 d3 d4 stss) (irss : List (List Ir)) (hln : irss.length = m1) (hI : IrOK w m B0 B1 B2 B3 B4 m0 m1 m2 m3 m4 d0 d1 d2 d3 d4 stss irss) (f : Fn) (hf : m.funcs[0]? = some f) (ha : f.args = []) (hl : f.locals = []) (sts0 : List (List Ty)) (hs0 : stss[0]? = some sts0) (hs00 : sts0[0]? = some []) (hc0 : 0 < f.code.length)
    (fb fo fc : Nat) (LA : Option Addr) (lc : Nat) (hSfb : S fb) (e0 : w.cell? ⟨fb, fo, none⟩ = some (.int .i64 0)) (e1 : w.cell? ⟨fb, fo + 1, none⟩ = some (.int .i64 0)) (e2 : w.cell? ⟨fb, fo + 2, none⟩ = some (.slice LA 0 lc)) (e3 : w.cell? ⟨fb, fo + 3, none⟩ = some (.slice none 0 0)) (q : Int) (hq0 : 0 ≤ q) (hq1 : q ≤ 65536) :
    Calls Tryz.prog 18 #[.agg #[.slice B0 m0 d0, .slice B1 m1 d1, .slice B2 m2 d2, .slice B3 m3 d3, .slice B4 m4 d4], .agg #[.slice (some ⟨fb, fo, none⟩) 1 fc, .slice none 0 0, .slice none 0 0, .int .i64 q, .int .i64 0, .int .i64 0, .int .u64 0]] w fun e w' => ∃ p FB hp tp C cc c, e = .returned (.tuple #[.pointer (some ⟨p, 0, none⟩), .int .i64 0]) ∧ En1 w' p FB hp tp B0 B1 B2 B3 B4 m0 m1 m2 m3 m4 d0 d1 d2 d3 d4 q C m1 cc c 0 (fun _ => 0) 0 ∧ CodeR w' C irss ∧
      w'.heap[hp]? = some (.cells #[.slice none 0 0, .int .i64 q, .int .i64 0] 167 (0, 0)) ∧ w'.heap[tp]? = some (.cells #[.slice none 0 0] 170 (0, 0)) ∧ w.heap.size ≤ FB ∧ w.heap.size ≤ p ∧ Below w.heap.size w w' := by
  have hm0 : 0 < m1 := by have := (List.getElem?_eq_some_iff.1 hf).1; have := h.e1; omega
  have hm1 : m1 ≤ 1000 := by have := hA.many; have := h.e1; omega
  have hV := below_up (below_a1 w (Obj.cells #[.slice B0 m0 d0, .slice B1 m1 d1, .slice B2 m2 d2, .slice B3 m3 d3, .slice B4 m4 d4] 34)) (Obj.cells #[.slice (some ⟨fb, fo, none⟩) 1 fc, .slice none 0 0, .slice none 0 0, .int .i64 q, .int .i64 0, .int .i64 0, .int .u64 0] 45)
  have HMb := Lib.hid (blk_alloc (blk_new w (Obj.cells #[.slice B0 m0 d0, .slice B1 m1 d1, .slice B2 m2 d2, .slice B3 m3 d3, .slice B4 m4 d4] 34)) (Obj.cells #[.slice (some ⟨fb, fo, none⟩) 1 fc, .slice none 0 0, .slice none 0 0, .int .i64 q, .int .i64 0, .int .i64 0, .int .u64 0] 45))
  have HSb := Lib.hid (blk_new2 w (Obj.cells #[.slice B0 m0 d0, .slice B1 m1 d1, .slice B2 m2 d2, .slice B3 m3 d3, .slice B4 m4 d4] 34) (Obj.cells #[.slice (some ⟨fb, fo, none⟩) 1 fc, .slice none 0 0, .slice none 0 0, .int .i64 q, .int .i64 0, .int .i64 0, .int .u64 0] 45))
  have hA2 : AllStr ((w.alloc (Obj.cells #[.slice B0 m0 d0, .slice B1 m1 d1, .slice B2 m2 d2, .slice B3 m3 d3, .slice B4 m4 d4] 34)).alloc (Obj.cells #[.slice (some ⟨fb, fo, none⟩) 1 fc, .slice none 0 0, .slice none 0 0, .int .i64 q, .int .i64 0, .int .i64 0, .int .u64 0] 45)) m B0 B1 B2 B3 B4 m0 m1 m2 m3 m4 d0 d1 d2 d3 d4 stss := ⟨hA.len, fun n f sts h1 h2 => ⟨(hA.each n f sts h1 h2).1.up hV, (hA.each n f sts h1 h2).2⟩, hA.many⟩
  have KC := Lib.hid (check_calls _ m B0 B1 B2 B3 B4 m0 m1 m2 m3 m4 d0 d1 d2 d3 d4 (h.below hV) hm stss hA2)
  have rF : ∀ W, Below w.heap.size w W → k_frame.Row S W (some ⟨fb, fo, none⟩) [⟨0, 0, [], []⟩] := fun W hb _ => ⟨fb, fo, rfl, hSfb, fun i hi => by
    obtain rfl : i = 0 := by simp at hi; omega
    refine ⟨_, k_frame_mk (⟨0, 0, [], []⟩ : Fr) (show (Lit.int .i64 0).wf = true by decide) (show (Lit.int .i64 0).wf = true by decide) (A2 := LA) (c2 := lc) (Nat.zero_le _) (by decide) (Rd.Row.nil _ _ _ _) (A3 := none) (c3 := 0) (Nat.le_refl _) (Nat.zero_le _) (Rd.Row.nil _ _ _ _), fun j v hj => ?_⟩
    match j with
    | 0 => injection hj with hj; subst hj; simpa using below_cell e0 hb
    | 1 => injection hj with hj; subst hj; simpa using below_cell e1 hb
    | 2 => injection hj with hj; subst hj; simpa using below_cell e2 hb
    | 3 => injection hj with hj; subst hj; simpa using below_cell e3 hb
    | j + 4 => cases hj⟩
  have KF := Lib.hid (fun W (hb : Below w.heap.size w W) MA mc (hmp : (Rd.slice k_shape).Row (fun b => b < W.heap.size) W MA (stss.map seenL)) => fits_zero (S := fun b => b < W.heap.size) W m B0 B1 B2 B3 B4 m0 m1 m2 m3 m4 d0 d1 d2 d3 d4 ((h.below hb).mono (fun b hS => Nat.lt_of_lt_of_le (h.lt b hS) hb.size) (fun b h => h)) MA stss.length mc (stss.map seenL) hmp (List.length_map ..) (some ⟨fb, fo, none⟩) none none fc 0 0 q hq0 hq1 f hf ha (by rw [hl]; decide) (by rw [hl]; intro t ht; cases ht) (seenL sts0) (by rw [List.getElem?_map, hs0]; rfl) (by rw [seenL, List.getElem?_map, hs00]; rfl) hc0 [] (by rw [hl]; rfl) (by intro x hx; cases hx) ((rF W hb).mono (fun b hS => Nat.lt_of_lt_of_le (h.lt b hS) hb.size)))
  have KE := Lib.hid (fun W => enter_calls W B0 B1 B2 B3 B4 m0 m1 m2 m3 m4 d0 d1 d2 d3 d4 (.slice (some ⟨fb, fo, none⟩) 1 fc) ⟨_, _, _, rfl⟩ q)
  have KO := Lib.hid (fun W (hb : Below w.heap.size w W) MA mc (hmp : (Rd.slice k_shape).Row (fun b => b < W.heap.size) W MA (stss.map seenL)) => irOf_calls (S := fun b => b < W.heap.size) W m B0 B1 B2 B3 B4 m0 m1 m2 m3 m4 d0 d1 d2 d3 d4 ((h.below hb).mono (fun b hS => Nat.lt_of_lt_of_le (h.lt b hS) hb.size) (fun b h => h)) hm1 hm0 stss MA stss.length mc hmp rfl irss hln (hI.up hb))
  have HV := Lib.hid hV
  have HE0 := Lib.hid e0
  have HE1 := Lib.hid e1
  have HE2 := Lib.hid e2
  have HE3 := Lib.hid e3
  clear h hA hA2 hf ha hs0 hs00 e0 e1 e2 e3 rF hV hm hI
  go_enter Tryz.func18, Tryz.ntmps18
  go_upto_region 6 with (first
    | (go_at_call 25; go_must (refine KC.out.mono ?_; rintro e w1 ⟨MA, mc, rfl, hmp, hmc, hb1⟩; have HMp := Lib.hid hmp; have HB1 := Lib.hid hb1; have hx1 := blk_below HMb.out hb1 (blk_lt HMb.out); have hy1 := blk_below HSb.out hb1 (blk_lt HSb.out); obtain ⟨a0, a1, a2, a3, a4⟩ := cells5 hx1; obtain ⟨⟨b0, b1, b2, b3, b4, b5, b6⟩, -⟩ := box7f hy1; have HX1 := Lib.hid hx1; have HY1 := Lib.hid hy1; clear hmp hb1 hx1 hy1))
    | (go_at_call 26; go_must (refine (KF.out _ (HV.out.trans (HB1.out.mono HV.out.size)) MA mc HMp.out).mono ?_; rintro e w2 ⟨rfl, hb2⟩; have HB2 := Lib.hid hb2; have HX2 := Lib.hid (blk_below HX1.out hb2 (blk_lt HX1.out)); have HY2 := Lib.hid (blk_below HY1.out hb2 (blk_lt HY1.out)); clear hb2)))
  have HB2w := Lib.hid (HV.out.trans ((HB1.out.trans (HB2.out.mono HB1.out.size)).mono HV.out.size))
  have HMp2 := Lib.hid (((HMp.out.keep (fun b hb => HB2.out.block b hb)).mono (fun b hb => Nat.lt_of_lt_of_le hb HB2.out.size) : (Rd.slice k_shape).Row (fun b => b < w2.heap.size) w2 MA (stss.map seenL)))
  go_region_held3 (fun w' => w'.cell? ⟨w.heap.size, 0, none⟩ = some (.slice B0 m0 d0) ∧ w'.cell? ⟨w.heap.size, 1, none⟩ = some (.slice B1 m1 d1) ∧ w'.cell? ⟨w.heap.size, 2, none⟩ = some (.slice B2 m2 d2) ∧ w'.cell? ⟨w.heap.size, 3, none⟩ = some (.slice B3 m3 d3) ∧ w'.cell? ⟨w.heap.size, 4, none⟩ = some (.slice B4 m4 d4) ∧ w'.cell? ⟨w.heap.size + 1, 0, none⟩ = some (.slice (some ⟨fb, fo, none⟩) 1 fc) ∧ w'.cell? ⟨w.heap.size + 1, 1, none⟩ = some (.slice none 0 0) ∧ w'.cell? ⟨w.heap.size + 1, 2, none⟩ = some (.slice none 0 0) ∧ w'.cell? ⟨w.heap.size + 1, 3, none⟩ = some (.int .i64 q) ∧ w'.cell? ⟨w.heap.size + 1, 4, none⟩ = some (.int .i64 0) ∧ w'.cell? ⟨w.heap.size + 1, 5, none⟩ = some (.int .i64 0) ∧ w'.cell? ⟨w.heap.size + 1, 6, none⟩ = some (.int .u64 0) ∧ Below w2.heap.size w2 w')
    (first | (refine hold12 HX2.out HY2.out ?_; first | with_reducible assumption | (repeat (first | exact Below.refl _ _ | exact held12 (by assumption) | refine Below.drew ?_ | refine below_up ?_ _))))
    (first
      | (go_at_call 27; go_must (refine (KE.out _).mono ?_; rintro e w3 ⟨hp, tp, rfl, hh3, ht3, hgh, hgt, hb3⟩; have hbV3 : Below w2.heap.size w2 w3 := Below.trans (held12 (by assumption)) (hb3.mono (held12 (by assumption)).size)))
      | (go_at_call 39; go_must (refine (KO.out _ (HB2w.out.trans ((held12 (by assumption)).mono HB2w.out.size)) MA mc ((HMp2.out.keep (fun b hb => (held12 (by assumption)).block b hb)).mono (fun b hb => Nat.lt_of_lt_of_le hb (held12 (by assumption)).size))).mono ?_; rintro e w4 ⟨C, cc, rfl, hcr4, hgC, hb4⟩; have hbV4 : Below w2.heap.size w2 w4 := Below.trans (held12 (by assumption)) (hb4.mono (held12 (by assumption)).size))))
  all_goals
    have hb4w : Below w.heap.size w w4 := HB2w.out.trans (hbV4.mono HB2w.out.size)
    have hE := blk_new w4 (Obj.cells #[.slice B0 m0 d0, .slice B1 m1 d1, .slice B2 m2 d2, .slice B3 m3 d3, .slice B4 m4 d4, .pointer (some ⟨hp, 0, none⟩), .pointer (some ⟨tp, 0, none⟩), .int .i64 q, .int .i64 0, .int .u64 0, .slice none 0 0, .slice (some ⟨C, 0, none⟩) m1 cc, .slice none 0 0] 99)
    have hbV := below_a1 w4 (Obj.cells #[.slice B0 m0 d0, .slice B1 m1 d1, .slice B2 m2 d2, .slice B3 m3 d3, .slice B4 m4 d4, .pointer (some ⟨hp, 0, none⟩), .pointer (some ⟨tp, 0, none⟩), .int .i64 q, .int .i64 0, .int .u64 0, .slice none 0 0, .slice (some ⟨C, 0, none⟩) m1 cc, .slice none 0 0] 99)
    generalize hVe : w4.alloc (Obj.cells #[.slice B0 m0 d0, .slice B1 m1 d1, .slice B2 m2 d2, .slice B3 m3 d3, .slice B4 m4 d4, .pointer (some ⟨hp, 0, none⟩), .pointer (some ⟨tp, 0, none⟩), .int .i64 q, .int .i64 0, .int .u64 0, .slice none 0 0, .slice (some ⟨C, 0, none⟩) m1 cc, .slice none 0 0] 99) = V at *
    clear hVe
    have HCr := Lib.hid (hcr4.below hbV)
    have HhV := Lib.hid (blk_below (blk_below hh3 hb4 (blk_lt hh3)) hbV (Nat.lt_of_lt_of_le (blk_lt hh3) hb4.size))
    have HtV := Lib.hid (blk_below (blk_below ht3 hb4 (blk_lt ht3)) hbV (Nat.lt_of_lt_of_le (blk_lt ht3) hb4.size))
    have HbV := Lib.hid (hb4w.trans (hbV.mono hb4w.size))
    have HE := Lib.hid hE
    have hp4 : w.heap.size ≤ w4.heap.size := hb4w.size
    have hYV := blk_below (blk_below HY2.out hbV4 (blk_lt HY2.out)) hbV (Nat.lt_of_lt_of_le (blk_lt HY2.out) hbV4.size)
    obtain ⟨⟨s0, -, -, -, -, -, -⟩, -⟩ := box7f hYV
    have k0 := below_cell HE0.out HbV.out
    have k1 := below_cell HE1.out HbV.out
    have k2 := below_cell HE2.out HbV.out
    have k3 := below_cell HE3.out HbV.out
    clear hb4w hE hbV hYV hcr4 hh3 ht3 hb4 hb3 hbV3 hbV4 hgh hgt hgC
    generalize w4.heap.size = p at *
    go_wp2_with fail
    have hsa := arr_all
    have hsf := arr_from
    have hcp := copy_none
    have hfr := field_regs
    go_loopw [42] (fun ix wx => ∃ j : Nat, j ≤ 1 ∧ ix = .int .i64 j ∧ Hid ((j = 0 → wx = V) ∧ (j = 1 → ∃ FB c, En1 wx p FB hp tp B0 B1 B2 B3 B4 m0 m1 m2 m3 m4 d0 d1 d2 d3 d4 q C m1 cc c 0 (fun _ => 0) 0 ∧ V.heap.size ≤ FB ∧ Keeps (fun x => x = p) V wx))) (fun ix _ => 1 - (intOf ix).toNat)
    case atStart => exact ⟨0, by decide, rfl, Lib.hid ⟨fun _ => rfl, fun h => by cases h⟩⟩
    case round =>
      obtain ⟨j, hj, rfl, HJ⟩ := hrel
      by_cases hj0 : j = 0
      · subst hj0
        obtain rfl := HJ.out.1 rfl
        go_upto_region 10 with fail
        go_upto_region 11 with (refine list_store_new (by rfl) 102 (.tmp 13) (.tmp 57) _ _ (by rfl) (by rfl) (by rfl) (by simp) (by rfl) (by exact eframe_size) (by rfl) (by first | (simp [Value.oneCell']; done) | kernel_rfl) ?_)
        have hb2 := below_up (below_a1 wr (Obj.cells #[.int .i64 0, .int .i64 0, .slice LA 0 lc, .slice none 0 0] 83)) (Obj.cells #[.int .i64 0, .int .i64 0, .int .u64 0, .int .u64 0, .int .u64 0, .int .u64 0, .int .u64 0, .int .u64 0, .int .u64 0, .int .u64 0, .int .u64 0, .int .u64 0, .int .u64 0, .int .u64 0, .int .u64 0, .int .u64 0, .int .u64 0, .int .u64 0, .int .i64 0] 102)
        have hf2 := blk_alloc (blk_new wr (Obj.cells #[.int .i64 0, .int .i64 0, .slice LA 0 lc, .slice none 0 0] 83)) (Obj.cells #[.int .i64 0, .int .i64 0, .int .u64 0, .int .u64 0, .int .u64 0, .int .u64 0, .int .u64 0, .int .u64 0, .int .u64 0, .int .u64 0, .int .u64 0, .int .u64 0, .int .u64 0, .int .u64 0, .int .u64 0, .int .u64 0, .int .u64 0, .int .u64 0, .int .i64 0] 102)
        have hg2 := blk_new2 wr (Obj.cells #[.int .i64 0, .int .i64 0, .slice LA 0 lc, .slice none 0 0] 83) (Obj.cells #[.int .i64 0, .int .i64 0, .int .u64 0, .int .u64 0, .int .u64 0, .int .u64 0, .int .u64 0, .int .u64 0, .int .u64 0, .int .u64 0, .int .u64 0, .int .u64 0, .int .u64 0, .int .u64 0, .int .u64 0, .int .u64 0, .int .u64 0, .int .u64 0, .int .i64 0] 102)
        generalize hV2 : (wr.alloc (Obj.cells #[.int .i64 0, .int .i64 0, .slice LA 0 lc, .slice none 0 0] 83)).alloc (Obj.cells #[.int .i64 0, .int .i64 0, .int .u64 0, .int .u64 0, .int .u64 0, .int .u64 0, .int .u64 0, .int .u64 0, .int .u64 0, .int .u64 0, .int .u64 0, .int .u64 0, .int .u64 0, .int .u64 0, .int .u64 0, .int .u64 0, .int .u64 0, .int .u64 0, .int .i64 0] 102) = V2 at *
        clear hV2
        have hE2 := blk_below HE.out hb2 (blk_lt HE.out)
        have HB2x := Lib.hid hb2
        have HF2 := Lib.hid hf2
        have HG2 := Lib.hid hg2
        have HE2 := Lib.hid hE2
        have x2 : V2.cell? ⟨wr.heap.size, 2, none⟩ = some (.slice LA 0 lc) := blk_cell hf2 2
        have x3 : V2.cell? ⟨wr.heap.size, 3, none⟩ = some (.slice none 0 0) := blk_cell hf2 3
        clear hb2 hf2 hg2 hE2
        go_region_held3 (fun w' => w'.cell? ⟨wr.heap.size, 2, none⟩ = some (.slice LA 0 lc) ∧ w'.cell? ⟨wr.heap.size, 3, none⟩ = some (.slice none 0 0) ∧ Below V2.heap.size V2 w')
          (first | (refine ⟨below_cell x2 ?_, below_cell x3 ?_, ?_⟩ <;> (repeat (first | with_reducible assumption | exact Below.refl _ _ | exact held2b (by assumption) | refine Below.drew ?_))))
          (first | fail)
        go_upto_region 12 with fail
        go_region_held3 (fun w' => w'.cell? ⟨wr.heap.size, 2, none⟩ = some (.slice LA 0 lc) ∧ w'.cell? ⟨wr.heap.size, 3, none⟩ = some (.slice none 0 0) ∧ Below V2.heap.size V2 w')
          (first | (refine ⟨below_cell x2 ?_, below_cell x3 ?_, ?_⟩ <;> (repeat (first | with_reducible assumption | exact Below.refl _ _ | exact held2b (by assumption) | refine Below.drew ?_))))
          (first | fail)
        go_upto_region 13 with fail
        have HB3x : Hid (Below wr.heap.size wr V2.drew.drew) := Lib.hid HB2x.out.drew.drew
        have HE3 := Lib.hid (blk_drew (blk_drew HE2.out))
        have HG3 := Lib.hid (blk_drew (blk_drew HG2.out))
        clear x2 x3
        generalize V2.drew.drew = V3 at *
        obtain ⟨z, hz, hzs⟩ := eframe_z
        have HZ := Lib.hid hz
        have HZs := Lib.hid hzs
        have y12 : V3.cell? ⟨p, 12, none⟩ = some (.slice none 0 0) := blk_cell HE3.out 12
        clear hz hzs hcp hsa hsf hfr
        have hgp : wr.heap.size + 1 ≠ p := by have := blk_lt HE.out; omega
        refine wp_region_held_drew (S := fun w' => Keeps (fun x => x = p) V3 w') (by kernel_rfl) ((Keeps.refl _ V3).drew) (fun hHeld => ?_)
        refine wpAnyH_take (i := 0) (oi := _) (v := (.pointer (some ⟨p, 0, none⟩))) rfl (by kernel_rfl) (by kernel_rfl) (by kernel_rfl) (fun _ _ _ h => h) (Or.inl ⟨by rfl, fun W hS => by go_simp⟩) hHeld ?_
        try simp only [Act.put, List.setIfInBounds_toArray, List.set_cons_zero, List.set_cons_succ, List.getElem_toArray, List.getElem_cons_succ, List.getElem_cons_zero]
        refine wpAnyH_take (i := 1) (oi := _) (v := (.pointer (some ⟨p, 0, none⟩))) rfl (by kernel_rfl) (by kernel_rfl) (by kernel_rfl) (fun _ _ _ h => h) (Or.inl ⟨by rfl, fun W hS => by go_simp⟩) hHeld ?_
        try simp only [Act.put, List.setIfInBounds_toArray, List.set_cons_zero, List.set_cons_succ, List.getElem_toArray, List.getElem_cons_succ, List.getElem_cons_zero]
        refine wpAnyH_take (i := 2) (oi := _) (v := (.pointer (some ⟨p, 0, none⟩))) rfl (by kernel_rfl) (by kernel_rfl) (by kernel_rfl) (fun _ _ _ h => h) (Or.inl ⟨by rfl, fun W hS => by go_simp⟩) hHeld ?_
        try simp only [Act.put, List.setIfInBounds_toArray, List.set_cons_zero, List.set_cons_succ, List.getElem_toArray, List.getElem_cons_succ, List.getElem_cons_zero]
        refine wpAnyH_take (i := 3) (oi := _) (v := (.pointer (some ⟨p, 12, none⟩))) rfl (by kernel_rfl) (by kernel_rfl) (by kernel_rfl) (fun _ _ _ h => h) (Or.inl ⟨by rfl, fun W hS => by go_simp⟩) hHeld ?_
        try simp only [Act.put, List.setIfInBounds_toArray, List.set_cons_zero, List.set_cons_succ, List.getElem_toArray, List.getElem_cons_succ, List.getElem_cons_zero]
        refine wpAnyH_take (i := 5) (oi := _) (v := (.agg #[.int .i64 0, .int .i64 0, .int .u64 0, .int .u64 0, .int .u64 0, .int .u64 0, .int .u64 0, .int .u64 0, .int .u64 0, .int .u64 0, .int .u64 0, .int .u64 0, .int .u64 0, .int .u64 0, .int .u64 0, .int .u64 0, .int .u64 0, .int .u64 0, .int .i64 0])) rfl (by kernel_rfl) (by kernel_rfl) (by kernel_rfl) (fun _ _ _ h => h) (Or.inl ⟨by rfl, fun W hS => by exact op_load rfl rfl (blk_keeps HG3.out hS hgp) Tryz.underlying102 rfl eframe_size⟩) hHeld ?_
        try simp only [Act.put, List.setIfInBounds_toArray, List.set_cons_zero, List.set_cons_succ, List.getElem_toArray, List.getElem_cons_succ, List.getElem_cons_zero]
        have yd : V3.drew.cell? ⟨p, 12, none⟩ = some (.slice none 0 0) := blk_cell (blk_drew HE3.out) 12
        refine wpAnyH_ready (rs := [4, 6]) (by kernel_rfl) (by simp) ?_
        refine AllReadyH.cons (o := _) rfl (fun K hK => ?_) ?_
        · go_simp
          refine hK.out _ _ ((Keeps.refl _ V3).drew) (fun hHeld => ?_)
          try simp only [Act.put, List.setIfInBounds_toArray, List.set_cons_zero, List.set_cons_succ, List.getElem_toArray, List.getElem_cons_succ, List.getElem_cons_zero]
          clear hK K
          refine wpAnyH_ready (rs := [6]) (by kernel_rfl) (by simp) ?_
          refine AllReadyH.cons (o := _) rfl (fun K hK => ?_) AllReadyH.nil
          go_simp
          refine hK.out _ _ (((Keeps.refl _ V3).drew).alloc _) (fun hHeld => ?_)
          try simp only [Act.put, List.setIfInBounds_toArray, List.set_cons_zero, List.set_cons_succ, List.getElem_toArray, List.getElem_cons_succ, List.getElem_cons_zero]
          clear hK K
          refine wpAnyH_ready (rs := [7]) (by kernel_rfl) (by simp) ?_
          refine AllReadyH.cons (o := _) rfl (fun K hK => ?_) AllReadyH.nil
          refine step_app _ (by rfl) (.tmp 75) (.tmp 77) _ (by rfl) 102 Tryz.underlying97 HZ.out HZs.out (by decide) (by decide) V3.heap.size (n := 0) (xs := []) (by rfl) (World.ownsRow_nil _ _ _ _) (news := [.int .i64 0, .int .i64 0, .int .u64 0, .int .u64 0, .int .u64 0, .int .u64 0, .int .u64 0, .int .u64 0, .int .u64 0, .int .u64 0, .int .u64 0, .int .u64 0, .int .u64 0, .int .u64 0, .int .u64 0, .int .u64 0, .int .u64 0, .int .u64 0, .int .i64 0]) (by rfl) (by rfl) (by exact lie_new [.int .i64 0, .int .i64 0, .int .u64 0, .int .u64 0, .int .u64 0, .int .u64 0, .int .u64 0, .int .u64 0, .int .u64 0, .int .u64 0, .int .u64 0, .int .u64 0, .int .u64 0, .int .u64 0, .int .u64 0, .int .u64 0, .int .u64 0, .int .u64 0, .int .i64 0] _ _ rfl) frame_one (by omega) (by simp) ?_
          intro v' w6 hown hg hat
          simp only [Nat.zero_add, List.nil_append] at hown
          obtain ⟨A6, c6, rfl, hc6, _, hA6⟩ := own_shape hown
          have hk6 : Keeps (fun x => x = p) V3 w6 := (Keeps.of_below (F := fun x => x = p) ((Below.drew (Below.refl V3.heap.size V3)).alloc (Nat.le_refl _) _)).grown hg (fun g hg _ => by cases hg)
          have he6 := blk_grown (blk_alloc (blk_drew HE3.out) _) hg (by intro e; cases e)
          refine hK.out _ _ hk6 (fun hHeld => ?_)
          try simp only [Act.put, List.setIfInBounds_toArray, List.set_cons_zero, List.set_cons_succ, List.getElem_toArray, List.getElem_cons_succ, List.getElem_cons_zero]
          clear hK K
          have z6 : w6.cell? ⟨p, 12, none⟩ = some (.slice none 0 0) := blk_cell he6 12
          have z7 := blk_frozen he6 12
          refine wpAnyH_take (i := 8) (oi := _) (v := (.pointer (some ⟨p, 0, none⟩))) rfl (by kernel_rfl) (by kernel_rfl) (by kernel_rfl) (fun _ _ _ h => h) (Or.inl ⟨by rfl, fun W hS => by go_simp⟩) hHeld ?_
          try simp only [Act.put, List.setIfInBounds_toArray, List.set_cons_zero, List.set_cons_succ, List.getElem_toArray, List.getElem_cons_succ, List.getElem_cons_zero]
          refine wpAnyH_take (i := 9) (oi := _) (v := (.pointer (some ⟨p, 12, none⟩))) rfl (by kernel_rfl) (by kernel_rfl) (by kernel_rfl) (fun _ _ _ h => h) (Or.inl ⟨by rfl, fun W hS => by go_simp⟩) hHeld ?_
          try simp only [Act.put, List.setIfInBounds_toArray, List.set_cons_zero, List.set_cons_succ, List.getElem_toArray, List.getElem_cons_succ, List.getElem_cons_zero]
          refine wpAnyH_ready (rs := [10]) (by kernel_rfl) (by simp) ?_
          refine AllReadyH.cons (o := _) rfl (fun K hK => ?_) AllReadyH.nil
          go_simp
          have hk7 : Keeps (fun x => x = p) V3 (w6.setCell ⟨p, 12, none⟩ (.slice A6 1 c6)) := hk6.setCell (p := ⟨p, 12, none⟩) (fun _ => rfl) _
          refine hK.out _ _ hk7 (fun hHeld => ?_)
          try simp only [Act.put, List.setIfInBounds_toArray, List.set_cons_zero, List.set_cons_succ, List.getElem_toArray, List.getElem_cons_succ, List.getElem_cons_zero]
          clear hK K hHeld z6 z7
          refine wpAnyH_done (by kernel_rfl) ?_ _
          have hen := en_made he6 hown hk7
          generalize w6.setCell ⟨p, 12, none⟩ (.slice A6 1 c6) = w7 at *
          obtain ⟨FB, hFB, hen⟩ := hen
          have HEn := Lib.hid hen
          have HK7 := Lib.hid ((Keeps.of_below (F := fun x => x = p) HB3x.out).trans hk7)
          have hFBw : wr.heap.size ≤ FB := Nat.le_trans HB3x.out.size hFB
          clear hen hk7 hk6 he6 hown hg hat hA6 hHeld
          go_wp2
          exact ⟨⟨1, Nat.le_refl _, rfl, Lib.hid ⟨fun h => (by cases h), fun _ => ⟨FB, c6, HEn.out, hFBw, HK7.out⟩⟩⟩, by simp [intOf]⟩
        refine AllReadyH.cons (o := _) rfl (fun K hK => ?_) AllReadyH.nil
        go_simp
        refine hK.out _ _ (((Keeps.refl _ V3).drew).alloc _) (fun hHeld => ?_)
        try simp only [Act.put, List.setIfInBounds_toArray, List.set_cons_zero, List.set_cons_succ, List.getElem_toArray, List.getElem_cons_succ, List.getElem_cons_zero]
        clear hK K yd
        have yd : (V3.alloc (Obj.cells #[.int .i64 0, .int .i64 0, .int .u64 0, .int .u64 0, .int .u64 0, .int .u64 0, .int .u64 0, .int .u64 0, .int .u64 0, .int .u64 0, .int .u64 0, .int .u64 0, .int .u64 0, .int .u64 0, .int .u64 0, .int .u64 0, .int .u64 0, .int .u64 0, .int .i64 0] 102)).drew.cell? ⟨p, 12, none⟩ = some (.slice none 0 0) := blk_cell (blk_drew (blk_alloc HE3.out _)) 12
        refine wpAnyH_ready (rs := [4]) (by kernel_rfl) (by simp) ?_
        refine AllReadyH.cons (o := _) rfl (fun K hK => ?_) AllReadyH.nil
        go_simp
        refine hK.out _ _ (((Keeps.refl _ V3).drew).alloc _) (fun hHeld => ?_)
        try simp only [Act.put, List.setIfInBounds_toArray, List.set_cons_zero, List.set_cons_succ, List.getElem_toArray, List.getElem_cons_succ, List.getElem_cons_zero]
        clear hK K
        refine wpAnyH_ready (rs := [7]) (by kernel_rfl) (by simp) ?_
        refine AllReadyH.cons (o := _) rfl (fun K hK => ?_) AllReadyH.nil
        refine step_app _ (by rfl) (.tmp 75) (.tmp 77) _ (by rfl) 102 Tryz.underlying97 HZ.out HZs.out (by decide) (by decide) V3.heap.size (n := 0) (xs := []) (by rfl) (World.ownsRow_nil _ _ _ _) (news := [.int .i64 0, .int .i64 0, .int .u64 0, .int .u64 0, .int .u64 0, .int .u64 0, .int .u64 0, .int .u64 0, .int .u64 0, .int .u64 0, .int .u64 0, .int .u64 0, .int .u64 0, .int .u64 0, .int .u64 0, .int .u64 0, .int .u64 0, .int .u64 0, .int .i64 0]) (by rfl) (by rfl) (by exact lie_new [.int .i64 0, .int .i64 0, .int .u64 0, .int .u64 0, .int .u64 0, .int .u64 0, .int .u64 0, .int .u64 0, .int .u64 0, .int .u64 0, .int .u64 0, .int .u64 0, .int .u64 0, .int .u64 0, .int .u64 0, .int .u64 0, .int .u64 0, .int .u64 0, .int .i64 0] _ _ rfl) frame_one (by omega) (by simp) ?_
        intro v' w6 hown hg hat
        simp only [Nat.zero_add, List.nil_append] at hown
        obtain ⟨A6, c6, rfl, hc6, _, hA6⟩ := own_shape hown
        have hk6 : Keeps (fun x => x = p) V3 w6 := (Keeps.of_below (F := fun x => x = p) ((Below.drew (Below.refl V3.heap.size V3)).alloc (Nat.le_refl _) _)).grown hg (fun g hg _ => by cases hg)
        have he6 := blk_grown (blk_alloc (blk_drew HE3.out) _) hg (by intro e; cases e)
        refine hK.out _ _ hk6 (fun hHeld => ?_)
        try simp only [Act.put, List.setIfInBounds_toArray, List.set_cons_zero, List.set_cons_succ, List.getElem_toArray, List.getElem_cons_succ, List.getElem_cons_zero]
        clear hK K
        have z6 : w6.cell? ⟨p, 12, none⟩ = some (.slice none 0 0) := blk_cell he6 12
        have z7 := blk_frozen he6 12
        refine wpAnyH_take (i := 8) (oi := _) (v := (.pointer (some ⟨p, 0, none⟩))) rfl (by kernel_rfl) (by kernel_rfl) (by kernel_rfl) (fun _ _ _ h => h) (Or.inl ⟨by rfl, fun W hS => by go_simp⟩) hHeld ?_
        try simp only [Act.put, List.setIfInBounds_toArray, List.set_cons_zero, List.set_cons_succ, List.getElem_toArray, List.getElem_cons_succ, List.getElem_cons_zero]
        refine wpAnyH_take (i := 9) (oi := _) (v := (.pointer (some ⟨p, 12, none⟩))) rfl (by kernel_rfl) (by kernel_rfl) (by kernel_rfl) (fun _ _ _ h => h) (Or.inl ⟨by rfl, fun W hS => by go_simp⟩) hHeld ?_
        try simp only [Act.put, List.setIfInBounds_toArray, List.set_cons_zero, List.set_cons_succ, List.getElem_toArray, List.getElem_cons_succ, List.getElem_cons_zero]
        refine wpAnyH_ready (rs := [10]) (by kernel_rfl) (by simp) ?_
        refine AllReadyH.cons (o := _) rfl (fun K hK => ?_) AllReadyH.nil
        go_simp
        have hk7 : Keeps (fun x => x = p) V3 (w6.setCell ⟨p, 12, none⟩ (.slice A6 1 c6)) := hk6.setCell (p := ⟨p, 12, none⟩) (fun _ => rfl) _
        refine hK.out _ _ hk7 (fun hHeld => ?_)
        try simp only [Act.put, List.setIfInBounds_toArray, List.set_cons_zero, List.set_cons_succ, List.getElem_toArray, List.getElem_cons_succ, List.getElem_cons_zero]
        clear hK K hHeld z6 z7
        refine wpAnyH_done (by kernel_rfl) ?_ _
        have hen := en_made he6 hown hk7
        generalize w6.setCell ⟨p, 12, none⟩ (.slice A6 1 c6) = w7 at *
        obtain ⟨FB, hFB, hen⟩ := hen
        have HEn := Lib.hid hen
        have HK7 := Lib.hid ((Keeps.of_below (F := fun x => x = p) HB3x.out).trans hk7)
        have hFBw : wr.heap.size ≤ FB := Nat.le_trans HB3x.out.size hFB
        clear hen hk7 hk6 he6 hown hg hat hA6 hHeld
        go_wp2
        exact ⟨⟨1, Nat.le_refl _, rfl, Lib.hid ⟨fun h => (by cases h), fun _ => ⟨FB, c6, HEn.out, hFBw, HK7.out⟩⟩⟩, by simp [intOf]⟩
      · obtain rfl : j = 1 := by omega
        obtain ⟨FB, c, hen, hFB, hk⟩ := HJ.out.2 rfl
        have HEn := Lib.hid hen
        have HK := Lib.hid hk
        have hCr : CodeR wr C irss := HCr.out.keep (fun g cs e => hk.block g (blk_lt e) (blk_ne e HE.out (by decide))) (fun g cs e => hk.block g (blk_lt e) (blk_ne e HE.out (by decide)))
        have hh := blk_keeps HhV.out hk (blk_ne HhV.out HE.out (by decide))
        have ht := blk_keeps HtV.out hk (blk_ne HtV.out HE.out (by decide))
        have HCr2 := Lib.hid hCr
        have Hh := Lib.hid hh
        have Ht := Lib.hid ht
        clear hen hk HJ hCr hh ht
        go_wp2
        go_ret2
        exact ⟨p, FB, hp, tp, C, cc, c, rfl, HEn.out, HCr2.out, Hh.out, Ht.out, Nat.le_trans HbV.out.size hFB, hp4, HbV.out.trans (HK.out.below HbV.out.size (fun x hx e => by omega))⟩
end Go.Proofs.YtdmmjckhpagibaaGreatDoor
