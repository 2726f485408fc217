/- step's machine with any number of frames: call. -/
import Derived.Test.YtmceaeoeakkppaaGreatDoorMk2
namespace Go.Proofs.YtmceaeoeakkppaaGreatDoor
open Go.RowKit Go.Sort
set_option linter.unusedVariables false
set_option linter.unusedSimpArgs false
set_option maxRecDepth 100000 in
theorem clone64_nil (w : World) : Calls Tryz.prog 61 #[.slice none 0 0] w fun e w' => e = .returned (.slice none 0 0) ∧ Below w.heap.size w w' := by
  have hnil : ∀ w' : World, (binOp .eql 25 (.slice none 0 0) (.slice none 0 0)).run Tryz.prog w' = .ok (.bool true) w' := fun w' => Lib.run_eql_slice_nil w' _ _ none _ _ 0 0 Tryz.underlying25
  go_enter Tryz.func61, Tryz.ntmps61
  go_wp2
  go_ret
  exact ⟨rfl, Below.refl _ _⟩
theorem step_run {P : Program} {ops : Array Oper} {o : Oper} {a : Act} {w w' : World} {K : Act → World → Prop} {Q : Exit → Act → World → Prop} {E : Prop} (hgd : o.guard = none) (s x : Operand) (t t' : TypeId)
    (ho : o.op = .call { callee := .builtin .append, args := #[s, x], argTypes := #[t, t'] }) {vs vx v : Value} (hs : a.eval s = vs) (hx : a.eval x = vx) (hr : (Builtin.append_ #[t, t'] o.type #[vs, vx]).run P w = .ok v w')
    (h : K (a.put o.dst v) w') : if Region.wanted o (yielded ops a.tmps) = true then Oper.wp P o a w K Q else E := by
  have hw : Region.wanted o (yielded ops a.tmps) = true := by simp [Region.wanted, hgd]
  rw [if_pos hw]
  unfold Oper.wp execOp
  simp only [ho, resolve, invoke, builtin, Sem.run_bind, Sem.run_pure, Result.andThen_ok, List.map_toArray, List.map_cons, List.map_nil, hs, hx, hr]
  exact h
theorem app_zero0 (w : World) : (Builtin.append_ #[25, 3] 25 #[.slice none 0 0, .int .i64 0]).run Tryz.prog w = .ok (.slice none 0 0) w := by
  have h := word_info
  have hu := Tryz.underlying25
  have hi := Tryz.underlying3
  have hw0 : IntKind.i64.wrap 0 = 0 := rfl
  cases hh : Tryz.prog.info? 32 with
  | none => rw [hh] at h; cases h
  | some i =>
    simp [Builtin.append_, run_underlying hu, run_underlying hi, sizeOf, typeInfo, hh, Builtin.lenOf, Builtin.firstCells, go_sem, hw0]
set_option maxRecDepth 100000 in
set_option maxHeartbeats 8000000 in
theorem callk_trap {bs : Nat} {w : World} {p hp tp : Nat} {m : Md} {B0 B1 B2 B3 B4 : Option Addr} {m0 m1 m2 m3 m4 d0 d1 d2 d3 d4 : Nat} {q v : Int} {MA : Option Addr} {mn mc : Nat} {FA : Option Addr} {fc : Nat} {fs : List Fra} (h : Mk bs w p hp tp B0 B1 B2 B3 B4 m0 m1 m2 m3 m4 d0 d1 d2 d3 d4 q 0 v MA mn mc FA fc fs) (hn : fs.length = 8) (x y : Value) :
    Calls Tryz.prog 96 #[.pointer (some ⟨p, 0, none⟩), x, y] w fun e w' => e = .returned (.tuple #[]) ∧ Mk bs w' p hp tp B0 B1 B2 B3 B4 m0 m1 m2 m3 m4 d0 d1 d2 d3 d4 q 6 v MA mn mc FA fc fs ∧ Keeps (fun x => x = p) w w' := by
  have hbox := h.box
  rw [hn] at hbox
  have c12 : w.cell? ⟨p, 12, none⟩ = some (.slice FA 8 fc) := blk_cell hbox 12
  have KT := Lib.hid (trap_calls w p _ _ 6 h.box rfl)
  have HO := Lib.hid h.own
  have hpo := own_ne_blk h.own h.box (by decide)
  clear h hbox
  go_enter Tryz.func96, Tryz.ntmps96
  go_wp2_with (go_at_call 105; go_must (refine KT.out.mono ?_; rintro e w1 ⟨rfl, hp1, hk1⟩; have HP1 := Lib.hid hp1; have HK1 := Lib.hid hk1; clear hp1 hk1))
  (try simp only [Exit.inBlock, Exit.then])
  have hfin : Mk bs w1 p hp tp B0 B1 B2 B3 B4 m0 m1 m2 m3 m4 d0 d1 d2 d3 d4 q 6 v MA mn mc FA fc fs := ⟨by simpa using HP1.out, own_keep HO.out (fun g hg => HK1.out.block g (HO.out.lt g hg).2 (fun e => hpo (by rw [← e]; exact hg)))⟩
  first
  | exact bodyPost_ret (v := .tuple #[]) (by simp [results, Tryz.results96, go_sem]) rfl ⟨rfl, hfin, HK1.out⟩
  | exact bodyPost_end (v := .tuple #[]) (by simp [results, Tryz.results96, go_sem]) rfl ⟨rfl, hfin, HK1.out⟩
set_option maxRecDepth 100000 in
set_option maxHeartbeats 8000000 in
theorem callk_push {S : Nat → Prop} {bs : Nat} {w : World} {p hp tp : Nat} {m : Md} {B0 B1 B2 B3 B4 : Option Addr} {m0 m1 m2 m3 m4 d0 d1 d2 d3 d4 : Nat} {q v : Int} {MA : Option Addr} {mn mc : Nat} {FA : Option Addr} {fc : Nat} {fs : List Fra} (h : Mk bs w p hp tp B0 B1 B2 B3 B4 m0 m1 m2 m3 m4 d0 d1 d2 d3 d4 q 0 v MA mn mc FA fc fs) (hM : MRow S w m B0 B1 B2 B3 B4 m0 m1 m2 m3 m4) {n : Nat} (hn : fs.length = n) (h8 : n < 8) (j : Nat) (g : Fn) (hj : m.funcs[j]? = some g) (hl0 : g.locals = []) (hbs : bs ≤ w.heap.size) :
    Calls Tryz.prog 96 #[.pointer (some ⟨p, 0, none⟩), .int .i64 j, .slice none 0 0] w fun e w' => e = .returned (.tuple #[]) ∧ ∃ FA' fc', Mk bs w' p hp tp B0 B1 B2 B3 B4 m0 m1 m2 m3 m4 d0 d1 d2 d3 d4 q 0 v MA mn mc FA' fc' (fs ++ [⟨j, 0, none, 0, 0, none, 0, 0⟩]) ∧ Keeps (fun x => x = p ∨ (Value.slice FA n fc).ownBlock = some x) w w' := by
  have hjl : j < m1 := by have := (List.getElem?_eq_some_iff.1 hj).1; have := hM.e1; omega
  obtain ⟨fb, fo, A0, e0, A3, e3, A4, e4, rfl, hSb, f0, f1, f2, f3, f4, l0, -, r0, wk, wn, -, -, -, -, -, -⟩ := k_func_at hM.r1 hj
  rw [hl0] at f3
  simp only [List.length_nil] at f3
  have hbox := h.box
  have hown := h.own
  rw [hn] at hbox hown
  have c1 : w.cell? ⟨p, 1, none⟩ = some (.slice (some ⟨fb, fo, none⟩) m1 d1) := blk_cell hbox 1
  have c12 : w.cell? ⟨p, 12, none⟩ = some (.slice FA n fc) := blk_cell hbox 12
  have hV := below_a1 w (Obj.cells #[.slice A0 g.args.length e0, .int .i64 g.ret.kind, .int .i64 g.ret.n, .slice A3 0 e3, .slice A4 g.code.length e4] 67)
  have HFb := Lib.hid (blk_new w (Obj.cells #[.slice A0 g.args.length e0, .int .i64 g.ret.kind, .int .i64 g.ret.n, .slice A3 0 e3, .slice A4 g.code.length e4] 67))
  have HB := Lib.hid (blk_below hbox hV (blk_lt hbox))
  have HO := Lib.hid (own_below hown hV)
  have HO0 := Lib.hid hown
  have HV := Lib.hid hV
  have HN := Lib.hid hn
  have hnlt : (n : Int) < 8 := by omega
  have HNp := Lib.hid (own_ne_blk HO.out HB.out (by decide))
  have hz0 := app_zero0
  clear h hM hbox hown hV hn hj r0
  go_enter Tryz.func96, Tryz.ntmps96
  go_upto_region 3 with fail
  generalize (w.alloc (Obj.cells #[.slice A0 g.args.length e0, .int .i64 g.ret.kind, .int .i64 g.ret.n, .slice A3 0 e3, .slice A4 g.code.length e4] 67)) = V at *
  have x3 : V.cell? ⟨w.heap.size, 3, none⟩ = some (.slice A3 0 e3) := blk_cell HFb.out 3
  have x12 : V.cell? ⟨p, 12, none⟩ = some (.slice FA n fc) := blk_cell HB.out 12
  clear c1 c12 f0 f1 f2 f3 f4
  go_region_law (first
    | (go_simp; go_at_call 61; (refine (clone64_nil _).mono ?_; rintro e w5 ⟨rfl, hb5⟩; have hbV5 : Below V.heap.size V w5 := ((Below.refl V.heap.size V).drew).trans hb5; have x5 : w5.cell? ⟨p, 12, none⟩ = some (.slice FA n fc) := below_cell x12 hbV5; have x6 : w5.cell? ⟨w.heap.size, 3, none⟩ = some (.slice A3 0 e3) := below_cell x3 hbV5; have x7 : ∀ ob, (w5.alloc ob).cell? ⟨p, 12, none⟩ = some (.slice FA n fc) := fun ob => below_cell x5 (below_a1 w5 ob)))
    | (refine step_run (by rfl) (.tmp 33) (.tmp 36) _ _ (by rfl) (by rfl) (by rfl) (app_zero0 _) ?_)
    | (refine step_app _ (by rfl) (.tmp 30) (.tmp 39) _ (by rfl) 91 Tryz.underlying29 frame_info rfl (by decide) (by decide) bs (n := n) (xs := frasC fs) (by rfl) (by exact (own_below HO.out hbV5).alloc _) (news := [.int .i64 (j : Int), .int .i64 0, .slice none 0 0, .slice none 0 0]) (by rfl) (by rfl) (by exact lie_new [.int .i64 (j : Int), .int .i64 0, .slice none 0 0, .slice none 0 0] _ _ rfl) (by exact frasC_one [⟨j, 0, none, 0, 0, none, 0, 0⟩]) (by omega) (Nat.le_trans hbs (Nat.le_trans (HV.out.trans (hbV5.mono HV.out.size)).size (below_a1 w5 _).size)) ?_; intro v' w6 hown hg hat; obtain ⟨A6, c6, rfl, hc6, _, hA6⟩ := own_shape hown; have hp6 := blk_grown (blk_alloc (blk_below HB.out hbV5 (blk_lt HB.out)) _) hg (by exact Ne.symm HNp.out); have hk6 := (Keeps.of_below (F := fun x => x = p ∨ (Value.slice FA n fc).ownBlock = some x) ((HV.out.trans (hbV5.mono HV.out.size)).alloc (HV.out.trans (hbV5.mono HV.out.size)).size _)).grown hg (fun g hg' _ => .inr hg'); have z6 : w6.cell? ⟨p, 12, none⟩ = some (.slice FA n fc) := blk_cell hp6 12; have z7 := blk_frozen hp6 12))
  all_goals
    have hlen : (fs ++ [(⟨j, 0, none, 0, 0, none, 0, 0⟩ : Fra)]).length = n + 1 := by simp [HN.out]
    have hfin : Mk bs (w6.setCell ⟨p, 12, none⟩ (.slice A6 (n + 1) c6)) p hp tp B0 (some ⟨fb, fo, none⟩) B2 B3 B4 m0 m1 m2 m3 m4 d0 d1 d2 d3 d4 q 0 v MA mn mc A6 c6 (fs ++ [⟨j, 0, none, 0, 0, none, 0, 0⟩]) := ⟨by rw [hlen]; simpa using blk_set hp6 12 (.slice A6 (n + 1) c6), by rw [hlen, frasC_app]; exact own_set_far hown (own_ne_blk hown hp6 (by decide)) _⟩
    have hkf := hk6.setCell (p := ⟨p, 12, none⟩) (fun _ => .inl rfl) (.slice A6 (n + 1) c6)
    (try simp only [Exit.inBlock, Exit.then])
    first
    | exact bodyPost_ret (v := .tuple #[]) (by simp [results, Tryz.results96, go_sem]) rfl ⟨rfl, A6, c6, hfin, hkf⟩
    | exact bodyPost_end (v := .tuple #[]) (by simp [results, Tryz.results96, go_sem]) rfl ⟨rfl, A6, c6, hfin, hkf⟩
end Go.Proofs.YtmceaeoeakkppaaGreatDoor
