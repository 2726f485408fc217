/- McNames: sane.below, sane.host, sane.names, and the functions that sane.Check hands out. McFits: module.good, module.fitFunc, module.fits. McFitF: module.fitFunc. Printed by gen_mcfits.py of this repo. McFitM: module.fits. Printed by gen_mcfits.py of this repo. McJoin: num.Fixed, pack.Join. Printed by gen_mc.py of this repo out of XFixed, XPackPure and XPackJoin. -/
import Derived.Test.YtmceaeoeakkppaaGreatDoorZB
import Derived.Lib.QuietBelow
import Derived.BigQuiet
import Derived.Test.YtmceaeoeakkppaaGreatDoorZA
namespace Go.Proofs.YtmceaeoeakkppaaGreatDoor
open Go.RowKit Go.Sort
set_option linter.unusedVariables false
theorem calls_regrown {P : Program} {f : FuncId} {args : Array Value} {w : World} {v : Value} (h : ∀ W, Calls P f args W fun e w' => e = .returned v ∧ Below W.heap.size W w') (d : Nat) (os : Array Go.Obj) : Calls P f args (grow (redrawn w d) os) fun e w'' => e = .returned v ∧ ∃ p : Regrown, w'' = grow (redrawn w p.d) p.os := Calls.regrown_of (h _)
theorem below_al1 {w w1 : World} {a : Go.Obj} (h : Below (w.alloc a).heap.size (w.alloc a) w1) : Below w.heap.size w w1 := ((Below.refl _ _).alloc (Nat.le_refl _) _).trans (h.mono (by simp))
theorem below_al2 {w w1 : World} {a b : Go.Obj} (h : Below ((w.alloc a).alloc b).heap.size ((w.alloc a).alloc b) w1) : Below w.heap.size w w1 := below_al1 (below_al1 h)
theorem below_al3 {w w1 : World} {a b c : Go.Obj} (h : Below (((w.alloc a).alloc b).alloc c).heap.size (((w.alloc a).alloc b).alloc c) w1) : Below w.heap.size w w1 := below_al1 (below_al2 h)
theorem below_al4 {w w1 : World} {a b c d : Go.Obj} (h : Below ((((w.alloc a).alloc b).alloc c).alloc d).heap.size ((((w.alloc a).alloc b).alloc c).alloc d) w1) : Below w.heap.size w w1 := below_al1 (below_al3 h)
theorem below_calls (w : World) (n m : Int) : Calls Tryz.prog 156 #[.int .i64 n, .int .i64 m] w fun e w' => e = .returned (.bool (decide (n < m))) ∧ Below w.heap.size w w' := by
  go_enter Tryz.func156, Tryz.ntmps156
  go_wp2
  go_ret
  exact ⟨rfl, Below.refl _ _⟩
theorem host_calls (w : World) (k n : Int) : Calls Tryz.prog 114 #[.agg #[.int .i64 k, .int .i64 n]] w fun e w' => e = .returned (.bool (k == 1 || k == 5)) ∧ Below w.heap.size w w' := by
  go_enter Tryz.func114, Tryz.ntmps114
  by_cases h1 : k = 1
  · subst h1
    go_wp2
    go_ret
    exact ⟨rfl, below_al1 (Below.refl _ _)⟩
  · have h1' : (k == 1) = false := by simpa using h1
    rw [h1']
    go_wp2
    all_goals go_ret
    all_goals exact ⟨by simp_all [Bool.beq_eq_decide_eq], below_al1 (Below.refl _ _)⟩
/-- Does an instruction name what there is? -/
def namesN (recs : List (List Ty)) (nf ni nk nt na nl nc : Nat) (op a b : Int) : Bool :=
  if op = 0 then decide (a < nk) else if op = 1 then decide (a < nt) else if op = 3 ∨ op = 4 then decide (a < na + nl) else if op = 23 ∨ op = 24 then decide (a < nc)
  else if op = 25 then decide (a < nf) else if op = 27 then decide (a < ni) else if op = 28 then decide (a < recs.length) else if op = 29 ∨ op = 30 then decide (a < recs.length) && decide (b < (recs.getD a.toNat []).length) else true
def namesL (m : Md) (f : Fn) (i : Ins) : Bool := namesN m.recs m.funcs.length m.imports.length m.ints.length m.texts.length f.args.length f.locals.length f.code.length i.op i.a i.b
theorem op_ways (k : Int) : k = 0 ∨ k = 1 ∨ k = 3 ∨ k = 4 ∨ k = 23 ∨ k = 24 ∨ k = 25 ∨ k = 27 ∨ k = 28 ∨ k = 29 ∨ k = 30 ∨ ((k == 0) = false ∧ (k == 1) = false ∧ (k == 3) = false ∧ (k == 4) = false ∧ (k == 23) = false ∧ (k == 24) = false ∧ (k == 25) = false ∧ (k == 27) = false ∧ (k == 28) = false ∧ (k == 29) = false ∧ (k == 30) = false ∧ ∀ recs nf ni nk nt na nl nc a b, namesN recs nf ni nk nt na nl nc k a b = true) := by
  by_cases h0 : k = 0; · exact .inl h0
  by_cases h1 : k = 1; · exact .inr (.inl h1)
  by_cases h2 : k = 3; · exact .inr (.inr (.inl h2))
  by_cases h3 : k = 4; · exact .inr (.inr (.inr (.inl h3)))
  by_cases h4 : k = 23; · exact .inr (.inr (.inr (.inr (.inl h4))))
  by_cases h5 : k = 24; · exact .inr (.inr (.inr (.inr (.inr (.inl h5)))))
  by_cases h6 : k = 25; · exact .inr (.inr (.inr (.inr (.inr (.inr (.inl h6))))))
  by_cases h7 : k = 27; · exact .inr (.inr (.inr (.inr (.inr (.inr (.inr (.inl h7)))))))
  by_cases h8 : k = 28; · exact .inr (.inr (.inr (.inr (.inr (.inr (.inr (.inr (.inl h8))))))))
  by_cases h9 : k = 29; · exact .inr (.inr (.inr (.inr (.inr (.inr (.inr (.inr (.inr (.inl h9)))))))))
  by_cases h10 : k = 30; · exact .inr (.inr (.inr (.inr (.inr (.inr (.inr (.inr (.inr (.inr (.inl h10))))))))))
  refine .inr (.inr (.inr (.inr (.inr (.inr (.inr (.inr (.inr (.inr (.inr ⟨by simpa using h0, by simpa using h1, by simpa using h2, by simpa using h3, by simpa using h4, by simpa using h5, by simpa using h6, by simpa using h7, by simpa using h8, by simpa using h9, by simpa using h10, fun _ _ _ _ _ _ _ _ _ _ => ?_⟩))))))))))
  simp [namesN, h0, h1, h2, h3, h4, h5, h6, h7, h8, h9, h10]
set_option maxRecDepth 100000 in
set_option maxHeartbeats 4000000 in
theorem names_calls {S : Nat → Prop} (w : World) (A0 A1 A2 A3 A4 B0 B3 B4 : Option Addr) (n0 nf ni nk nt na nl nc c0 c1 c2 c3 c4 d0 d3 d4 : Nat) (rk rn op a b : Int) (recs : List (List Ty)) (hn : recs.length = n0) (hS : ∀ b, S b → b < w.heap.size) (row : (Rd.slice k_ty).Row S w A0 recs) (ha : 0 ≤ a) (h0 : na ≤ 140737488351232) (h1 : nl ≤ 140737488351232) :
    Calls Tryz.prog 109 #[.agg #[.slice A0 n0 c0, .slice A1 nf c1, .slice A2 ni c2, .slice A3 nk c3, .slice A4 nt c4], .agg #[.slice B0 na d0, .int .i64 rk, .int .i64 rn, .slice B3 nl d3, .slice B4 nc d4], .agg #[.int .i64 op, .int .i64 a, .int .i64 b]] w fun e w' => e = .returned (.bool (namesN recs nf ni nk nt na nl nc op a b)) ∧ Below w.heap.size w w' := by
  have hw : IntKind.i64.wrap ((na : Int) + nl) = na + nl := by rw [IntKind.wrap_i64]; omega
  rcases op_ways op with rfl | rfl | rfl | rfl | rfl | rfl | rfl | rfl | rfl | rfl | rfl | ⟨h2, h3, h4, h5, h6, h7, h8, h9, h10, h11, h12, h13⟩
  iterate 9
    focus
      clear row hS
      go_enter Tryz.func109, Tryz.ntmps109
      go_wp2_with (go_at_call 156; refine (below_calls _ _ _).mono ?_; rintro e w1 ⟨rfl, hb1⟩)
      go_ret
      exact ⟨ret_bool (by simp [namesN, hn]), below_al3 hb1⟩
  · by_cases hlt : a < (n0 : Int)
    · obtain ⟨k, rfl⟩ := Int.eq_ofNat_of_zero_le ha
      have hk : k < n0 := by omega
      obtain ⟨x, hx⟩ : ∃ x, recs[k]? = some x := ⟨_, List.getElem?_eq_getElem (by omega)⟩
      have HZ : Hid (namesN recs nf ni nk nt na nl nc 29 (k : Int) b = decide (b < (x.length : Int))) := Lib.hid (by obtain ⟨hk', hxe⟩ := List.getElem?_eq_some_iff.1 hx; simp [namesN, hn, hk, hxe])
      have hV := (((Below.refl w.heap.size w).alloc (Nat.le_refl _) (Obj.cells #[.slice A0 n0 c0, .slice A1 nf c1, .slice A2 ni c2, .slice A3 nk c3, .slice A4 nt c4] 28)).alloc (by simp) (Obj.cells #[.slice B0 na d0, .int .i64 rk, .int .i64 rn, .slice B3 nl d3, .slice B4 nc d4] 67)).alloc (by simp; omega) (Obj.cells #[.int .i64 29, .int .i64 (k : Int), .int .i64 b] 62)
      have hm := blk_alloc (blk_alloc (blk_new w (Obj.cells #[.slice A0 n0 c0, .slice A1 nf c1, .slice A2 ni c2, .slice A3 nk c3, .slice A4 nt c4] 28)) (Obj.cells #[.slice B0 na d0, .int .i64 rk, .int .i64 rn, .slice B3 nl d3, .slice B4 nc d4] 67)) (Obj.cells #[.int .i64 29, .int .i64 (k : Int), .int .i64 b] 62)
      have hi := blk_new3 w (Obj.cells #[.slice A0 n0 c0, .slice A1 nf c1, .slice A2 ni c2, .slice A3 nk c3, .slice A4 nt c4] 28) (Obj.cells #[.slice B0 na d0, .int .i64 rk, .int .i64 rn, .slice B3 nl d3, .slice B4 nc d4] 67) (Obj.cells #[.int .i64 29, .int .i64 (k : Int), .int .i64 b] 62)
      obtain ⟨b0, o0, A', c', rfl, hSb, e0, l0, m0, r0⟩ := row_slice_at (row.keep (fun b h => hV.block b (hS b h))) hx
      have eq0 := (blk_cell hm 0 : _ = some (Value.slice (some ⟨b0, o0, none⟩) n0 c0))
      have q0 := cell_regrown eq0
      have eq1 := (blk_cell hi 1 : _ = some (Value.int .i64 (k : Int)))
      have q1 := cell_regrown eq1
      have eq2 := (blk_cell hi 2 : _ = some (Value.int .i64 b))
      have q2 := cell_regrown eq2
      have q3 := cell_regrown e0
      have K1 : Hid (∀ W, Calls Tryz.prog 156 #[.int .i64 (k : Int), .int .i64 (n0 : Int)] W fun e w' => e = .returned (.bool true) ∧ Below W.heap.size W w') := Lib.hid (fun W => by have := below_calls W (k : Int) n0; rwa [decide_eq_true hlt] at this)
      have K2 := Lib.hid (fun W => below_calls W b (x.length : Int))
      have HB := Lib.hid hV
      clear row hS hx hV hm hi e0 r0 hSb
      generalize decide (b < (x.length : Int)) = z at *
      go_enter Tryz.func109, Tryz.ntmps109
      go_wp2_with fail
      refine wp_region_quiet_below (by kernel_rfl) (by kernel_rfl) ?_
      repeat (first | go_big_quiet_step (first | with_reducible exact calls_regrown K1.out _ _ | with_reducible exact calls_regrown K2.out _ _) | quiet_step (first | with_reducible exact calls_regrown K1.out _ _ | with_reducible exact calls_regrown K2.out _ _))
      refine wpQuiet_nil ?_
      intro _ hw'
      obtain ⟨⟨dq, osq⟩, hw''⟩ := hw'
      subst hw''
      go_wp2
      go_ret
      exact ⟨ret_bool HZ.out.symm, HB.out.trans ((below_regrown _ dq osq).mono (by simp; omega))⟩
    · have HZ : Hid (namesN recs nf ni nk nt na nl nc 29 a b = false) := Lib.hid (by simp [namesN, hn]; omega)
      have hm := blk_alloc (blk_alloc (blk_new w (Obj.cells #[.slice A0 n0 c0, .slice A1 nf c1, .slice A2 ni c2, .slice A3 nk c3, .slice A4 nt c4] 28)) (Obj.cells #[.slice B0 na d0, .int .i64 rk, .int .i64 rn, .slice B3 nl d3, .slice B4 nc d4] 67)) (Obj.cells #[.int .i64 29, .int .i64 a, .int .i64 b] 62)
      have hi := blk_new3 w (Obj.cells #[.slice A0 n0 c0, .slice A1 nf c1, .slice A2 ni c2, .slice A3 nk c3, .slice A4 nt c4] 28) (Obj.cells #[.slice B0 na d0, .int .i64 rk, .int .i64 rn, .slice B3 nl d3, .slice B4 nc d4] 67) (Obj.cells #[.int .i64 29, .int .i64 a, .int .i64 b] 62)
      have eq0 := (blk_cell hm 0 : _ = some (Value.slice A0 n0 c0))
      have q0 := cell_regrown eq0
      have eq1 := (blk_cell hi 1 : _ = some (Value.int .i64 a))
      have q1 := cell_regrown eq1
      have K1 : Hid (∀ W, Calls Tryz.prog 156 #[.int .i64 a, .int .i64 (n0 : Int)] W fun e w' => e = .returned (.bool false) ∧ Below W.heap.size W w') := Lib.hid (fun W => by have := below_calls W a n0; rwa [decide_eq_false hlt] at this)
      clear row hS hm hi
      go_enter Tryz.func109, Tryz.ntmps109
      go_wp2_with fail
      refine wp_region_quiet_below (by kernel_rfl) (by kernel_rfl) ?_
      repeat (first | go_big_quiet_step (first | with_reducible exact calls_regrown K1.out _ _) | quiet_step (first | with_reducible exact calls_regrown K1.out _ _))
      refine wpQuiet_nil ?_
      intro _ hw'
      obtain ⟨⟨dq, osq⟩, hw''⟩ := hw'
      subst hw''
      go_wp2
      go_ret
      exact ⟨ret_bool HZ.out.symm, below_al3 (below_regrown _ dq osq)⟩
  · by_cases hlt : a < (n0 : Int)
    · obtain ⟨k, rfl⟩ := Int.eq_ofNat_of_zero_le ha
      have hk : k < n0 := by omega
      obtain ⟨x, hx⟩ : ∃ x, recs[k]? = some x := ⟨_, List.getElem?_eq_getElem (by omega)⟩
      have HZ : Hid (namesN recs nf ni nk nt na nl nc 30 (k : Int) b = decide (b < (x.length : Int))) := Lib.hid (by obtain ⟨hk', hxe⟩ := List.getElem?_eq_some_iff.1 hx; simp [namesN, hn, hk, hxe])
      have hV := (((Below.refl w.heap.size w).alloc (Nat.le_refl _) (Obj.cells #[.slice A0 n0 c0, .slice A1 nf c1, .slice A2 ni c2, .slice A3 nk c3, .slice A4 nt c4] 28)).alloc (by simp) (Obj.cells #[.slice B0 na d0, .int .i64 rk, .int .i64 rn, .slice B3 nl d3, .slice B4 nc d4] 67)).alloc (by simp; omega) (Obj.cells #[.int .i64 30, .int .i64 (k : Int), .int .i64 b] 62)
      have hm := blk_alloc (blk_alloc (blk_new w (Obj.cells #[.slice A0 n0 c0, .slice A1 nf c1, .slice A2 ni c2, .slice A3 nk c3, .slice A4 nt c4] 28)) (Obj.cells #[.slice B0 na d0, .int .i64 rk, .int .i64 rn, .slice B3 nl d3, .slice B4 nc d4] 67)) (Obj.cells #[.int .i64 30, .int .i64 (k : Int), .int .i64 b] 62)
      have hi := blk_new3 w (Obj.cells #[.slice A0 n0 c0, .slice A1 nf c1, .slice A2 ni c2, .slice A3 nk c3, .slice A4 nt c4] 28) (Obj.cells #[.slice B0 na d0, .int .i64 rk, .int .i64 rn, .slice B3 nl d3, .slice B4 nc d4] 67) (Obj.cells #[.int .i64 30, .int .i64 (k : Int), .int .i64 b] 62)
      obtain ⟨b0, o0, A', c', rfl, hSb, e0, l0, m0, r0⟩ := row_slice_at (row.keep (fun b h => hV.block b (hS b h))) hx
      have eq0 := (blk_cell hm 0 : _ = some (Value.slice (some ⟨b0, o0, none⟩) n0 c0))
      have q0 := cell_regrown eq0
      have eq1 := (blk_cell hi 1 : _ = some (Value.int .i64 (k : Int)))
      have q1 := cell_regrown eq1
      have eq2 := (blk_cell hi 2 : _ = some (Value.int .i64 b))
      have q2 := cell_regrown eq2
      have q3 := cell_regrown e0
      have K1 : Hid (∀ W, Calls Tryz.prog 156 #[.int .i64 (k : Int), .int .i64 (n0 : Int)] W fun e w' => e = .returned (.bool true) ∧ Below W.heap.size W w') := Lib.hid (fun W => by have := below_calls W (k : Int) n0; rwa [decide_eq_true hlt] at this)
      have K2 := Lib.hid (fun W => below_calls W b (x.length : Int))
      have HB := Lib.hid hV
      clear row hS hx hV hm hi e0 r0 hSb
      generalize decide (b < (x.length : Int)) = z at *
      go_enter Tryz.func109, Tryz.ntmps109
      go_wp2_with fail
      refine wp_region_quiet_below (by kernel_rfl) (by kernel_rfl) ?_
      repeat (first | go_big_quiet_step (first | with_reducible exact calls_regrown K1.out _ _ | with_reducible exact calls_regrown K2.out _ _) | quiet_step (first | with_reducible exact calls_regrown K1.out _ _ | with_reducible exact calls_regrown K2.out _ _))
      refine wpQuiet_nil ?_
      intro _ hw'
      obtain ⟨⟨dq, osq⟩, hw''⟩ := hw'
      subst hw''
      go_wp2
      go_ret
      exact ⟨ret_bool HZ.out.symm, HB.out.trans ((below_regrown _ dq osq).mono (by simp; omega))⟩
    · have HZ : Hid (namesN recs nf ni nk nt na nl nc 30 a b = false) := Lib.hid (by simp [namesN, hn]; omega)
      have hm := blk_alloc (blk_alloc (blk_new w (Obj.cells #[.slice A0 n0 c0, .slice A1 nf c1, .slice A2 ni c2, .slice A3 nk c3, .slice A4 nt c4] 28)) (Obj.cells #[.slice B0 na d0, .int .i64 rk, .int .i64 rn, .slice B3 nl d3, .slice B4 nc d4] 67)) (Obj.cells #[.int .i64 30, .int .i64 a, .int .i64 b] 62)
      have hi := blk_new3 w (Obj.cells #[.slice A0 n0 c0, .slice A1 nf c1, .slice A2 ni c2, .slice A3 nk c3, .slice A4 nt c4] 28) (Obj.cells #[.slice B0 na d0, .int .i64 rk, .int .i64 rn, .slice B3 nl d3, .slice B4 nc d4] 67) (Obj.cells #[.int .i64 30, .int .i64 a, .int .i64 b] 62)
      have eq0 := (blk_cell hm 0 : _ = some (Value.slice A0 n0 c0))
      have q0 := cell_regrown eq0
      have eq1 := (blk_cell hi 1 : _ = some (Value.int .i64 a))
      have q1 := cell_regrown eq1
      have K1 : Hid (∀ W, Calls Tryz.prog 156 #[.int .i64 a, .int .i64 (n0 : Int)] W fun e w' => e = .returned (.bool false) ∧ Below W.heap.size W w') := Lib.hid (fun W => by have := below_calls W a n0; rwa [decide_eq_false hlt] at this)
      clear row hS hm hi
      go_enter Tryz.func109, Tryz.ntmps109
      go_wp2_with fail
      refine wp_region_quiet_below (by kernel_rfl) (by kernel_rfl) ?_
      repeat (first | go_big_quiet_step (first | with_reducible exact calls_regrown K1.out _ _) | quiet_step (first | with_reducible exact calls_regrown K1.out _ _))
      refine wpQuiet_nil ?_
      intro _ hw'
      obtain ⟨⟨dq, osq⟩, hw''⟩ := hw'
      subst hw''
      go_wp2
      go_ret
      exact ⟨ret_bool HZ.out.symm, below_al3 (below_regrown _ dq osq)⟩
  · have H := Lib.hid h13
    clear row hS h13
    go_enter Tryz.func109, Tryz.ntmps109
    go_wp2
    go_ret
    exact ⟨ret_bool (H.out _ _ _ _ _ _ _ _ _ _).symm, below_al3 (Below.refl _ _)⟩
end Go.Proofs.YtmceaeoeakkppaaGreatDoor
namespace Go.Proofs.YtmceaeoeakkppaaGreatDoor
open Go.RowKit Go.Sort
set_option linter.unusedVariables false
theorem wpList_of_quiet {P : Program} {ops : Array Oper} {Q : Exit → Act → World → Prop} {C : World → Prop} {K : Act → Prop} (hK : ∀ a w, C w → K a → Q .normal a w) : ∀ (l : List Oper) (a : Act) (w : World), C w → wpQuiet P ops C K l a → wpList P ops Q l a w
  | [], a, w, hw, h => hK a w hw h
  | o :: rest, a, w, hw, h => by
    unfold wpQuiet at h
    unfold wpList
    split at h
    · rename_i hg
      rw [if_pos hg]
      exact .inl (Oper.wp_of_quiet hw (fun a w' hw' h' => wpList_of_quiet hK rest a w' hw' h') h)
    · rename_i hg
      rw [if_neg hg]
      exact wpList_of_quiet hK rest _ w hw h
theorem wp_region_quiet_lit {P : Program} {id : Nat} {Q : Exit → Act → World → Prop} {a : Act} {w : World} {l : List Oper}
    (h : wpQuiet P l.toArray (fun w' => ∃ p : Regrown, w' = grow (redrawn w p.d) p.os) (fun a' => ∀ w', (∃ p : Regrown, w' = grow (redrawn w p.d) p.os) → Q .normal a' w') l a) : (Code.region id l.toArray false).wp P Q a w :=
  wp_region_lit (wpList_of_quiet (fun a w' hw hk => hk w' hw) l a w ⟨⟨w.drawn, #[]⟩, by rw [grow_empty]; rfl⟩ h)
/-- A callee that answers alike in every world behind V. -/
theorem calls_behind {P : Program} {f : FuncId} {args : Array Value} {V : World} {v : Value} (h : ∀ W, Below V.heap.size V W → Calls P f args W fun e w' => e = .returned v ∧ Below W.heap.size W w') (d : Nat) (os : Array Go.Obj) : Calls P f args (grow (redrawn V d) os) fun e w'' => e = .returned v ∧ ∃ p : Regrown, w'' = grow (redrawn V p.d) p.os := Calls.regrown_of (h _ (below_regrown V d os))
theorem eg_of {P : Program} {f : FuncId} {fn : Func} {c : Code} (hf : P.funcs[f]? = some fn) (hname : (fn.name == "runtime.NumGoroutine") = false) (hb : fn.body = some c) (args : Array Value) (w : World) : (callFunc f args).run P w = .ok (.enter f args) w := by
  simp only [callFunc, program, Sem.run_bind, Sem.run, Result.andThen_ok, hf, hname, hb]
  rfl
theorem good1_calls (w : World) (k n r : Int) (g : Nat) (hc : w.cell? ⟨g, 0, none⟩ = some (.int .i64 r)) : Calls Tryz.prog 229 #[.agg #[.int .i64 k, .int .i64 n], .pointer (some ⟨g, 0, none⟩)] w fun e w' => e = .returned (.bool (!good ⟨k, n⟩ r)) ∧ Below w.heap.size w w' := by
  have hc2 : (w.alloc (Obj.cells #[.int .i64 k, .int .i64 n] 58)).cell? ⟨g, 0, none⟩ = some (.int .i64 r) := ((Below.refl w.heap.size w).alloc (Nat.le_refl _) _).cell (World.block_lt_of_cell? w _ hc) |>.trans hc
  go_enter Tryz.func229, Tryz.ntmps229
  go_wp2_with (go_at_call 204; refine (good_calls _ _ _ _).mono ?_; rintro e w1 ⟨rfl, hb1⟩)
  go_ret
  exact ⟨rfl, below_al1 hb1⟩
theorem eg_good1 : ∀ (args : Array Value) (w : World), (callFunc 229 args).run Tryz.prog w = .ok (.enter 229 args) w := eg_of Tryz.func229 (by kernel_rfl) rfl
/-- Are all types? -/
def goodL (xs : List Ty) (r most : Int) : Bool := decide ((xs.length : Int) ≤ most) && !(xs.any fun x => !good x r)
set_option maxHeartbeats 4000000 in
theorem goodL_calls {S : Nat → Prop} (w : World) (A : Option Addr) (n c : Nat) (xs : List Ty) (r most : Int) (hn : xs.length = n) (hm : most ≤ 100000000000000) (hS : ∀ b, S b → b < w.heap.size) (row : k_ty.Row S w A xs) :
    Calls Tryz.prog 199 #[.slice A n c, .int .i64 r, .int .i64 most] w fun e w' => e = .returned (.bool (goodL xs r most)) ∧ Below w.heap.size w w' := by
  have hb0 := (Below.refl w.heap.size w).alloc (Nat.le_refl _) (Obj.cells #[.int .i64 r] 3)
  have HC := Lib.hid (fun hm2 : n ≤ 100000000000000 => contains_Ty (w.alloc (Obj.cells #[.int .i64 r] 3)) A n c xs hn hm2 (fun b h => Nat.lt_of_lt_of_le (hS b h) (by simp)) (row.keep (fun b h => hb0.block b (hS b h))) 229 eg_good1 #[.pointer (some ⟨w.heap.size, 0, none⟩)] (fun x => !good x r)
    (fun W x _ f0 f1 hb => good1_calls W x.kind x.n r w.heap.size ((hb.cell (p := ⟨w.heap.size, 0, none⟩) (by simp)).trans (blk_cell (blk_new w _) 0))))
  have HG : Hid (goodL xs r most = (decide ((n : Int) ≤ most) && !(xs.any fun x => !good x r))) := Lib.hid (by rw [← hn]; rfl)
  clear hS row hn
  generalize (xs.any fun x => !good x r) = z at *
  by_cases hle : (n : Int) ≤ most
  · have hd : decide ((n : Int) ≤ most) = true := decide_eq_true hle
    rw [hd] at HG
    go_enter Tryz.func199, Tryz.ntmps199
    go_wp2_with (go_at_call 111; refine (HC.out (by omega)).mono ?_; rintro e w1 ⟨rfl, hb1⟩)
    go_ret
    exact ⟨ret_bool HG.out.symm, below_al1 hb1⟩
  · have hd : decide ((n : Int) ≤ most) = false := decide_eq_false hle
    rw [hd] at HG
    go_enter Tryz.func199, Tryz.ntmps199
    go_wp2
    go_ret
    exact ⟨ret_bool HG.out.symm, below_al1 (Below.refl _ _)⟩
theorem fit1_calls (w : World) (i : Ins) : Calls Tryz.prog 231 #[.agg #[.int .i64 i.op, .int .i64 i.a, .int .i64 i.b]] w fun e w' => e = .returned (.bool (!goodI i)) ∧ Below w.heap.size w w' := by
  have HE : Hid ((((instB i).length : Int) == 0) = !goodI i) := Lib.hid (by
    cases h : goodI i
    · rw [instB_bad h]; rfl
    · unfold instB; rw [if_pos h]; simp; omega)
  have HP := Lib.hid (fun w => put_calls w i.op i.a i.b)
  generalize (instB i).length = n at *
  go_enter Tryz.func231, Tryz.ntmps231
  go_wp2_with (go_at_call 211; refine (HP.out _).mono ?_; rintro e w1 ⟨A, c, rfl, ho1, hb1⟩)
  go_ret
  exact ⟨ret_bool HE.out, below_al1 hb1⟩
end Go.Proofs.YtmceaeoeakkppaaGreatDoor
namespace Go.Proofs.YtmceaeoeakkppaaGreatDoor
open Go.RowKit Go.Sort
set_option linter.unusedVariables false
/-- May a function be? -/
def fitF (f : Fn) (r : Int) : Bool := goodL f.args r 4 && (good f.ret r && (goodL f.locals r (8 - f.args.length) && (decide (1 ≤ (f.code.length : Int)) && (decide ((f.code.length : Int) ≤ 64) && !(f.code.any fun i => !goodI i)))))
theorem eg_fit1 : ∀ (args : Array Value) (w : World), (callFunc 231 args).run Tryz.prog w = .ok (.enter 231 args) w := eg_of Tryz.func231 (by kernel_rfl) rfl
set_option maxRecDepth 100000 in
set_option maxHeartbeats 4000000 in
theorem fitF_calls {S : Nat → Prop} (w : World) (A0 A3 A4 : Option Addr) (na nl nc d0 d3 d4 : Nat) (rk rn : Int) (args locals : List Ty) (code : List Ins) (r : Int) (ea : args.length = na) (el : locals.length = nl) (ec : code.length = nc) (m0 : na ≤ 140737488351232) (hS : ∀ b, S b → b < w.heap.size) (r0 : k_ty.Row S w A0 args) (r3 : k_ty.Row S w A3 locals) (r4 : k_instr.Row S w A4 code) :
    Calls Tryz.prog 202 #[.agg #[.slice A0 na d0, .int .i64 rk, .int .i64 rn, .slice A3 nl d3, .slice A4 nc d4], .int .i64 r] w fun e w' => e = .returned (.bool (fitF ⟨args, ⟨rk, rn⟩, locals, code⟩ r)) ∧ Below w.heap.size w w' := by
  have hb0 := (Below.refl w.heap.size w).alloc (Nat.le_refl _) (Obj.cells #[.slice A0 na d0, .int .i64 rk, .int .i64 rn, .slice A3 nl d3, .slice A4 nc d4] 67)
  have hx := blk_new w (Obj.cells #[.slice A0 na d0, .int .i64 rk, .int .i64 rn, .slice A3 nl d3, .slice A4 nc d4] 67)
  have hw : IntKind.i64.wrap (8 - (na : Int)) = 8 - na := by rw [IntKind.wrap_i64]; omega
  have keep : ∀ W, Below (w.alloc (Obj.cells #[.slice A0 na d0, .int .i64 rk, .int .i64 rn, .slice A3 nl d3, .slice A4 nc d4] 67)).heap.size (w.alloc (Obj.cells #[.slice A0 na d0, .int .i64 rk, .int .i64 rn, .slice A3 nl d3, .slice A4 nc d4] 67)) W → ∀ b, S b → W.heap[b]? = w.heap[b]? := fun W hW b h => (hW.block b (Nat.lt_of_lt_of_le (hS b h) (by simp))).trans (hb0.block b (hS b h))
  have lt : ∀ W, Below (w.alloc (Obj.cells #[.slice A0 na d0, .int .i64 rk, .int .i64 rn, .slice A3 nl d3, .slice A4 nc d4] 67)).heap.size (w.alloc (Obj.cells #[.slice A0 na d0, .int .i64 rk, .int .i64 rn, .slice A3 nl d3, .slice A4 nc d4] 67)) W → ∀ b, S b → b < W.heap.size := fun W hW b h => Nat.lt_of_lt_of_le (hS b h) (Nat.le_trans (by simp) hW.size)
  have K1 := Lib.hid (fun W hW => goodL_calls W A0 na d0 args r 4 ea (by decide) (lt W hW) (r0.keep (keep W hW)))
  have K2 := Lib.hid (fun W (hW : Below (w.alloc (Obj.cells #[.slice A0 na d0, .int .i64 rk, .int .i64 rn, .slice A3 nl d3, .slice A4 nc d4] 67)).heap.size (w.alloc (Obj.cells #[.slice A0 na d0, .int .i64 rk, .int .i64 rn, .slice A3 nl d3, .slice A4 nc d4] 67)) W) => good_calls W rk rn r)
  have K3 := Lib.hid (fun W hW => goodL_calls W A3 nl d3 locals r (8 - na) el (by omega) (lt W hW) (r3.keep (keep W hW)))
  have K6 : Hid (nc ≤ 64 → ∀ W, Below (w.alloc (Obj.cells #[.slice A0 na d0, .int .i64 rk, .int .i64 rn, .slice A3 nl d3, .slice A4 nc d4] 67)).heap.size (w.alloc (Obj.cells #[.slice A0 na d0, .int .i64 rk, .int .i64 rn, .slice A3 nl d3, .slice A4 nc d4] 67)) W → _) := Lib.hid (fun h W hW => contains_Ins W A4 nc d4 code ec (by omega) (lt W hW) (r4.keep (keep W hW)) 231 eg_fit1 #[] (fun i => !goodI i) (fun W x _ _ _ _ _ => fit1_calls W x))
  have HZ : Hid (fitF ⟨args, ⟨rk, rn⟩, locals, code⟩ r = _) := Lib.hid (show fitF ⟨args, ⟨rk, rn⟩, locals, code⟩ r = (goodL args r 4 && (good ⟨rk, rn⟩ r && (goodL locals r (8 - na) && (decide (1 ≤ (nc : Int)) && (decide ((nc : Int) ≤ 64) && !(code.any fun i => !goodI i)))))) by rw [← ea, ← ec]; rfl)
  have HC : Hid (∀ W, Below (w.alloc (Obj.cells #[.slice A0 na d0, .int .i64 rk, .int .i64 rn, .slice A3 nl d3, .slice A4 nc d4] 67)).heap.size (w.alloc (Obj.cells #[.slice A0 na d0, .int .i64 rk, .int .i64 rn, .slice A3 nl d3, .slice A4 nc d4] 67)) W → W.cell? ⟨w.heap.size, 0, none⟩ = some (Value.slice A0 na d0) ∧ W.cell? ⟨w.heap.size, 1, none⟩ = some (Value.int .i64 rk) ∧ W.cell? ⟨w.heap.size, 2, none⟩ = some (Value.int .i64 rn) ∧ W.cell? ⟨w.heap.size, 3, none⟩ = some (Value.slice A3 nl d3) ∧ W.cell? ⟨w.heap.size, 4, none⟩ = some (Value.slice A4 nc d4)) := Lib.hid (fun W hW => have h := blk_below hx hW (by simp); ⟨blk_cell h 0, blk_cell h 1, blk_cell h 2, blk_cell h 3, blk_cell h 4⟩)
  clear hx hb0 keep lt r0 r3 r4 hS ea el ec
  generalize goodL args r 4 = b1 at *
  generalize good ⟨rk, rn⟩ r = b2 at *
  generalize goodL locals r (8 - na) = b3 at *
  generalize (code.any fun i => !goodI i) = b6 at *
  cases b1
  · focus
      go_enter Tryz.func202, Tryz.ntmps202
      go_wp2_with (first
        | (go_at_call 199; refine (K1.out _ (Below.refl _ _)).mono ?_; clear K1; rintro e w1 ⟨rfl, hc⟩; have hb1 := hc; clear hc; obtain ⟨d0, d1, d2, d3, d4⟩ := HC.out _ hb1))
      go_ret
      exact ⟨ret_bool (by rw [HZ.out]; first | rfl | simp), below_al1 hb1⟩
  cases b2
  · focus
      go_enter Tryz.func202, Tryz.ntmps202
      go_wp2_with (first
        | (go_at_call 199; refine (K1.out _ (Below.refl _ _)).mono ?_; clear K1; rintro e w1 ⟨rfl, hc⟩; have hb1 := hc; clear hc; obtain ⟨d0, d1, d2, d3, d4⟩ := HC.out _ hb1)
        | (go_at_call 204; refine (K2.out _ hb1).mono ?_; clear K2; rintro e w2 ⟨rfl, hc⟩; have hb2 := hb1.trans (hc.mono hb1.size); clear hc; obtain ⟨d0, d1, d2, d3, d4⟩ := HC.out _ hb2))
      go_ret
      exact ⟨ret_bool (by rw [HZ.out]; first | rfl | simp), below_al1 hb2⟩
  cases b3
  · focus
      go_enter Tryz.func202, Tryz.ntmps202
      go_wp2_with (first
        | (go_at_call 199; refine (K1.out _ (Below.refl _ _)).mono ?_; clear K1; rintro e w1 ⟨rfl, hc⟩; have hb1 := hc; clear hc; obtain ⟨d0, d1, d2, d3, d4⟩ := HC.out _ hb1)
        | (go_at_call 204; refine (K2.out _ hb1).mono ?_; clear K2; rintro e w2 ⟨rfl, hc⟩; have hb2 := hb1.trans (hc.mono hb1.size); clear hc; obtain ⟨d0, d1, d2, d3, d4⟩ := HC.out _ hb2)
        | (go_at_call 199; refine (K3.out _ hb2).mono ?_; clear K3; rintro e w3 ⟨rfl, hc⟩; have hb3 := hb2.trans (hc.mono hb2.size); clear hc; obtain ⟨d0, d1, d2, d3, d4⟩ := HC.out _ hb3))
      go_ret
      exact ⟨ret_bool (by rw [HZ.out]; first | rfl | simp), below_al1 hb3⟩
  by_cases h4 : 1 ≤ (nc : Int)
  rotate_left
  · have q : decide (1 ≤ (nc : Int)) = false := decide_eq_false h4
    rw [q] at HZ
    go_enter Tryz.func202, Tryz.ntmps202
    go_wp2_with (first
      | (go_at_call 199; refine (K1.out _ (Below.refl _ _)).mono ?_; clear K1; rintro e w1 ⟨rfl, hc⟩; have hb1 := hc; clear hc; obtain ⟨d0, d1, d2, d3, d4⟩ := HC.out _ hb1)
      | (go_at_call 204; refine (K2.out _ hb1).mono ?_; clear K2; rintro e w2 ⟨rfl, hc⟩; have hb2 := hb1.trans (hc.mono hb1.size); clear hc; obtain ⟨d0, d1, d2, d3, d4⟩ := HC.out _ hb2)
      | (go_at_call 199; refine (K3.out _ hb2).mono ?_; clear K3; rintro e w3 ⟨rfl, hc⟩; have hb3 := hb2.trans (hc.mono hb2.size); clear hc; obtain ⟨d0, d1, d2, d3, d4⟩ := HC.out _ hb3))
    go_ret
    exact ⟨ret_bool (by rw [HZ.out]; first | rfl | simp), below_al1 hb3⟩
  have q4' : decide (1 ≤ (nc : Int)) = true := decide_eq_true h4
  rw [q4'] at HZ
  by_cases h5 : (nc : Int) ≤ 64
  rotate_left
  · have q : decide ((nc : Int) ≤ 64) = false := decide_eq_false h5
    rw [q] at HZ
    go_enter Tryz.func202, Tryz.ntmps202
    go_wp2_with (first
      | (go_at_call 199; refine (K1.out _ (Below.refl _ _)).mono ?_; clear K1; rintro e w1 ⟨rfl, hc⟩; have hb1 := hc; clear hc; obtain ⟨d0, d1, d2, d3, d4⟩ := HC.out _ hb1)
      | (go_at_call 204; refine (K2.out _ hb1).mono ?_; clear K2; rintro e w2 ⟨rfl, hc⟩; have hb2 := hb1.trans (hc.mono hb1.size); clear hc; obtain ⟨d0, d1, d2, d3, d4⟩ := HC.out _ hb2)
      | (go_at_call 199; refine (K3.out _ hb2).mono ?_; clear K3; rintro e w3 ⟨rfl, hc⟩; have hb3 := hb2.trans (hc.mono hb2.size); clear hc; obtain ⟨d0, d1, d2, d3, d4⟩ := HC.out _ hb3))
    go_ret
    exact ⟨ret_bool (by rw [HZ.out]; first | rfl | simp), below_al1 hb3⟩
  have q5 : decide ((nc : Int) ≤ 64) = true := decide_eq_true h5
  rw [q5] at HZ
  have K7 := Lib.hid (K6.out (by omega))
  clear K6
  go_enter Tryz.func202, Tryz.ntmps202
  go_wp2_with (first
    | (go_at_call 199; refine (K1.out _ (Below.refl _ _)).mono ?_; clear K1; rintro e w1 ⟨rfl, hc⟩; have hb1 := hc; clear hc; obtain ⟨d0, d1, d2, d3, d4⟩ := HC.out _ hb1)
    | (go_at_call 204; refine (K2.out _ hb1).mono ?_; clear K2; rintro e w2 ⟨rfl, hc⟩; have hb2 := hb1.trans (hc.mono hb1.size); clear hc; obtain ⟨d0, d1, d2, d3, d4⟩ := HC.out _ hb2)
    | (go_at_call 199; refine (K3.out _ hb2).mono ?_; clear K3; rintro e w3 ⟨rfl, hc⟩; have hb3 := hb2.trans (hc.mono hb2.size); clear hc; obtain ⟨d0, d1, d2, d3, d4⟩ := HC.out _ hb3)
    | (go_at_call 110; refine (K7.out _ hb3).mono ?_; clear K7; rintro e w4 ⟨rfl, hc⟩; have hb4 := hb3.trans (hc.mono hb3.size); clear hc; obtain ⟨d0, d1, d2, d3, d4⟩ := HC.out _ hb4))
  go_ret
  exact ⟨ret_bool (by rw [HZ.out]; first | rfl | simp), below_al1 hb4⟩
end Go.Proofs.YtmceaeoeakkppaaGreatDoor
namespace Go.Proofs.YtmceaeoeakkppaaGreatDoor
open Go.RowKit Go.Sort
set_option linter.unusedVariables false

theorem fits1_calls {S : Nat → Prop} (w : World) (A : Option Addr) (c : Nat) (x : List Ty) (r : Int) (g : Nat) (hc : w.cell? ⟨g, 0, none⟩ = some (.int .i64 r)) (hS : ∀ b, S b → b < w.heap.size) (row : k_ty.Row S w A x) : Calls Tryz.prog 198 #[.slice A x.length c, .pointer (some ⟨g, 0, none⟩)] w fun e w' => e = .returned (.bool (!goodL x r 6)) ∧ Below w.heap.size w w' := by
  have K := Lib.hid (goodL_calls w A x.length c x r 6 rfl (by decide) hS row)
  generalize goodL x r 6 = z at *
  generalize x.length = n at *
  clear row hS
  go_enter Tryz.func198, Tryz.ntmps198
  go_wp2_with (go_at_call 199; refine K.out.mono ?_; rintro e w1 ⟨rfl, hb1⟩)
  go_ret
  exact ⟨rfl, hb1⟩
theorem fits2_calls {S : Nat → Prop} (w : World) (A0 A3 A4 : Option Addr) (d0 d3 d4 : Nat) (x : Fn) (r : Int) (g : Nat) (hc : w.cell? ⟨g, 0, none⟩ = some (.int .i64 r)) (m0 : x.args.length ≤ 140737488351232) (hS : ∀ b, S b → b < w.heap.size) (r0 : k_ty.Row S w A0 x.args) (r3 : k_ty.Row S w A3 x.locals) (r4 : k_instr.Row S w A4 x.code) : Calls Tryz.prog 201 #[.agg #[.slice A0 x.args.length d0, .int .i64 x.ret.kind, .int .i64 x.ret.n, .slice A3 x.locals.length d3, .slice A4 x.code.length d4], .pointer (some ⟨g, 0, none⟩)] w fun e w' => e = .returned (.bool (!fitF x r)) ∧ Below w.heap.size w w' := by
  have hg := World.block_lt_of_cell? w _ hc
  have hb0 : ∀ o, Below w.heap.size w (w.alloc o) := fun o => (Below.refl w.heap.size w).alloc (Nat.le_refl _) o
  have K : Hid (∀ o, Calls Tryz.prog 202 #[.agg #[.slice A0 x.args.length d0, .int .i64 x.ret.kind, .int .i64 x.ret.n, .slice A3 x.locals.length d3, .slice A4 x.code.length d4], .int .i64 r] (w.alloc o) fun e w' => e = .returned (.bool (fitF x r)) ∧ Below (w.alloc o).heap.size (w.alloc o) w') := Lib.hid (fun o => fitF_calls (w.alloc o) A0 A3 A4 _ _ _ d0 d3 d4 _ _ x.args x.locals x.code r rfl rfl rfl m0 (fun b h => Nat.lt_of_lt_of_le (hS b h) (by simp)) (r0.keep (fun b h => (hb0 o).block b (hS b h))) (r3.keep (fun b h => (hb0 o).block b (hS b h))) (r4.keep (fun b h => (hb0 o).block b (hS b h))))
  have hc2 : ∀ o, (w.alloc o).cell? ⟨g, 0, none⟩ = some (.int .i64 r) := fun o => ((hb0 o).cell (p := ⟨g, 0, none⟩) hg).trans hc
  generalize fitF x r = z at *
  generalize x.args.length = n at *
  generalize x.locals.length = n at *
  generalize x.code.length = n at *
  clear r0 r3 r4 hS hb0 hc m0
  go_enter Tryz.func201, Tryz.ntmps201
  go_wp2_with (go_at_call 202; refine (K.out _).mono ?_; rintro e w1 ⟨rfl, hb1⟩)
  go_ret
  exact ⟨rfl, below_al1 hb1⟩
theorem fits3_calls {S : Nat → Prop} (w : World) (A0 : Option Addr) (d0 : Nat) (x : Imp) (r : Int) (g : Nat) (hc : w.cell? ⟨g, 0, none⟩ = some (.int .i64 r)) (hS : ∀ b, S b → b < w.heap.size) (r0 : k_ty.Row S w A0 x.args) : Calls Tryz.prog 203 #[.agg #[.slice A0 x.args.length d0, .int .i64 x.ret.kind, .int .i64 x.ret.n], .pointer (some ⟨g, 0, none⟩)] w fun e w' => e = .returned (.bool (!goodL x.args r 4 || !good x.ret r)) ∧ Below w.heap.size w w' := by
  have hg := World.block_lt_of_cell? w _ hc
  have hb0 : ∀ o, Below w.heap.size w (w.alloc o) := fun o => (Below.refl w.heap.size w).alloc (Nat.le_refl _) o
  have hx := fun o => blk_new w o
  have K : Hid (∀ o, Calls Tryz.prog 199 #[.slice A0 x.args.length d0, .int .i64 r, .int .i64 4] (w.alloc o) fun e w' => e = .returned (.bool (goodL x.args r 4)) ∧ Below (w.alloc o).heap.size (w.alloc o) w') := Lib.hid (fun o => goodL_calls (w.alloc o) A0 _ d0 x.args r 4 rfl (by decide) (fun b h => Nat.lt_of_lt_of_le (hS b h) (by simp)) (r0.keep (fun b h => (hb0 o).block b (hS b h))))
  have K2 := Lib.hid (fun W => good_calls W x.ret.kind x.ret.n r)
  have HC : Hid (∀ W, Below (w.alloc (Obj.cells #[.slice A0 x.args.length d0, .int .i64 x.ret.kind, .int .i64 x.ret.n] 79)).heap.size (w.alloc (Obj.cells #[.slice A0 x.args.length d0, .int .i64 x.ret.kind, .int .i64 x.ret.n] 79)) W → W.cell? ⟨w.heap.size, 1, none⟩ = some (Value.int .i64 x.ret.kind) ∧ W.cell? ⟨w.heap.size, 2, none⟩ = some (Value.int .i64 x.ret.n) ∧ W.cell? ⟨g, 0, none⟩ = some (.int .i64 r)) := Lib.hid (fun W hW => have h := blk_below (hx _) hW (by simp); ⟨blk_cell h 1, blk_cell h 2, (hW.cell (p := ⟨g, 0, none⟩) (Nat.lt_of_lt_of_le hg (by simp))).trans (((hb0 _).cell (p := ⟨g, 0, none⟩) hg).trans hc)⟩)
  have hc2 : ∀ o, (w.alloc o).cell? ⟨g, 0, none⟩ = some (.int .i64 r) := fun o => ((hb0 o).cell (p := ⟨g, 0, none⟩) hg).trans hc
  generalize goodL x.args r 4 = z at *
  generalize good x.ret r = y at *
  generalize x.args.length = n at *
  clear r0 hS hb0 hc hx
  cases z
  all_goals
    go_enter Tryz.func203, Tryz.ntmps203
    go_wp2_with (first
      | (go_at_call 199; refine (K.out _).mono ?_; rintro e w1 ⟨rfl, hb1⟩; obtain ⟨d1, d2, d3⟩ := HC.out _ hb1)
      | (go_at_call 204; refine (K2.out _).mono ?_; rintro e w2 ⟨rfl, hb2⟩))
    go_ret
    first
      | exact ⟨rfl, below_al1 (hb1.trans (hb2.mono hb1.size))⟩
      | exact ⟨rfl, below_al1 hb1⟩
theorem fits4_calls (w : World) (x : ByteArray) : Calls Tryz.prog 206 #[.string x] w fun e w' => e = .returned (.bool (decide (32 < (x.size : Int)))) ∧ Below w.heap.size w w' := by
  go_enter Tryz.func206, Tryz.ntmps206
  go_wp2
  go_ret
  exact ⟨rfl, Below.refl _ _⟩
theorem eg_fits1 : ∀ (args : Array Value) (w : World), (callFunc 198 args).run Tryz.prog w = .ok (.enter 198 args) w := eg_of Tryz.func198 (by kernel_rfl) rfl
theorem eg_fits2 : ∀ (args : Array Value) (w : World), (callFunc 201 args).run Tryz.prog w = .ok (.enter 201 args) w := eg_of Tryz.func201 (by kernel_rfl) rfl
theorem eg_fits3 : ∀ (args : Array Value) (w : World), (callFunc 203 args).run Tryz.prog w = .ok (.enter 203 args) w := eg_of Tryz.func203 (by kernel_rfl) rfl
theorem eg_fits4 : ∀ (args : Array Value) (w : World), (callFunc 206 args).run Tryz.prog w = .ok (.enter 206 args) w := eg_of Tryz.func206 (by kernel_rfl) rfl
/-- May a module be? -/
def fitsM (m : Md) : Bool := decide ((m.recs.length : Int) ≤ 8) && (!(m.recs.any fun x => !goodL x m.recs.length 6) && (decide (1 ≤ (m.funcs.length : Int)) && (decide ((m.funcs.length : Int) ≤ 8) && (!(m.funcs.any fun x => !fitF x m.recs.length) && (decide ((m.imports.length : Int) ≤ 8) && (!(m.imports.any fun x => (!goodL x.args m.recs.length 4 || !good x.ret m.recs.length)) && (decide ((m.ints.length : Int) ≤ 16) && (decide ((m.texts.length : Int) ≤ 16) && !(m.texts.any fun x => decide (32 < (x.size : Int)))))))))))
set_option maxRecDepth 100000 in
set_option maxHeartbeats 4000000 in
theorem fitsM_calls {S : Nat → Prop} (w : World) (A0 A1 A2 A3 A4 : Option Addr) (n0 n1 n2 n3 n4 c0 c1 c2 c3 c4 : Nat) (m : Md) (e0 : m.recs.length = n0) (e1 : m.funcs.length = n1) (e2 : m.imports.length = n2) (e3 : m.ints.length = n3) (e4 : m.texts.length = n4) (hS : ∀ b, S b → b < w.heap.size) (r0 : (Rd.slice k_ty).Row S w A0 m.recs) (r1 : k_func.Row S w A1 m.funcs) (r2 : k_imp.Row S w A2 m.imports) (r4 : Rd.str.Row S w A4 m.texts) :
    Calls Tryz.prog 149 #[.agg #[.slice A0 n0 c0, .slice A1 n1 c1, .slice A2 n2 c2, .slice A3 n3 c3, .slice A4 n4 c4]] w fun e w' => e = .returned (.bool (fitsM m)) ∧ Below w.heap.size w w' := by
  have hV : Below w.heap.size w ((w.alloc (Obj.cells #[.slice A0 n0 c0, .slice A1 n1 c1, .slice A2 n2 c2, .slice A3 n3 c3, .slice A4 n4 c4] 28)).alloc (Obj.cells #[.int .i64 (n0 : Int)] 3)) := below_al2 (Below.refl _ _)
  have hm : (((w.alloc (Obj.cells #[.slice A0 n0 c0, .slice A1 n1 c1, .slice A2 n2 c2, .slice A3 n3 c3, .slice A4 n4 c4] 28)).alloc (Obj.cells #[.int .i64 (n0 : Int)] 3))).heap[w.heap.size]? = some (Obj.cells #[.slice A0 n0 c0, .slice A1 n1 c1, .slice A2 n2 c2, .slice A3 n3 c3, .slice A4 n4 c4] 28 (0, 0)) := blk_alloc (blk_new w _) _
  have hx : (((w.alloc (Obj.cells #[.slice A0 n0 c0, .slice A1 n1 c1, .slice A2 n2 c2, .slice A3 n3 c3, .slice A4 n4 c4] 28)).alloc (Obj.cells #[.int .i64 (n0 : Int)] 3))).heap[w.heap.size + 1]? = some (Obj.cells #[.int .i64 (n0 : Int)] 3 (0, 0)) := blk_new2 w _ _
  have keep : ∀ W, Below (((w.alloc (Obj.cells #[.slice A0 n0 c0, .slice A1 n1 c1, .slice A2 n2 c2, .slice A3 n3 c3, .slice A4 n4 c4] 28)).alloc (Obj.cells #[.int .i64 (n0 : Int)] 3))).heap.size ((w.alloc (Obj.cells #[.slice A0 n0 c0, .slice A1 n1 c1, .slice A2 n2 c2, .slice A3 n3 c3, .slice A4 n4 c4] 28)).alloc (Obj.cells #[.int .i64 (n0 : Int)] 3)) W → ∀ b, S b → W.heap[b]? = w.heap[b]? := fun W hW b h => (hW.block b (Nat.lt_of_lt_of_le (hS b h) (by simp <;> omega))).trans (hV.block b (hS b h))
  have lt : ∀ W, Below (((w.alloc (Obj.cells #[.slice A0 n0 c0, .slice A1 n1 c1, .slice A2 n2 c2, .slice A3 n3 c3, .slice A4 n4 c4] 28)).alloc (Obj.cells #[.int .i64 (n0 : Int)] 3))).heap.size ((w.alloc (Obj.cells #[.slice A0 n0 c0, .slice A1 n1 c1, .slice A2 n2 c2, .slice A3 n3 c3, .slice A4 n4 c4] 28)).alloc (Obj.cells #[.int .i64 (n0 : Int)] 3)) W → ∀ b, S b → b < W.heap.size := fun W hW b h => Nat.lt_of_lt_of_le (hS b h) (Nat.le_trans (by simp <;> omega) hW.size)
  have HC : Hid (∀ W, Below (((w.alloc (Obj.cells #[.slice A0 n0 c0, .slice A1 n1 c1, .slice A2 n2 c2, .slice A3 n3 c3, .slice A4 n4 c4] 28)).alloc (Obj.cells #[.int .i64 (n0 : Int)] 3))).heap.size ((w.alloc (Obj.cells #[.slice A0 n0 c0, .slice A1 n1 c1, .slice A2 n2 c2, .slice A3 n3 c3, .slice A4 n4 c4] 28)).alloc (Obj.cells #[.int .i64 (n0 : Int)] 3)) W → W.cell? ⟨w.heap.size, 0, none⟩ = some (Value.slice A0 n0 c0) ∧ W.cell? ⟨w.heap.size, 1, none⟩ = some (Value.slice A1 n1 c1) ∧ W.cell? ⟨w.heap.size, 2, none⟩ = some (Value.slice A2 n2 c2) ∧ W.cell? ⟨w.heap.size, 3, none⟩ = some (Value.slice A3 n3 c3) ∧ W.cell? ⟨w.heap.size, 4, none⟩ = some (Value.slice A4 n4 c4) ∧ W.cell? ⟨w.heap.size + 1, 0, none⟩ = some (Value.int .i64 (n0 : Int))) :=
    Lib.hid (fun W hW => have h := blk_below hm hW (by simp <;> omega); have h' := blk_below hx hW (by simp); ⟨blk_cell h 0, blk_cell h 1, blk_cell h 2, blk_cell h 3, blk_cell h 4, blk_cell h' 0⟩)
  have cn : ∀ W W', Below (((w.alloc (Obj.cells #[.slice A0 n0 c0, .slice A1 n1 c1, .slice A2 n2 c2, .slice A3 n3 c3, .slice A4 n4 c4] 28)).alloc (Obj.cells #[.int .i64 (n0 : Int)] 3))).heap.size ((w.alloc (Obj.cells #[.slice A0 n0 c0, .slice A1 n1 c1, .slice A2 n2 c2, .slice A3 n3 c3, .slice A4 n4 c4] 28)).alloc (Obj.cells #[.int .i64 (n0 : Int)] 3)) W → Below W.heap.size W W' → W'.cell? ⟨w.heap.size + 1, 0, none⟩ = some (Value.int .i64 (n0 : Int)) := fun W W' hW hW' => (HC.out W' (hW.trans (hW'.mono hW.size))).2.2.2.2.2
  have K1 : Hid (n0 ≤ 8 → ∀ W, Below (((w.alloc (Obj.cells #[.slice A0 n0 c0, .slice A1 n1 c1, .slice A2 n2 c2, .slice A3 n3 c3, .slice A4 n4 c4] 28)).alloc (Obj.cells #[.int .i64 (n0 : Int)] 3))).heap.size ((w.alloc (Obj.cells #[.slice A0 n0 c0, .slice A1 n1 c1, .slice A2 n2 c2, .slice A3 n3 c3, .slice A4 n4 c4] 28)).alloc (Obj.cells #[.int .i64 (n0 : Int)] 3)) W → _) := Lib.hid (fun h W hW => contains_Sl W A0 n0 c0 m.recs e0 (by omega) (lt W hW) (r0.keep (keep W hW)) 198 eg_fits1 #[.pointer (some ⟨w.heap.size + 1, 0, none⟩)] (fun x => !goodL x n0 6)
    (fun W' x A c _ _ _ rx hb => fits1_calls W' A c x n0 _ (cn W W' hW hb) (lt W' (hW.trans (hb.mono hW.size))) rx))
  have K2 : Hid (n1 ≤ 8 → ∀ W, Below (((w.alloc (Obj.cells #[.slice A0 n0 c0, .slice A1 n1 c1, .slice A2 n2 c2, .slice A3 n3 c3, .slice A4 n4 c4] 28)).alloc (Obj.cells #[.int .i64 (n0 : Int)] 3))).heap.size ((w.alloc (Obj.cells #[.slice A0 n0 c0, .slice A1 n1 c1, .slice A2 n2 c2, .slice A3 n3 c3, .slice A4 n4 c4] 28)).alloc (Obj.cells #[.int .i64 (n0 : Int)] 3)) W → _) := Lib.hid (fun h W hW => contains_Fn W A1 n1 c1 m.funcs e1 (by omega) (lt W hW) (r1.keep (keep W hW)) 201 eg_fits2 #[.pointer (some ⟨w.heap.size + 1, 0, none⟩)] (fun x => !fitF x n0)
    (fun W' x B0 d0 B3 d3 B4 d4 _ _ m0 s0 _ _ _ _ s3 _ _ s4 hb => fits2_calls W' B0 B3 B4 d0 d3 d4 x n0 _ (cn W W' hW hb) m0 (lt W' (hW.trans (hb.mono hW.size))) s0 s3 s4))
  have K3 : Hid (n2 ≤ 8 → ∀ W, Below (((w.alloc (Obj.cells #[.slice A0 n0 c0, .slice A1 n1 c1, .slice A2 n2 c2, .slice A3 n3 c3, .slice A4 n4 c4] 28)).alloc (Obj.cells #[.int .i64 (n0 : Int)] 3))).heap.size ((w.alloc (Obj.cells #[.slice A0 n0 c0, .slice A1 n1 c1, .slice A2 n2 c2, .slice A3 n3 c3, .slice A4 n4 c4] 28)).alloc (Obj.cells #[.int .i64 (n0 : Int)] 3)) W → _) := Lib.hid (fun h W hW => contains_Imp W A2 n2 c2 m.imports e2 (by omega) (lt W hW) (r2.keep (keep W hW)) 203 eg_fits3 #[.pointer (some ⟨w.heap.size + 1, 0, none⟩)] (fun x => (!goodL x.args n0 4 || !good x.ret n0))
    (fun W' x B0 d0 _ _ _ s0 _ _ hb => fits3_calls W' B0 d0 x n0 _ (cn W W' hW hb) (lt W' (hW.trans (hb.mono hW.size))) s0))
  have K4 : Hid (n4 ≤ 16 → ∀ W, Below (((w.alloc (Obj.cells #[.slice A0 n0 c0, .slice A1 n1 c1, .slice A2 n2 c2, .slice A3 n3 c3, .slice A4 n4 c4] 28)).alloc (Obj.cells #[.int .i64 (n0 : Int)] 3))).heap.size ((w.alloc (Obj.cells #[.slice A0 n0 c0, .slice A1 n1 c1, .slice A2 n2 c2, .slice A3 n3 c3, .slice A4 n4 c4] 28)).alloc (Obj.cells #[.int .i64 (n0 : Int)] 3)) W → _) := Lib.hid (fun h W hW => contains_Str W A4 n4 c4 m.texts e4 (by omega) (lt W hW) (r4.keep (keep W hW)) 206 eg_fits4 #[] (fun x => decide (32 < (x.size : Int)))
    (fun W' x _ _ _ => fits4_calls W' x))
  have HZ : Hid (fitsM m = _) := Lib.hid (show fitsM m = (decide ((n0 : Int) ≤ 8) && (!(m.recs.any fun x => !goodL x n0 6) && (decide (1 ≤ (n1 : Int)) && (decide ((n1 : Int) ≤ 8) && (!(m.funcs.any fun x => !fitF x n0) && (decide ((n2 : Int) ≤ 8) && (!(m.imports.any fun x => (!goodL x.args n0 4 || !good x.ret n0)) && (decide ((n3 : Int) ≤ 16) && (decide ((n4 : Int) ≤ 16) && !(m.texts.any fun x => decide (32 < (x.size : Int)))))))))))) by rw [← e0, ← e1, ← e2, ← e3, ← e4]; rfl)
  clear hm hx keep lt cn r0 r1 r2 r4 hS e0 e1 e2 e3 e4 hV
  generalize (m.recs.any fun x => !goodL x n0 6) = a1 at *
  generalize (m.funcs.any fun x => !fitF x n0) = a2 at *
  generalize (m.imports.any fun x => (!goodL x.args n0 4 || !good x.ret n0)) = a3 at *
  generalize (m.texts.any fun x => decide (32 < (x.size : Int))) = a4 at *
  by_cases h1 : (n0 : Int) ≤ 8
  rotate_left
  · have q : decide ((n0 : Int) ≤ 8) = false := decide_eq_false h1
    rw [q] at HZ
    go_enter Tryz.func149, Tryz.ntmps149
    go_wp2
    go_ret
    exact ⟨ret_bool (by rw [HZ.out]; first | rfl | simp), below_al2 (Below.refl _ _)⟩
  have q1 : decide ((n0 : Int) ≤ 8) = true := decide_eq_true h1
  rw [q1] at HZ
  replace K1 := Lib.hid (K1.out (by omega))
  cases a1
  rotate_left
  · focus
      go_enter Tryz.func149, Tryz.ntmps149
      go_wp2_with (first
        | (go_at_call 197; refine (K1.out _ (Below.refl _ _)).mono ?_; clear K1; rintro e w1 ⟨rfl, hc⟩; have hb1 := hc; clear hc; obtain ⟨d0, d1, d2, d3, d4, d5⟩ := HC.out _ hb1))
      go_ret
      exact ⟨ret_bool (by rw [HZ.out]; first | rfl | simp), below_al2 hb1⟩
  by_cases h2 : 1 ≤ (n1 : Int)
  rotate_left
  · have q : decide (1 ≤ (n1 : Int)) = false := decide_eq_false h2
    rw [q] at HZ
    go_enter Tryz.func149, Tryz.ntmps149
    go_wp2_with (first
      | (go_at_call 197; refine (K1.out _ (Below.refl _ _)).mono ?_; clear K1; rintro e w1 ⟨rfl, hc⟩; have hb1 := hc; clear hc; obtain ⟨d0, d1, d2, d3, d4, d5⟩ := HC.out _ hb1))
    go_ret
    exact ⟨ret_bool (by rw [HZ.out]; first | rfl | simp), below_al2 hb1⟩
  have q2 : decide (1 ≤ (n1 : Int)) = true := decide_eq_true h2
  rw [q2] at HZ
  by_cases h3 : (n1 : Int) ≤ 8
  rotate_left
  · have q : decide ((n1 : Int) ≤ 8) = false := decide_eq_false h3
    rw [q] at HZ
    go_enter Tryz.func149, Tryz.ntmps149
    go_wp2_with (first
      | (go_at_call 197; refine (K1.out _ (Below.refl _ _)).mono ?_; clear K1; rintro e w1 ⟨rfl, hc⟩; have hb1 := hc; clear hc; obtain ⟨d0, d1, d2, d3, d4, d5⟩ := HC.out _ hb1))
    go_ret
    exact ⟨ret_bool (by rw [HZ.out]; first | rfl | simp), below_al2 hb1⟩
  have q3 : decide ((n1 : Int) ≤ 8) = true := decide_eq_true h3
  rw [q3] at HZ
  replace K2 := Lib.hid (K2.out (by omega))
  cases a2
  rotate_left
  · focus
      go_enter Tryz.func149, Tryz.ntmps149
      go_wp2_with (first
        | (go_at_call 197; refine (K1.out _ (Below.refl _ _)).mono ?_; clear K1; rintro e w1 ⟨rfl, hc⟩; have hb1 := hc; clear hc; obtain ⟨d0, d1, d2, d3, d4, d5⟩ := HC.out _ hb1)
        | (go_at_call 200; refine (K2.out _ hb1).mono ?_; clear K2; rintro e w2 ⟨rfl, hc⟩; have hb2 := hb1.trans (hc.mono hb1.size); clear hc; obtain ⟨d0, d1, d2, d3, d4, d5⟩ := HC.out _ hb2))
      go_ret
      exact ⟨ret_bool (by rw [HZ.out]; first | rfl | simp), below_al2 hb2⟩
  by_cases h4 : (n2 : Int) ≤ 8
  rotate_left
  · have q : decide ((n2 : Int) ≤ 8) = false := decide_eq_false h4
    rw [q] at HZ
    go_enter Tryz.func149, Tryz.ntmps149
    go_wp2_with (first
      | (go_at_call 197; refine (K1.out _ (Below.refl _ _)).mono ?_; clear K1; rintro e w1 ⟨rfl, hc⟩; have hb1 := hc; clear hc; obtain ⟨d0, d1, d2, d3, d4, d5⟩ := HC.out _ hb1)
      | (go_at_call 200; refine (K2.out _ hb1).mono ?_; clear K2; rintro e w2 ⟨rfl, hc⟩; have hb2 := hb1.trans (hc.mono hb1.size); clear hc; obtain ⟨d0, d1, d2, d3, d4, d5⟩ := HC.out _ hb2))
    go_ret
    exact ⟨ret_bool (by rw [HZ.out]; first | rfl | simp), below_al2 hb2⟩
  have q4 : decide ((n2 : Int) ≤ 8) = true := decide_eq_true h4
  rw [q4] at HZ
  replace K3 := Lib.hid (K3.out (by omega))
  cases a3
  rotate_left
  · focus
      go_enter Tryz.func149, Tryz.ntmps149
      go_wp2_with (first
        | (go_at_call 197; refine (K1.out _ (Below.refl _ _)).mono ?_; clear K1; rintro e w1 ⟨rfl, hc⟩; have hb1 := hc; clear hc; obtain ⟨d0, d1, d2, d3, d4, d5⟩ := HC.out _ hb1)
        | (go_at_call 200; refine (K2.out _ hb1).mono ?_; clear K2; rintro e w2 ⟨rfl, hc⟩; have hb2 := hb1.trans (hc.mono hb1.size); clear hc; obtain ⟨d0, d1, d2, d3, d4, d5⟩ := HC.out _ hb2)
        | (go_at_call 116; refine (K3.out _ hb2).mono ?_; clear K3; rintro e w3 ⟨rfl, hc⟩; have hb3 := hb2.trans (hc.mono hb2.size); clear hc; obtain ⟨d0, d1, d2, d3, d4, d5⟩ := HC.out _ hb3))
      go_ret
      exact ⟨ret_bool (by rw [HZ.out]; first | rfl | simp), below_al2 hb3⟩
  by_cases h5 : (n3 : Int) ≤ 16
  rotate_left
  · have q : decide ((n3 : Int) ≤ 16) = false := decide_eq_false h5
    rw [q] at HZ
    go_enter Tryz.func149, Tryz.ntmps149
    go_wp2_with (first
      | (go_at_call 197; refine (K1.out _ (Below.refl _ _)).mono ?_; clear K1; rintro e w1 ⟨rfl, hc⟩; have hb1 := hc; clear hc; obtain ⟨d0, d1, d2, d3, d4, d5⟩ := HC.out _ hb1)
      | (go_at_call 200; refine (K2.out _ hb1).mono ?_; clear K2; rintro e w2 ⟨rfl, hc⟩; have hb2 := hb1.trans (hc.mono hb1.size); clear hc; obtain ⟨d0, d1, d2, d3, d4, d5⟩ := HC.out _ hb2)
      | (go_at_call 116; refine (K3.out _ hb2).mono ?_; clear K3; rintro e w3 ⟨rfl, hc⟩; have hb3 := hb2.trans (hc.mono hb2.size); clear hc; obtain ⟨d0, d1, d2, d3, d4, d5⟩ := HC.out _ hb3))
    go_ret
    exact ⟨ret_bool (by rw [HZ.out]; first | rfl | simp), below_al2 hb3⟩
  have q5 : decide ((n3 : Int) ≤ 16) = true := decide_eq_true h5
  rw [q5] at HZ
  by_cases h6 : (n4 : Int) ≤ 16
  rotate_left
  · have q : decide ((n4 : Int) ≤ 16) = false := decide_eq_false h6
    rw [q] at HZ
    go_enter Tryz.func149, Tryz.ntmps149
    go_wp2_with (first
      | (go_at_call 197; refine (K1.out _ (Below.refl _ _)).mono ?_; clear K1; rintro e w1 ⟨rfl, hc⟩; have hb1 := hc; clear hc; obtain ⟨d0, d1, d2, d3, d4, d5⟩ := HC.out _ hb1)
      | (go_at_call 200; refine (K2.out _ hb1).mono ?_; clear K2; rintro e w2 ⟨rfl, hc⟩; have hb2 := hb1.trans (hc.mono hb1.size); clear hc; obtain ⟨d0, d1, d2, d3, d4, d5⟩ := HC.out _ hb2)
      | (go_at_call 116; refine (K3.out _ hb2).mono ?_; clear K3; rintro e w3 ⟨rfl, hc⟩; have hb3 := hb2.trans (hc.mono hb2.size); clear hc; obtain ⟨d0, d1, d2, d3, d4, d5⟩ := HC.out _ hb3))
    go_ret
    exact ⟨ret_bool (by rw [HZ.out]; first | rfl | simp), below_al2 hb3⟩
  have q6 : decide ((n4 : Int) ≤ 16) = true := decide_eq_true h6
  rw [q6] at HZ
  replace K4 := Lib.hid (K4.out (by omega))
  go_enter Tryz.func149, Tryz.ntmps149
  go_wp2_with (first
    | (go_at_call 197; refine (K1.out _ (Below.refl _ _)).mono ?_; clear K1; rintro e w1 ⟨rfl, hc⟩; have hb1 := hc; clear hc; obtain ⟨d0, d1, d2, d3, d4, d5⟩ := HC.out _ hb1)
    | (go_at_call 200; refine (K2.out _ hb1).mono ?_; clear K2; rintro e w2 ⟨rfl, hc⟩; have hb2 := hb1.trans (hc.mono hb1.size); clear hc; obtain ⟨d0, d1, d2, d3, d4, d5⟩ := HC.out _ hb2)
    | (go_at_call 116; refine (K3.out _ hb2).mono ?_; clear K3; rintro e w3 ⟨rfl, hc⟩; have hb3 := hb2.trans (hc.mono hb2.size); clear hc; obtain ⟨d0, d1, d2, d3, d4, d5⟩ := HC.out _ hb3)
    | (go_at_call 205; refine (K4.out _ hb3).mono ?_; clear K4; rintro e w4 ⟨rfl, hc⟩; have hb4 := hb3.trans (hc.mono hb3.size); clear hc; obtain ⟨d0, d1, d2, d3, d4, d5⟩ := HC.out _ hb4))
  go_ret
  exact ⟨ret_bool (by rw [HZ.out]; first | rfl | simp), below_al2 hb4⟩
end Go.Proofs.YtmceaeoeakkppaaGreatDoor
namespace Go.Proofs.YtmceaeoeakkppaaGreatDoor
open Go.RowKit
set_option linter.unusedVariables false
/-- The lowest k bytes. -/
def fixB (v k : Nat) : List Int := (List.range k).map fun i => ((v / 256 ^ i % 256 : Nat) : Int)
theorem fixB_succ (v k : Nat) : fixB v (k + 1) = fixB v k ++ [((v / 256 ^ k % 256 : Nat) : Int)] := by
  unfold fixB; rw [List.range_succ, List.map_append]; rfl
theorem fixB_len (v k : Nat) : (fixB v k).length = k := by simp [fixB]
theorem fixB_isB (v k : Nat) : isB (fixB v k) := by
  intro x hx
  simp only [fixB, List.mem_map] at hx
  obtain ⟨i, _, rfl⟩ := hx
  omega
theorem shr8 (v k : Nat) : (v : Int) / 2 ^ (8 * k) % 256 = ((v / 256 ^ k % 256 : Nat) : Int) := by
  have h : (2 : Nat) ^ (8 * k) = 256 ^ k := by rw [Nat.pow_mul]
  have h2 : ((2 : Int) ^ (8 * k)) = ((2 ^ (8 * k) : Nat) : Int) := by rw [Int.natCast_pow]; rfl
  rw [h2, h, ← Int.natCast_ediv]
  omega
set_option maxRecDepth 100000 in
theorem fixed_calls (w : World) (v : Nat) (n : Int) (hv : v < 18446744073709551616) : Calls Tryz.prog 212 #[.int .u64 v, .int .i64 n] w fun e w' => ∃ A c, e = .returned (.slice A (cnt n) c) ∧ w'.ownsRow w.heap.size 5 1 (.slice A (cnt n) c) (cnt n) (bcells (fixB v (cnt n))) ∧ Below w.heap.size w w' := by
  have hc8 := cnt_le n
  have hway : n < 0 ∨ (¬ n < 0 ∧ 8 < n) ∨ (0 ≤ n ∧ n ≤ 8) := by omega
  have hcn : (cnt n : Int) = if n < 0 then 0 else if 8 < n then 8 else n := by unfold cnt; split; rfl; split; rfl; omega
  rcases hway with h | ⟨h1, h2⟩ | ⟨h1, h2⟩
  all_goals
    first | rw [if_pos h] at hcn | rw [if_neg h1, if_pos h2] at hcn | rw [if_neg (by omega), if_neg (by omega)] at hcn
    go_enter Tryz.func212, Tryz.ntmps212
    go_wp2
    go_loopw [5, 10] (fun out i wr => ∃ (k : Nat) (A : Option Addr) (c : Nat), k ≤ cnt n ∧ i = .int .i64 k ∧ out = .slice A k c ∧ Hid (wr.ownsRow w.heap.size 5 1 (.slice A k c) k (bcells (fixB v k))) ∧ Below w.heap.size w wr) (fun _ i _ => 8 - (intOf i).toNat)
    case atStart => exact ⟨0, none, 0, by omega, rfl, rfl, Lib.hid ⟨rfl, .inl ⟨rfl, rfl⟩⟩, Below.refl _ _⟩
    case round =>
      obtain ⟨k, A, c, hk, rfl, rfl, HO, hb⟩ := hrel
      have hsz := hb.size
      by_cases hlt : k < cnt n
      · have HB8 := Lib.hid (shr8 v k)
        have hnn : 0 < cnt n := by omega
        go_wp2_with (at_builtin; refine list_app _ rfl (.tmp 13) (.tmp 19) _ rfl 5 Tryz.underlying74 byte_info rfl (by decide) (by decide) w.heap.size (n := k) (xs := bcells (fixB v k)) rfl (by exact HO.out.alloc _) (news := [.int .u8 ((v : Int) / 2 ^ (8 * k) % 256)]) rfl rfl (by exact lie_new _ _ _ rfl) (by exact byte1 _) (by omega) (by simp; omega) ?_; intro v' w3 hown hg hat; have hB := Lib.hid (grown_below (hb.alloc hsz _) hg (by simp; omega) (own_row_ge HO.out)); obtain ⟨A3, c3, rfl, hn3, _, _⟩ := own_shape hown; have HO3 := Lib.hid hown; clear hown hg hat)
        all_goals go_roundw
        all_goals first
          | (case rel => exact ⟨k + 1, A3, c3, by omega, by go_num, rfl, Lib.hid (by rw [fixB_succ, bsnoc, ← HB8.out]; exact HO3.out), hB.out⟩)
          | (case measure => simp [intOf]; omega)
      · have he : k = cnt n := by omega
        subst he
        go_wp2
        go_ret
        exact ⟨_, _, rfl, HO.out, hb⟩
def partsB (l : List (List Int)) : List Int := l.flatMap fun p => varB p.length ++ p
def joinB (l : List (List Int)) : List Int := varB l.length ++ partsB l
theorem partsB_cons (p : List Int) (l : List (List Int)) : partsB (p :: l) = varB p.length ++ p ++ partsB l := by simp [partsB]
theorem partsB_snoc (l : List (List Int)) (p : List Int) : partsB (l ++ [p]) = partsB l ++ (varB p.length ++ p) := by simp [partsB]
theorem joinB_isB {l : List (List Int)} (h : ∀ p ∈ l, isB p) : isB (joinB l) := by
  unfold joinB
  refine isB_append (varB_isB _) ?_
  intro x hx
  simp only [partsB, List.mem_flatMap, List.mem_append] at hx
  obtain ⟨p, hp, hx | hx⟩ := hx
  · exact varB_isB _ x hx
  · exact h p hp x hx
/-- With something behind it a Join is none. -/
theorem row_sl_at {S : Nat → Prop} {w : World} {A : Option Addr} {l : List (List Int)} {k : Nat} {p : List Int} (h : (Rd.slice (Rd.int .u8)).Row S w A l) (hk : l[k]? = some p) : ∃ b o B c, A = some ⟨b, o, none⟩ ∧ S b ∧ w.cell? ⟨b, o + k, none⟩ = some (.slice B p.length c) ∧ p.length ≤ c ∧ (Rd.int .u8).Row S w B p := by
  obtain ⟨hlt, he⟩ := List.getElem?_eq_some_iff.1 hk
  obtain ⟨b, o, e, hb, hc⟩ := h (by omega)
  obtain ⟨cs, ⟨v, rfl, B, c, rfl, h1, h2, h3⟩, hcell⟩ := hc k hlt
  rw [he] at h1 h3 hcell
  have := hcell 0 _ rfl
  refine ⟨b, o, B, c, e, hb, ?_, h1, h3⟩
  simpa [Rd.slice] using this
theorem partsB_take (l : List (List Int)) (k : Nat) : (partsB (l.take k)).length ≤ (partsB l).length := by
  have h : partsB l = partsB (l.take k) ++ partsB (l.drop k) := by
    have h2 : partsB (l.take k ++ l.drop k) = partsB (l.take k) ++ partsB (l.drop k) := by unfold partsB; rw [List.flatMap_append]
    rwa [List.take_append_drop] at h2
  rw [h, List.length_append]
  omega
theorem partsB_len {l : List (List Int)} {M : Nat} (hM : M < 18446744073709551616) (h : ∀ p ∈ l, p.length ≤ M) : (partsB l).length ≤ l.length * (M + 10) := by
  induction l with
  | nil => simp [partsB]
  | cons p l ih =>
    have h1 := h p (by simp)
    have h2 := ih (fun q hq => h q (by simp [hq]))
    have h3 := varB_ten (v := p.length) (by omega)
    rw [partsB_cons, List.length_append, List.length_append, List.length_cons, Nat.add_mul]
    omega
theorem partsB_part {l : List (List Int)} {p : List Int} (h : p ∈ l) : p.length ≤ (partsB l).length := by
  obtain ⟨k, hk⟩ := List.getElem?_of_mem h
  have h1 := partsB_take l (k + 1)
  rw [List.take_add_one, hk, Option.toList_some, partsB_snoc, List.length_append, List.length_append] at h1
  omega
set_option maxRecDepth 100000 in
set_option maxHeartbeats 2000000 in
theorem pjoin_calls {S : Nat → Prop} (w : World) (A : Option Addr) (n c : Nat) (l : List (List Int)) (hn : l.length = n) (hm : n ≤ 300) (T : Nat) (hT : (partsB l).length ≤ T) (hT2 : T ≤ 600000) (hS : ∀ b, S b → b < w.heap.size) (hrow : (Rd.slice (Rd.int .u8)).Row S w A l) : Calls Tryz.prog 150 #[.slice A n c] w fun e w' => ∃ A' c', e = .returned (.slice A' (joinB l).length c') ∧ w'.ownsRow w.heap.size 5 1 (.slice A' (joinB l).length c') (joinB l).length (bcells (joinB l)) ∧ Below w.heap.size w w' := by
  have HN := Lib.hid hn
  have HR := Lib.hid hrow
  have HS := Lib.hid hS
  have hT3 := Lib.hid hT
  have hn64 : n < 18446744073709551616 := by omega
  have hv := varB_ten hn64
  clear hn hrow hS hT
  go_enter Tryz.func150, Tryz.ntmps150
  go_wp2_with (go_at_call 207; refine (var_calls _ _ hn64).mono ?_; rintro e w1 ⟨A1, c1, rfl, ho, hb⟩; have HO0 := Lib.hid ho; have HB0 := Lib.hid hb; clear ho hb)
  go_loopw [3, 5, 12] (fun out p ix wr => ∃ (k m : Nat) (pre : List Int) (A' : Option Addr) (c' : Nat), k ≤ n ∧ ix = .int .i64 k ∧ out = .slice A' m c' ∧ m ≤ 10 + T ∧ Hid (pre.length = m) ∧ Hid (pre = varB n ++ partsB (l.take k)) ∧ Hid (wr.ownsRow w.heap.size 5 1 (.slice A' m c') m (bcells pre)) ∧ Below w.heap.size w wr) (fun _ _ ix _ => n - (intOf ix).toNat)
  case atStart => exact ⟨0, _, _, A1, c1, Nat.zero_le _, rfl, rfl, by omega, Lib.hid rfl, Lib.hid (by simp [partsB]), HO0, HB0.out⟩
  case round =>
    obtain ⟨k, m, pre, A', c', hk, rfl, rfl, hmm, HM, HP, HO, hb⟩ := hrel
    by_cases hlt : k < n
    · obtain ⟨p, hp⟩ : ∃ p, l[k]? = some p := ⟨_, List.getElem?_eq_getElem (by have := HN.out; omega)⟩
      obtain ⟨b, o, B, cp, rfl, hSb, hcell0, hcp, hrp⟩ := row_sl_at HR.out hp
      have hcell := (World.cell?_of_block (a := ⟨b, o + k, none⟩) (hb.block b (HS.out b hSb))).trans hcell0
      obtain ⟨cells, hfl, hlie⟩ := hrp.flat
      obtain ⟨rfl, hBp⟩ := byte_flat.1 hfl
      obtain ⟨q, hq⟩ : ∃ q, p.length = q := ⟨_, rfl⟩
      have hq1 : q ≤ T := by rw [← hq]; exact Nat.le_trans (partsB_part (List.mem_of_getElem? hp)) hT3.out
      have hsum : m + (varB q).length + q ≤ 10 + T := by
        have h1 := partsB_take l (k + 1)
        rw [List.take_add_one, hp, Option.toList_some, partsB_snoc, List.length_append, List.length_append, hq] at h1
        have h2 := hT3.out
        have h3 := HM.out
        rw [HP.out, List.length_append] at h3
        omega
      have HQ := Lib.hid hq
      rw [hq] at hcell hcp hlie
      have HPp := Lib.hid hp
      have HLp := Lib.hid hlie
      have hq64 : q < 18446744073709551616 := by omega
      have hvq := varB_ten hq64
      have hsz := hb.size
      clear hp hrp hq hcell0 hfl hBp hlie
      go_wp2_with (first
        | (go_at_call 207; refine (var_calls _ _ hq64).mono ?_; rintro e w2 ⟨A2, c2, rfl, ho2, hb2⟩; have HO2 := Lib.hid ho2; have HOO := Lib.hid (own_below HO.out hb2); have hbW : Below w.heap.size w w2 := hb.trans (hb2.mono hsz); have HB2 := Lib.hid hbW; have hs2 := hbW.size; clear ho2 hb2 hbW)
        | (at_builtin; refine list_app _ rfl (.tmp 16) (.tmp 20) _ rfl 5 Tryz.underlying74 byte_info rfl (by decide) (by decide) w.heap.size rfl HOO.out rfl (bcells_length _) (own_lie HO2.out) (bcells_one _) (by omega) hs2 ?_; intro v' w3 hown hg hat; have hbW := grown_below HB2.out hg hs2 (own_ge HOO.out); rw [← bcells_append] at hown; obtain ⟨A3, c3, rfl, hn3, _, _⟩ := own_shape hown; have HO3 := Lib.hid hown; have HB3 := Lib.hid hbW; have hs3 := hbW.size; clear hown hg hat hbW)
        | (at_builtin; refine list_app _ rfl (.tmp 22) (.tmp 23) _ rfl 5 Tryz.underlying74 byte_info rfl (by decide) (by decide) w.heap.size rfl HO3.out rfl (by rw [bcells_length, HQ.out]) (by exact HLp.out.below HB3.out) (bcells_one _) (by omega) hs3 ?_; intro v' w4 hown hg hat; have hbW := grown_below HB3.out hg hs3 (own_ge HO3.out); rw [← bcells_append] at hown; obtain ⟨A4, c4, rfl, hn4, _, _⟩ := own_shape hown; have HO4 := Lib.hid hown; have HB4 := Lib.hid hbW; have hs4 := hbW.size; clear hown hg hat hbW))
      go_roundw
      case rel =>
        refine ⟨k + 1, _, pre ++ varB q ++ p, A4, c4, by omega, by go_num, rfl, by omega, Lib.hid (by rw [List.length_append, List.length_append, HM.out, HQ.out]), Lib.hid ?_, HO4, HB4.out⟩
        rw [List.take_add_one, HPp.out, Option.toList_some, partsB_snoc, HP.out, HQ.out]
        simp only [List.append_assoc]
      case measure => simp [intOf]; omega
    · have hkn : k = n := by omega
      subst hkn
      have hj : joinB l = pre := by rw [HP.out]; unfold joinB; rw [HN.out, ← HN.out, List.take_length]
      have HJ := Lib.hid hj
      clear hj
      go_wp2
      go_ret
      rw [HJ.out, HM.out]
      exact ⟨A', c', rfl, HO.out, hb⟩

end Go.Proofs.YtmceaeoeakkppaaGreatDoor
