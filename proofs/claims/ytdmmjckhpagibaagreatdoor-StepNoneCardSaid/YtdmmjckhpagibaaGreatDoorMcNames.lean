/- sane.below, sane.host, sane.names, and the functions that sane.Check hands out. -/
import Derived.Test.YtdmmjckhpagibaaGreatDoorMcFind
import Derived.Lib.QuietBelow
import Derived.BigQuiet
namespace Go.Proofs.YtdmmjckhpagibaaGreatDoor
open Go.RowKit Go.Sort
set_option linter.unusedVariables false
theorem calls_regrown {P : Program} {f : FuncId} {args : Array Value} {w : World} {v : Value} (h : ∀ W, Calls P f args W fun e w' => e = .returned v ∧ Below W.heap.size W w') (d : Nat) (os : Array Go.Obj) : Calls P f args (grow (redrawn w d) os) fun e w'' => e = .returned v ∧ ∃ p : Regrown, w'' = grow (redrawn w p.d) p.os := Calls.regrown_of (h _)
theorem below_al1 {w w1 : World} {a : Go.Obj} (h : Below (w.alloc a).heap.size (w.alloc a) w1) : Below w.heap.size w w1 := ((Below.refl _ _).alloc (Nat.le_refl _) _).trans (h.mono (by simp))
theorem below_al2 {w w1 : World} {a b : Go.Obj} (h : Below ((w.alloc a).alloc b).heap.size ((w.alloc a).alloc b) w1) : Below w.heap.size w w1 := below_al1 (below_al1 h)
theorem below_al3 {w w1 : World} {a b c : Go.Obj} (h : Below (((w.alloc a).alloc b).alloc c).heap.size (((w.alloc a).alloc b).alloc c) w1) : Below w.heap.size w w1 := below_al1 (below_al2 h)
theorem below_al4 {w w1 : World} {a b c d : Go.Obj} (h : Below ((((w.alloc a).alloc b).alloc c).alloc d).heap.size ((((w.alloc a).alloc b).alloc c).alloc d) w1) : Below w.heap.size w w1 := below_al1 (below_al3 h)
theorem below_calls (w : World) (n m : Int) : Calls Tryz.prog 104 #[.int .i64 n, .int .i64 m] w fun e w' => e = .returned (.bool (decide (n < m))) ∧ Below w.heap.size w w' := by
  go_enter Tryz.func104, Tryz.ntmps104
  go_wp2
  go_ret
  exact ⟨rfl, Below.refl _ _⟩
theorem host_calls (w : World) (k n : Int) : Calls Tryz.prog 73 #[.agg #[.int .i64 k, .int .i64 n]] w fun e w' => e = .returned (.bool (k == 1 || k == 5)) ∧ Below w.heap.size w w' := by
  go_enter Tryz.func73, Tryz.ntmps73
  by_cases h1 : k = 1
  · subst h1
    go_wp2
    go_ret
    exact ⟨rfl, below_al1 (Below.refl _ _)⟩
  · have h1' : (k == 1) = false := by simpa using h1
    rw [h1']
    go_wp2
    all_goals go_ret
    all_goals exact ⟨by simp_all [Bool.beq_eq_decide_eq], below_al1 (Below.refl _ _)⟩
/-- Does an instruction name what there is? -/
def namesN (recs : List (List Ty)) (nf ni nk nt na nl nc : Nat) (op a b : Int) : Bool :=
  if op = 0 then decide (a < nk) else if op = 1 then decide (a < nt) else if op = 3 ∨ op = 4 then decide (a < na + nl) else if op = 23 ∨ op = 24 then decide (a < nc)
  else if op = 25 then decide (a < nf) else if op = 27 then decide (a < ni) else if op = 28 then decide (a < recs.length) else if op = 29 ∨ op = 30 then decide (a < recs.length) && decide (b < (recs.getD a.toNat []).length) else true
def namesL (m : Md) (f : Fn) (i : Ins) : Bool := namesN m.recs m.funcs.length m.imports.length m.ints.length m.texts.length f.args.length f.locals.length f.code.length i.op i.a i.b
theorem op_ways (k : Int) : k = 0 ∨ k = 1 ∨ k = 3 ∨ k = 4 ∨ k = 23 ∨ k = 24 ∨ k = 25 ∨ k = 27 ∨ k = 28 ∨ k = 29 ∨ k = 30 ∨ ((k == 0) = false ∧ (k == 1) = false ∧ (k == 3) = false ∧ (k == 4) = false ∧ (k == 23) = false ∧ (k == 24) = false ∧ (k == 25) = false ∧ (k == 27) = false ∧ (k == 28) = false ∧ (k == 29) = false ∧ (k == 30) = false ∧ ∀ recs nf ni nk nt na nl nc a b, namesN recs nf ni nk nt na nl nc k a b = true) := by
  by_cases h0 : k = 0; · exact .inl h0
  by_cases h1 : k = 1; · exact .inr (.inl h1)
  by_cases h2 : k = 3; · exact .inr (.inr (.inl h2))
  by_cases h3 : k = 4; · exact .inr (.inr (.inr (.inl h3)))
  by_cases h4 : k = 23; · exact .inr (.inr (.inr (.inr (.inl h4))))
  by_cases h5 : k = 24; · exact .inr (.inr (.inr (.inr (.inr (.inl h5)))))
  by_cases h6 : k = 25; · exact .inr (.inr (.inr (.inr (.inr (.inr (.inl h6))))))
  by_cases h7 : k = 27; · exact .inr (.inr (.inr (.inr (.inr (.inr (.inr (.inl h7)))))))
  by_cases h8 : k = 28; · exact .inr (.inr (.inr (.inr (.inr (.inr (.inr (.inr (.inl h8))))))))
  by_cases h9 : k = 29; · exact .inr (.inr (.inr (.inr (.inr (.inr (.inr (.inr (.inr (.inl h9)))))))))
  by_cases h10 : k = 30; · exact .inr (.inr (.inr (.inr (.inr (.inr (.inr (.inr (.inr (.inr (.inl h10))))))))))
  refine .inr (.inr (.inr (.inr (.inr (.inr (.inr (.inr (.inr (.inr (.inr ⟨by simpa using h0, by simpa using h1, by simpa using h2, by simpa using h3, by simpa using h4, by simpa using h5, by simpa using h6, by simpa using h7, by simpa using h8, by simpa using h9, by simpa using h10, fun _ _ _ _ _ _ _ _ _ _ => ?_⟩))))))))))
  simp [namesN, h0, h1, h2, h3, h4, h5, h6, h7, h8, h9, h10]
set_option maxRecDepth 100000 in
set_option maxHeartbeats 4000000 in
theorem names_calls {S : Nat → Prop} (w : World) (A0 A1 A2 A3 A4 B0 B3 B4 : Option Addr) (n0 nf ni nk nt na nl nc c0 c1 c2 c3 c4 d0 d3 d4 : Nat) (rk rn op a b : Int) (recs : List (List Ty)) (hn : recs.length = n0) (hS : ∀ b, S b → b < w.heap.size) (row : (Rd.slice k_ty).Row S w A0 recs) (ha : 0 ≤ a) (h0 : na ≤ 140737488351232) (h1 : nl ≤ 140737488351232) :
    Calls Tryz.prog 68 #[.agg #[.slice A0 n0 c0, .slice A1 nf c1, .slice A2 ni c2, .slice A3 nk c3, .slice A4 nt c4], .agg #[.slice B0 na d0, .int .i64 rk, .int .i64 rn, .slice B3 nl d3, .slice B4 nc d4], .agg #[.int .i64 op, .int .i64 a, .int .i64 b]] w fun e w' => e = .returned (.bool (namesN recs nf ni nk nt na nl nc op a b)) ∧ Below w.heap.size w w' := by
  have hw : IntKind.i64.wrap ((na : Int) + nl) = na + nl := by rw [IntKind.wrap_i64]; omega
  rcases op_ways op with rfl | rfl | rfl | rfl | rfl | rfl | rfl | rfl | rfl | rfl | rfl | ⟨h2, h3, h4, h5, h6, h7, h8, h9, h10, h11, h12, h13⟩
  iterate 9
    focus
      clear row hS
      go_enter Tryz.func68, Tryz.ntmps68
      go_wp2_with (go_at_call 104; refine (below_calls _ _ _).mono ?_; rintro e w1 ⟨rfl, hb1⟩)
      go_ret
      exact ⟨ret_bool (by simp [namesN, hn]), below_al3 hb1⟩
  · by_cases hlt : a < (n0 : Int)
    · obtain ⟨k, rfl⟩ := Int.eq_ofNat_of_zero_le ha
      have hk : k < n0 := by omega
      obtain ⟨x, hx⟩ : ∃ x, recs[k]? = some x := ⟨_, List.getElem?_eq_getElem (by omega)⟩
      have HZ : Hid (namesN recs nf ni nk nt na nl nc 29 (k : Int) b = decide (b < (x.length : Int))) := Lib.hid (by obtain ⟨hk', hxe⟩ := List.getElem?_eq_some_iff.1 hx; simp [namesN, hn, hk, hxe])
      have hV := (((Below.refl w.heap.size w).alloc (Nat.le_refl _) (Obj.cells #[.slice A0 n0 c0, .slice A1 nf c1, .slice A2 ni c2, .slice A3 nk c3, .slice A4 nt c4] 34)).alloc (by simp) (Obj.cells #[.slice B0 na d0, .int .i64 rk, .int .i64 rn, .slice B3 nl d3, .slice B4 nc d4] 54)).alloc (by simp; omega) (Obj.cells #[.int .i64 29, .int .i64 (k : Int), .int .i64 b] 27)
      have hm := blk_alloc (blk_alloc (blk_new w (Obj.cells #[.slice A0 n0 c0, .slice A1 nf c1, .slice A2 ni c2, .slice A3 nk c3, .slice A4 nt c4] 34)) (Obj.cells #[.slice B0 na d0, .int .i64 rk, .int .i64 rn, .slice B3 nl d3, .slice B4 nc d4] 54)) (Obj.cells #[.int .i64 29, .int .i64 (k : Int), .int .i64 b] 27)
      have hi := blk_new3 w (Obj.cells #[.slice A0 n0 c0, .slice A1 nf c1, .slice A2 ni c2, .slice A3 nk c3, .slice A4 nt c4] 34) (Obj.cells #[.slice B0 na d0, .int .i64 rk, .int .i64 rn, .slice B3 nl d3, .slice B4 nc d4] 54) (Obj.cells #[.int .i64 29, .int .i64 (k : Int), .int .i64 b] 27)
      obtain ⟨b0, o0, A', c', rfl, hSb, e0, l0, m0, r0⟩ := row_slice_at (row.keep (fun b h => hV.block b (hS b h))) hx
      have eq0 := (blk_cell hm 0 : _ = some (Value.slice (some ⟨b0, o0, none⟩) n0 c0))
      have q0 := cell_regrown eq0
      have eq1 := (blk_cell hi 1 : _ = some (Value.int .i64 (k : Int)))
      have q1 := cell_regrown eq1
      have eq2 := (blk_cell hi 2 : _ = some (Value.int .i64 b))
      have q2 := cell_regrown eq2
      have q3 := cell_regrown e0
      have K1 : Hid (∀ W, Calls Tryz.prog 104 #[.int .i64 (k : Int), .int .i64 (n0 : Int)] W fun e w' => e = .returned (.bool true) ∧ Below W.heap.size W w') := Lib.hid (fun W => by have := below_calls W (k : Int) n0; rwa [decide_eq_true hlt] at this)
      have K2 := Lib.hid (fun W => below_calls W b (x.length : Int))
      have HB := Lib.hid hV
      clear row hS hx hV hm hi e0 r0 hSb
      generalize decide (b < (x.length : Int)) = z at *
      go_enter Tryz.func68, Tryz.ntmps68
      go_wp2_with fail
      refine wp_region_quiet_below (by kernel_rfl) (by kernel_rfl) ?_
      repeat (first | go_big_quiet_step (first | with_reducible exact calls_regrown K1.out _ _ | with_reducible exact calls_regrown K2.out _ _) | quiet_step (first | with_reducible exact calls_regrown K1.out _ _ | with_reducible exact calls_regrown K2.out _ _))
      refine wpQuiet_nil ?_
      intro _ hw'
      obtain ⟨⟨dq, osq⟩, hw''⟩ := hw'
      subst hw''
      go_wp2
      go_ret
      exact ⟨ret_bool HZ.out.symm, HB.out.trans ((below_regrown _ dq osq).mono (by simp; omega))⟩
    · have HZ : Hid (namesN recs nf ni nk nt na nl nc 29 a b = false) := Lib.hid (by simp [namesN, hn]; omega)
      have hm := blk_alloc (blk_alloc (blk_new w (Obj.cells #[.slice A0 n0 c0, .slice A1 nf c1, .slice A2 ni c2, .slice A3 nk c3, .slice A4 nt c4] 34)) (Obj.cells #[.slice B0 na d0, .int .i64 rk, .int .i64 rn, .slice B3 nl d3, .slice B4 nc d4] 54)) (Obj.cells #[.int .i64 29, .int .i64 a, .int .i64 b] 27)
      have hi := blk_new3 w (Obj.cells #[.slice A0 n0 c0, .slice A1 nf c1, .slice A2 ni c2, .slice A3 nk c3, .slice A4 nt c4] 34) (Obj.cells #[.slice B0 na d0, .int .i64 rk, .int .i64 rn, .slice B3 nl d3, .slice B4 nc d4] 54) (Obj.cells #[.int .i64 29, .int .i64 a, .int .i64 b] 27)
      have eq0 := (blk_cell hm 0 : _ = some (Value.slice A0 n0 c0))
      have q0 := cell_regrown eq0
      have eq1 := (blk_cell hi 1 : _ = some (Value.int .i64 a))
      have q1 := cell_regrown eq1
      have K1 : Hid (∀ W, Calls Tryz.prog 104 #[.int .i64 a, .int .i64 (n0 : Int)] W fun e w' => e = .returned (.bool false) ∧ Below W.heap.size W w') := Lib.hid (fun W => by have := below_calls W a n0; rwa [decide_eq_false hlt] at this)
      clear row hS hm hi
      go_enter Tryz.func68, Tryz.ntmps68
      go_wp2_with fail
      refine wp_region_quiet_below (by kernel_rfl) (by kernel_rfl) ?_
      repeat (first | go_big_quiet_step (first | with_reducible exact calls_regrown K1.out _ _) | quiet_step (first | with_reducible exact calls_regrown K1.out _ _))
      refine wpQuiet_nil ?_
      intro _ hw'
      obtain ⟨⟨dq, osq⟩, hw''⟩ := hw'
      subst hw''
      go_wp2
      go_ret
      exact ⟨ret_bool HZ.out.symm, below_al3 (below_regrown _ dq osq)⟩
  · by_cases hlt : a < (n0 : Int)
    · obtain ⟨k, rfl⟩ := Int.eq_ofNat_of_zero_le ha
      have hk : k < n0 := by omega
      obtain ⟨x, hx⟩ : ∃ x, recs[k]? = some x := ⟨_, List.getElem?_eq_getElem (by omega)⟩
      have HZ : Hid (namesN recs nf ni nk nt na nl nc 30 (k : Int) b = decide (b < (x.length : Int))) := Lib.hid (by obtain ⟨hk', hxe⟩ := List.getElem?_eq_some_iff.1 hx; simp [namesN, hn, hk, hxe])
      have hV := (((Below.refl w.heap.size w).alloc (Nat.le_refl _) (Obj.cells #[.slice A0 n0 c0, .slice A1 nf c1, .slice A2 ni c2, .slice A3 nk c3, .slice A4 nt c4] 34)).alloc (by simp) (Obj.cells #[.slice B0 na d0, .int .i64 rk, .int .i64 rn, .slice B3 nl d3, .slice B4 nc d4] 54)).alloc (by simp; omega) (Obj.cells #[.int .i64 30, .int .i64 (k : Int), .int .i64 b] 27)
      have hm := blk_alloc (blk_alloc (blk_new w (Obj.cells #[.slice A0 n0 c0, .slice A1 nf c1, .slice A2 ni c2, .slice A3 nk c3, .slice A4 nt c4] 34)) (Obj.cells #[.slice B0 na d0, .int .i64 rk, .int .i64 rn, .slice B3 nl d3, .slice B4 nc d4] 54)) (Obj.cells #[.int .i64 30, .int .i64 (k : Int), .int .i64 b] 27)
      have hi := blk_new3 w (Obj.cells #[.slice A0 n0 c0, .slice A1 nf c1, .slice A2 ni c2, .slice A3 nk c3, .slice A4 nt c4] 34) (Obj.cells #[.slice B0 na d0, .int .i64 rk, .int .i64 rn, .slice B3 nl d3, .slice B4 nc d4] 54) (Obj.cells #[.int .i64 30, .int .i64 (k : Int), .int .i64 b] 27)
      obtain ⟨b0, o0, A', c', rfl, hSb, e0, l0, m0, r0⟩ := row_slice_at (row.keep (fun b h => hV.block b (hS b h))) hx
      have eq0 := (blk_cell hm 0 : _ = some (Value.slice (some ⟨b0, o0, none⟩) n0 c0))
      have q0 := cell_regrown eq0
      have eq1 := (blk_cell hi 1 : _ = some (Value.int .i64 (k : Int)))
      have q1 := cell_regrown eq1
      have eq2 := (blk_cell hi 2 : _ = some (Value.int .i64 b))
      have q2 := cell_regrown eq2
      have q3 := cell_regrown e0
      have K1 : Hid (∀ W, Calls Tryz.prog 104 #[.int .i64 (k : Int), .int .i64 (n0 : Int)] W fun e w' => e = .returned (.bool true) ∧ Below W.heap.size W w') := Lib.hid (fun W => by have := below_calls W (k : Int) n0; rwa [decide_eq_true hlt] at this)
      have K2 := Lib.hid (fun W => below_calls W b (x.length : Int))
      have HB := Lib.hid hV
      clear row hS hx hV hm hi e0 r0 hSb
      generalize decide (b < (x.length : Int)) = z at *
      go_enter Tryz.func68, Tryz.ntmps68
      go_wp2_with fail
      refine wp_region_quiet_below (by kernel_rfl) (by kernel_rfl) ?_
      repeat (first | go_big_quiet_step (first | with_reducible exact calls_regrown K1.out _ _ | with_reducible exact calls_regrown K2.out _ _) | quiet_step (first | with_reducible exact calls_regrown K1.out _ _ | with_reducible exact calls_regrown K2.out _ _))
      refine wpQuiet_nil ?_
      intro _ hw'
      obtain ⟨⟨dq, osq⟩, hw''⟩ := hw'
      subst hw''
      go_wp2
      go_ret
      exact ⟨ret_bool HZ.out.symm, HB.out.trans ((below_regrown _ dq osq).mono (by simp; omega))⟩
    · have HZ : Hid (namesN recs nf ni nk nt na nl nc 30 a b = false) := Lib.hid (by simp [namesN, hn]; omega)
      have hm := blk_alloc (blk_alloc (blk_new w (Obj.cells #[.slice A0 n0 c0, .slice A1 nf c1, .slice A2 ni c2, .slice A3 nk c3, .slice A4 nt c4] 34)) (Obj.cells #[.slice B0 na d0, .int .i64 rk, .int .i64 rn, .slice B3 nl d3, .slice B4 nc d4] 54)) (Obj.cells #[.int .i64 30, .int .i64 a, .int .i64 b] 27)
      have hi := blk_new3 w (Obj.cells #[.slice A0 n0 c0, .slice A1 nf c1, .slice A2 ni c2, .slice A3 nk c3, .slice A4 nt c4] 34) (Obj.cells #[.slice B0 na d0, .int .i64 rk, .int .i64 rn, .slice B3 nl d3, .slice B4 nc d4] 54) (Obj.cells #[.int .i64 30, .int .i64 a, .int .i64 b] 27)
      have eq0 := (blk_cell hm 0 : _ = some (Value.slice A0 n0 c0))
      have q0 := cell_regrown eq0
      have eq1 := (blk_cell hi 1 : _ = some (Value.int .i64 a))
      have q1 := cell_regrown eq1
      have K1 : Hid (∀ W, Calls Tryz.prog 104 #[.int .i64 a, .int .i64 (n0 : Int)] W fun e w' => e = .returned (.bool false) ∧ Below W.heap.size W w') := Lib.hid (fun W => by have := below_calls W a n0; rwa [decide_eq_false hlt] at this)
      clear row hS hm hi
      go_enter Tryz.func68, Tryz.ntmps68
      go_wp2_with fail
      refine wp_region_quiet_below (by kernel_rfl) (by kernel_rfl) ?_
      repeat (first | go_big_quiet_step (first | with_reducible exact calls_regrown K1.out _ _) | quiet_step (first | with_reducible exact calls_regrown K1.out _ _))
      refine wpQuiet_nil ?_
      intro _ hw'
      obtain ⟨⟨dq, osq⟩, hw''⟩ := hw'
      subst hw''
      go_wp2
      go_ret
      exact ⟨ret_bool HZ.out.symm, below_al3 (below_regrown _ dq osq)⟩
  · have H := Lib.hid h13
    clear row hS h13
    go_enter Tryz.func68, Tryz.ntmps68
    go_wp2
    go_ret
    exact ⟨ret_bool (H.out _ _ _ _ _ _ _ _ _ _).symm, below_al3 (Below.refl _ _)⟩
end Go.Proofs.YtdmmjckhpagibaaGreatDoor
