/- state.Frames of one frame at a beginning. -/
import Derived.Test.YtdmmjckhpagibaaGreatDoorMcNew
namespace Go.Proofs.YtdmmjckhpagibaaGreatDoor
open Go.RowKit Go.Sort
set_option linter.unusedVariables false
set_option maxRecDepth 100000 in
theorem cloneW_nil (w : World) : Calls Tryz.prog 32 #[.slice none 0 0] w fun e w' => e = .returned (.slice none 0 0) ∧ Below w.heap.size w w' := by
  have hnil : ∀ w' : World, (binOp .eql 31 (.slice none 0 0) (.slice none 0 0)).run Tryz.prog w' = .ok (.bool true) w' := fun w' => Lib.run_eql_slice_nil w' _ _ none _ _ 0 0 Tryz.underlying31
  go_enter Tryz.func32, Tryz.ntmps32
  go_wp2
  go_ret
  exact ⟨rfl, Below.refl _ _⟩
set_option maxRecDepth 100000 in
theorem clipW_nil (w : World) : Calls Tryz.prog 55 #[.slice none 0 0] w fun e w' => e = .returned (.slice none 0 0) ∧ Below w.heap.size w w' := by
  go_enter Tryz.func55, Tryz.ntmps55
  go_wp2
  go_ret
  exact ⟨rfl, Below.refl _ _⟩
/-- Clip of a slice that came from Clone. -/
theorem clipW_mem (w : World) (v : Value) (n : Nat) (xs : List Value) (h : Mem w 43 v n xs) (hm : n ≤ 1000000) : Calls Tryz.prog 55 #[v] w fun e w' => ∃ A, e = .returned (.slice A n n) ∧ Below w.heap.size w w' := by
  refine (clipM64_calls w v n xs h hm).mono ?_
  rintro e w' ⟨A, rfl, -, -, rfl⟩
  exact ⟨A, rfl, Below.refl _ _⟩
theorem frame_info : (Tryz.prog.info? 83).map (fun i => (i.zero, i.size, i.bytes)) = some (some (.agg #[.int .i64 0, .int .i64 0, .slice none 0 0, .slice none 0 0]), 4, 64) := by kernel_rfl
set_option maxRecDepth 100000 in
set_option maxHeartbeats 8000000 in
theorem frames_one (w : World) (fb fo fc : Nat) (LA : Option Addr) (n lc : Nat) (ws : List Int) (hw : ws.length = n) (hn : n ≤ 1000) (hL : Lie w LA n (wcells ws)) (h0 : w.cell? ⟨fb, fo, none⟩ = some (.int .i64 0)) (h1 : w.cell? ⟨fb, fo + 1, none⟩ = some (.int .i64 0)) (h2 : w.cell? ⟨fb, fo + 2, none⟩ = some (.slice LA n lc)) (h3 : w.cell? ⟨fb, fo + 3, none⟩ = some (.slice none 0 0)) :
    Calls Tryz.prog 28 #[.slice (some ⟨fb, fo, none⟩) 1 fc] w fun e w' => ∃ FB c L1 l1, e = .returned (.slice (some ⟨FB, 0, none⟩) 1 c) ∧ (∃ cs : Array Value, w'.heap[FB]? = some (.cells cs 83 (0, 0)) ∧ 4 ≤ cs.size ∧ cs[0]? = some (.int .i64 0) ∧ cs[1]? = some (.int .i64 0) ∧ cs[2]? = some (.slice L1 n l1) ∧ cs[3]? = some (.slice none 0 0)) ∧ w.heap.size ≤ FB ∧ Below w.heap.size w w' := by
  have hV := below_a1 w (Obj.cells #[.int .i64 0, .int .i64 0, .slice LA n lc, .slice none 0 0] 83)
  have hX := blk_new w (Obj.cells #[.int .i64 0, .int .i64 0, .slice LA n lc, .slice none 0 0] 83)
  have HV := Lib.hid hV
  have HL := Lib.hid (hL.below hV)
  have HX0 := Lib.hid hX
  clear hL hV hX
  go_enter Tryz.func28, Tryz.ntmps28
  go_wp2_with fail
  go_loopw [3, 8] (fun o ix wr => (ix = .int .i64 0 ∧ o = .slice none 0 0 ∧ Hid (w = wr)) ∨ (ix = .int .i64 1 ∧ ∃ FB c, o = .slice (some ⟨FB, 0, none⟩) 1 c ∧ Hid (∃ L1 l1, (∃ cs : Array Value, wr.heap[FB]? = some (.cells cs 83 (0, 0)) ∧ 4 ≤ cs.size ∧ cs[0]? = some (.int .i64 0) ∧ cs[1]? = some (.int .i64 0) ∧ cs[2]? = some (.slice L1 n l1) ∧ cs[3]? = some (.slice none 0 0)) ∧ w.heap.size ≤ FB ∧ Below w.heap.size w wr))) (fun _ ix _ => 1 - (intOf ix).toNat)
  case atStart => exact .inl ⟨rfl, rfl, Lib.hid rfl⟩
  case round =>
    rcases hrel with ⟨rfl, rfl, he⟩ | ⟨rfl, FB, c, rfl, hr⟩
    · have e := he.out
      subst e
      go_upto_region 5 with fail
      have hX := HX0.out
      generalize (w.alloc (Obj.cells #[.int .i64 0, .int .i64 0, .slice LA n lc, .slice none 0 0] 83)) = V at *
      have i0 : V.cell? ⟨w.heap.size, 2, none⟩ = some (.slice LA n lc) := blk_cell hX 2
      have i0' : V.drew.cell? ⟨w.heap.size, 2, none⟩ = some (.slice LA n lc) := blk_cell (blk_drew hX) 2
      refine wp_region_held_drew (S := fun w' => w'.cell? ⟨w.heap.size, 3, none⟩ = some (.slice none 0 0) ∧ Below w.heap.size w w') (by kernel_rfl) ⟨blk_cell hX 3, HV.out.drew⟩ (fun hHeld => ?_)
      refine wpAnyH_take (i := 0) (oi := _) (v := (.pointer (some ⟨w.heap.size, 2, none⟩))) rfl (by kernel_rfl) (by kernel_rfl) (by kernel_rfl) (fun _ _ _ h => h) (Or.inl ⟨by rfl, fun W hS => by go_simp⟩) hHeld ?_
      try simp only [Act.put, List.setIfInBounds_toArray, List.set_cons_zero, List.set_cons_succ, List.getElem_toArray, List.getElem_cons_zero]
      refine wpAnyH_take (i := 4) (oi := _) (v := (.pointer (some ⟨w.heap.size, 3, none⟩))) rfl (by kernel_rfl) (by kernel_rfl) (by kernel_rfl) (fun _ _ _ h => h) (Or.inl ⟨by rfl, fun W hS => by go_simp⟩) hHeld ?_
      try simp only [Act.put, List.setIfInBounds_toArray, List.set_cons_zero, List.set_cons_succ, List.getElem_toArray, List.getElem_cons_succ, List.getElem_cons_zero]
      refine wpAnyH_take (i := 5) (oi := _) (v := (.slice none 0 0)) rfl (by kernel_rfl) (by kernel_rfl) (by kernel_rfl) (fun _ _ _ h => h) (Or.inl ⟨by rfl, fun W hS => by obtain ⟨s3, _⟩ := hS; go_simp⟩) hHeld ?_
      try simp only [Act.put, List.setIfInBounds_toArray, List.set_cons_zero, List.set_cons_succ, List.getElem_toArray, List.getElem_cons_succ, List.getElem_cons_zero]
      refine wpAnyH_ready (rs := [1]) (by kernel_rfl) (by simp) ?_
      refine AllReadyH.cons (o := _) rfl (fun K hK => ?_) AllReadyH.nil
      go_simp
      refine hK.out _ _ hHeld (fun hHeld => ?_)
      try simp only [Act.put, List.setIfInBounds_toArray, List.set_cons_zero, List.set_cons_succ, List.getElem_toArray, List.getElem_cons_succ, List.getElem_cons_zero]
      clear hK K
      refine wpAnyH_ready (rs := [2]) (by kernel_rfl) (by simp) ?_
      refine AllReadyH.cons (o := _) rfl (fun K hK => ?_) AllReadyH.nil
      go_simp
      go_at_call 32; refine (clone64_calls _ LA n lc ws hw (by omega) (lie_drew HL.out)).mono ?_; rintro e w1 ⟨u, rfl, hmem, -, hb1⟩
      have hX1 := blk_below (blk_drew hX) hb1 (blk_lt hX)
      have hb1' := HV.out.drew.trans (hb1.mono HV.out.size)
      go_wp2_with fail
      refine hK.out _ _ ⟨blk_cell hX1 3, hb1'⟩ (fun hHeld => ?_)
      try simp only [Act.put, List.setIfInBounds_toArray, List.set_cons_zero, List.set_cons_succ, List.getElem_toArray, List.getElem_cons_succ, List.getElem_cons_zero]
      clear hK K
      refine wpAnyH_ready (rs := [3]) (by kernel_rfl) (by simp) ?_
      refine AllReadyH.cons (o := _) rfl (fun K hK => ?_) AllReadyH.nil
      go_simp
      go_at_call 55; refine (clipW_mem _ u n _ hmem (by omega)).mono ?_; rintro e w2 ⟨L1, rfl, hb2⟩
      have hX2 := blk_below hX1 hb2 (blk_lt hX1)
      have hb2' := hb1'.trans (hb2.mono hb1'.size)
      go_wp2_with fail
      refine hK.out _ _ ⟨blk_cell hX2 3, hb2'⟩ (fun hHeld => ?_)
      try simp only [Act.put, List.setIfInBounds_toArray, List.set_cons_zero, List.set_cons_succ, List.getElem_toArray, List.getElem_cons_succ, List.getElem_cons_zero]
      clear hK K
      refine wpAnyH_take (i := 8) (oi := _) (v := (.pointer (some ⟨w.heap.size, 2, none⟩))) rfl (by kernel_rfl) (by kernel_rfl) (by kernel_rfl) (fun _ _ _ h => h) (Or.inl ⟨by rfl, fun W hS => by go_simp⟩) hHeld ?_
      try simp only [Act.put, List.setIfInBounds_toArray, List.set_cons_zero, List.set_cons_succ, List.getElem_toArray, List.getElem_cons_succ, List.getElem_cons_zero]
      refine wpAnyH_ready (rs := [6]) (by kernel_rfl) (by simp) ?_
      refine AllReadyH.cons (o := _) rfl (fun K hK => ?_) AllReadyH.nil
      go_simp
      go_at_call 32; refine (cloneW_nil _).mono ?_; rintro e w3 ⟨rfl, hb3⟩
      have hX3 := blk_below hX2 hb3 (blk_lt hX2)
      have hb3' := hb2'.trans (hb3.mono hb2'.size)
      go_wp2_with fail
      refine hK.out _ _ ⟨blk_cell hX3 3, hb3'⟩ (fun hHeld => ?_)
      try simp only [Act.put, List.setIfInBounds_toArray, List.set_cons_zero, List.set_cons_succ, List.getElem_toArray, List.getElem_cons_succ, List.getElem_cons_zero]
      clear hK K
      refine wpAnyH_ready (rs := [7]) (by kernel_rfl) (by simp) ?_
      refine AllReadyH.cons (o := _) rfl (fun K hK => ?_) AllReadyH.nil
      go_simp
      go_at_call 55; refine (clipW_nil _).mono ?_; rintro e w4 ⟨rfl, hb4⟩
      have hX4 := blk_below hX3 hb4 (blk_lt hX3)
      have hb4' := hb3'.trans (hb4.mono hb3'.size)
      have i2 : w4.cell? ⟨w.heap.size, 2, none⟩ = some (.slice LA n lc) := blk_cell hX4 2
      have j2 := blk_frozen hX4 2
      go_wp2_with fail
      refine hK.out _ _ ⟨blk_cell hX4 3, hb4'⟩ (fun hHeld => ?_)
      try simp only [Act.put, List.setIfInBounds_toArray, List.set_cons_zero, List.set_cons_succ, List.getElem_toArray, List.getElem_cons_succ, List.getElem_cons_zero]
      clear hK K
      refine wpAnyH_ready (rs := [9]) (by kernel_rfl) (by simp) ?_
      refine AllReadyH.cons (o := _) rfl (fun K hK => ?_) AllReadyH.nil
      go_simp
      have hX5 := blk_set hX4 2 (.slice L1 n n)
      have hb5' := hb4'.setCell (p := ⟨w.heap.size, 2, none⟩) (Nat.le_refl _) (.slice L1 n n)
      refine hK.out _ _ ⟨blk_cell hX5 3, hb5'⟩ (fun hHeld => ?_)
      try simp only [Act.put, List.setIfInBounds_toArray, List.set_cons_zero, List.set_cons_succ, List.getElem_toArray, List.getElem_cons_succ, List.getElem_cons_zero]
      clear hK K
      generalize w4.setCell ⟨w.heap.size, 2, none⟩ (.slice L1 n n) = w5 at *
      have hX5' : w5.heap[w.heap.size]? = some (.cells #[.int .i64 0, .int .i64 0, .slice L1 n n, .slice none 0 0] 83 (0, 0)) := by simpa using hX5
      have i3 : w5.cell? ⟨w.heap.size, 3, none⟩ = some (.slice none 0 0) := blk_cell hX5' 3
      have j3 := blk_frozen hX5' 3
      refine wpAnyH_take (i := 10) (oi := _) (v := (.pointer (some ⟨w.heap.size, 3, none⟩))) rfl (by kernel_rfl) (by kernel_rfl) (by kernel_rfl) (fun _ _ _ h => h) (Or.inl ⟨by rfl, fun W hS => by go_simp⟩) hHeld ?_
      try simp only [Act.put, List.setIfInBounds_toArray, List.set_cons_zero, List.set_cons_succ, List.getElem_toArray, List.getElem_cons_succ, List.getElem_cons_zero]
      refine wpAnyH_ready (rs := [11]) (by kernel_rfl) (by simp) ?_
      refine AllReadyH.cons (o := _) rfl (fun K hK => ?_) AllReadyH.nil
      go_simp
      have hX6 := blk_set hX5' 3 (.slice none 0 0)
      have hb6' := hb5'.setCell (p := ⟨w.heap.size, 3, none⟩) (Nat.le_refl _) (.slice none 0 0)
      refine hK.out _ _ ⟨blk_cell hX6 3, hb6'⟩ (fun hHeld => ?_)
      try simp only [Act.put, List.setIfInBounds_toArray, List.set_cons_zero, List.set_cons_succ, List.getElem_toArray, List.getElem_cons_succ, List.getElem_cons_zero]
      clear hK K
      refine wpAnyH_done (by kernel_rfl) ?_ _
      have hXf : (w5.setCell ⟨w.heap.size, 3, none⟩ (.slice none 0 0)).heap[w.heap.size]? = some (.cells #[.int .i64 0, .int .i64 0, .slice L1 n n, .slice none 0 0] 83 (0, 0)) := by simpa using hX6
      have HBY := Lib.hid hb6'
      generalize w5.setCell ⟨w.heap.size, 3, none⟩ (.slice none 0 0) = Y at *
      have k0 : Y.cell? ⟨w.heap.size, 0, none⟩ = some (.int .i64 0) := blk_cell hXf 0
      have k1 : Y.cell? ⟨w.heap.size, 1, none⟩ = some (.int .i64 0) := blk_cell hXf 1
      have k2 : Y.cell? ⟨w.heap.size, 2, none⟩ = some (.slice L1 n n) := blk_cell hXf 2
      have k3 : Y.cell? ⟨w.heap.size, 3, none⟩ = some (.slice none 0 0) := blk_cell hXf 3
      clear hHeld hX hX1 hX2 hX3 hX4 hX5 hX5' hX6 hXf hb1 hb1' hb2 hb2' hb3 hb3' hb4 hb4' hb5' hb6' hmem i0 i0' i2 j2 i3 j3
      go_wp2_with (at_builtin; go_must (refine list_app _ rfl (.tmp 22) (.tmp 24) _ rfl 83 Tryz.underlying40 frame_info rfl (by decide) (by decide) w.heap.size (n := 0) (xs := []) rfl (World.ownsRow_nil _ _ _ _) (news := [.int .i64 0, .int .i64 0, .slice L1 n n, .slice none 0 0]) rfl rfl (by exact lie_new [.int .i64 0, .int .i64 0, .slice L1 n n, .slice none 0 0] _ _ rfl) (by intro u hu; simp only [List.mem_cons, List.not_mem_nil, or_false] at hu; rcases hu with rfl | rfl | rfl | rfl <;> rfl) (by omega) (Nat.le_trans HBY.out.size (below_a1 Y _).size) ?_; intro v' w7 hown hg hat; simp only [Nat.zero_add, List.nil_append] at hown; obtain ⟨FB, c7, cur, rfl, hob, hlt7, hc7, hh7, hcell7, -⟩ := own_at hown (by decide); have HO := Lib.hid hown; have HG := Lib.hid hg; have HH7 := Lib.hid hh7; have HC7 := Lib.hid hcell7; clear hown hg hat hob hh7 hcell7))
      go_roundw
      case rel =>
        have hcur : ∀ j u, [Value.int .i64 0, .int .i64 0, .slice L1 n n, .slice none 0 0][j]? = some u → cur[j]? = some u := fun j u hj => (blk_cell HH7.out j).symm.trans (HC7.out j u hj)
        have h3 := hcur 3 _ rfl
        have hsz : 4 ≤ cur.size := by have := (Array.getElem?_eq_some_iff.1 h3).1; omega
        exact .inr ⟨rfl, FB, c7, rfl, Lib.hid ⟨L1, n, ⟨cur, HH7.out, hsz, hcur 0 _ rfl, hcur 1 _ rfl, hcur 2 _ rfl, h3⟩, (HO.out.lt FB rfl).1, grown_below (HBY.out.alloc HBY.out.size _) HG.out (Nat.le_trans HBY.out.size (below_a1 Y _).size) (.inl rfl)⟩⟩
      case measure => simp [intOf]
    · go_wp2
      go_ret
      obtain ⟨L1, l1, h4, h5, h6⟩ := hr.out
      exact ⟨FB, c, L1, l1, rfl, h4, h5, h6⟩
end Go.Proofs.YtdmmjckhpagibaaGreatDoor
