/- state.Frames of frames whose locals and stacks are empty: as many. The round's region printed out of XMcFr by program. -/
import Derived.Test.YtmceaeoeakkppaaGreatDoorMkFr
namespace Go.Proofs.YtmceaeoeakkppaaGreatDoor
open Go.RowKit Go.Sort
set_option linter.unusedVariables false
set_option linter.unusedSimpArgs false
set_option maxRecDepth 100000 in
set_option maxHeartbeats 8000000 in
theorem frames_many (w : World) (FB fc : Nat) (fs : List Fra) (hn : fs.length ≤ 1000) (hz : ∀ (k : Nat) (x : Fra), fs[k]? = some x → x.ln = 0 ∧ x.SA = none ∧ x.sn = 0 ∧ x.sc = 0) (hc : ∀ (j : Nat) (v : Value), (frasC fs)[j]? = some v → w.cell? ⟨FB, j, none⟩ = some v) :
    Calls Tryz.prog 46 #[.slice (some ⟨FB, 0, none⟩) fs.length fc] w fun e w' => ∃ A c, e = .returned (.slice A fs.length c) ∧ fs.length ≤ c ∧ Below w.heap.size w w' := by
  obtain ⟨n, hN⟩ : ∃ n, fs.length = n := ⟨_, rfl⟩
  rw [hN] at hn ⊢
  have HZ := Lib.hid hz
  have HC := Lib.hid hc
  have HN := Lib.hid hN
  clear hz hc hN
  go_enter Tryz.func46, Tryz.ntmps46
  go_wp2_with fail
  go_loopw [3, 8] (fun o ix wr => ∃ (k : Nat) (A : Option Addr) (c : Nat) (vs : List Value), k ≤ n ∧ ix = .int .i64 k ∧ o = .slice A k c ∧ Hid (wr.ownsRow w.heap.size 91 4 (.slice A k c) k vs) ∧ Hid (Below w.heap.size w wr)) (fun _ ix _ => n - (intOf ix).toNat)
  case atStart => exact ⟨0, none, 0, [], Nat.zero_le _, rfl, rfl, Lib.hid ⟨rfl, .inl ⟨rfl, rfl⟩⟩, Lib.hid (Below.refl _ _)⟩
  case round =>
    obtain ⟨k, A, c, vs, hk, rfl, rfl, HO, HB⟩ := hrel
    by_cases hlt : k < n
    · obtain ⟨x, hx⟩ : ∃ x, fs[k]? = some x := ⟨_, List.getElem?_eq_getElem (by rw [HN.out]; exact hlt)⟩
      obtain ⟨z1, z2, z3, z4⟩ := HZ.out k x hx
      have a0 : wr.cell? ⟨FB, k * 4, none⟩ = some (.int .i64 x.fn) := below_cell (HC.out _ _ (frasC_at hx 0 _ rfl)) HB.out
      have a1 : wr.cell? ⟨FB, k * 4 + 1, none⟩ = some (.int .i64 x.pc) := below_cell (HC.out _ _ (frasC_at hx 1 _ rfl)) HB.out
      have a2 : wr.cell? ⟨FB, k * 4 + 2, none⟩ = some (.slice x.LA x.ln x.lc) := below_cell (HC.out _ _ (frasC_at hx 2 _ rfl)) HB.out
      have a3 : wr.cell? ⟨FB, k * 4 + 3, none⟩ = some (.slice x.SA x.sn x.sc) := below_cell (HC.out _ _ (frasC_at hx 3 _ rfl)) HB.out
      rw [z1] at a2
      rw [z2, z3, z4] at a3
      have HV := Lib.hid (below_a1 wr (Obj.cells #[.int .i64 x.fn, .int .i64 x.pc, .slice x.LA 0 x.lc, .slice none 0 0] 91))
      have HX0 := Lib.hid (blk_new wr (Obj.cells #[.int .i64 x.fn, .int .i64 x.pc, .slice x.LA 0 x.lc, .slice none 0 0] 91))
      clear hx z1 z2 z3 z4
      go_upto_region 5 with fail
      have hX := HX0.out
      generalize (wr.alloc (Obj.cells #[.int .i64 x.fn, .int .i64 x.pc, .slice x.LA 0 x.lc, .slice none 0 0] 91)) = V at *
      have i0 : V.cell? ⟨wr.heap.size, 2, none⟩ = some (.slice x.LA 0 x.lc) := blk_cell hX 2
      have i0' : V.drew.cell? ⟨wr.heap.size, 2, none⟩ = some (.slice x.LA 0 x.lc) := blk_cell (blk_drew hX) 2
      refine wp_region_held_drew (S := fun w' => w'.cell? ⟨wr.heap.size, 3, none⟩ = some (.slice none 0 0) ∧ Below wr.heap.size wr w') (by kernel_rfl) ⟨blk_cell hX 3, HV.out.drew⟩ (fun hHeld => ?_)
      refine wpAnyH_take (i := 0) (oi := _) (v := (.pointer (some ⟨wr.heap.size, 2, none⟩))) rfl (by kernel_rfl) (by kernel_rfl) (by kernel_rfl) (fun _ _ _ h => h) (Or.inl ⟨by rfl, fun W hS => by go_simp⟩) hHeld ?_
      try simp only [Act.put, List.setIfInBounds_toArray, List.set_cons_zero, List.set_cons_succ, List.getElem_toArray, List.getElem_cons_zero]
      refine wpAnyH_take (i := 4) (oi := _) (v := (.pointer (some ⟨wr.heap.size, 3, none⟩))) rfl (by kernel_rfl) (by kernel_rfl) (by kernel_rfl) (fun _ _ _ h => h) (Or.inl ⟨by rfl, fun W hS => by go_simp⟩) hHeld ?_
      try simp only [Act.put, List.setIfInBounds_toArray, List.set_cons_zero, List.set_cons_succ, List.getElem_toArray, List.getElem_cons_succ, List.getElem_cons_zero]
      refine wpAnyH_take (i := 5) (oi := _) (v := (.slice none 0 0)) rfl (by kernel_rfl) (by kernel_rfl) (by kernel_rfl) (fun _ _ _ h => h) (Or.inl ⟨by rfl, fun W hS => by obtain ⟨s3, _⟩ := hS; go_simp⟩) hHeld ?_
      try simp only [Act.put, List.setIfInBounds_toArray, List.set_cons_zero, List.set_cons_succ, List.getElem_toArray, List.getElem_cons_succ, List.getElem_cons_zero]
      refine wpAnyH_ready (rs := [1]) (by kernel_rfl) (by simp) ?_
      refine AllReadyH.cons (o := _) rfl (fun K hK => ?_) AllReadyH.nil
      go_simp
      refine hK.out _ _ hHeld (fun hHeld => ?_)
      try simp only [Act.put, List.setIfInBounds_toArray, List.set_cons_zero, List.set_cons_succ, List.getElem_toArray, List.getElem_cons_succ, List.getElem_cons_zero]
      clear hK K
      refine wpAnyH_ready (rs := [2]) (by kernel_rfl) (by simp) ?_
      refine AllReadyH.cons (o := _) rfl (fun K hK => ?_) AllReadyH.nil
      go_simp
      go_at_call 61; refine (clone64_calls _ x.LA 0 x.lc [] rfl (by omega) (fun h => absurd h (by decide))).mono ?_; rintro e w1 ⟨u, rfl, hmem, -, hb1⟩
      have hX1 := blk_below (blk_drew hX) hb1 (blk_lt hX)
      have hb1' := HV.out.drew.trans (hb1.mono HV.out.size)
      go_wp2_with fail
      refine hK.out _ _ ⟨blk_cell hX1 3, hb1'⟩ (fun hHeld => ?_)
      try simp only [Act.put, List.setIfInBounds_toArray, List.set_cons_zero, List.set_cons_succ, List.getElem_toArray, List.getElem_cons_succ, List.getElem_cons_zero]
      clear hK K
      refine wpAnyH_ready (rs := [3]) (by kernel_rfl) (by simp) ?_
      refine AllReadyH.cons (o := _) rfl (fun K hK => ?_) AllReadyH.nil
      go_simp
      go_at_call 86; refine (clipW_mem _ u 0 _ hmem (by omega)).mono ?_; rintro e w2 ⟨L1, rfl, hb2⟩
      have hX2 := blk_below hX1 hb2 (blk_lt hX1)
      have hb2' := hb1'.trans (hb2.mono hb1'.size)
      go_wp2_with fail
      refine hK.out _ _ ⟨blk_cell hX2 3, hb2'⟩ (fun hHeld => ?_)
      try simp only [Act.put, List.setIfInBounds_toArray, List.set_cons_zero, List.set_cons_succ, List.getElem_toArray, List.getElem_cons_succ, List.getElem_cons_zero]
      clear hK K
      refine wpAnyH_take (i := 8) (oi := _) (v := (.pointer (some ⟨wr.heap.size, 2, none⟩))) rfl (by kernel_rfl) (by kernel_rfl) (by kernel_rfl) (fun _ _ _ h => h) (Or.inl ⟨by rfl, fun W hS => by go_simp⟩) hHeld ?_
      try simp only [Act.put, List.setIfInBounds_toArray, List.set_cons_zero, List.set_cons_succ, List.getElem_toArray, List.getElem_cons_succ, List.getElem_cons_zero]
      refine wpAnyH_ready (rs := [6]) (by kernel_rfl) (by simp) ?_
      refine AllReadyH.cons (o := _) rfl (fun K hK => ?_) AllReadyH.nil
      go_simp
      go_at_call 61; refine (cloneW_nil _).mono ?_; rintro e w3 ⟨rfl, hb3⟩
      have hX3 := blk_below hX2 hb3 (blk_lt hX2)
      have hb3' := hb2'.trans (hb3.mono hb2'.size)
      go_wp2_with fail
      refine hK.out _ _ ⟨blk_cell hX3 3, hb3'⟩ (fun hHeld => ?_)
      try simp only [Act.put, List.setIfInBounds_toArray, List.set_cons_zero, List.set_cons_succ, List.getElem_toArray, List.getElem_cons_succ, List.getElem_cons_zero]
      clear hK K
      refine wpAnyH_ready (rs := [7]) (by kernel_rfl) (by simp) ?_
      refine AllReadyH.cons (o := _) rfl (fun K hK => ?_) AllReadyH.nil
      go_simp
      go_at_call 86; refine (clipW_nil _).mono ?_; rintro e w4 ⟨rfl, hb4⟩
      have hX4 := blk_below hX3 hb4 (blk_lt hX3)
      have hb4' := hb3'.trans (hb4.mono hb3'.size)
      have i2 : w4.cell? ⟨wr.heap.size, 2, none⟩ = some (.slice x.LA 0 x.lc) := blk_cell hX4 2
      have j2 := blk_frozen hX4 2
      go_wp2_with fail
      refine hK.out _ _ ⟨blk_cell hX4 3, hb4'⟩ (fun hHeld => ?_)
      try simp only [Act.put, List.setIfInBounds_toArray, List.set_cons_zero, List.set_cons_succ, List.getElem_toArray, List.getElem_cons_succ, List.getElem_cons_zero]
      clear hK K
      refine wpAnyH_ready (rs := [9]) (by kernel_rfl) (by simp) ?_
      refine AllReadyH.cons (o := _) rfl (fun K hK => ?_) AllReadyH.nil
      go_simp
      have hX5 := blk_set hX4 2 (.slice L1 0 0)
      have hb5' := hb4'.setCell (p := ⟨wr.heap.size, 2, none⟩) (Nat.le_refl _) (.slice L1 0 0)
      refine hK.out _ _ ⟨blk_cell hX5 3, hb5'⟩ (fun hHeld => ?_)
      try simp only [Act.put, List.setIfInBounds_toArray, List.set_cons_zero, List.set_cons_succ, List.getElem_toArray, List.getElem_cons_succ, List.getElem_cons_zero]
      clear hK K
      generalize w4.setCell ⟨wr.heap.size, 2, none⟩ (.slice L1 0 0) = w5 at *
      have hX5' : w5.heap[wr.heap.size]? = some (.cells #[.int .i64 x.fn, .int .i64 x.pc, .slice L1 0 0, .slice none 0 0] 91 (0, 0)) := by simpa using hX5
      have i3 : w5.cell? ⟨wr.heap.size, 3, none⟩ = some (.slice none 0 0) := blk_cell hX5' 3
      have j3 := blk_frozen hX5' 3
      refine wpAnyH_take (i := 10) (oi := _) (v := (.pointer (some ⟨wr.heap.size, 3, none⟩))) rfl (by kernel_rfl) (by kernel_rfl) (by kernel_rfl) (fun _ _ _ h => h) (Or.inl ⟨by rfl, fun W hS => by go_simp⟩) hHeld ?_
      try simp only [Act.put, List.setIfInBounds_toArray, List.set_cons_zero, List.set_cons_succ, List.getElem_toArray, List.getElem_cons_succ, List.getElem_cons_zero]
      refine wpAnyH_ready (rs := [11]) (by kernel_rfl) (by simp) ?_
      refine AllReadyH.cons (o := _) rfl (fun K hK => ?_) AllReadyH.nil
      go_simp
      have hX6 := blk_set hX5' 3 (.slice none 0 0)
      have hb6' := hb5'.setCell (p := ⟨wr.heap.size, 3, none⟩) (Nat.le_refl _) (.slice none 0 0)
      refine hK.out _ _ ⟨blk_cell hX6 3, hb6'⟩ (fun hHeld => ?_)
      try simp only [Act.put, List.setIfInBounds_toArray, List.set_cons_zero, List.set_cons_succ, List.getElem_toArray, List.getElem_cons_succ, List.getElem_cons_zero]
      clear hK K
      refine wpAnyH_done (by kernel_rfl) ?_ _
      have hXf : (w5.setCell ⟨wr.heap.size, 3, none⟩ (.slice none 0 0)).heap[wr.heap.size]? = some (.cells #[.int .i64 x.fn, .int .i64 x.pc, .slice L1 0 0, .slice none 0 0] 91 (0, 0)) := by simpa using hX6
      have HBY := Lib.hid hb6'
      generalize w5.setCell ⟨wr.heap.size, 3, none⟩ (.slice none 0 0) = Y at *
      have k0 : Y.cell? ⟨wr.heap.size, 0, none⟩ = some (.int .i64 x.fn) := blk_cell hXf 0
      have k1 : Y.cell? ⟨wr.heap.size, 1, none⟩ = some (.int .i64 x.pc) := blk_cell hXf 1
      have k2 : Y.cell? ⟨wr.heap.size, 2, none⟩ = some (.slice L1 0 0) := blk_cell hXf 2
      have k3 : Y.cell? ⟨wr.heap.size, 3, none⟩ = some (.slice none 0 0) := blk_cell hXf 3
      clear hHeld hX hX1 hX2 hX3 hX4 hX5 hX5' hX6 hXf hb1 hb1' hb2 hb2' hb3 hb3' hb4 hb4' hb5' hb6' hmem i0 i0' i2 j2 i3 j3
      have hYw : Below w.heap.size w Y := HB.out.trans (HBY.out.mono HB.out.size)
      have HYw := Lib.hid hYw
      have HOY := Lib.hid (own_below HO.out HBY.out)
      clear hYw a0 a1 a2 a3
      go_wp2_with (at_builtin; go_must (refine list_app _ rfl (.tmp 22) (.tmp 24) _ rfl 91 Tryz.underlying29 frame_info rfl (by decide) (by decide) w.heap.size (n := k) (xs := vs) rfl (by exact HOY.out.alloc _) (news := [.int .i64 x.fn, .int .i64 x.pc, .slice L1 0 0, .slice none 0 0]) rfl rfl (by exact lie_new [.int .i64 x.fn, .int .i64 x.pc, .slice L1 0 0, .slice none 0 0] _ _ rfl) (by intro u hu; simp only [List.mem_cons, List.not_mem_nil, or_false] at hu; rcases hu with rfl | rfl | rfl | rfl <;> rfl) (by omega) (Nat.le_trans HYw.out.size (below_a1 Y _).size) ?_; intro v' w7 hown hg hat; obtain ⟨A7, c7, rfl, _, _, _⟩ := own_shape hown; have HO7 := Lib.hid hown; have HG := Lib.hid hg; clear hown hg hat))
      go_roundw
      case rel => exact ⟨k + 1, A7, c7, _, by omega, by go_num, rfl, HO7, Lib.hid (grown_below (HYw.out.alloc HYw.out.size _) HG.out (Nat.le_trans HYw.out.size (below_a1 Y _).size) (own_row_ge HOY.out))⟩
      case measure => simp [intOf]; omega
    · obtain rfl : n = k := by omega
      obtain ⟨A', c', e, hle, -, -⟩ := own_shape HO.out
      cases e
      go_wp2
      go_ret
      exact ⟨A, c, rfl, hle, HB.out⟩
set_option maxRecDepth 100000 in
theorem clipF_calls (w : World) (A : Option Addr) (n c : Nat) (h : n ≤ c) : Calls Tryz.prog 94 #[.slice A n c] w fun e w' => e = .returned (.slice A n n) ∧ Below w.heap.size w w' := by
  have hsl : ∀ W, (Instr.slice 29 (.slice A n c) none (some (.int .i64 n)) (some (.int .i64 n))).run Tryz.prog W = .ok (.slice A n n) W := fun W => by
    have hu := Tryz.underlying29
    simp [Instr.slice, run_underlying hu, go_sem, h]
  go_enter Tryz.func94, Tryz.ntmps94
  go_wp2
  go_ret
  exact ⟨rfl, Below.refl _ _⟩
set_option maxRecDepth 100000 in
theorem clipO_nil (w : World) : Calls Tryz.prog 133 #[.slice none 0 0] w fun e w' => e = .returned (.slice none 0 0) ∧ Below w.heap.size w w' := by
  go_enter Tryz.func133, Tryz.ntmps133
  go_wp2
  go_ret
  exact ⟨rfl, Below.refl _ _⟩
set_option maxRecDepth 100000 in
theorem objs_heap (w : World) (hp : Nat) (h : w.cell? ⟨hp, 0, none⟩ = some (.slice none 0 0)) : Calls Tryz.prog 95 #[.pointer (some ⟨hp, 0, none⟩)] w fun e w' => e = .returned (.slice none 0 0) ∧ Below w.heap.size w w' := by
  go_enter Tryz.func95, Tryz.ntmps95
  go_wp2_with (first
    | (go_at_call 127; refine (copy_nil _).mono ?_; rintro e w1 ⟨rfl, hb1⟩)
    | (go_at_call 133; refine (clipO_nil _).mono ?_; rintro e w2 ⟨rfl, hb2⟩))
  go_ret
  exact ⟨rfl, hb1.trans (hb2.mono hb1.size)⟩
end Go.Proofs.YtmceaeoeakkppaaGreatDoor
