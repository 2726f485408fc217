/- step.Load: the machine's frames lie in memory of their own. Printed out of XMcFr, XMcLoad by program. -/
import Derived.Test.YtmceaeoeakkppaaGreatDoorMk
namespace Go.Proofs.YtmceaeoeakkppaaGreatDoor
open Go.RowKit Go.Sort
set_option linter.unusedVariables false
set_option linter.unusedSimpArgs false
theorem own_lower {w : World} {B B' : Nat} {e : TypeId} {s n : Nat} {v : Value} {xs : List Value} (h : w.ownsRow B e s v n xs) (hB : B' ≤ B) : w.ownsRow B' e s v n xs := by
  refine ⟨h.1, ?_⟩
  rcases h.2 with h2 | ⟨g, cap, cur, h1, h2, h3⟩
  · exact .inl h2
  · exact .inr ⟨g, cap, cur, h1, Nat.le_trans hB h2, h3⟩
set_option maxRecDepth 100000 in
set_option maxHeartbeats 8000000 in
theorem frames_own (w : World) (fb fo fc : Nat) (LA : Option Addr) (n lc : Nat) (ws : List Int) (hw : ws.length = n) (hn : n ≤ 1000) (hL : Lie w LA n (wcells ws)) (h0 : w.cell? ⟨fb, fo, none⟩ = some (.int .i64 0)) (h1 : w.cell? ⟨fb, fo + 1, none⟩ = some (.int .i64 0)) (h2 : w.cell? ⟨fb, fo + 2, none⟩ = some (.slice LA n lc)) (h3 : w.cell? ⟨fb, fo + 3, none⟩ = some (.slice none 0 0)) :
    Calls Tryz.prog 46 #[.slice (some ⟨fb, fo, none⟩) 1 fc] w fun e w' => ∃ FB c L1 l1, e = .returned (.slice (some ⟨FB, 0, none⟩) 1 c) ∧ w'.ownsRow w.heap.size 91 4 (.slice (some ⟨FB, 0, none⟩) 1 c) 1 [.int .i64 0, .int .i64 0, .slice L1 n l1, .slice none 0 0] ∧ w.heap.size ≤ FB ∧ Below w.heap.size w w' := by
  have hV := below_a1 w (Obj.cells #[.int .i64 0, .int .i64 0, .slice LA n lc, .slice none 0 0] 91)
  have hX := blk_new w (Obj.cells #[.int .i64 0, .int .i64 0, .slice LA n lc, .slice none 0 0] 91)
  have HV := Lib.hid hV
  have HL := Lib.hid (hL.below hV)
  have HX0 := Lib.hid hX
  clear hL hV hX
  go_enter Tryz.func46, Tryz.ntmps46
  go_wp2_with fail
  go_loopw [3, 8] (fun o ix wr => (ix = .int .i64 0 ∧ o = .slice none 0 0 ∧ Hid (w = wr)) ∨ (ix = .int .i64 1 ∧ ∃ FB c, o = .slice (some ⟨FB, 0, none⟩) 1 c ∧ Hid (∃ L1 l1, wr.ownsRow w.heap.size 91 4 (.slice (some ⟨FB, 0, none⟩) 1 c) 1 [.int .i64 0, .int .i64 0, .slice L1 n l1, .slice none 0 0] ∧ w.heap.size ≤ FB ∧ Below w.heap.size w wr))) (fun _ ix _ => 1 - (intOf ix).toNat)
  case atStart => exact .inl ⟨rfl, rfl, Lib.hid rfl⟩
  case round =>
    rcases hrel with ⟨rfl, rfl, he⟩ | ⟨rfl, FB, c, rfl, hr⟩
    · have e := he.out
      subst e
      go_upto_region 5 with fail
      have hX := HX0.out
      generalize (w.alloc (Obj.cells #[.int .i64 0, .int .i64 0, .slice LA n lc, .slice none 0 0] 91)) = V at *
      have i0 : V.cell? ⟨w.heap.size, 2, none⟩ = some (.slice LA n lc) := blk_cell hX 2
      have i0' : V.drew.cell? ⟨w.heap.size, 2, none⟩ = some (.slice LA n lc) := blk_cell (blk_drew hX) 2
      refine wp_region_held_drew (S := fun w' => w'.cell? ⟨w.heap.size, 3, none⟩ = some (.slice none 0 0) ∧ Below w.heap.size w w') (by kernel_rfl) ⟨blk_cell hX 3, HV.out.drew⟩ (fun hHeld => ?_)
      refine wpAnyH_take (i := 0) (oi := _) (v := (.pointer (some ⟨w.heap.size, 2, none⟩))) rfl (by kernel_rfl) (by kernel_rfl) (by kernel_rfl) (fun _ _ _ h => h) (Or.inl ⟨by rfl, fun W hS => by go_simp⟩) hHeld ?_
      try simp only [Act.put, List.setIfInBounds_toArray, List.set_cons_zero, List.set_cons_succ, List.getElem_toArray, List.getElem_cons_zero]
      refine wpAnyH_take (i := 4) (oi := _) (v := (.pointer (some ⟨w.heap.size, 3, none⟩))) rfl (by kernel_rfl) (by kernel_rfl) (by kernel_rfl) (fun _ _ _ h => h) (Or.inl ⟨by rfl, fun W hS => by go_simp⟩) hHeld ?_
      try simp only [Act.put, List.setIfInBounds_toArray, List.set_cons_zero, List.set_cons_succ, List.getElem_toArray, List.getElem_cons_succ, List.getElem_cons_zero]
      refine wpAnyH_take (i := 5) (oi := _) (v := (.slice none 0 0)) rfl (by kernel_rfl) (by kernel_rfl) (by kernel_rfl) (fun _ _ _ h => h) (Or.inl ⟨by rfl, fun W hS => by obtain ⟨s3, _⟩ := hS; go_simp⟩) hHeld ?_
      try simp only [Act.put, List.setIfInBounds_toArray, List.set_cons_zero, List.set_cons_succ, List.getElem_toArray, List.getElem_cons_succ, List.getElem_cons_zero]
      refine wpAnyH_ready (rs := [1]) (by kernel_rfl) (by simp) ?_
      refine AllReadyH.cons (o := _) rfl (fun K hK => ?_) AllReadyH.nil
      go_simp
      refine hK.out _ _ hHeld (fun hHeld => ?_)
      try simp only [Act.put, List.setIfInBounds_toArray, List.set_cons_zero, List.set_cons_succ, List.getElem_toArray, List.getElem_cons_succ, List.getElem_cons_zero]
      clear hK K
      refine wpAnyH_ready (rs := [2]) (by kernel_rfl) (by simp) ?_
      refine AllReadyH.cons (o := _) rfl (fun K hK => ?_) AllReadyH.nil
      go_simp
      go_at_call 61; refine (clone64_calls _ LA n lc ws hw (by omega) (lie_drew HL.out)).mono ?_; rintro e w1 ⟨u, rfl, hmem, -, hb1⟩
      have hX1 := blk_below (blk_drew hX) hb1 (blk_lt hX)
      have hb1' := HV.out.drew.trans (hb1.mono HV.out.size)
      go_wp2_with fail
      refine hK.out _ _ ⟨blk_cell hX1 3, hb1'⟩ (fun hHeld => ?_)
      try simp only [Act.put, List.setIfInBounds_toArray, List.set_cons_zero, List.set_cons_succ, List.getElem_toArray, List.getElem_cons_succ, List.getElem_cons_zero]
      clear hK K
      refine wpAnyH_ready (rs := [3]) (by kernel_rfl) (by simp) ?_
      refine AllReadyH.cons (o := _) rfl (fun K hK => ?_) AllReadyH.nil
      go_simp
      go_at_call 86; refine (clipW_mem _ u n _ hmem (by omega)).mono ?_; rintro e w2 ⟨L1, rfl, hb2⟩
      have hX2 := blk_below hX1 hb2 (blk_lt hX1)
      have hb2' := hb1'.trans (hb2.mono hb1'.size)
      go_wp2_with fail
      refine hK.out _ _ ⟨blk_cell hX2 3, hb2'⟩ (fun hHeld => ?_)
      try simp only [Act.put, List.setIfInBounds_toArray, List.set_cons_zero, List.set_cons_succ, List.getElem_toArray, List.getElem_cons_succ, List.getElem_cons_zero]
      clear hK K
      refine wpAnyH_take (i := 8) (oi := _) (v := (.pointer (some ⟨w.heap.size, 2, none⟩))) rfl (by kernel_rfl) (by kernel_rfl) (by kernel_rfl) (fun _ _ _ h => h) (Or.inl ⟨by rfl, fun W hS => by go_simp⟩) hHeld ?_
      try simp only [Act.put, List.setIfInBounds_toArray, List.set_cons_zero, List.set_cons_succ, List.getElem_toArray, List.getElem_cons_succ, List.getElem_cons_zero]
      refine wpAnyH_ready (rs := [6]) (by kernel_rfl) (by simp) ?_
      refine AllReadyH.cons (o := _) rfl (fun K hK => ?_) AllReadyH.nil
      go_simp
      go_at_call 61; refine (cloneW_nil _).mono ?_; rintro e w3 ⟨rfl, hb3⟩
      have hX3 := blk_below hX2 hb3 (blk_lt hX2)
      have hb3' := hb2'.trans (hb3.mono hb2'.size)
      go_wp2_with fail
      refine hK.out _ _ ⟨blk_cell hX3 3, hb3'⟩ (fun hHeld => ?_)
      try simp only [Act.put, List.setIfInBounds_toArray, List.set_cons_zero, List.set_cons_succ, List.getElem_toArray, List.getElem_cons_succ, List.getElem_cons_zero]
      clear hK K
      refine wpAnyH_ready (rs := [7]) (by kernel_rfl) (by simp) ?_
      refine AllReadyH.cons (o := _) rfl (fun K hK => ?_) AllReadyH.nil
      go_simp
      go_at_call 86; refine (clipW_nil _).mono ?_; rintro e w4 ⟨rfl, hb4⟩
      have hX4 := blk_below hX3 hb4 (blk_lt hX3)
      have hb4' := hb3'.trans (hb4.mono hb3'.size)
      have i2 : w4.cell? ⟨w.heap.size, 2, none⟩ = some (.slice LA n lc) := blk_cell hX4 2
      have j2 := blk_frozen hX4 2
      go_wp2_with fail
      refine hK.out _ _ ⟨blk_cell hX4 3, hb4'⟩ (fun hHeld => ?_)
      try simp only [Act.put, List.setIfInBounds_toArray, List.set_cons_zero, List.set_cons_succ, List.getElem_toArray, List.getElem_cons_succ, List.getElem_cons_zero]
      clear hK K
      refine wpAnyH_ready (rs := [9]) (by kernel_rfl) (by simp) ?_
      refine AllReadyH.cons (o := _) rfl (fun K hK => ?_) AllReadyH.nil
      go_simp
      have hX5 := blk_set hX4 2 (.slice L1 n n)
      have hb5' := hb4'.setCell (p := ⟨w.heap.size, 2, none⟩) (Nat.le_refl _) (.slice L1 n n)
      refine hK.out _ _ ⟨blk_cell hX5 3, hb5'⟩ (fun hHeld => ?_)
      try simp only [Act.put, List.setIfInBounds_toArray, List.set_cons_zero, List.set_cons_succ, List.getElem_toArray, List.getElem_cons_succ, List.getElem_cons_zero]
      clear hK K
      generalize w4.setCell ⟨w.heap.size, 2, none⟩ (.slice L1 n n) = w5 at *
      have hX5' : w5.heap[w.heap.size]? = some (.cells #[.int .i64 0, .int .i64 0, .slice L1 n n, .slice none 0 0] 91 (0, 0)) := by simpa using hX5
      have i3 : w5.cell? ⟨w.heap.size, 3, none⟩ = some (.slice none 0 0) := blk_cell hX5' 3
      have j3 := blk_frozen hX5' 3
      refine wpAnyH_take (i := 10) (oi := _) (v := (.pointer (some ⟨w.heap.size, 3, none⟩))) rfl (by kernel_rfl) (by kernel_rfl) (by kernel_rfl) (fun _ _ _ h => h) (Or.inl ⟨by rfl, fun W hS => by go_simp⟩) hHeld ?_
      try simp only [Act.put, List.setIfInBounds_toArray, List.set_cons_zero, List.set_cons_succ, List.getElem_toArray, List.getElem_cons_succ, List.getElem_cons_zero]
      refine wpAnyH_ready (rs := [11]) (by kernel_rfl) (by simp) ?_
      refine AllReadyH.cons (o := _) rfl (fun K hK => ?_) AllReadyH.nil
      go_simp
      have hX6 := blk_set hX5' 3 (.slice none 0 0)
      have hb6' := hb5'.setCell (p := ⟨w.heap.size, 3, none⟩) (Nat.le_refl _) (.slice none 0 0)
      refine hK.out _ _ ⟨blk_cell hX6 3, hb6'⟩ (fun hHeld => ?_)
      try simp only [Act.put, List.setIfInBounds_toArray, List.set_cons_zero, List.set_cons_succ, List.getElem_toArray, List.getElem_cons_succ, List.getElem_cons_zero]
      clear hK K
      refine wpAnyH_done (by kernel_rfl) ?_ _
      have hXf : (w5.setCell ⟨w.heap.size, 3, none⟩ (.slice none 0 0)).heap[w.heap.size]? = some (.cells #[.int .i64 0, .int .i64 0, .slice L1 n n, .slice none 0 0] 91 (0, 0)) := by simpa using hX6
      have HBY := Lib.hid hb6'
      generalize w5.setCell ⟨w.heap.size, 3, none⟩ (.slice none 0 0) = Y at *
      have k0 : Y.cell? ⟨w.heap.size, 0, none⟩ = some (.int .i64 0) := blk_cell hXf 0
      have k1 : Y.cell? ⟨w.heap.size, 1, none⟩ = some (.int .i64 0) := blk_cell hXf 1
      have k2 : Y.cell? ⟨w.heap.size, 2, none⟩ = some (.slice L1 n n) := blk_cell hXf 2
      have k3 : Y.cell? ⟨w.heap.size, 3, none⟩ = some (.slice none 0 0) := blk_cell hXf 3
      clear hHeld hX hX1 hX2 hX3 hX4 hX5 hX5' hX6 hXf hb1 hb1' hb2 hb2' hb3 hb3' hb4 hb4' hb5' hb6' hmem i0 i0' i2 j2 i3 j3
      go_wp2_with (at_builtin; go_must (refine list_app _ rfl (.tmp 22) (.tmp 24) _ rfl 91 Tryz.underlying29 frame_info rfl (by decide) (by decide) w.heap.size (n := 0) (xs := []) rfl (World.ownsRow_nil _ _ _ _) (news := [.int .i64 0, .int .i64 0, .slice L1 n n, .slice none 0 0]) rfl rfl (by exact lie_new [.int .i64 0, .int .i64 0, .slice L1 n n, .slice none 0 0] _ _ rfl) (by intro u hu; simp only [List.mem_cons, List.not_mem_nil, or_false] at hu; rcases hu with rfl | rfl | rfl | rfl <;> rfl) (by omega) (Nat.le_trans HBY.out.size (below_a1 Y _).size) ?_; intro v' w7 hown hg hat; simp only [Nat.zero_add, List.nil_append] at hown; obtain ⟨FB, c7, cur, rfl, hob, hlt7, hc7, hh7, hcell7, -⟩ := own_at hown (by decide); have HO := Lib.hid hown; have HG := Lib.hid hg; have HH7 := Lib.hid hh7; have HC7 := Lib.hid hcell7; clear hown hg hat hob hh7 hcell7))
      go_roundw
      case rel =>
        exact .inr ⟨rfl, FB, c7, rfl, Lib.hid ⟨L1, n, HO.out, (HO.out.lt FB rfl).1, grown_below (HBY.out.alloc HBY.out.size _) HG.out (Nat.le_trans HBY.out.size (below_a1 Y _).size) (.inl rfl)⟩⟩
      case measure => simp [intOf]
    · go_wp2
      go_ret
      obtain ⟨L1, l1, h4, h5, h6⟩ := hr.out
      exact ⟨FB, c, L1, l1, rfl, h4, h5, h6⟩
set_option maxRecDepth 100000 in
set_option maxHeartbeats 8000000 in
theorem loadk_calls {S : Nat → Prop} (w : World) (m : Md) (B0 B1 B2 B3 B4 : Option Addr) (m0 m1 m2 m3 m4 d0 d1 d2 d3 d4 : Nat) (h : MRow S w m B0 B1 B2 B3 B4 m0 m1 m2 m3 m4) (hm : mainL m = true) (stss : List (List (List Ty))) (hA : AllStr w m B0 B1 B2 B3 B4 m0 m1 m2 m3 m4 d0 d1 d2 d3 d4 stss) (f : Fn) (hf : m.funcs[0]? = some f) (ha : f.args = []) (hl : f.locals.length ≤ 1000) (h5 : ∀ t ∈ f.locals, t.kind ≠ 5) (sts0 : List (List Ty)) (hs0 : stss[0]? = some sts0) (hs00 : sts0[0]? = some []) (hc0 : 0 < f.code.length)
    (fb fo fc : Nat) (LA : Option Addr) (lc : Nat) (ws : List Int) (hw : ws.length = f.locals.length) (hz : ∀ x ∈ ws, x = 0) (hSfb : S fb) (hL : (Rd.int .u64).Row S w LA ws) (hlc : f.locals.length ≤ lc) (e0 : w.cell? ⟨fb, fo, none⟩ = some (.int .i64 0)) (e1 : w.cell? ⟨fb, fo + 1, none⟩ = some (.int .i64 0)) (e2 : w.cell? ⟨fb, fo + 2, none⟩ = some (.slice LA f.locals.length lc)) (e3 : w.cell? ⟨fb, fo + 3, none⟩ = some (.slice none 0 0)) (q : Int) (hq0 : 0 ≤ q) (hq1 : q ≤ 65536) :
    Calls Tryz.prog 18 #[.agg #[.slice B0 m0 d0, .slice B1 m1 d1, .slice B2 m2 d2, .slice B3 m3 d3, .slice B4 m4 d4], .agg #[.slice (some ⟨fb, fo, none⟩) 1 fc, .slice none 0 0, .slice none 0 0, .int .i64 q, .int .i64 0, .int .i64 0, .int .u64 0]] w fun e w' => ∃ p FB hp tp MA mn mc c L1 l1, e = .returned (.tuple #[.pointer (some ⟨p, 0, none⟩), .int .i64 0]) ∧ Mk w.heap.size w' p hp tp B0 B1 B2 B3 B4 m0 m1 m2 m3 m4 d0 d1 d2 d3 d4 q 0 0 MA mn mc (some ⟨FB, 0, none⟩) c [⟨0, 0, L1, f.locals.length, l1, none, 0, 0⟩] ∧
      w'.heap[hp]? = some (.cells #[.slice none 0 0, .int .i64 q, .int .i64 0] 204 (0, 0)) ∧ w'.heap[tp]? = some (.cells #[.slice none 0 0] 207 (0, 0)) ∧ w.heap.size ≤ FB ∧ w.heap.size ≤ p ∧ Below w.heap.size w w' := by
  have hV := below_up (below_a1 w (Obj.cells #[.slice B0 m0 d0, .slice B1 m1 d1, .slice B2 m2 d2, .slice B3 m3 d3, .slice B4 m4 d4] 28)) (Obj.cells #[.slice (some ⟨fb, fo, none⟩) 1 fc, .slice none 0 0, .slice none 0 0, .int .i64 q, .int .i64 0, .int .i64 0, .int .u64 0] 34)
  have HMb := Lib.hid (blk_alloc (blk_new w (Obj.cells #[.slice B0 m0 d0, .slice B1 m1 d1, .slice B2 m2 d2, .slice B3 m3 d3, .slice B4 m4 d4] 28)) (Obj.cells #[.slice (some ⟨fb, fo, none⟩) 1 fc, .slice none 0 0, .slice none 0 0, .int .i64 q, .int .i64 0, .int .i64 0, .int .u64 0] 34))
  have HSb := Lib.hid (blk_new2 w (Obj.cells #[.slice B0 m0 d0, .slice B1 m1 d1, .slice B2 m2 d2, .slice B3 m3 d3, .slice B4 m4 d4] 28) (Obj.cells #[.slice (some ⟨fb, fo, none⟩) 1 fc, .slice none 0 0, .slice none 0 0, .int .i64 q, .int .i64 0, .int .i64 0, .int .u64 0] 34))
  have hA2 : AllStr ((w.alloc (Obj.cells #[.slice B0 m0 d0, .slice B1 m1 d1, .slice B2 m2 d2, .slice B3 m3 d3, .slice B4 m4 d4] 28)).alloc (Obj.cells #[.slice (some ⟨fb, fo, none⟩) 1 fc, .slice none 0 0, .slice none 0 0, .int .i64 q, .int .i64 0, .int .i64 0, .int .u64 0] 34)) m B0 B1 B2 B3 B4 m0 m1 m2 m3 m4 d0 d1 d2 d3 d4 stss := ⟨hA.len, fun n f sts h1 h2 => ⟨(hA.each n f sts h1 h2).1.up hV, (hA.each n f sts h1 h2).2⟩, hA.many⟩
  have KC := Lib.hid (check_calls _ m B0 B1 B2 B3 B4 m0 m1 m2 m3 m4 d0 d1 d2 d3 d4 (h.below hV) hm stss hA2)
  have rF : ∀ W, Below w.heap.size w W → k_frame.Row S W (some ⟨fb, fo, none⟩) [⟨0, 0, ws, []⟩] := fun W hb _ => ⟨fb, fo, rfl, hSfb, fun i hi => by
    obtain rfl : i = 0 := by simp at hi; omega
    have hk := fun b hS => hb.block b (h.lt b hS)
    refine ⟨_, k_frame_mk (⟨0, 0, ws, []⟩ : Fr) (show (Lit.int .i64 0).wf = true by decide) (show (Lit.int .i64 0).wf = true by decide) (l2 := by rw [hw]; exact hlc) (by rw [hw]; omega) (hL.keep hk) (A3 := none) (c3 := 0) (Nat.le_refl _) (Nat.zero_le _) (Rd.Row.nil _ _ _ _), fun j v hj => ?_⟩
    match j with
    | 0 => injection hj with hj; subst hj; simpa using below_cell e0 hb
    | 1 => injection hj with hj; subst hj; simpa using below_cell e1 hb
    | 2 => injection hj with hj; subst hj; simpa [hw] using below_cell e2 hb
    | 3 => injection hj with hj; subst hj; simpa using below_cell e3 hb
    | j + 4 => cases hj⟩
  have KF := Lib.hid (fun W (hb : Below w.heap.size w W) MA mc (hmp : (Rd.slice k_shape).Row (fun b => b < W.heap.size) W MA (stss.map seenL)) => fits_zero (S := fun b => b < W.heap.size) W m B0 B1 B2 B3 B4 m0 m1 m2 m3 m4 d0 d1 d2 d3 d4 ((h.below hb).mono (fun b hS => Nat.lt_of_lt_of_le (h.lt b hS) hb.size) (fun b h => h)) MA stss.length mc (stss.map seenL) hmp (List.length_map ..) (some ⟨fb, fo, none⟩) none none fc 0 0 q hq0 hq1 f hf ha hl h5 (seenL sts0) (by rw [List.getElem?_map, hs0]; rfl) (by rw [seenL, List.getElem?_map, hs00]; rfl) hc0 ws hw hz ((rF W hb).mono (fun b hS => Nat.lt_of_lt_of_le (h.lt b hS) hb.size)))
  have KE := Lib.hid (fun W => enter_calls W B0 B1 B2 B3 B4 m0 m1 m2 m3 m4 d0 d1 d2 d3 d4 (.slice (some ⟨fb, fo, none⟩) 1 fc) ⟨_, _, _, rfl⟩ q)
  have KFr := Lib.hid (fun W (hb : Below w.heap.size w W) => frames_own W fb fo fc LA f.locals.length lc ws hw hl (by have := (word_lie ((hL.keep (fun b hS => hb.block b (h.lt b hS))))); rw [hw] at this; exact this) (below_cell e0 hb) (below_cell e1 hb) (below_cell e2 hb) (below_cell e3 hb))
  have HV := Lib.hid hV
  clear h hA hA2 hf ha h5 hs0 hs00 hz hL e0 e1 e2 e3 rF hV hm
  go_enter Tryz.func18, Tryz.ntmps18
  go_upto_region 6 with (first
    | (go_at_call 43; go_must (refine KC.out.mono ?_; rintro e w1 ⟨MA, mc, rfl, hmp, hmc, hb1⟩; have HMp := Lib.hid hmp; have HB1 := Lib.hid hb1; have hx1 := blk_below HMb.out hb1 (blk_lt HMb.out); have hy1 := blk_below HSb.out hb1 (blk_lt HSb.out); obtain ⟨a0, a1, a2, a3, a4⟩ := cells5 hx1; obtain ⟨⟨b0, b1, b2, b3, b4, b5, b6⟩, -⟩ := box7f hy1; have HX1 := Lib.hid hx1; have HY1 := Lib.hid hy1; clear hmp hb1 hx1 hy1))
    | (go_at_call 44; go_must (refine (KF.out _ (HV.out.trans (HB1.out.mono HV.out.size)) MA mc HMp.out).mono ?_; rintro e w2 ⟨rfl, hb2⟩; have HB2 := Lib.hid hb2; have HX2 := Lib.hid (blk_below HX1.out hb2 (blk_lt HX1.out)); have HY2 := Lib.hid (blk_below HY1.out hb2 (blk_lt HY1.out)); clear hb2)))
  have HB2w := Lib.hid (HV.out.trans ((HB1.out.trans (HB2.out.mono HB1.out.size)).mono HV.out.size))
  go_region_held3 (fun w' => w'.cell? ⟨w.heap.size, 0, none⟩ = some (.slice B0 m0 d0) ∧ w'.cell? ⟨w.heap.size, 1, none⟩ = some (.slice B1 m1 d1) ∧ w'.cell? ⟨w.heap.size, 2, none⟩ = some (.slice B2 m2 d2) ∧ w'.cell? ⟨w.heap.size, 3, none⟩ = some (.slice B3 m3 d3) ∧ w'.cell? ⟨w.heap.size, 4, none⟩ = some (.slice B4 m4 d4) ∧ w'.cell? ⟨w.heap.size + 1, 0, none⟩ = some (.slice (some ⟨fb, fo, none⟩) 1 fc) ∧ w'.cell? ⟨w.heap.size + 1, 1, none⟩ = some (.slice none 0 0) ∧ w'.cell? ⟨w.heap.size + 1, 2, none⟩ = some (.slice none 0 0) ∧ w'.cell? ⟨w.heap.size + 1, 3, none⟩ = some (.int .i64 q) ∧ w'.cell? ⟨w.heap.size + 1, 4, none⟩ = some (.int .i64 0) ∧ w'.cell? ⟨w.heap.size + 1, 5, none⟩ = some (.int .i64 0) ∧ w'.cell? ⟨w.heap.size + 1, 6, none⟩ = some (.int .u64 0) ∧ Below w2.heap.size w2 w')
    (first | (refine hold12 HX2.out HY2.out ?_; first | with_reducible assumption | (repeat (first | exact Below.refl _ _ | exact held12 (by assumption) | refine Below.drew ?_ | refine below_up ?_ _))))
    (first
      | (go_at_call 45; go_must (refine (KE.out _).mono ?_; rintro e w3 ⟨hp, tp, rfl, hh3, ht3, hgh, hgt, hb3⟩; have hbV3 : Below w2.heap.size w2 w3 := Below.trans (held12 (by assumption)) (hb3.mono (held12 (by assumption)).size)))
      | (go_at_call 46; go_must (refine (KFr.out _ (HB2w.out.trans ((held12 (by assumption)).mono HB2w.out.size))).mono ?_; rintro e w4 ⟨FB, c, L1, l1, rfl, hfr4, hgF, hb4⟩; have hbV4 : Below w2.heap.size w2 w4 := Below.trans (held12 (by assumption)) (hb4.mono (held12 (by assumption)).size))))
  all_goals
    go_wp2
    go_ret2
    refine ⟨w4.heap.size, FB, hp, tp, MA, stss.length, mc, c, L1, l1, rfl, ⟨blk_new w4 _, own_lower (hfr4.alloc _) (Nat.le_trans HB2w.out.size hbV3.size)⟩, blk_alloc (blk_below hh3 hb4 (blk_lt hh3)) _, blk_alloc (blk_below ht3 hb4 (blk_lt ht3)) _, ?_, ?_, (HB2w.out.trans (hbV4.mono HB2w.out.size)).alloc (HB2w.out.trans (hbV4.mono HB2w.out.size)).size _⟩
    · exact Nat.le_trans (Nat.le_trans HB2w.out.size hbV3.size) hgF
    · exact Nat.le_trans HB2w.out.size hbV4.size
end Go.Proofs.YtmceaeoeakkppaaGreatDoor
