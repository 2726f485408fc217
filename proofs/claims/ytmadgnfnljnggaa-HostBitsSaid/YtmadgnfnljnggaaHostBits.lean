/- The walk of HostBits. -/
import Derived.Test.YtmadgnfnljnggaaHostW
namespace Go.Proofs.Ytmadgnfnljnggaa
open Go.RowKit
set_option linter.unusedVariables false
theorem bits_row {W : World} {b : Nat} {t : TypeId} {fr : Nat × Nat} {k : Int} (hk : (Lit.int .i64 k).wf = true) (h : W.heap[b]? = some (.cells #[.int .i64 k, .int .u64 0, .bool true] t fr)) : k_han.Row (· = b) W (some ⟨b, 0, none⟩) [⟨k, 0, true⟩] :=
  Rd.Row.of_blk h rfl (Rd.Flat.cons (k_han_mk ⟨k, 0, true⟩ hk rfl) (Rd.Flat.nil _ _ _)) (fun j v hj => by simpa using hj)
theorem bits_imps {W : World} {b : Nat} {t : TypeId} {fr : Nat × Nat} {k m : Int} (hk : (Lit.int .i64 k).wf = true) (hm : (Lit.int .i64 m).wf = true) (h : W.heap[b]? = some (.cells #[.slice none 0 0, .int .i64 5, .int .i64 k, .slice none 0 0, .int .i64 m, .int .i64 k] t fr)) : k_imp.Row (· = b) W (some ⟨b, 0, none⟩) [⟨[], ⟨5, k⟩⟩, ⟨[], ⟨m, k⟩⟩] :=
  Rd.Row.of_blk h rfl (Rd.Flat.cons (k_imp_mk ⟨[], ⟨5, k⟩⟩ (Nat.le_refl _) (Nat.zero_le _) (Rd.Row.nil _ _ _ _) rfl hk) (Rd.Flat.cons (k_imp_mk ⟨[], ⟨m, k⟩⟩ (Nat.le_refl _) (Nat.zero_le _) (Rd.Row.nil _ _ _ _) hm hk) (Rd.Flat.nil _ _ _))) (fun j v hj => by simpa using hj)
theorem bits_wants (k m : Int) (hm : m ≠ 5) : wants [⟨[], ⟨5, k⟩⟩, ⟨[], ⟨m, k⟩⟩] = B4.none.set k := by
  simp [wants, want1, hm]
set_option maxHeartbeats 800000 in
theorem hostBits_0 (w : World) (a0 : Int) (w0 : (Lit.int .i64 a0).wf = true) (a1 : Int) (w1 : (Lit.int .u8 a1).wf = true) (h : a0 = 0) :
    Calls Try.prog 9 #[.int .i64 a0, .int .u8 a1] w fun e w' => e = .returned (.bool true) ∧ Below w.heap.size w w' := by
  have hb0 := bounds_i64 w0
  have hb1 := bounds_u8 w1
  have hm5 : (Lit.int .i64 (a1 % 5)).wf = true := WalkArith.wf_i64 (by omega)
  have hne5 : a1 % 5 ≠ 5 := by omega
  have HM := Lib.hid hm5
  have HW := Lib.hid w0
  have hset := Lib.hid (B4.set_far (s := B4.none) (k := a0))
  have hww := Lib.hid (bits_wants a0 (a1 % 5) hne5)
  clear hm5 hne5 w1 w0
  subst h
  have hv := Lib.hid (show (B4.none.set 0).val = 1 by decide +kernel)
  have hv1 := Lib.hid (show bindOf (B4.none.set 0) 1 = 0 by decide +kernel)
  have hv2 := Lib.hid (show bindOf (B4.none.set 0) 14 = 8 by decide +kernel)
  clear hset hb0
  go_enter Try.func9, Try.ntmps9
  go_wp2_with (first
    | (go_at_call 16; refine (hostAnswers_calls _).mono ?_; rintro e w2 ⟨rfl, hb2⟩
       have hB2 := Lib.hid ((((((Below.refl w.heap.size w).alloc (Nat.le_refl _) _).alloc (by simp) _).alloc (by simp <;> omega) _).alloc (by simp <;> omega) _).trans (hb2.mono (by simp <;> omega)))
       have X0 := Lib.hid (blk_below (blk_alloc (blk_alloc (blk_alloc (blk_new w _) _) _) _) hb2 (by simp <;> omega))
       have X1 := Lib.hid (blk_below (blk_alloc (blk_alloc (blk_new2 w _ _) _) _) hb2 (by simp <;> omega))
       have X2 := Lib.hid (blk_below (blk_alloc (blk_new3 w _ _ _) _) hb2 (by simp <;> omega))
       have X3 := Lib.hid (blk_below (blk_new4 w _ _ _ _) hb2 (by simp))
       have hs2 : w.heap.size + 1 + 1 + 1 < w2.heap.size := blk_lt X3.out
       have g2 : w.heap.size + 1 < w2.heap.size := by omega
       have hc1 := blk_cell X1.out
       have hc3 := blk_cell X3.out
       clear hb2)
    | (go_at_call 19; refine (needs_calls' (S := (· = w.heap.size)) _ _ _ _ _ _ _ _ _ _ [⟨0, 0, true⟩] rfl (by decide) (by intro b h; omega) (by exact bits_row HW.out X0.out)).mono ?_
       rintro e w3 ⟨he, hb3⟩
       obtain rfl := he.trans (ret_int hv.out)
       have hB3 := Lib.hid (hB2.out.trans (hb3.mono (by omega)))
       have hs3 := hb3.size
       have g3 : w.heap.size + 1 + 1 + 1 < w3.heap.size := by omega
       have g3' : w.heap.size + 1 < w3.heap.size := by omega
       have B3 := Lib.hid hb3
       obtain ⟨hcc3, hff3⟩ := bcell hb3
       clear he hb3)
    | (go_at_call 24; refine (wants_calls (S := (· = w.heap.size + 1 + 1)) _ _ _ _ _ _ _ [⟨[], ⟨5, 0⟩⟩, ⟨[], ⟨a1 % 5, 0⟩⟩] (by simp) (by intro b h; omega) (by exact (bits_imps HW.out HM.out X2.out).keep (fun b h => B3.out.block b (by omega)))).mono ?_
       rintro e w4 ⟨he, hb4⟩
       obtain rfl := he.trans (ret_int ((congrArg B4.val hww.out).trans hv.out))
       have hB4 := Lib.hid (hB3.out.trans (hb4.mono (by omega)))
       have hs4 := hb4.size
       have g4 : w.heap.size + 1 < w4.heap.size := by omega
       have B4' := Lib.hid (B3.out.trans (hb4.mono B3.out.size))
       obtain ⟨hcc4, hff4⟩ := bcell hb4
       clear he hb4)
    | (go_at_call_of 18 (Value.int .i64 1); refine (bind_calls' (S := (· = w.heap.size)) _ _ _ _ _ _ _ _ _ _ _ [⟨0, 0, true⟩] rfl (by decide) (by intro b h; omega) (by exact (bits_row HW.out X0.out).keep (fun b h => B4'.out.block b (by omega)))).mono ?_
       rintro e w5 ⟨he, hb5⟩
       obtain rfl := he.trans (ret_int hv1.out)
       have hB5 := Lib.hid (hB4.out.trans (hb5.mono (by omega)))
       have hs5 := hb5.size
       have g5 : w.heap.size + 1 < w5.heap.size := by omega
       have B5 := Lib.hid (B4'.out.trans (hb5.mono B4'.out.size))
       obtain ⟨hcc5, hff5⟩ := bcell hb5
       clear he hb5)
    | (go_at_call_of 18 (Value.int .i64 14); refine (bind_calls' (S := (· = w.heap.size)) _ _ _ _ _ _ _ _ _ _ _ [⟨0, 0, true⟩] rfl (by decide) (by intro b h; omega) (by exact (bits_row HW.out X0.out).keep (fun b h => B5.out.block b (by omega)))).mono ?_
       rintro e w6 ⟨he, hb6⟩
       obtain rfl := he.trans (ret_int hv2.out)
       have hB6 := Lib.hid (hB5.out.trans (hb6.mono (by omega)))
       clear he hb6))
  go_ret
  exact ⟨rfl, hB6.out⟩
set_option maxHeartbeats 800000 in
theorem hostBits_1 (w : World) (a0 : Int) (w0 : (Lit.int .i64 a0).wf = true) (a1 : Int) (w1 : (Lit.int .u8 a1).wf = true) (h : a0 = 1) :
    Calls Try.prog 9 #[.int .i64 a0, .int .u8 a1] w fun e w' => e = .returned (.bool true) ∧ Below w.heap.size w w' := by
  have hb0 := bounds_i64 w0
  have hb1 := bounds_u8 w1
  have hm5 : (Lit.int .i64 (a1 % 5)).wf = true := WalkArith.wf_i64 (by omega)
  have hne5 : a1 % 5 ≠ 5 := by omega
  have HM := Lib.hid hm5
  have HW := Lib.hid w0
  have hset := Lib.hid (B4.set_far (s := B4.none) (k := a0))
  have hww := Lib.hid (bits_wants a0 (a1 % 5) hne5)
  clear hm5 hne5 w1 w0
  subst h
  have hv := Lib.hid (show (B4.none.set 1).val = 2 by decide +kernel)
  have hv1 := Lib.hid (show bindOf (B4.none.set 1) 2 = 0 by decide +kernel)
  have hv2 := Lib.hid (show bindOf (B4.none.set 1) 13 = 8 by decide +kernel)
  clear hset hb0
  go_enter Try.func9, Try.ntmps9
  go_wp2_with (first
    | (go_at_call 16; refine (hostAnswers_calls _).mono ?_; rintro e w2 ⟨rfl, hb2⟩
       have hB2 := Lib.hid ((((((Below.refl w.heap.size w).alloc (Nat.le_refl _) _).alloc (by simp) _).alloc (by simp <;> omega) _).alloc (by simp <;> omega) _).trans (hb2.mono (by simp <;> omega)))
       have X0 := Lib.hid (blk_below (blk_alloc (blk_alloc (blk_alloc (blk_new w _) _) _) _) hb2 (by simp <;> omega))
       have X1 := Lib.hid (blk_below (blk_alloc (blk_alloc (blk_new2 w _ _) _) _) hb2 (by simp <;> omega))
       have X2 := Lib.hid (blk_below (blk_alloc (blk_new3 w _ _ _) _) hb2 (by simp <;> omega))
       have X3 := Lib.hid (blk_below (blk_new4 w _ _ _ _) hb2 (by simp))
       have hs2 : w.heap.size + 1 + 1 + 1 < w2.heap.size := blk_lt X3.out
       have g2 : w.heap.size + 1 < w2.heap.size := by omega
       have hc1 := blk_cell X1.out
       have hc3 := blk_cell X3.out
       clear hb2)
    | (go_at_call 19; refine (needs_calls' (S := (· = w.heap.size)) _ _ _ _ _ _ _ _ _ _ [⟨1, 0, true⟩] rfl (by decide) (by intro b h; omega) (by exact bits_row HW.out X0.out)).mono ?_
       rintro e w3 ⟨he, hb3⟩
       obtain rfl := he.trans (ret_int hv.out)
       have hB3 := Lib.hid (hB2.out.trans (hb3.mono (by omega)))
       have hs3 := hb3.size
       have g3 : w.heap.size + 1 + 1 + 1 < w3.heap.size := by omega
       have g3' : w.heap.size + 1 < w3.heap.size := by omega
       have B3 := Lib.hid hb3
       obtain ⟨hcc3, hff3⟩ := bcell hb3
       clear he hb3)
    | (go_at_call 24; refine (wants_calls (S := (· = w.heap.size + 1 + 1)) _ _ _ _ _ _ _ [⟨[], ⟨5, 1⟩⟩, ⟨[], ⟨a1 % 5, 1⟩⟩] (by simp) (by intro b h; omega) (by exact (bits_imps HW.out HM.out X2.out).keep (fun b h => B3.out.block b (by omega)))).mono ?_
       rintro e w4 ⟨he, hb4⟩
       obtain rfl := he.trans (ret_int ((congrArg B4.val hww.out).trans hv.out))
       have hB4 := Lib.hid (hB3.out.trans (hb4.mono (by omega)))
       have hs4 := hb4.size
       have g4 : w.heap.size + 1 < w4.heap.size := by omega
       have B4' := Lib.hid (B3.out.trans (hb4.mono B3.out.size))
       obtain ⟨hcc4, hff4⟩ := bcell hb4
       clear he hb4)
    | (go_at_call_of 18 (Value.int .i64 2); refine (bind_calls' (S := (· = w.heap.size)) _ _ _ _ _ _ _ _ _ _ _ [⟨1, 0, true⟩] rfl (by decide) (by intro b h; omega) (by exact (bits_row HW.out X0.out).keep (fun b h => B4'.out.block b (by omega)))).mono ?_
       rintro e w5 ⟨he, hb5⟩
       obtain rfl := he.trans (ret_int hv1.out)
       have hB5 := Lib.hid (hB4.out.trans (hb5.mono (by omega)))
       have hs5 := hb5.size
       have g5 : w.heap.size + 1 < w5.heap.size := by omega
       have B5 := Lib.hid (B4'.out.trans (hb5.mono B4'.out.size))
       obtain ⟨hcc5, hff5⟩ := bcell hb5
       clear he hb5)
    | (go_at_call_of 18 (Value.int .i64 13); refine (bind_calls' (S := (· = w.heap.size)) _ _ _ _ _ _ _ _ _ _ _ [⟨1, 0, true⟩] rfl (by decide) (by intro b h; omega) (by exact (bits_row HW.out X0.out).keep (fun b h => B5.out.block b (by omega)))).mono ?_
       rintro e w6 ⟨he, hb6⟩
       obtain rfl := he.trans (ret_int hv2.out)
       have hB6 := Lib.hid (hB5.out.trans (hb6.mono (by omega)))
       clear he hb6))
  go_ret
  exact ⟨rfl, hB6.out⟩
set_option maxHeartbeats 800000 in
theorem hostBits_2 (w : World) (a0 : Int) (w0 : (Lit.int .i64 a0).wf = true) (a1 : Int) (w1 : (Lit.int .u8 a1).wf = true) (h : a0 = 2) :
    Calls Try.prog 9 #[.int .i64 a0, .int .u8 a1] w fun e w' => e = .returned (.bool true) ∧ Below w.heap.size w w' := by
  have hb0 := bounds_i64 w0
  have hb1 := bounds_u8 w1
  have hm5 : (Lit.int .i64 (a1 % 5)).wf = true := WalkArith.wf_i64 (by omega)
  have hne5 : a1 % 5 ≠ 5 := by omega
  have HM := Lib.hid hm5
  have HW := Lib.hid w0
  have hset := Lib.hid (B4.set_far (s := B4.none) (k := a0))
  have hww := Lib.hid (bits_wants a0 (a1 % 5) hne5)
  clear hm5 hne5 w1 w0
  subst h
  have hv := Lib.hid (show (B4.none.set 2).val = 4 by decide +kernel)
  have hv1 := Lib.hid (show bindOf (B4.none.set 2) 4 = 0 by decide +kernel)
  have hv2 := Lib.hid (show bindOf (B4.none.set 2) 11 = 8 by decide +kernel)
  clear hset hb0
  go_enter Try.func9, Try.ntmps9
  go_wp2_with (first
    | (go_at_call 16; refine (hostAnswers_calls _).mono ?_; rintro e w2 ⟨rfl, hb2⟩
       have hB2 := Lib.hid ((((((Below.refl w.heap.size w).alloc (Nat.le_refl _) _).alloc (by simp) _).alloc (by simp <;> omega) _).alloc (by simp <;> omega) _).trans (hb2.mono (by simp <;> omega)))
       have X0 := Lib.hid (blk_below (blk_alloc (blk_alloc (blk_alloc (blk_new w _) _) _) _) hb2 (by simp <;> omega))
       have X1 := Lib.hid (blk_below (blk_alloc (blk_alloc (blk_new2 w _ _) _) _) hb2 (by simp <;> omega))
       have X2 := Lib.hid (blk_below (blk_alloc (blk_new3 w _ _ _) _) hb2 (by simp <;> omega))
       have X3 := Lib.hid (blk_below (blk_new4 w _ _ _ _) hb2 (by simp))
       have hs2 : w.heap.size + 1 + 1 + 1 < w2.heap.size := blk_lt X3.out
       have g2 : w.heap.size + 1 < w2.heap.size := by omega
       have hc1 := blk_cell X1.out
       have hc3 := blk_cell X3.out
       clear hb2)
    | (go_at_call 19; refine (needs_calls' (S := (· = w.heap.size)) _ _ _ _ _ _ _ _ _ _ [⟨2, 0, true⟩] rfl (by decide) (by intro b h; omega) (by exact bits_row HW.out X0.out)).mono ?_
       rintro e w3 ⟨he, hb3⟩
       obtain rfl := he.trans (ret_int hv.out)
       have hB3 := Lib.hid (hB2.out.trans (hb3.mono (by omega)))
       have hs3 := hb3.size
       have g3 : w.heap.size + 1 + 1 + 1 < w3.heap.size := by omega
       have g3' : w.heap.size + 1 < w3.heap.size := by omega
       have B3 := Lib.hid hb3
       obtain ⟨hcc3, hff3⟩ := bcell hb3
       clear he hb3)
    | (go_at_call 24; refine (wants_calls (S := (· = w.heap.size + 1 + 1)) _ _ _ _ _ _ _ [⟨[], ⟨5, 2⟩⟩, ⟨[], ⟨a1 % 5, 2⟩⟩] (by simp) (by intro b h; omega) (by exact (bits_imps HW.out HM.out X2.out).keep (fun b h => B3.out.block b (by omega)))).mono ?_
       rintro e w4 ⟨he, hb4⟩
       obtain rfl := he.trans (ret_int ((congrArg B4.val hww.out).trans hv.out))
       have hB4 := Lib.hid (hB3.out.trans (hb4.mono (by omega)))
       have hs4 := hb4.size
       have g4 : w.heap.size + 1 < w4.heap.size := by omega
       have B4' := Lib.hid (B3.out.trans (hb4.mono B3.out.size))
       obtain ⟨hcc4, hff4⟩ := bcell hb4
       clear he hb4)
    | (go_at_call_of 18 (Value.int .i64 4); refine (bind_calls' (S := (· = w.heap.size)) _ _ _ _ _ _ _ _ _ _ _ [⟨2, 0, true⟩] rfl (by decide) (by intro b h; omega) (by exact (bits_row HW.out X0.out).keep (fun b h => B4'.out.block b (by omega)))).mono ?_
       rintro e w5 ⟨he, hb5⟩
       obtain rfl := he.trans (ret_int hv1.out)
       have hB5 := Lib.hid (hB4.out.trans (hb5.mono (by omega)))
       have hs5 := hb5.size
       have g5 : w.heap.size + 1 < w5.heap.size := by omega
       have B5 := Lib.hid (B4'.out.trans (hb5.mono B4'.out.size))
       obtain ⟨hcc5, hff5⟩ := bcell hb5
       clear he hb5)
    | (go_at_call_of 18 (Value.int .i64 11); refine (bind_calls' (S := (· = w.heap.size)) _ _ _ _ _ _ _ _ _ _ _ [⟨2, 0, true⟩] rfl (by decide) (by intro b h; omega) (by exact (bits_row HW.out X0.out).keep (fun b h => B5.out.block b (by omega)))).mono ?_
       rintro e w6 ⟨he, hb6⟩
       obtain rfl := he.trans (ret_int hv2.out)
       have hB6 := Lib.hid (hB5.out.trans (hb6.mono (by omega)))
       clear he hb6))
  go_ret
  exact ⟨rfl, hB6.out⟩
set_option maxHeartbeats 800000 in
theorem hostBits_3 (w : World) (a0 : Int) (w0 : (Lit.int .i64 a0).wf = true) (a1 : Int) (w1 : (Lit.int .u8 a1).wf = true) (h : a0 = 3) :
    Calls Try.prog 9 #[.int .i64 a0, .int .u8 a1] w fun e w' => e = .returned (.bool true) ∧ Below w.heap.size w w' := by
  have hb0 := bounds_i64 w0
  have hb1 := bounds_u8 w1
  have hm5 : (Lit.int .i64 (a1 % 5)).wf = true := WalkArith.wf_i64 (by omega)
  have hne5 : a1 % 5 ≠ 5 := by omega
  have HM := Lib.hid hm5
  have HW := Lib.hid w0
  have hset := Lib.hid (B4.set_far (s := B4.none) (k := a0))
  have hww := Lib.hid (bits_wants a0 (a1 % 5) hne5)
  clear hm5 hne5 w1 w0
  subst h
  have hv := Lib.hid (show (B4.none.set 3).val = 8 by decide +kernel)
  have hv1 := Lib.hid (show bindOf (B4.none.set 3) 8 = 0 by decide +kernel)
  have hv2 := Lib.hid (show bindOf (B4.none.set 3) 7 = 8 by decide +kernel)
  clear hset hb0
  go_enter Try.func9, Try.ntmps9
  go_wp2_with (first
    | (go_at_call 16; refine (hostAnswers_calls _).mono ?_; rintro e w2 ⟨rfl, hb2⟩
       have hB2 := Lib.hid ((((((Below.refl w.heap.size w).alloc (Nat.le_refl _) _).alloc (by simp) _).alloc (by simp <;> omega) _).alloc (by simp <;> omega) _).trans (hb2.mono (by simp <;> omega)))
       have X0 := Lib.hid (blk_below (blk_alloc (blk_alloc (blk_alloc (blk_new w _) _) _) _) hb2 (by simp <;> omega))
       have X1 := Lib.hid (blk_below (blk_alloc (blk_alloc (blk_new2 w _ _) _) _) hb2 (by simp <;> omega))
       have X2 := Lib.hid (blk_below (blk_alloc (blk_new3 w _ _ _) _) hb2 (by simp <;> omega))
       have X3 := Lib.hid (blk_below (blk_new4 w _ _ _ _) hb2 (by simp))
       have hs2 : w.heap.size + 1 + 1 + 1 < w2.heap.size := blk_lt X3.out
       have g2 : w.heap.size + 1 < w2.heap.size := by omega
       have hc1 := blk_cell X1.out
       have hc3 := blk_cell X3.out
       clear hb2)
    | (go_at_call 19; refine (needs_calls' (S := (· = w.heap.size)) _ _ _ _ _ _ _ _ _ _ [⟨3, 0, true⟩] rfl (by decide) (by intro b h; omega) (by exact bits_row HW.out X0.out)).mono ?_
       rintro e w3 ⟨he, hb3⟩
       obtain rfl := he.trans (ret_int hv.out)
       have hB3 := Lib.hid (hB2.out.trans (hb3.mono (by omega)))
       have hs3 := hb3.size
       have g3 : w.heap.size + 1 + 1 + 1 < w3.heap.size := by omega
       have g3' : w.heap.size + 1 < w3.heap.size := by omega
       have B3 := Lib.hid hb3
       obtain ⟨hcc3, hff3⟩ := bcell hb3
       clear he hb3)
    | (go_at_call 24; refine (wants_calls (S := (· = w.heap.size + 1 + 1)) _ _ _ _ _ _ _ [⟨[], ⟨5, 3⟩⟩, ⟨[], ⟨a1 % 5, 3⟩⟩] (by simp) (by intro b h; omega) (by exact (bits_imps HW.out HM.out X2.out).keep (fun b h => B3.out.block b (by omega)))).mono ?_
       rintro e w4 ⟨he, hb4⟩
       obtain rfl := he.trans (ret_int ((congrArg B4.val hww.out).trans hv.out))
       have hB4 := Lib.hid (hB3.out.trans (hb4.mono (by omega)))
       have hs4 := hb4.size
       have g4 : w.heap.size + 1 < w4.heap.size := by omega
       have B4' := Lib.hid (B3.out.trans (hb4.mono B3.out.size))
       obtain ⟨hcc4, hff4⟩ := bcell hb4
       clear he hb4)
    | (go_at_call_of 18 (Value.int .i64 8); refine (bind_calls' (S := (· = w.heap.size)) _ _ _ _ _ _ _ _ _ _ _ [⟨3, 0, true⟩] rfl (by decide) (by intro b h; omega) (by exact (bits_row HW.out X0.out).keep (fun b h => B4'.out.block b (by omega)))).mono ?_
       rintro e w5 ⟨he, hb5⟩
       obtain rfl := he.trans (ret_int hv1.out)
       have hB5 := Lib.hid (hB4.out.trans (hb5.mono (by omega)))
       have hs5 := hb5.size
       have g5 : w.heap.size + 1 < w5.heap.size := by omega
       have B5 := Lib.hid (B4'.out.trans (hb5.mono B4'.out.size))
       obtain ⟨hcc5, hff5⟩ := bcell hb5
       clear he hb5)
    | (go_at_call_of 18 (Value.int .i64 7); refine (bind_calls' (S := (· = w.heap.size)) _ _ _ _ _ _ _ _ _ _ _ [⟨3, 0, true⟩] rfl (by decide) (by intro b h; omega) (by exact (bits_row HW.out X0.out).keep (fun b h => B5.out.block b (by omega)))).mono ?_
       rintro e w6 ⟨he, hb6⟩
       obtain rfl := he.trans (ret_int hv2.out)
       have hB6 := Lib.hid (hB5.out.trans (hb6.mono (by omega)))
       clear he hb6))
  go_ret
  exact ⟨rfl, hB6.out⟩
set_option maxHeartbeats 800000 in
theorem hostBits_low (w : World) (a0 : Int) (w0 : (Lit.int .i64 a0).wf = true) (a1 : Int) (w1 : (Lit.int .u8 a1).wf = true) (h : a0 < 0) :
    Calls Try.prog 9 #[.int .i64 a0, .int .u8 a1] w fun e w' => e = .returned (.bool true) ∧ Below w.heap.size w w' := by
  have hb0 := bounds_i64 w0
  have hb1 := bounds_u8 w1
  have hm5 : (Lit.int .i64 (a1 % 5)).wf = true := WalkArith.wf_i64 (by omega)
  have hne5 : a1 % 5 ≠ 5 := by omega
  have HM := Lib.hid hm5
  have HW := Lib.hid w0
  have hset := Lib.hid (B4.set_far (s := B4.none) (k := a0))
  have hww := Lib.hid (bits_wants a0 (a1 % 5) hne5)
  clear hm5 hne5 w1 w0
  have hs := hset.out (.inl h)
  have hv := Lib.hid (show (B4.none.set a0).val = 0 by rw [hs]; decide +kernel)
  have hv1 := Lib.hid (show bindOf (B4.none.set a0) 0 = 0 by rw [hs]; decide +kernel)
  have hv2 := hv1
  clear hs
  clear hset hb0
  go_enter Try.func9, Try.ntmps9
  go_wp2_with (first
    | (go_at_call 16; refine (hostAnswers_calls _).mono ?_; rintro e w2 ⟨rfl, hb2⟩
       have hB2 := Lib.hid ((((((Below.refl w.heap.size w).alloc (Nat.le_refl _) _).alloc (by simp) _).alloc (by simp <;> omega) _).alloc (by simp <;> omega) _).trans (hb2.mono (by simp <;> omega)))
       have X0 := Lib.hid (blk_below (blk_alloc (blk_alloc (blk_alloc (blk_new w _) _) _) _) hb2 (by simp <;> omega))
       have X1 := Lib.hid (blk_below (blk_alloc (blk_alloc (blk_new2 w _ _) _) _) hb2 (by simp <;> omega))
       have X2 := Lib.hid (blk_below (blk_alloc (blk_new3 w _ _ _) _) hb2 (by simp <;> omega))
       have X3 := Lib.hid (blk_below (blk_new4 w _ _ _ _) hb2 (by simp))
       have hs2 : w.heap.size + 1 + 1 + 1 < w2.heap.size := blk_lt X3.out
       have g2 : w.heap.size + 1 < w2.heap.size := by omega
       have hc1 := blk_cell X1.out
       have hc3 := blk_cell X3.out
       clear hb2)
    | (go_at_call 19; refine (needs_calls' (S := (· = w.heap.size)) _ _ _ _ _ _ _ _ _ _ [⟨a0, 0, true⟩] rfl (by simp) (by intro b h; omega) (by exact bits_row HW.out X0.out)).mono ?_
       rintro e w3 ⟨he, hb3⟩
       obtain rfl := he.trans (ret_int hv.out)
       have hB3 := Lib.hid (hB2.out.trans (hb3.mono (by omega)))
       have hs3 := hb3.size
       have g3 : w.heap.size + 1 + 1 + 1 < w3.heap.size := by omega
       have g3' : w.heap.size + 1 < w3.heap.size := by omega
       have B3 := Lib.hid hb3
       obtain ⟨hcc3, hff3⟩ := bcell hb3
       clear he hb3)
    | (go_at_call 24; refine (wants_calls (S := (· = w.heap.size + 1 + 1)) _ _ _ _ _ _ _ [⟨[], ⟨5, a0⟩⟩, ⟨[], ⟨a1 % 5, a0⟩⟩] (by simp) (by intro b h; omega) (by exact (bits_imps HW.out HM.out X2.out).keep (fun b h => B3.out.block b (by omega)))).mono ?_
       rintro e w4 ⟨he, hb4⟩
       obtain rfl := he.trans (ret_int ((congrArg B4.val hww.out).trans hv.out))
       have hB4 := Lib.hid (hB3.out.trans (hb4.mono (by omega)))
       have hs4 := hb4.size
       have g4 : w.heap.size + 1 < w4.heap.size := by omega
       have B4' := Lib.hid (B3.out.trans (hb4.mono B3.out.size))
       obtain ⟨hcc4, hff4⟩ := bcell hb4
       clear he hb4)
    | (go_at_call_of 18 (Value.int .i64 0); refine (bind_calls' (S := (· = w.heap.size)) _ _ _ _ _ _ _ _ _ _ _ [⟨a0, 0, true⟩] rfl (by simp) (by intro b h; omega) (by exact (bits_row HW.out X0.out).keep (fun b h => B4'.out.block b (by omega)))).mono ?_
       rintro e w5 ⟨he, hb5⟩
       obtain rfl := he.trans (ret_int hv1.out)
       have hB5 := Lib.hid (hB4.out.trans (hb5.mono (by omega)))
       have hs5 := hb5.size
       have g5 : w.heap.size + 1 < w5.heap.size := by omega
       have B5 := Lib.hid (B4'.out.trans (hb5.mono B4'.out.size))
       obtain ⟨hcc5, hff5⟩ := bcell hb5
       clear he hb5)
    | (go_at_call_of 18 (Value.int .i64 15); refine (bind_calls' (S := (· = w.heap.size)) _ _ _ _ _ _ _ _ _ _ _ [⟨a0, 0, true⟩] rfl (by simp) (by intro b h; omega) (by exact (bits_row HW.out X0.out).keep (fun b h => B5.out.block b (by omega)))).mono ?_
       rintro e w6 ⟨he, hb6⟩
       obtain rfl := he.trans (ret_int hv2.out)
       have hB6 := Lib.hid (hB5.out.trans (hb6.mono (by omega)))
       clear he hb6))
  go_ret
  exact ⟨rfl, hB5.out⟩
set_option maxHeartbeats 800000 in
theorem hostBits_high (w : World) (a0 : Int) (w0 : (Lit.int .i64 a0).wf = true) (a1 : Int) (w1 : (Lit.int .u8 a1).wf = true) (h : 3 < a0) :
    Calls Try.prog 9 #[.int .i64 a0, .int .u8 a1] w fun e w' => e = .returned (.bool true) ∧ Below w.heap.size w w' := by
  have hb0 := bounds_i64 w0
  have hb1 := bounds_u8 w1
  have hm5 : (Lit.int .i64 (a1 % 5)).wf = true := WalkArith.wf_i64 (by omega)
  have hne5 : a1 % 5 ≠ 5 := by omega
  have HM := Lib.hid hm5
  have HW := Lib.hid w0
  have hset := Lib.hid (B4.set_far (s := B4.none) (k := a0))
  have hww := Lib.hid (bits_wants a0 (a1 % 5) hne5)
  clear hm5 hne5 w1 w0
  have hs := hset.out (.inr h)
  have hv := Lib.hid (show (B4.none.set a0).val = 0 by rw [hs]; decide +kernel)
  have hv1 := Lib.hid (show bindOf (B4.none.set a0) 0 = 0 by rw [hs]; decide +kernel)
  have hv2 := hv1
  clear hs
  clear hset hb0
  go_enter Try.func9, Try.ntmps9
  go_wp2_with (first
    | (go_at_call 16; refine (hostAnswers_calls _).mono ?_; rintro e w2 ⟨rfl, hb2⟩
       have hB2 := Lib.hid ((((((Below.refl w.heap.size w).alloc (Nat.le_refl _) _).alloc (by simp) _).alloc (by simp <;> omega) _).alloc (by simp <;> omega) _).trans (hb2.mono (by simp <;> omega)))
       have X0 := Lib.hid (blk_below (blk_alloc (blk_alloc (blk_alloc (blk_new w _) _) _) _) hb2 (by simp <;> omega))
       have X1 := Lib.hid (blk_below (blk_alloc (blk_alloc (blk_new2 w _ _) _) _) hb2 (by simp <;> omega))
       have X2 := Lib.hid (blk_below (blk_alloc (blk_new3 w _ _ _) _) hb2 (by simp <;> omega))
       have X3 := Lib.hid (blk_below (blk_new4 w _ _ _ _) hb2 (by simp))
       have hs2 : w.heap.size + 1 + 1 + 1 < w2.heap.size := blk_lt X3.out
       have g2 : w.heap.size + 1 < w2.heap.size := by omega
       have hc1 := blk_cell X1.out
       have hc3 := blk_cell X3.out
       clear hb2)
    | (go_at_call 19; refine (needs_calls' (S := (· = w.heap.size)) _ _ _ _ _ _ _ _ _ _ [⟨a0, 0, true⟩] rfl (by simp) (by intro b h; omega) (by exact bits_row HW.out X0.out)).mono ?_
       rintro e w3 ⟨he, hb3⟩
       obtain rfl := he.trans (ret_int hv.out)
       have hB3 := Lib.hid (hB2.out.trans (hb3.mono (by omega)))
       have hs3 := hb3.size
       have g3 : w.heap.size + 1 + 1 + 1 < w3.heap.size := by omega
       have g3' : w.heap.size + 1 < w3.heap.size := by omega
       have B3 := Lib.hid hb3
       obtain ⟨hcc3, hff3⟩ := bcell hb3
       clear he hb3)
    | (go_at_call 24; refine (wants_calls (S := (· = w.heap.size + 1 + 1)) _ _ _ _ _ _ _ [⟨[], ⟨5, a0⟩⟩, ⟨[], ⟨a1 % 5, a0⟩⟩] (by simp) (by intro b h; omega) (by exact (bits_imps HW.out HM.out X2.out).keep (fun b h => B3.out.block b (by omega)))).mono ?_
       rintro e w4 ⟨he, hb4⟩
       obtain rfl := he.trans (ret_int ((congrArg B4.val hww.out).trans hv.out))
       have hB4 := Lib.hid (hB3.out.trans (hb4.mono (by omega)))
       have hs4 := hb4.size
       have g4 : w.heap.size + 1 < w4.heap.size := by omega
       have B4' := Lib.hid (B3.out.trans (hb4.mono B3.out.size))
       obtain ⟨hcc4, hff4⟩ := bcell hb4
       clear he hb4)
    | (go_at_call_of 18 (Value.int .i64 0); refine (bind_calls' (S := (· = w.heap.size)) _ _ _ _ _ _ _ _ _ _ _ [⟨a0, 0, true⟩] rfl (by simp) (by intro b h; omega) (by exact (bits_row HW.out X0.out).keep (fun b h => B4'.out.block b (by omega)))).mono ?_
       rintro e w5 ⟨he, hb5⟩
       obtain rfl := he.trans (ret_int hv1.out)
       have hB5 := Lib.hid (hB4.out.trans (hb5.mono (by omega)))
       have hs5 := hb5.size
       have g5 : w.heap.size + 1 < w5.heap.size := by omega
       have B5 := Lib.hid (B4'.out.trans (hb5.mono B4'.out.size))
       obtain ⟨hcc5, hff5⟩ := bcell hb5
       clear he hb5)
    | (go_at_call_of 18 (Value.int .i64 15); refine (bind_calls' (S := (· = w.heap.size)) _ _ _ _ _ _ _ _ _ _ _ [⟨a0, 0, true⟩] rfl (by simp) (by intro b h; omega) (by exact (bits_row HW.out X0.out).keep (fun b h => B5.out.block b (by omega)))).mono ?_
       rintro e w6 ⟨he, hb6⟩
       obtain rfl := he.trans (ret_int hv2.out)
       have hB6 := Lib.hid (hB5.out.trans (hb6.mono (by omega)))
       clear he hb6))
  go_ret
  exact ⟨rfl, hB5.out⟩
theorem hostBits_walk (w : World) (a0 : Int) (w0 : (Lit.int .i64 a0).wf = true) (a1 : Int) (w1 : (Lit.int .u8 a1).wf = true) :
    Calls Try.prog 9 #[.int .i64 a0, .int .u8 a1] w fun e w' => e = .returned (.bool true) ∧ Below w.heap.size w w' := by
  have hk : a0 = 0 ∨ a0 = 1 ∨ a0 = 2 ∨ a0 = 3 ∨ a0 < 0 ∨ 3 < a0 := by omega
  rcases hk with h | h | h | h | h | h
  · exact hostBits_0 w a0 w0 a1 w1 h
  · exact hostBits_1 w a0 w0 a1 w1 h
  · exact hostBits_2 w a0 w0 a1 w1 h
  · exact hostBits_3 w a0 w0 a1 w1 h
  · exact hostBits_low w a0 w0 a1 w1 h
  · exact hostBits_high w a0 w0 a1 w1 h
end Go.Proofs.Ytmadgnfnljnggaa
