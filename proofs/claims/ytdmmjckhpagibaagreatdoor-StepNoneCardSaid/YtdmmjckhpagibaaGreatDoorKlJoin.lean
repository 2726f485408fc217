/- kind.Join and the reference's Join2, a way at a time. Printed by gen_kind.py of this repo. -/
import Derived.Test.YtdmmjckhpagibaaGreatDoorKlKind
namespace Go.Proofs.YtdmmjckhpagibaaGreatDoor
open Go.RowKit
set_option linter.unusedVariables false
set_option maxHeartbeats 800000 in
theorem join_1 (w : World) (a b : Ty) (e1 : sub a b = true) : Calls Tryz.prog 110 #[.agg #[.int .i64 a.kind, .int .i64 a.n], .agg #[.int .i64 b.kind, .int .i64 b.n]] w fun e w' => e = .returned (.agg #[.int .i64 b.kind, .int .i64 b.n]) ∧ Below w.heap.size w w' := by
  obtain ⟨ak, an⟩ := a
  obtain ⟨bk, bn⟩ := b
  simp only at *
  have E1 := Lib.hid e1
  clear e1
  go_enter Tryz.func110, Tryz.ntmps110
  go_wp2_with (first
      | (go_at_call 152; have hq := HB3; refine (ref_calls _ bk _).mono ?_; rintro e w4 ⟨he, hb4⟩
         obtain rfl := he.trans (ret_bool E4.out)
         have HB4 := Lib.hid (HB3.out.trans (hb4.mono (by omega)))
         have hs4 : w.heap.size + 1 + 1 < w4.heap.size := by have := hb4.size; omega
         have hs4a : w.heap.size + 1 < w4.heap.size := by omega
         have hs4b : w.heap.size < w4.heap.size := by omega
         obtain ⟨hc4, hf4⟩ := bcell hb4
         have X4 := Lib.hid (blk_below X3.out hb4 hs3)
         clear he hb4)
      | (go_at_call 152; have hq := HB2; refine (ref_calls _ ak _).mono ?_; rintro e w3 ⟨he, hb3⟩
         obtain rfl := he.trans (ret_bool E3.out)
         have HB3 := Lib.hid (HB2.out.trans (hb3.mono (by omega)))
         have hs3 : w.heap.size + 1 + 1 < w3.heap.size := by have := hb3.size; omega
         have hs3a : w.heap.size + 1 < w3.heap.size := by omega
         have hs3b : w.heap.size < w3.heap.size := by omega
         obtain ⟨hc3, hf3⟩ := bcell hb3
         have X3 := Lib.hid (blk_below X2.out hb3 hs2)
         clear he hb3)
      | (go_at_call 151; have hq := HB1; refine (sub_calls _ ⟨bk, bn⟩ ⟨ak, an⟩).mono ?_; rintro e w2 ⟨he, hb2⟩
         obtain rfl := he.trans (ret_bool E2.out)
         have HB2 := Lib.hid (HB1.out.trans (hb2.mono (by omega)))
         have hs2 : w.heap.size + 1 + 1 < w2.heap.size := by have := hb2.size; omega
         have hs2a : w.heap.size + 1 < w2.heap.size := by omega
         have hs2b : w.heap.size < w2.heap.size := by omega
         obtain ⟨hc2, hf2⟩ := bcell hb2
         have X2 := Lib.hid (blk_below X1.out hb2 hs1)
         clear he hb2)
      | (go_at_call 151; refine (sub_calls _ ⟨ak, an⟩ ⟨bk, bn⟩).mono ?_; rintro e w1 ⟨he, hb1⟩
         obtain rfl := he.trans (ret_bool E1.out)
         have HB1 := Lib.hid (((((Below.refl w.heap.size w).alloc (Nat.le_refl _) _).alloc (by simp) _).alloc (by simp <;> omega) _).trans (hb1.mono (by simp <;> omega)))
         have hs1 : w.heap.size + 1 + 1 < w1.heap.size := by have := hb1.size; simp at this; omega
         have hs1a : w.heap.size + 1 < w1.heap.size := by omega
         have hs1b : w.heap.size < w1.heap.size := by omega
         obtain ⟨hc1, hf1⟩ := bcell hb1
         have X1 := Lib.hid (blk_below (blk_new3 w _ _ _) hb1 (by simp))
         clear he hb1))
  have hcell := blk_cell (blk_set (blk_set X1.out 0 (.int .i64 bk)) 1 (.int .i64 bn))
  exact bodyPost_ret (v := .agg #[.int .i64 bk, .int .i64 bn]) (by simp [results, Tryz.results110, go_sem, hcell]) rfl ⟨rfl, (HB1.out.setCell (by simp <;> omega) _).setCell (by simp <;> omega) _⟩
set_option maxHeartbeats 800000 in
theorem join_2 (w : World) (a b : Ty) (e1 : sub a b = false) (e2 : sub b a = true) : Calls Tryz.prog 110 #[.agg #[.int .i64 a.kind, .int .i64 a.n], .agg #[.int .i64 b.kind, .int .i64 b.n]] w fun e w' => e = .returned (.agg #[.int .i64 a.kind, .int .i64 a.n]) ∧ Below w.heap.size w w' := by
  obtain ⟨ak, an⟩ := a
  obtain ⟨bk, bn⟩ := b
  simp only at *
  have E1 := Lib.hid e1
  have E2 := Lib.hid e2
  clear e1 e2
  go_enter Tryz.func110, Tryz.ntmps110
  go_wp2_with (first
      | (go_at_call 152; have hq := HB3; refine (ref_calls _ bk _).mono ?_; rintro e w4 ⟨he, hb4⟩
         obtain rfl := he.trans (ret_bool E4.out)
         have HB4 := Lib.hid (HB3.out.trans (hb4.mono (by omega)))
         have hs4 : w.heap.size + 1 + 1 < w4.heap.size := by have := hb4.size; omega
         have hs4a : w.heap.size + 1 < w4.heap.size := by omega
         have hs4b : w.heap.size < w4.heap.size := by omega
         obtain ⟨hc4, hf4⟩ := bcell hb4
         have X4 := Lib.hid (blk_below X3.out hb4 hs3)
         clear he hb4)
      | (go_at_call 152; have hq := HB2; refine (ref_calls _ ak _).mono ?_; rintro e w3 ⟨he, hb3⟩
         obtain rfl := he.trans (ret_bool E3.out)
         have HB3 := Lib.hid (HB2.out.trans (hb3.mono (by omega)))
         have hs3 : w.heap.size + 1 + 1 < w3.heap.size := by have := hb3.size; omega
         have hs3a : w.heap.size + 1 < w3.heap.size := by omega
         have hs3b : w.heap.size < w3.heap.size := by omega
         obtain ⟨hc3, hf3⟩ := bcell hb3
         have X3 := Lib.hid (blk_below X2.out hb3 hs2)
         clear he hb3)
      | (go_at_call 151; have hq := HB1; refine (sub_calls _ ⟨bk, bn⟩ ⟨ak, an⟩).mono ?_; rintro e w2 ⟨he, hb2⟩
         obtain rfl := he.trans (ret_bool E2.out)
         have HB2 := Lib.hid (HB1.out.trans (hb2.mono (by omega)))
         have hs2 : w.heap.size + 1 + 1 < w2.heap.size := by have := hb2.size; omega
         have hs2a : w.heap.size + 1 < w2.heap.size := by omega
         have hs2b : w.heap.size < w2.heap.size := by omega
         obtain ⟨hc2, hf2⟩ := bcell hb2
         have X2 := Lib.hid (blk_below X1.out hb2 hs1)
         clear he hb2)
      | (go_at_call 151; refine (sub_calls _ ⟨ak, an⟩ ⟨bk, bn⟩).mono ?_; rintro e w1 ⟨he, hb1⟩
         obtain rfl := he.trans (ret_bool E1.out)
         have HB1 := Lib.hid (((((Below.refl w.heap.size w).alloc (Nat.le_refl _) _).alloc (by simp) _).alloc (by simp <;> omega) _).trans (hb1.mono (by simp <;> omega)))
         have hs1 : w.heap.size + 1 + 1 < w1.heap.size := by have := hb1.size; simp at this; omega
         have hs1a : w.heap.size + 1 < w1.heap.size := by omega
         have hs1b : w.heap.size < w1.heap.size := by omega
         obtain ⟨hc1, hf1⟩ := bcell hb1
         have X1 := Lib.hid (blk_below (blk_new3 w _ _ _) hb1 (by simp))
         clear he hb1))
  have hcell := blk_cell (blk_set (blk_set X2.out 0 (.int .i64 ak)) 1 (.int .i64 an))
  exact bodyPost_ret (v := .agg #[.int .i64 ak, .int .i64 an]) (by simp [results, Tryz.results110, go_sem, hcell]) rfl ⟨rfl, (HB2.out.setCell (by simp <;> omega) _).setCell (by simp <;> omega) _⟩
set_option maxHeartbeats 800000 in
theorem join_3 (w : World) (a b : Ty) (e1 : sub a b = false) (e2 : sub b a = false) (e3 : isRef a.kind = true) (e4 : isRef b.kind = true) : Calls Tryz.prog 110 #[.agg #[.int .i64 a.kind, .int .i64 a.n], .agg #[.int .i64 b.kind, .int .i64 b.n]] w fun e w' => e = .returned (.agg #[.int .i64 7, .int .i64 0]) ∧ Below w.heap.size w w' := by
  obtain ⟨ak, an⟩ := a
  obtain ⟨bk, bn⟩ := b
  simp only at *
  have E1 := Lib.hid e1
  have E2 := Lib.hid e2
  have E3 := Lib.hid e3
  have E4 := Lib.hid e4
  clear e1 e2 e3 e4
  go_enter Tryz.func110, Tryz.ntmps110
  go_wp2_with (first
      | (go_at_call 152; have hq := HB3; refine (ref_calls _ bk _).mono ?_; rintro e w4 ⟨he, hb4⟩
         obtain rfl := he.trans (ret_bool E4.out)
         have HB4 := Lib.hid (HB3.out.trans (hb4.mono (by omega)))
         have hs4 : w.heap.size + 1 + 1 < w4.heap.size := by have := hb4.size; omega
         have hs4a : w.heap.size + 1 < w4.heap.size := by omega
         have hs4b : w.heap.size < w4.heap.size := by omega
         obtain ⟨hc4, hf4⟩ := bcell hb4
         have X4 := Lib.hid (blk_below X3.out hb4 hs3)
         clear he hb4)
      | (go_at_call 152; have hq := HB2; refine (ref_calls _ ak _).mono ?_; rintro e w3 ⟨he, hb3⟩
         obtain rfl := he.trans (ret_bool E3.out)
         have HB3 := Lib.hid (HB2.out.trans (hb3.mono (by omega)))
         have hs3 : w.heap.size + 1 + 1 < w3.heap.size := by have := hb3.size; omega
         have hs3a : w.heap.size + 1 < w3.heap.size := by omega
         have hs3b : w.heap.size < w3.heap.size := by omega
         obtain ⟨hc3, hf3⟩ := bcell hb3
         have X3 := Lib.hid (blk_below X2.out hb3 hs2)
         clear he hb3)
      | (go_at_call 151; have hq := HB1; refine (sub_calls _ ⟨bk, bn⟩ ⟨ak, an⟩).mono ?_; rintro e w2 ⟨he, hb2⟩
         obtain rfl := he.trans (ret_bool E2.out)
         have HB2 := Lib.hid (HB1.out.trans (hb2.mono (by omega)))
         have hs2 : w.heap.size + 1 + 1 < w2.heap.size := by have := hb2.size; omega
         have hs2a : w.heap.size + 1 < w2.heap.size := by omega
         have hs2b : w.heap.size < w2.heap.size := by omega
         obtain ⟨hc2, hf2⟩ := bcell hb2
         have X2 := Lib.hid (blk_below X1.out hb2 hs1)
         clear he hb2)
      | (go_at_call 151; refine (sub_calls _ ⟨ak, an⟩ ⟨bk, bn⟩).mono ?_; rintro e w1 ⟨he, hb1⟩
         obtain rfl := he.trans (ret_bool E1.out)
         have HB1 := Lib.hid (((((Below.refl w.heap.size w).alloc (Nat.le_refl _) _).alloc (by simp) _).alloc (by simp <;> omega) _).trans (hb1.mono (by simp <;> omega)))
         have hs1 : w.heap.size + 1 + 1 < w1.heap.size := by have := hb1.size; simp at this; omega
         have hs1a : w.heap.size + 1 < w1.heap.size := by omega
         have hs1b : w.heap.size < w1.heap.size := by omega
         obtain ⟨hc1, hf1⟩ := bcell hb1
         have X1 := Lib.hid (blk_below (blk_new3 w _ _ _) hb1 (by simp))
         clear he hb1))
  have hcell := blk_cell (blk_set (blk_set X4.out 0 (.int .i64 7)) 1 (.int .i64 0))
  exact bodyPost_ret (v := .agg #[.int .i64 7, .int .i64 0]) (by simp [results, Tryz.results110, go_sem, hcell]) rfl ⟨rfl, (HB4.out.setCell (by simp <;> omega) _).setCell (by simp <;> omega) _⟩
set_option maxHeartbeats 800000 in
theorem join_4 (w : World) (a b : Ty) (e1 : sub a b = false) (e2 : sub b a = false) (e3 : isRef a.kind = false) : Calls Tryz.prog 110 #[.agg #[.int .i64 a.kind, .int .i64 a.n], .agg #[.int .i64 b.kind, .int .i64 b.n]] w fun e w' => e = .returned (.agg #[.int .i64 8, .int .i64 0]) ∧ Below w.heap.size w w' := by
  obtain ⟨ak, an⟩ := a
  obtain ⟨bk, bn⟩ := b
  simp only at *
  have E1 := Lib.hid e1
  have E2 := Lib.hid e2
  have E3 := Lib.hid e3
  clear e1 e2 e3
  go_enter Tryz.func110, Tryz.ntmps110
  go_wp2_with (first
      | (go_at_call 152; have hq := HB3; refine (ref_calls _ bk _).mono ?_; rintro e w4 ⟨he, hb4⟩
         obtain rfl := he.trans (ret_bool E4.out)
         have HB4 := Lib.hid (HB3.out.trans (hb4.mono (by omega)))
         have hs4 : w.heap.size + 1 + 1 < w4.heap.size := by have := hb4.size; omega
         have hs4a : w.heap.size + 1 < w4.heap.size := by omega
         have hs4b : w.heap.size < w4.heap.size := by omega
         obtain ⟨hc4, hf4⟩ := bcell hb4
         have X4 := Lib.hid (blk_below X3.out hb4 hs3)
         clear he hb4)
      | (go_at_call 152; have hq := HB2; refine (ref_calls _ ak _).mono ?_; rintro e w3 ⟨he, hb3⟩
         obtain rfl := he.trans (ret_bool E3.out)
         have HB3 := Lib.hid (HB2.out.trans (hb3.mono (by omega)))
         have hs3 : w.heap.size + 1 + 1 < w3.heap.size := by have := hb3.size; omega
         have hs3a : w.heap.size + 1 < w3.heap.size := by omega
         have hs3b : w.heap.size < w3.heap.size := by omega
         obtain ⟨hc3, hf3⟩ := bcell hb3
         have X3 := Lib.hid (blk_below X2.out hb3 hs2)
         clear he hb3)
      | (go_at_call 151; have hq := HB1; refine (sub_calls _ ⟨bk, bn⟩ ⟨ak, an⟩).mono ?_; rintro e w2 ⟨he, hb2⟩
         obtain rfl := he.trans (ret_bool E2.out)
         have HB2 := Lib.hid (HB1.out.trans (hb2.mono (by omega)))
         have hs2 : w.heap.size + 1 + 1 < w2.heap.size := by have := hb2.size; omega
         have hs2a : w.heap.size + 1 < w2.heap.size := by omega
         have hs2b : w.heap.size < w2.heap.size := by omega
         obtain ⟨hc2, hf2⟩ := bcell hb2
         have X2 := Lib.hid (blk_below X1.out hb2 hs1)
         clear he hb2)
      | (go_at_call 151; refine (sub_calls _ ⟨ak, an⟩ ⟨bk, bn⟩).mono ?_; rintro e w1 ⟨he, hb1⟩
         obtain rfl := he.trans (ret_bool E1.out)
         have HB1 := Lib.hid (((((Below.refl w.heap.size w).alloc (Nat.le_refl _) _).alloc (by simp) _).alloc (by simp <;> omega) _).trans (hb1.mono (by simp <;> omega)))
         have hs1 : w.heap.size + 1 + 1 < w1.heap.size := by have := hb1.size; simp at this; omega
         have hs1a : w.heap.size + 1 < w1.heap.size := by omega
         have hs1b : w.heap.size < w1.heap.size := by omega
         obtain ⟨hc1, hf1⟩ := bcell hb1
         have X1 := Lib.hid (blk_below (blk_new3 w _ _ _) hb1 (by simp))
         clear he hb1))
  have hcell := blk_cell (blk_set (blk_set X3.out 0 (.int .i64 8)) 1 (.int .i64 0))
  exact bodyPost_ret (v := .agg #[.int .i64 8, .int .i64 0]) (by simp [results, Tryz.results110, go_sem, hcell]) rfl ⟨rfl, (HB3.out.setCell (by simp <;> omega) _).setCell (by simp <;> omega) _⟩
set_option maxHeartbeats 800000 in
theorem join_5 (w : World) (a b : Ty) (e1 : sub a b = false) (e2 : sub b a = false) (e3 : isRef a.kind = true) (e4 : isRef b.kind = false) : Calls Tryz.prog 110 #[.agg #[.int .i64 a.kind, .int .i64 a.n], .agg #[.int .i64 b.kind, .int .i64 b.n]] w fun e w' => e = .returned (.agg #[.int .i64 8, .int .i64 0]) ∧ Below w.heap.size w w' := by
  obtain ⟨ak, an⟩ := a
  obtain ⟨bk, bn⟩ := b
  simp only at *
  have E1 := Lib.hid e1
  have E2 := Lib.hid e2
  have E3 := Lib.hid e3
  have E4 := Lib.hid e4
  clear e1 e2 e3 e4
  go_enter Tryz.func110, Tryz.ntmps110
  go_wp2_with (first
      | (go_at_call 152; have hq := HB3; refine (ref_calls _ bk _).mono ?_; rintro e w4 ⟨he, hb4⟩
         obtain rfl := he.trans (ret_bool E4.out)
         have HB4 := Lib.hid (HB3.out.trans (hb4.mono (by omega)))
         have hs4 : w.heap.size + 1 + 1 < w4.heap.size := by have := hb4.size; omega
         have hs4a : w.heap.size + 1 < w4.heap.size := by omega
         have hs4b : w.heap.size < w4.heap.size := by omega
         obtain ⟨hc4, hf4⟩ := bcell hb4
         have X4 := Lib.hid (blk_below X3.out hb4 hs3)
         clear he hb4)
      | (go_at_call 152; have hq := HB2; refine (ref_calls _ ak _).mono ?_; rintro e w3 ⟨he, hb3⟩
         obtain rfl := he.trans (ret_bool E3.out)
         have HB3 := Lib.hid (HB2.out.trans (hb3.mono (by omega)))
         have hs3 : w.heap.size + 1 + 1 < w3.heap.size := by have := hb3.size; omega
         have hs3a : w.heap.size + 1 < w3.heap.size := by omega
         have hs3b : w.heap.size < w3.heap.size := by omega
         obtain ⟨hc3, hf3⟩ := bcell hb3
         have X3 := Lib.hid (blk_below X2.out hb3 hs2)
         clear he hb3)
      | (go_at_call 151; have hq := HB1; refine (sub_calls _ ⟨bk, bn⟩ ⟨ak, an⟩).mono ?_; rintro e w2 ⟨he, hb2⟩
         obtain rfl := he.trans (ret_bool E2.out)
         have HB2 := Lib.hid (HB1.out.trans (hb2.mono (by omega)))
         have hs2 : w.heap.size + 1 + 1 < w2.heap.size := by have := hb2.size; omega
         have hs2a : w.heap.size + 1 < w2.heap.size := by omega
         have hs2b : w.heap.size < w2.heap.size := by omega
         obtain ⟨hc2, hf2⟩ := bcell hb2
         have X2 := Lib.hid (blk_below X1.out hb2 hs1)
         clear he hb2)
      | (go_at_call 151; refine (sub_calls _ ⟨ak, an⟩ ⟨bk, bn⟩).mono ?_; rintro e w1 ⟨he, hb1⟩
         obtain rfl := he.trans (ret_bool E1.out)
         have HB1 := Lib.hid (((((Below.refl w.heap.size w).alloc (Nat.le_refl _) _).alloc (by simp) _).alloc (by simp <;> omega) _).trans (hb1.mono (by simp <;> omega)))
         have hs1 : w.heap.size + 1 + 1 < w1.heap.size := by have := hb1.size; simp at this; omega
         have hs1a : w.heap.size + 1 < w1.heap.size := by omega
         have hs1b : w.heap.size < w1.heap.size := by omega
         obtain ⟨hc1, hf1⟩ := bcell hb1
         have X1 := Lib.hid (blk_below (blk_new3 w _ _ _) hb1 (by simp))
         clear he hb1))
  have hcell := blk_cell (blk_set (blk_set X4.out 0 (.int .i64 8)) 1 (.int .i64 0))
  exact bodyPost_ret (v := .agg #[.int .i64 8, .int .i64 0]) (by simp [results, Tryz.results110, go_sem, hcell]) rfl ⟨rfl, (HB4.out.setCell (by simp <;> omega) _).setCell (by simp <;> omega) _⟩
theorem join_calls (w : World) (a b : Ty) : Calls Tryz.prog 110 #[.agg #[.int .i64 a.kind, .int .i64 a.n], .agg #[.int .i64 b.kind, .int .i64 b.n]] w fun e w' => e = .returned (.agg #[.int .i64 (join a b).kind, .int .i64 (join a b).n]) ∧ Below w.heap.size w w' := by
  unfold join
  cases e1 : sub a b with
  | true => simpa using join_1 w a b e1
  | false =>
    cases e2 : sub b a with
    | true => simpa using join_2 w a b e1 e2
    | false =>
      cases e3 : isRef a.kind with
      | false => simpa using join_4 w a b e1 e2 e3
      | true =>
        cases e4 : isRef b.kind with
        | false => simpa using join_5 w a b e1 e2 e3 e4
        | true => simpa using join_3 w a b e1 e2 e3 e4
end Go.Proofs.YtdmmjckhpagibaaGreatDoor
