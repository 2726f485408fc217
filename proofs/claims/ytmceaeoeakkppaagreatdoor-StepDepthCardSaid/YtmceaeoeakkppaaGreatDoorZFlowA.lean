/- McFlowA: flow.types, flow.plain. Printed by gen_mcflow.py of this repo. -/
import Derived.Test.YtmceaeoeakkppaaGreatDoorZFlow
import Derived.Deep.RegionHeld3
namespace Go.Proofs.YtmceaeoeakkppaaGreatDoor
open Go.RowKit Go.Sort
set_option linter.unusedVariables false
set_option maxRecDepth 100000 in
set_option maxHeartbeats 8000000 in
theorem plain_8 (w : World) (hg : Glob w) : Calls Tryz.prog 191 #[.int .i64 8] w fun e w' => RuleOut (fun _ => False) w (plainL 8).1 (plainL 8).2 e w' := by
  have hs := hg.big
  have HCell := Lib.hid (fun W (hW : Below w.heap.size w W) => (hg.below hW hg.big).cells)
  obtain ⟨c00, c01, c10, c11, c20, c21, c30, c31, c40, c41⟩ := hg.cells
  clear hg
  go_enter Tryz.func191, Tryz.ntmps191
  go_wp2_with fail
  go_region_held3 (fun w' => w'.cell? ⟨0, 0, none⟩ = some (.int .i64 8) ∧ w'.cell? ⟨0, 1, none⟩ = some (.int .i64 0) ∧ w'.cell? ⟨1, 0, none⟩ = some (.int .i64 1) ∧ w'.cell? ⟨1, 1, none⟩ = some (.int .i64 0) ∧ w'.cell? ⟨2, 0, none⟩ = some (.int .i64 3) ∧ w'.cell? ⟨2, 1, none⟩ = some (.int .i64 0) ∧ w'.cell? ⟨3, 0, none⟩ = some (.int .i64 2) ∧ w'.cell? ⟨3, 1, none⟩ = some (.int .i64 0) ∧ w'.cell? ⟨4, 0, none⟩ = some (.int .i64 7) ∧ w'.cell? ⟨4, 1, none⟩ = some (.int .i64 0) ∧ Below w.heap.size w w')
    (first | (refine hold10 HCell.out ?_; repeat (first | exact Below.refl _ _ | assumption | refine Below.drew ?_ | refine Below.alloc ?_ (by simp <;> omega) _)))
    (first | (go_at_call 226; refine (types_calls _ _).mono ?_; rintro e w' ⟨rfl, rfl⟩))
  all_goals
    go_wp2
    refine bodyPost_ret (plain_results _ _ w.heap.size _ _ ⟨_, _, _, rfl⟩ ⟨_, _, _, rfl⟩ true rfl rfl (by repeat (first | (refine blk_new' _ ?_; first | rfl | (simp; done)) | refine blk_drew ?_ | refine blk_alloc ?_ _))) rfl ?_
    exact ⟨_, _, _, _, _, _, rfl, ⟨rfl, rfl, by decide, by decide, (by first | exact Rd.Row.nil _ _ _ _ | exact row_cells (by repeat (first | (refine blk_new' _ ?_; first | rfl | (simp; done)) | refine blk_drew ?_ | refine blk_alloc ?_ _)) ⟨by first | omega | (simp; done) | (simp; omega), .inr (by first | omega | (simp; done) | (simp; omega))⟩ rfl (by decide)), (by first | exact Rd.Row.nil _ _ _ _ | exact row_cells (by repeat (first | (refine blk_new' _ ?_; first | rfl | (simp; done)) | refine blk_drew ?_ | refine blk_alloc ?_ _)) ⟨by first | omega | (simp; done) | (simp; omega), .inr (by first | omega | (simp; done) | (simp; omega))⟩ rfl (by decide)), by decide, by decide⟩, (by repeat (first | exact Below.refl _ _ | refine Below.drew ?_ | refine below_up ?_ _))⟩
set_option maxRecDepth 100000 in
set_option maxHeartbeats 8000000 in
theorem plain_9 (w : World) (hg : Glob w) : Calls Tryz.prog 191 #[.int .i64 9] w fun e w' => RuleOut (fun _ => False) w (plainL 9).1 (plainL 9).2 e w' := by
  have hs := hg.big
  have HCell := Lib.hid (fun W (hW : Below w.heap.size w W) => (hg.below hW hg.big).cells)
  obtain ⟨c00, c01, c10, c11, c20, c21, c30, c31, c40, c41⟩ := hg.cells
  clear hg
  go_enter Tryz.func191, Tryz.ntmps191
  go_wp2_with fail
  go_region_held3 (fun w' => w'.cell? ⟨0, 0, none⟩ = some (.int .i64 8) ∧ w'.cell? ⟨0, 1, none⟩ = some (.int .i64 0) ∧ w'.cell? ⟨1, 0, none⟩ = some (.int .i64 1) ∧ w'.cell? ⟨1, 1, none⟩ = some (.int .i64 0) ∧ w'.cell? ⟨2, 0, none⟩ = some (.int .i64 3) ∧ w'.cell? ⟨2, 1, none⟩ = some (.int .i64 0) ∧ w'.cell? ⟨3, 0, none⟩ = some (.int .i64 2) ∧ w'.cell? ⟨3, 1, none⟩ = some (.int .i64 0) ∧ w'.cell? ⟨4, 0, none⟩ = some (.int .i64 7) ∧ w'.cell? ⟨4, 1, none⟩ = some (.int .i64 0) ∧ Below w.heap.size w w')
    (first | (refine hold10 HCell.out ?_; repeat (first | exact Below.refl _ _ | assumption | refine Below.drew ?_ | refine Below.alloc ?_ (by simp <;> omega) _)))
    (first | (go_at_call 226; refine (types_calls _ _).mono ?_; rintro e w' ⟨rfl, rfl⟩))
  all_goals
    go_wp2
    refine bodyPost_ret (plain_results _ _ w.heap.size _ _ ⟨_, _, _, rfl⟩ ⟨_, _, _, rfl⟩ true rfl rfl (by repeat (first | (refine blk_new' _ ?_; first | rfl | (simp; done)) | refine blk_drew ?_ | refine blk_alloc ?_ _))) rfl ?_
    exact ⟨_, _, _, _, _, _, rfl, ⟨rfl, rfl, by decide, by decide, (by first | exact Rd.Row.nil _ _ _ _ | exact row_cells (by repeat (first | (refine blk_new' _ ?_; first | rfl | (simp; done)) | refine blk_drew ?_ | refine blk_alloc ?_ _)) ⟨by first | omega | (simp; done) | (simp; omega), .inr (by first | omega | (simp; done) | (simp; omega))⟩ rfl (by decide)), (by first | exact Rd.Row.nil _ _ _ _ | exact row_cells (by repeat (first | (refine blk_new' _ ?_; first | rfl | (simp; done)) | refine blk_drew ?_ | refine blk_alloc ?_ _)) ⟨by first | omega | (simp; done) | (simp; omega), .inr (by first | omega | (simp; done) | (simp; omega))⟩ rfl (by decide)), by decide, by decide⟩, (by repeat (first | exact Below.refl _ _ | refine Below.drew ?_ | refine below_up ?_ _))⟩
set_option maxRecDepth 100000 in
set_option maxHeartbeats 8000000 in
theorem plain_10 (w : World) (hg : Glob w) : Calls Tryz.prog 191 #[.int .i64 10] w fun e w' => RuleOut (fun _ => False) w (plainL 10).1 (plainL 10).2 e w' := by
  have hs := hg.big
  have HCell := Lib.hid (fun W (hW : Below w.heap.size w W) => (hg.below hW hg.big).cells)
  obtain ⟨c00, c01, c10, c11, c20, c21, c30, c31, c40, c41⟩ := hg.cells
  clear hg
  go_enter Tryz.func191, Tryz.ntmps191
  go_wp2_with fail
  go_region_held3 (fun w' => w'.cell? ⟨0, 0, none⟩ = some (.int .i64 8) ∧ w'.cell? ⟨0, 1, none⟩ = some (.int .i64 0) ∧ w'.cell? ⟨1, 0, none⟩ = some (.int .i64 1) ∧ w'.cell? ⟨1, 1, none⟩ = some (.int .i64 0) ∧ w'.cell? ⟨2, 0, none⟩ = some (.int .i64 3) ∧ w'.cell? ⟨2, 1, none⟩ = some (.int .i64 0) ∧ w'.cell? ⟨3, 0, none⟩ = some (.int .i64 2) ∧ w'.cell? ⟨3, 1, none⟩ = some (.int .i64 0) ∧ w'.cell? ⟨4, 0, none⟩ = some (.int .i64 7) ∧ w'.cell? ⟨4, 1, none⟩ = some (.int .i64 0) ∧ Below w.heap.size w w')
    (first | (refine hold10 HCell.out ?_; repeat (first | exact Below.refl _ _ | assumption | refine Below.drew ?_ | refine Below.alloc ?_ (by simp <;> omega) _)))
    (first | (go_at_call 226; refine (types_calls _ _).mono ?_; rintro e w' ⟨rfl, rfl⟩))
  all_goals
    go_wp2
    refine bodyPost_ret (plain_results _ _ w.heap.size _ _ ⟨_, _, _, rfl⟩ ⟨_, _, _, rfl⟩ true rfl rfl (by repeat (first | (refine blk_new' _ ?_; first | rfl | (simp; done)) | refine blk_drew ?_ | refine blk_alloc ?_ _))) rfl ?_
    exact ⟨_, _, _, _, _, _, rfl, ⟨rfl, rfl, by decide, by decide, (by first | exact Rd.Row.nil _ _ _ _ | exact row_cells (by repeat (first | (refine blk_new' _ ?_; first | rfl | (simp; done)) | refine blk_drew ?_ | refine blk_alloc ?_ _)) ⟨by first | omega | (simp; done) | (simp; omega), .inr (by first | omega | (simp; done) | (simp; omega))⟩ rfl (by decide)), (by first | exact Rd.Row.nil _ _ _ _ | exact row_cells (by repeat (first | (refine blk_new' _ ?_; first | rfl | (simp; done)) | refine blk_drew ?_ | refine blk_alloc ?_ _)) ⟨by first | omega | (simp; done) | (simp; omega), .inr (by first | omega | (simp; done) | (simp; omega))⟩ rfl (by decide)), by decide, by decide⟩, (by repeat (first | exact Below.refl _ _ | refine Below.drew ?_ | refine below_up ?_ _))⟩
set_option maxRecDepth 100000 in
set_option maxHeartbeats 8000000 in
theorem plain_11 (w : World) (hg : Glob w) : Calls Tryz.prog 191 #[.int .i64 11] w fun e w' => RuleOut (fun _ => False) w (plainL 11).1 (plainL 11).2 e w' := by
  have hs := hg.big
  have HCell := Lib.hid (fun W (hW : Below w.heap.size w W) => (hg.below hW hg.big).cells)
  obtain ⟨c00, c01, c10, c11, c20, c21, c30, c31, c40, c41⟩ := hg.cells
  clear hg
  go_enter Tryz.func191, Tryz.ntmps191
  go_wp2_with fail
  go_region_held3 (fun w' => w'.cell? ⟨0, 0, none⟩ = some (.int .i64 8) ∧ w'.cell? ⟨0, 1, none⟩ = some (.int .i64 0) ∧ w'.cell? ⟨1, 0, none⟩ = some (.int .i64 1) ∧ w'.cell? ⟨1, 1, none⟩ = some (.int .i64 0) ∧ w'.cell? ⟨2, 0, none⟩ = some (.int .i64 3) ∧ w'.cell? ⟨2, 1, none⟩ = some (.int .i64 0) ∧ w'.cell? ⟨3, 0, none⟩ = some (.int .i64 2) ∧ w'.cell? ⟨3, 1, none⟩ = some (.int .i64 0) ∧ w'.cell? ⟨4, 0, none⟩ = some (.int .i64 7) ∧ w'.cell? ⟨4, 1, none⟩ = some (.int .i64 0) ∧ Below w.heap.size w w')
    (first | (refine hold10 HCell.out ?_; repeat (first | exact Below.refl _ _ | assumption | refine Below.drew ?_ | refine Below.alloc ?_ (by simp <;> omega) _)))
    (first | (go_at_call 226; refine (types_calls _ _).mono ?_; rintro e w' ⟨rfl, rfl⟩))
  all_goals
    go_wp2
    refine bodyPost_ret (plain_results _ _ w.heap.size _ _ ⟨_, _, _, rfl⟩ ⟨_, _, _, rfl⟩ true rfl rfl (by repeat (first | (refine blk_new' _ ?_; first | rfl | (simp; done)) | refine blk_drew ?_ | refine blk_alloc ?_ _))) rfl ?_
    exact ⟨_, _, _, _, _, _, rfl, ⟨rfl, rfl, by decide, by decide, (by first | exact Rd.Row.nil _ _ _ _ | exact row_cells (by repeat (first | (refine blk_new' _ ?_; first | rfl | (simp; done)) | refine blk_drew ?_ | refine blk_alloc ?_ _)) ⟨by first | omega | (simp; done) | (simp; omega), .inr (by first | omega | (simp; done) | (simp; omega))⟩ rfl (by decide)), (by first | exact Rd.Row.nil _ _ _ _ | exact row_cells (by repeat (first | (refine blk_new' _ ?_; first | rfl | (simp; done)) | refine blk_drew ?_ | refine blk_alloc ?_ _)) ⟨by first | omega | (simp; done) | (simp; omega), .inr (by first | omega | (simp; done) | (simp; omega))⟩ rfl (by decide)), by decide, by decide⟩, (by repeat (first | exact Below.refl _ _ | refine Below.drew ?_ | refine below_up ?_ _))⟩
set_option maxRecDepth 100000 in
set_option maxHeartbeats 8000000 in
theorem plain_12 (w : World) (hg : Glob w) : Calls Tryz.prog 191 #[.int .i64 12] w fun e w' => RuleOut (fun _ => False) w (plainL 12).1 (plainL 12).2 e w' := by
  have hs := hg.big
  have HCell := Lib.hid (fun W (hW : Below w.heap.size w W) => (hg.below hW hg.big).cells)
  obtain ⟨c00, c01, c10, c11, c20, c21, c30, c31, c40, c41⟩ := hg.cells
  clear hg
  go_enter Tryz.func191, Tryz.ntmps191
  go_wp2_with fail
  go_region_held3 (fun w' => w'.cell? ⟨0, 0, none⟩ = some (.int .i64 8) ∧ w'.cell? ⟨0, 1, none⟩ = some (.int .i64 0) ∧ w'.cell? ⟨1, 0, none⟩ = some (.int .i64 1) ∧ w'.cell? ⟨1, 1, none⟩ = some (.int .i64 0) ∧ w'.cell? ⟨2, 0, none⟩ = some (.int .i64 3) ∧ w'.cell? ⟨2, 1, none⟩ = some (.int .i64 0) ∧ w'.cell? ⟨3, 0, none⟩ = some (.int .i64 2) ∧ w'.cell? ⟨3, 1, none⟩ = some (.int .i64 0) ∧ w'.cell? ⟨4, 0, none⟩ = some (.int .i64 7) ∧ w'.cell? ⟨4, 1, none⟩ = some (.int .i64 0) ∧ Below w.heap.size w w')
    (first | (refine hold10 HCell.out ?_; repeat (first | exact Below.refl _ _ | assumption | refine Below.drew ?_ | refine Below.alloc ?_ (by simp <;> omega) _)))
    (first | (go_at_call 226; refine (types_calls _ _).mono ?_; rintro e w' ⟨rfl, rfl⟩))
  all_goals
    go_wp2
    refine bodyPost_ret (plain_results _ _ w.heap.size _ _ ⟨_, _, _, rfl⟩ ⟨_, _, _, rfl⟩ true rfl rfl (by repeat (first | (refine blk_new' _ ?_; first | rfl | (simp; done)) | refine blk_drew ?_ | refine blk_alloc ?_ _))) rfl ?_
    exact ⟨_, _, _, _, _, _, rfl, ⟨rfl, rfl, by decide, by decide, (by first | exact Rd.Row.nil _ _ _ _ | exact row_cells (by repeat (first | (refine blk_new' _ ?_; first | rfl | (simp; done)) | refine blk_drew ?_ | refine blk_alloc ?_ _)) ⟨by first | omega | (simp; done) | (simp; omega), .inr (by first | omega | (simp; done) | (simp; omega))⟩ rfl (by decide)), (by first | exact Rd.Row.nil _ _ _ _ | exact row_cells (by repeat (first | (refine blk_new' _ ?_; first | rfl | (simp; done)) | refine blk_drew ?_ | refine blk_alloc ?_ _)) ⟨by first | omega | (simp; done) | (simp; omega), .inr (by first | omega | (simp; done) | (simp; omega))⟩ rfl (by decide)), by decide, by decide⟩, (by repeat (first | exact Below.refl _ _ | refine Below.drew ?_ | refine below_up ?_ _))⟩
set_option maxRecDepth 100000 in
set_option maxHeartbeats 8000000 in
theorem plain_13 (w : World) (hg : Glob w) : Calls Tryz.prog 191 #[.int .i64 13] w fun e w' => RuleOut (fun _ => False) w (plainL 13).1 (plainL 13).2 e w' := by
  have hs := hg.big
  have HCell := Lib.hid (fun W (hW : Below w.heap.size w W) => (hg.below hW hg.big).cells)
  obtain ⟨c00, c01, c10, c11, c20, c21, c30, c31, c40, c41⟩ := hg.cells
  clear hg
  go_enter Tryz.func191, Tryz.ntmps191
  go_wp2_with fail
  go_region_held3 (fun w' => w'.cell? ⟨0, 0, none⟩ = some (.int .i64 8) ∧ w'.cell? ⟨0, 1, none⟩ = some (.int .i64 0) ∧ w'.cell? ⟨1, 0, none⟩ = some (.int .i64 1) ∧ w'.cell? ⟨1, 1, none⟩ = some (.int .i64 0) ∧ w'.cell? ⟨2, 0, none⟩ = some (.int .i64 3) ∧ w'.cell? ⟨2, 1, none⟩ = some (.int .i64 0) ∧ w'.cell? ⟨3, 0, none⟩ = some (.int .i64 2) ∧ w'.cell? ⟨3, 1, none⟩ = some (.int .i64 0) ∧ w'.cell? ⟨4, 0, none⟩ = some (.int .i64 7) ∧ w'.cell? ⟨4, 1, none⟩ = some (.int .i64 0) ∧ Below w.heap.size w w')
    (first | (refine hold10 HCell.out ?_; repeat (first | exact Below.refl _ _ | assumption | refine Below.drew ?_ | refine Below.alloc ?_ (by simp <;> omega) _)))
    (first | (go_at_call 226; refine (types_calls _ _).mono ?_; rintro e w' ⟨rfl, rfl⟩))
  all_goals
    go_wp2
    refine bodyPost_ret (plain_results _ _ w.heap.size _ _ ⟨_, _, _, rfl⟩ ⟨_, _, _, rfl⟩ true rfl rfl (by repeat (first | (refine blk_new' _ ?_; first | rfl | (simp; done)) | refine blk_drew ?_ | refine blk_alloc ?_ _))) rfl ?_
    exact ⟨_, _, _, _, _, _, rfl, ⟨rfl, rfl, by decide, by decide, (by first | exact Rd.Row.nil _ _ _ _ | exact row_cells (by repeat (first | (refine blk_new' _ ?_; first | rfl | (simp; done)) | refine blk_drew ?_ | refine blk_alloc ?_ _)) ⟨by first | omega | (simp; done) | (simp; omega), .inr (by first | omega | (simp; done) | (simp; omega))⟩ rfl (by decide)), (by first | exact Rd.Row.nil _ _ _ _ | exact row_cells (by repeat (first | (refine blk_new' _ ?_; first | rfl | (simp; done)) | refine blk_drew ?_ | refine blk_alloc ?_ _)) ⟨by first | omega | (simp; done) | (simp; omega), .inr (by first | omega | (simp; done) | (simp; omega))⟩ rfl (by decide)), by decide, by decide⟩, (by repeat (first | exact Below.refl _ _ | refine Below.drew ?_ | refine below_up ?_ _))⟩
set_option maxRecDepth 100000 in
set_option maxHeartbeats 8000000 in
theorem plain_14 (w : World) (hg : Glob w) : Calls Tryz.prog 191 #[.int .i64 14] w fun e w' => RuleOut (fun _ => False) w (plainL 14).1 (plainL 14).2 e w' := by
  have hs := hg.big
  have HCell := Lib.hid (fun W (hW : Below w.heap.size w W) => (hg.below hW hg.big).cells)
  obtain ⟨c00, c01, c10, c11, c20, c21, c30, c31, c40, c41⟩ := hg.cells
  clear hg
  go_enter Tryz.func191, Tryz.ntmps191
  go_wp2_with fail
  go_region_held3 (fun w' => w'.cell? ⟨0, 0, none⟩ = some (.int .i64 8) ∧ w'.cell? ⟨0, 1, none⟩ = some (.int .i64 0) ∧ w'.cell? ⟨1, 0, none⟩ = some (.int .i64 1) ∧ w'.cell? ⟨1, 1, none⟩ = some (.int .i64 0) ∧ w'.cell? ⟨2, 0, none⟩ = some (.int .i64 3) ∧ w'.cell? ⟨2, 1, none⟩ = some (.int .i64 0) ∧ w'.cell? ⟨3, 0, none⟩ = some (.int .i64 2) ∧ w'.cell? ⟨3, 1, none⟩ = some (.int .i64 0) ∧ w'.cell? ⟨4, 0, none⟩ = some (.int .i64 7) ∧ w'.cell? ⟨4, 1, none⟩ = some (.int .i64 0) ∧ Below w.heap.size w w')
    (first | (refine hold10 HCell.out ?_; repeat (first | exact Below.refl _ _ | assumption | refine Below.drew ?_ | refine Below.alloc ?_ (by simp <;> omega) _)))
    (first | (go_at_call 226; refine (types_calls _ _).mono ?_; rintro e w' ⟨rfl, rfl⟩))
  all_goals
    go_wp2
    refine bodyPost_ret (plain_results _ _ w.heap.size _ _ ⟨_, _, _, rfl⟩ ⟨_, _, _, rfl⟩ true rfl rfl (by repeat (first | (refine blk_new' _ ?_; first | rfl | (simp; done)) | refine blk_drew ?_ | refine blk_alloc ?_ _))) rfl ?_
    exact ⟨_, _, _, _, _, _, rfl, ⟨rfl, rfl, by decide, by decide, (by first | exact Rd.Row.nil _ _ _ _ | exact row_cells (by repeat (first | (refine blk_new' _ ?_; first | rfl | (simp; done)) | refine blk_drew ?_ | refine blk_alloc ?_ _)) ⟨by first | omega | (simp; done) | (simp; omega), .inr (by first | omega | (simp; done) | (simp; omega))⟩ rfl (by decide)), (by first | exact Rd.Row.nil _ _ _ _ | exact row_cells (by repeat (first | (refine blk_new' _ ?_; first | rfl | (simp; done)) | refine blk_drew ?_ | refine blk_alloc ?_ _)) ⟨by first | omega | (simp; done) | (simp; omega), .inr (by first | omega | (simp; done) | (simp; omega))⟩ rfl (by decide)), by decide, by decide⟩, (by repeat (first | exact Below.refl _ _ | refine Below.drew ?_ | refine below_up ?_ _))⟩
set_option maxRecDepth 100000 in
set_option maxHeartbeats 8000000 in
theorem plain_15 (w : World) (hg : Glob w) : Calls Tryz.prog 191 #[.int .i64 15] w fun e w' => RuleOut (fun _ => False) w (plainL 15).1 (plainL 15).2 e w' := by
  have hs := hg.big
  have HCell := Lib.hid (fun W (hW : Below w.heap.size w W) => (hg.below hW hg.big).cells)
  obtain ⟨c00, c01, c10, c11, c20, c21, c30, c31, c40, c41⟩ := hg.cells
  clear hg
  go_enter Tryz.func191, Tryz.ntmps191
  go_wp2_with fail
  go_region_held3 (fun w' => w'.cell? ⟨0, 0, none⟩ = some (.int .i64 8) ∧ w'.cell? ⟨0, 1, none⟩ = some (.int .i64 0) ∧ w'.cell? ⟨1, 0, none⟩ = some (.int .i64 1) ∧ w'.cell? ⟨1, 1, none⟩ = some (.int .i64 0) ∧ w'.cell? ⟨2, 0, none⟩ = some (.int .i64 3) ∧ w'.cell? ⟨2, 1, none⟩ = some (.int .i64 0) ∧ w'.cell? ⟨3, 0, none⟩ = some (.int .i64 2) ∧ w'.cell? ⟨3, 1, none⟩ = some (.int .i64 0) ∧ w'.cell? ⟨4, 0, none⟩ = some (.int .i64 7) ∧ w'.cell? ⟨4, 1, none⟩ = some (.int .i64 0) ∧ Below w.heap.size w w')
    (first | (refine hold10 HCell.out ?_; repeat (first | exact Below.refl _ _ | assumption | refine Below.drew ?_ | refine Below.alloc ?_ (by simp <;> omega) _)))
    (first | (go_at_call 226; refine (types_calls _ _).mono ?_; rintro e w' ⟨rfl, rfl⟩))
  all_goals
    go_wp2
    refine bodyPost_ret (plain_results _ _ w.heap.size _ _ ⟨_, _, _, rfl⟩ ⟨_, _, _, rfl⟩ true rfl rfl (by repeat (first | (refine blk_new' _ ?_; first | rfl | (simp; done)) | refine blk_drew ?_ | refine blk_alloc ?_ _))) rfl ?_
    exact ⟨_, _, _, _, _, _, rfl, ⟨rfl, rfl, by decide, by decide, (by first | exact Rd.Row.nil _ _ _ _ | exact row_cells (by repeat (first | (refine blk_new' _ ?_; first | rfl | (simp; done)) | refine blk_drew ?_ | refine blk_alloc ?_ _)) ⟨by first | omega | (simp; done) | (simp; omega), .inr (by first | omega | (simp; done) | (simp; omega))⟩ rfl (by decide)), (by first | exact Rd.Row.nil _ _ _ _ | exact row_cells (by repeat (first | (refine blk_new' _ ?_; first | rfl | (simp; done)) | refine blk_drew ?_ | refine blk_alloc ?_ _)) ⟨by first | omega | (simp; done) | (simp; omega), .inr (by first | omega | (simp; done) | (simp; omega))⟩ rfl (by decide)), by decide, by decide⟩, (by repeat (first | exact Below.refl _ _ | refine Below.drew ?_ | refine below_up ?_ _))⟩
set_option maxRecDepth 100000 in
set_option maxHeartbeats 8000000 in
theorem plain_16 (w : World) (hg : Glob w) : Calls Tryz.prog 191 #[.int .i64 16] w fun e w' => RuleOut (fun _ => False) w (plainL 16).1 (plainL 16).2 e w' := by
  have hs := hg.big
  have HCell := Lib.hid (fun W (hW : Below w.heap.size w W) => (hg.below hW hg.big).cells)
  obtain ⟨c00, c01, c10, c11, c20, c21, c30, c31, c40, c41⟩ := hg.cells
  clear hg
  go_enter Tryz.func191, Tryz.ntmps191
  go_wp2_with fail
  go_region_held3 (fun w' => w'.cell? ⟨0, 0, none⟩ = some (.int .i64 8) ∧ w'.cell? ⟨0, 1, none⟩ = some (.int .i64 0) ∧ w'.cell? ⟨1, 0, none⟩ = some (.int .i64 1) ∧ w'.cell? ⟨1, 1, none⟩ = some (.int .i64 0) ∧ w'.cell? ⟨2, 0, none⟩ = some (.int .i64 3) ∧ w'.cell? ⟨2, 1, none⟩ = some (.int .i64 0) ∧ w'.cell? ⟨3, 0, none⟩ = some (.int .i64 2) ∧ w'.cell? ⟨3, 1, none⟩ = some (.int .i64 0) ∧ w'.cell? ⟨4, 0, none⟩ = some (.int .i64 7) ∧ w'.cell? ⟨4, 1, none⟩ = some (.int .i64 0) ∧ Below w.heap.size w w')
    (first | (refine hold10 HCell.out ?_; repeat (first | exact Below.refl _ _ | assumption | refine Below.drew ?_ | refine Below.alloc ?_ (by simp <;> omega) _)))
    (first | (go_at_call 226; refine (types_calls _ _).mono ?_; rintro e w' ⟨rfl, rfl⟩))
  all_goals
    go_wp2
    refine bodyPost_ret (plain_results _ _ w.heap.size _ _ ⟨_, _, _, rfl⟩ ⟨_, _, _, rfl⟩ true rfl rfl (by repeat (first | (refine blk_new' _ ?_; first | rfl | (simp; done)) | refine blk_drew ?_ | refine blk_alloc ?_ _))) rfl ?_
    exact ⟨_, _, _, _, _, _, rfl, ⟨rfl, rfl, by decide, by decide, (by first | exact Rd.Row.nil _ _ _ _ | exact row_cells (by repeat (first | (refine blk_new' _ ?_; first | rfl | (simp; done)) | refine blk_drew ?_ | refine blk_alloc ?_ _)) ⟨by first | omega | (simp; done) | (simp; omega), .inr (by first | omega | (simp; done) | (simp; omega))⟩ rfl (by decide)), (by first | exact Rd.Row.nil _ _ _ _ | exact row_cells (by repeat (first | (refine blk_new' _ ?_; first | rfl | (simp; done)) | refine blk_drew ?_ | refine blk_alloc ?_ _)) ⟨by first | omega | (simp; done) | (simp; omega), .inr (by first | omega | (simp; done) | (simp; omega))⟩ rfl (by decide)), by decide, by decide⟩, (by repeat (first | exact Below.refl _ _ | refine Below.drew ?_ | refine below_up ?_ _))⟩
set_option maxRecDepth 100000 in
set_option maxHeartbeats 8000000 in
theorem plain_17 (w : World) (hg : Glob w) : Calls Tryz.prog 191 #[.int .i64 17] w fun e w' => RuleOut (fun _ => False) w (plainL 17).1 (plainL 17).2 e w' := by
  have hs := hg.big
  have HCell := Lib.hid (fun W (hW : Below w.heap.size w W) => (hg.below hW hg.big).cells)
  obtain ⟨c00, c01, c10, c11, c20, c21, c30, c31, c40, c41⟩ := hg.cells
  clear hg
  go_enter Tryz.func191, Tryz.ntmps191
  go_wp2_with fail
  go_region_held3 (fun w' => w'.cell? ⟨0, 0, none⟩ = some (.int .i64 8) ∧ w'.cell? ⟨0, 1, none⟩ = some (.int .i64 0) ∧ w'.cell? ⟨1, 0, none⟩ = some (.int .i64 1) ∧ w'.cell? ⟨1, 1, none⟩ = some (.int .i64 0) ∧ w'.cell? ⟨2, 0, none⟩ = some (.int .i64 3) ∧ w'.cell? ⟨2, 1, none⟩ = some (.int .i64 0) ∧ w'.cell? ⟨3, 0, none⟩ = some (.int .i64 2) ∧ w'.cell? ⟨3, 1, none⟩ = some (.int .i64 0) ∧ w'.cell? ⟨4, 0, none⟩ = some (.int .i64 7) ∧ w'.cell? ⟨4, 1, none⟩ = some (.int .i64 0) ∧ Below w.heap.size w w')
    (first | (refine hold10 HCell.out ?_; repeat (first | exact Below.refl _ _ | assumption | refine Below.drew ?_ | refine Below.alloc ?_ (by simp <;> omega) _)))
    (first | (go_at_call 226; refine (types_calls _ _).mono ?_; rintro e w' ⟨rfl, rfl⟩))
  all_goals
    go_wp2
    refine bodyPost_ret (plain_results _ _ w.heap.size _ _ ⟨_, _, _, rfl⟩ ⟨_, _, _, rfl⟩ true rfl rfl (by repeat (first | (refine blk_new' _ ?_; first | rfl | (simp; done)) | refine blk_drew ?_ | refine blk_alloc ?_ _))) rfl ?_
    exact ⟨_, _, _, _, _, _, rfl, ⟨rfl, rfl, by decide, by decide, (by first | exact Rd.Row.nil _ _ _ _ | exact row_cells (by repeat (first | (refine blk_new' _ ?_; first | rfl | (simp; done)) | refine blk_drew ?_ | refine blk_alloc ?_ _)) ⟨by first | omega | (simp; done) | (simp; omega), .inr (by first | omega | (simp; done) | (simp; omega))⟩ rfl (by decide)), (by first | exact Rd.Row.nil _ _ _ _ | exact row_cells (by repeat (first | (refine blk_new' _ ?_; first | rfl | (simp; done)) | refine blk_drew ?_ | refine blk_alloc ?_ _)) ⟨by first | omega | (simp; done) | (simp; omega), .inr (by first | omega | (simp; done) | (simp; omega))⟩ rfl (by decide)), by decide, by decide⟩, (by repeat (first | exact Below.refl _ _ | refine Below.drew ?_ | refine below_up ?_ _))⟩
end Go.Proofs.YtmceaeoeakkppaaGreatDoor
