/- McFlowB: flow.types, flow.plain. Printed by gen_mcflow.py of this repo. -/
import Derived.Test.YtmceaeoeakkppaaGreatDoorZFlow
import Derived.Deep.RegionHeld3
namespace Go.Proofs.YtmceaeoeakkppaaGreatDoor
open Go.RowKit Go.Sort
set_option linter.unusedVariables false
set_option maxRecDepth 100000 in
set_option maxHeartbeats 8000000 in
theorem plain_18 (w : World) (hg : Glob w) : Calls Tryz.prog 191 #[.int .i64 18] w fun e w' => RuleOut (fun _ => False) w (plainL 18).1 (plainL 18).2 e w' := by
  have hs := hg.big
  have HCell := Lib.hid (fun W (hW : Below w.heap.size w W) => (hg.below hW hg.big).cells)
  obtain ⟨c00, c01, c10, c11, c20, c21, c30, c31, c40, c41⟩ := hg.cells
  clear hg
  go_enter Tryz.func191, Tryz.ntmps191
  go_wp2_with fail
  go_region_held3 (fun w' => w'.cell? ⟨0, 0, none⟩ = some (.int .i64 8) ∧ w'.cell? ⟨0, 1, none⟩ = some (.int .i64 0) ∧ w'.cell? ⟨1, 0, none⟩ = some (.int .i64 1) ∧ w'.cell? ⟨1, 1, none⟩ = some (.int .i64 0) ∧ w'.cell? ⟨2, 0, none⟩ = some (.int .i64 3) ∧ w'.cell? ⟨2, 1, none⟩ = some (.int .i64 0) ∧ w'.cell? ⟨3, 0, none⟩ = some (.int .i64 2) ∧ w'.cell? ⟨3, 1, none⟩ = some (.int .i64 0) ∧ w'.cell? ⟨4, 0, none⟩ = some (.int .i64 7) ∧ w'.cell? ⟨4, 1, none⟩ = some (.int .i64 0) ∧ Below w.heap.size w w')
    (first | (refine hold10 HCell.out ?_; repeat (first | exact Below.refl _ _ | assumption | refine Below.drew ?_ | refine Below.alloc ?_ (by simp <;> omega) _)))
    (first | (go_at_call 226; refine (types_calls _ _).mono ?_; rintro e w' ⟨rfl, rfl⟩))
  all_goals
    go_wp2
    refine bodyPost_ret (plain_results _ _ w.heap.size _ _ ⟨_, _, _, rfl⟩ ⟨_, _, _, rfl⟩ true rfl rfl (by repeat (first | (refine blk_new' _ ?_; first | rfl | (simp; done)) | refine blk_drew ?_ | refine blk_alloc ?_ _))) rfl ?_
    exact ⟨_, _, _, _, _, _, rfl, ⟨rfl, rfl, by decide, by decide, (by first | exact Rd.Row.nil _ _ _ _ | exact row_cells (by repeat (first | (refine blk_new' _ ?_; first | rfl | (simp; done)) | refine blk_drew ?_ | refine blk_alloc ?_ _)) ⟨by first | omega | (simp; done) | (simp; omega), .inr (by first | omega | (simp; done) | (simp; omega))⟩ rfl (by decide)), (by first | exact Rd.Row.nil _ _ _ _ | exact row_cells (by repeat (first | (refine blk_new' _ ?_; first | rfl | (simp; done)) | refine blk_drew ?_ | refine blk_alloc ?_ _)) ⟨by first | omega | (simp; done) | (simp; omega), .inr (by first | omega | (simp; done) | (simp; omega))⟩ rfl (by decide)), by decide, by decide⟩, (by repeat (first | exact Below.refl _ _ | refine Below.drew ?_ | refine below_up ?_ _))⟩
set_option maxRecDepth 100000 in
set_option maxHeartbeats 8000000 in
theorem plain_19 (w : World) (hg : Glob w) : Calls Tryz.prog 191 #[.int .i64 19] w fun e w' => RuleOut (fun _ => False) w (plainL 19).1 (plainL 19).2 e w' := by
  have hs := hg.big
  have HCell := Lib.hid (fun W (hW : Below w.heap.size w W) => (hg.below hW hg.big).cells)
  obtain ⟨c00, c01, c10, c11, c20, c21, c30, c31, c40, c41⟩ := hg.cells
  clear hg
  go_enter Tryz.func191, Tryz.ntmps191
  go_wp2_with fail
  go_region_held3 (fun w' => w'.cell? ⟨0, 0, none⟩ = some (.int .i64 8) ∧ w'.cell? ⟨0, 1, none⟩ = some (.int .i64 0) ∧ w'.cell? ⟨1, 0, none⟩ = some (.int .i64 1) ∧ w'.cell? ⟨1, 1, none⟩ = some (.int .i64 0) ∧ w'.cell? ⟨2, 0, none⟩ = some (.int .i64 3) ∧ w'.cell? ⟨2, 1, none⟩ = some (.int .i64 0) ∧ w'.cell? ⟨3, 0, none⟩ = some (.int .i64 2) ∧ w'.cell? ⟨3, 1, none⟩ = some (.int .i64 0) ∧ w'.cell? ⟨4, 0, none⟩ = some (.int .i64 7) ∧ w'.cell? ⟨4, 1, none⟩ = some (.int .i64 0) ∧ Below w.heap.size w w')
    (first | (refine hold10 HCell.out ?_; repeat (first | exact Below.refl _ _ | assumption | refine Below.drew ?_ | refine Below.alloc ?_ (by simp <;> omega) _)))
    (first | (go_at_call 226; refine (types_calls _ _).mono ?_; rintro e w' ⟨rfl, rfl⟩))
  all_goals
    go_wp2
    refine bodyPost_ret (plain_results _ _ w.heap.size _ _ ⟨_, _, _, rfl⟩ ⟨_, _, _, rfl⟩ true rfl rfl (by repeat (first | (refine blk_new' _ ?_; first | rfl | (simp; done)) | refine blk_drew ?_ | refine blk_alloc ?_ _))) rfl ?_
    exact ⟨_, _, _, _, _, _, rfl, ⟨rfl, rfl, by decide, by decide, (by first | exact Rd.Row.nil _ _ _ _ | exact row_cells (by repeat (first | (refine blk_new' _ ?_; first | rfl | (simp; done)) | refine blk_drew ?_ | refine blk_alloc ?_ _)) ⟨by first | omega | (simp; done) | (simp; omega), .inr (by first | omega | (simp; done) | (simp; omega))⟩ rfl (by decide)), (by first | exact Rd.Row.nil _ _ _ _ | exact row_cells (by repeat (first | (refine blk_new' _ ?_; first | rfl | (simp; done)) | refine blk_drew ?_ | refine blk_alloc ?_ _)) ⟨by first | omega | (simp; done) | (simp; omega), .inr (by first | omega | (simp; done) | (simp; omega))⟩ rfl (by decide)), by decide, by decide⟩, (by repeat (first | exact Below.refl _ _ | refine Below.drew ?_ | refine below_up ?_ _))⟩
set_option maxRecDepth 100000 in
set_option maxHeartbeats 8000000 in
theorem plain_20 (w : World) (hg : Glob w) : Calls Tryz.prog 191 #[.int .i64 20] w fun e w' => RuleOut (fun _ => False) w (plainL 20).1 (plainL 20).2 e w' := by
  have hs := hg.big
  have HCell := Lib.hid (fun W (hW : Below w.heap.size w W) => (hg.below hW hg.big).cells)
  obtain ⟨c00, c01, c10, c11, c20, c21, c30, c31, c40, c41⟩ := hg.cells
  clear hg
  go_enter Tryz.func191, Tryz.ntmps191
  go_wp2_with fail
  go_region_held3 (fun w' => w'.cell? ⟨0, 0, none⟩ = some (.int .i64 8) ∧ w'.cell? ⟨0, 1, none⟩ = some (.int .i64 0) ∧ w'.cell? ⟨1, 0, none⟩ = some (.int .i64 1) ∧ w'.cell? ⟨1, 1, none⟩ = some (.int .i64 0) ∧ w'.cell? ⟨2, 0, none⟩ = some (.int .i64 3) ∧ w'.cell? ⟨2, 1, none⟩ = some (.int .i64 0) ∧ w'.cell? ⟨3, 0, none⟩ = some (.int .i64 2) ∧ w'.cell? ⟨3, 1, none⟩ = some (.int .i64 0) ∧ w'.cell? ⟨4, 0, none⟩ = some (.int .i64 7) ∧ w'.cell? ⟨4, 1, none⟩ = some (.int .i64 0) ∧ Below w.heap.size w w')
    (first | (refine hold10 HCell.out ?_; repeat (first | exact Below.refl _ _ | assumption | refine Below.drew ?_ | refine Below.alloc ?_ (by simp <;> omega) _)))
    (first | (go_at_call 226; refine (types_calls _ _).mono ?_; rintro e w' ⟨rfl, rfl⟩))
  all_goals
    go_wp2
    refine bodyPost_ret (plain_results _ _ w.heap.size _ _ ⟨_, _, _, rfl⟩ ⟨_, _, _, rfl⟩ true rfl rfl (by repeat (first | (refine blk_new' _ ?_; first | rfl | (simp; done)) | refine blk_drew ?_ | refine blk_alloc ?_ _))) rfl ?_
    exact ⟨_, _, _, _, _, _, rfl, ⟨rfl, rfl, by decide, by decide, (by first | exact Rd.Row.nil _ _ _ _ | exact row_cells (by repeat (first | (refine blk_new' _ ?_; first | rfl | (simp; done)) | refine blk_drew ?_ | refine blk_alloc ?_ _)) ⟨by first | omega | (simp; done) | (simp; omega), .inr (by first | omega | (simp; done) | (simp; omega))⟩ rfl (by decide)), (by first | exact Rd.Row.nil _ _ _ _ | exact row_cells (by repeat (first | (refine blk_new' _ ?_; first | rfl | (simp; done)) | refine blk_drew ?_ | refine blk_alloc ?_ _)) ⟨by first | omega | (simp; done) | (simp; omega), .inr (by first | omega | (simp; done) | (simp; omega))⟩ rfl (by decide)), by decide, by decide⟩, (by repeat (first | exact Below.refl _ _ | refine Below.drew ?_ | refine below_up ?_ _))⟩
set_option maxRecDepth 100000 in
set_option maxHeartbeats 8000000 in
theorem plain_21 (w : World) (hg : Glob w) : Calls Tryz.prog 191 #[.int .i64 21] w fun e w' => RuleOut (fun _ => False) w (plainL 21).1 (plainL 21).2 e w' := by
  have hs := hg.big
  have HCell := Lib.hid (fun W (hW : Below w.heap.size w W) => (hg.below hW hg.big).cells)
  obtain ⟨c00, c01, c10, c11, c20, c21, c30, c31, c40, c41⟩ := hg.cells
  clear hg
  go_enter Tryz.func191, Tryz.ntmps191
  go_wp2_with fail
  go_region_held3 (fun w' => w'.cell? ⟨0, 0, none⟩ = some (.int .i64 8) ∧ w'.cell? ⟨0, 1, none⟩ = some (.int .i64 0) ∧ w'.cell? ⟨1, 0, none⟩ = some (.int .i64 1) ∧ w'.cell? ⟨1, 1, none⟩ = some (.int .i64 0) ∧ w'.cell? ⟨2, 0, none⟩ = some (.int .i64 3) ∧ w'.cell? ⟨2, 1, none⟩ = some (.int .i64 0) ∧ w'.cell? ⟨3, 0, none⟩ = some (.int .i64 2) ∧ w'.cell? ⟨3, 1, none⟩ = some (.int .i64 0) ∧ w'.cell? ⟨4, 0, none⟩ = some (.int .i64 7) ∧ w'.cell? ⟨4, 1, none⟩ = some (.int .i64 0) ∧ Below w.heap.size w w')
    (first | (refine hold10 HCell.out ?_; repeat (first | exact Below.refl _ _ | assumption | refine Below.drew ?_ | refine Below.alloc ?_ (by simp <;> omega) _)))
    (first | (go_at_call 226; refine (types_calls _ _).mono ?_; rintro e w' ⟨rfl, rfl⟩))
  all_goals
    go_wp2
    refine bodyPost_ret (plain_results _ _ w.heap.size _ _ ⟨_, _, _, rfl⟩ ⟨_, _, _, rfl⟩ true rfl rfl (by repeat (first | (refine blk_new' _ ?_; first | rfl | (simp; done)) | refine blk_drew ?_ | refine blk_alloc ?_ _))) rfl ?_
    exact ⟨_, _, _, _, _, _, rfl, ⟨rfl, rfl, by decide, by decide, (by first | exact Rd.Row.nil _ _ _ _ | exact row_cells (by repeat (first | (refine blk_new' _ ?_; first | rfl | (simp; done)) | refine blk_drew ?_ | refine blk_alloc ?_ _)) ⟨by first | omega | (simp; done) | (simp; omega), .inr (by first | omega | (simp; done) | (simp; omega))⟩ rfl (by decide)), (by first | exact Rd.Row.nil _ _ _ _ | exact row_cells (by repeat (first | (refine blk_new' _ ?_; first | rfl | (simp; done)) | refine blk_drew ?_ | refine blk_alloc ?_ _)) ⟨by first | omega | (simp; done) | (simp; omega), .inr (by first | omega | (simp; done) | (simp; omega))⟩ rfl (by decide)), by decide, by decide⟩, (by repeat (first | exact Below.refl _ _ | refine Below.drew ?_ | refine below_up ?_ _))⟩
set_option maxRecDepth 100000 in
set_option maxHeartbeats 8000000 in
theorem plain_25 (w : World) (hg : Glob w) : Calls Tryz.prog 191 #[.int .i64 25] w fun e w' => RuleOut (fun _ => False) w (plainL 25).1 (plainL 25).2 e w' := by
  have hs := hg.big
  have HCell := Lib.hid (fun W (hW : Below w.heap.size w W) => (hg.below hW hg.big).cells)
  obtain ⟨c00, c01, c10, c11, c20, c21, c30, c31, c40, c41⟩ := hg.cells
  clear hg
  go_enter Tryz.func191, Tryz.ntmps191
  go_wp2_with fail
  go_region_held3 (fun w' => w'.cell? ⟨0, 0, none⟩ = some (.int .i64 8) ∧ w'.cell? ⟨0, 1, none⟩ = some (.int .i64 0) ∧ w'.cell? ⟨1, 0, none⟩ = some (.int .i64 1) ∧ w'.cell? ⟨1, 1, none⟩ = some (.int .i64 0) ∧ w'.cell? ⟨2, 0, none⟩ = some (.int .i64 3) ∧ w'.cell? ⟨2, 1, none⟩ = some (.int .i64 0) ∧ w'.cell? ⟨3, 0, none⟩ = some (.int .i64 2) ∧ w'.cell? ⟨3, 1, none⟩ = some (.int .i64 0) ∧ w'.cell? ⟨4, 0, none⟩ = some (.int .i64 7) ∧ w'.cell? ⟨4, 1, none⟩ = some (.int .i64 0) ∧ Below w.heap.size w w')
    (first | (refine hold10 HCell.out ?_; repeat (first | exact Below.refl _ _ | assumption | refine Below.drew ?_ | refine Below.alloc ?_ (by simp <;> omega) _)))
    (first | (go_at_call 226; refine (types_calls _ _).mono ?_; rintro e w' ⟨rfl, rfl⟩))
  all_goals
    go_wp2
    refine bodyPost_ret (plain_results _ _ w.heap.size _ _ ⟨_, _, _, rfl⟩ ⟨_, _, _, rfl⟩ false rfl rfl (by repeat (first | (refine blk_new' _ ?_; first | rfl | (simp; done)) | refine blk_drew ?_ | refine blk_alloc ?_ _))) rfl ?_
    exact ⟨_, _, _, _, _, _, rfl, ⟨rfl, rfl, by decide, by decide, (by first | exact Rd.Row.nil _ _ _ _ | exact row_cells (by repeat (first | (refine blk_new' _ ?_; first | rfl | (simp; done)) | refine blk_drew ?_ | refine blk_alloc ?_ _)) ⟨by first | omega | (simp; done) | (simp; omega), .inr (by first | omega | (simp; done) | (simp; omega))⟩ rfl (by decide)), (by first | exact Rd.Row.nil _ _ _ _ | exact row_cells (by repeat (first | (refine blk_new' _ ?_; first | rfl | (simp; done)) | refine blk_drew ?_ | refine blk_alloc ?_ _)) ⟨by first | omega | (simp; done) | (simp; omega), .inr (by first | omega | (simp; done) | (simp; omega))⟩ rfl (by decide)), by decide, by decide⟩, (by repeat (first | exact Below.refl _ _ | refine Below.drew ?_ | refine below_up ?_ _))⟩
set_option maxRecDepth 100000 in
set_option maxHeartbeats 8000000 in
theorem plain_26 (w : World) (hg : Glob w) : Calls Tryz.prog 191 #[.int .i64 26] w fun e w' => RuleOut (fun _ => False) w (plainL 26).1 (plainL 26).2 e w' := by
  have hs := hg.big
  have HCell := Lib.hid (fun W (hW : Below w.heap.size w W) => (hg.below hW hg.big).cells)
  obtain ⟨c00, c01, c10, c11, c20, c21, c30, c31, c40, c41⟩ := hg.cells
  clear hg
  go_enter Tryz.func191, Tryz.ntmps191
  go_wp2_with fail
  go_region_held3 (fun w' => w'.cell? ⟨0, 0, none⟩ = some (.int .i64 8) ∧ w'.cell? ⟨0, 1, none⟩ = some (.int .i64 0) ∧ w'.cell? ⟨1, 0, none⟩ = some (.int .i64 1) ∧ w'.cell? ⟨1, 1, none⟩ = some (.int .i64 0) ∧ w'.cell? ⟨2, 0, none⟩ = some (.int .i64 3) ∧ w'.cell? ⟨2, 1, none⟩ = some (.int .i64 0) ∧ w'.cell? ⟨3, 0, none⟩ = some (.int .i64 2) ∧ w'.cell? ⟨3, 1, none⟩ = some (.int .i64 0) ∧ w'.cell? ⟨4, 0, none⟩ = some (.int .i64 7) ∧ w'.cell? ⟨4, 1, none⟩ = some (.int .i64 0) ∧ Below w.heap.size w w')
    (first | (refine hold10 HCell.out ?_; repeat (first | exact Below.refl _ _ | assumption | refine Below.drew ?_ | refine Below.alloc ?_ (by simp <;> omega) _)))
    (first | (go_at_call 226; refine (types_calls _ _).mono ?_; rintro e w' ⟨rfl, rfl⟩))
  all_goals
    go_wp2
    refine bodyPost_ret (plain_results _ _ w.heap.size _ _ ⟨_, _, _, rfl⟩ ⟨_, _, _, rfl⟩ false rfl rfl (by repeat (first | (refine blk_new' _ ?_; first | rfl | (simp; done)) | refine blk_drew ?_ | refine blk_alloc ?_ _))) rfl ?_
    exact ⟨_, _, _, _, _, _, rfl, ⟨rfl, rfl, by decide, by decide, (by first | exact Rd.Row.nil _ _ _ _ | exact row_cells (by repeat (first | (refine blk_new' _ ?_; first | rfl | (simp; done)) | refine blk_drew ?_ | refine blk_alloc ?_ _)) ⟨by first | omega | (simp; done) | (simp; omega), .inr (by first | omega | (simp; done) | (simp; omega))⟩ rfl (by decide)), (by first | exact Rd.Row.nil _ _ _ _ | exact row_cells (by repeat (first | (refine blk_new' _ ?_; first | rfl | (simp; done)) | refine blk_drew ?_ | refine blk_alloc ?_ _)) ⟨by first | omega | (simp; done) | (simp; omega), .inr (by first | omega | (simp; done) | (simp; omega))⟩ rfl (by decide)), by decide, by decide⟩, (by repeat (first | exact Below.refl _ _ | refine Below.drew ?_ | refine below_up ?_ _))⟩
set_option maxRecDepth 100000 in
set_option maxHeartbeats 8000000 in
theorem plain_27 (w : World) (hg : Glob w) : Calls Tryz.prog 191 #[.int .i64 27] w fun e w' => RuleOut (fun _ => False) w (plainL 27).1 (plainL 27).2 e w' := by
  have hs := hg.big
  have HCell := Lib.hid (fun W (hW : Below w.heap.size w W) => (hg.below hW hg.big).cells)
  obtain ⟨c00, c01, c10, c11, c20, c21, c30, c31, c40, c41⟩ := hg.cells
  clear hg
  go_enter Tryz.func191, Tryz.ntmps191
  go_wp2_with fail
  go_region_held3 (fun w' => w'.cell? ⟨0, 0, none⟩ = some (.int .i64 8) ∧ w'.cell? ⟨0, 1, none⟩ = some (.int .i64 0) ∧ w'.cell? ⟨1, 0, none⟩ = some (.int .i64 1) ∧ w'.cell? ⟨1, 1, none⟩ = some (.int .i64 0) ∧ w'.cell? ⟨2, 0, none⟩ = some (.int .i64 3) ∧ w'.cell? ⟨2, 1, none⟩ = some (.int .i64 0) ∧ w'.cell? ⟨3, 0, none⟩ = some (.int .i64 2) ∧ w'.cell? ⟨3, 1, none⟩ = some (.int .i64 0) ∧ w'.cell? ⟨4, 0, none⟩ = some (.int .i64 7) ∧ w'.cell? ⟨4, 1, none⟩ = some (.int .i64 0) ∧ Below w.heap.size w w')
    (first | (refine hold10 HCell.out ?_; repeat (first | exact Below.refl _ _ | assumption | refine Below.drew ?_ | refine Below.alloc ?_ (by simp <;> omega) _)))
    (first | (go_at_call 226; refine (types_calls _ _).mono ?_; rintro e w' ⟨rfl, rfl⟩))
  all_goals
    go_wp2
    refine bodyPost_ret (plain_results _ _ w.heap.size _ _ ⟨_, _, _, rfl⟩ ⟨_, _, _, rfl⟩ false rfl rfl (by repeat (first | (refine blk_new' _ ?_; first | rfl | (simp; done)) | refine blk_drew ?_ | refine blk_alloc ?_ _))) rfl ?_
    exact ⟨_, _, _, _, _, _, rfl, ⟨rfl, rfl, by decide, by decide, (by first | exact Rd.Row.nil _ _ _ _ | exact row_cells (by repeat (first | (refine blk_new' _ ?_; first | rfl | (simp; done)) | refine blk_drew ?_ | refine blk_alloc ?_ _)) ⟨by first | omega | (simp; done) | (simp; omega), .inr (by first | omega | (simp; done) | (simp; omega))⟩ rfl (by decide)), (by first | exact Rd.Row.nil _ _ _ _ | exact row_cells (by repeat (first | (refine blk_new' _ ?_; first | rfl | (simp; done)) | refine blk_drew ?_ | refine blk_alloc ?_ _)) ⟨by first | omega | (simp; done) | (simp; omega), .inr (by first | omega | (simp; done) | (simp; omega))⟩ rfl (by decide)), by decide, by decide⟩, (by repeat (first | exact Below.refl _ _ | refine Below.drew ?_ | refine below_up ?_ _))⟩
set_option maxRecDepth 100000 in
set_option maxHeartbeats 8000000 in
theorem plain_28 (w : World) (hg : Glob w) : Calls Tryz.prog 191 #[.int .i64 28] w fun e w' => RuleOut (fun _ => False) w (plainL 28).1 (plainL 28).2 e w' := by
  have hs := hg.big
  have HCell := Lib.hid (fun W (hW : Below w.heap.size w W) => (hg.below hW hg.big).cells)
  obtain ⟨c00, c01, c10, c11, c20, c21, c30, c31, c40, c41⟩ := hg.cells
  clear hg
  go_enter Tryz.func191, Tryz.ntmps191
  go_wp2_with fail
  go_region_held3 (fun w' => w'.cell? ⟨0, 0, none⟩ = some (.int .i64 8) ∧ w'.cell? ⟨0, 1, none⟩ = some (.int .i64 0) ∧ w'.cell? ⟨1, 0, none⟩ = some (.int .i64 1) ∧ w'.cell? ⟨1, 1, none⟩ = some (.int .i64 0) ∧ w'.cell? ⟨2, 0, none⟩ = some (.int .i64 3) ∧ w'.cell? ⟨2, 1, none⟩ = some (.int .i64 0) ∧ w'.cell? ⟨3, 0, none⟩ = some (.int .i64 2) ∧ w'.cell? ⟨3, 1, none⟩ = some (.int .i64 0) ∧ w'.cell? ⟨4, 0, none⟩ = some (.int .i64 7) ∧ w'.cell? ⟨4, 1, none⟩ = some (.int .i64 0) ∧ Below w.heap.size w w')
    (first | (refine hold10 HCell.out ?_; repeat (first | exact Below.refl _ _ | assumption | refine Below.drew ?_ | refine Below.alloc ?_ (by simp <;> omega) _)))
    (first | (go_at_call 226; refine (types_calls _ _).mono ?_; rintro e w' ⟨rfl, rfl⟩))
  all_goals
    go_wp2
    refine bodyPost_ret (plain_results _ _ w.heap.size _ _ ⟨_, _, _, rfl⟩ ⟨_, _, _, rfl⟩ false rfl rfl (by repeat (first | (refine blk_new' _ ?_; first | rfl | (simp; done)) | refine blk_drew ?_ | refine blk_alloc ?_ _))) rfl ?_
    exact ⟨_, _, _, _, _, _, rfl, ⟨rfl, rfl, by decide, by decide, (by first | exact Rd.Row.nil _ _ _ _ | exact row_cells (by repeat (first | (refine blk_new' _ ?_; first | rfl | (simp; done)) | refine blk_drew ?_ | refine blk_alloc ?_ _)) ⟨by first | omega | (simp; done) | (simp; omega), .inr (by first | omega | (simp; done) | (simp; omega))⟩ rfl (by decide)), (by first | exact Rd.Row.nil _ _ _ _ | exact row_cells (by repeat (first | (refine blk_new' _ ?_; first | rfl | (simp; done)) | refine blk_drew ?_ | refine blk_alloc ?_ _)) ⟨by first | omega | (simp; done) | (simp; omega), .inr (by first | omega | (simp; done) | (simp; omega))⟩ rfl (by decide)), by decide, by decide⟩, (by repeat (first | exact Below.refl _ _ | refine Below.drew ?_ | refine below_up ?_ _))⟩
set_option maxRecDepth 100000 in
set_option maxHeartbeats 8000000 in
theorem plain_29 (w : World) (hg : Glob w) : Calls Tryz.prog 191 #[.int .i64 29] w fun e w' => RuleOut (fun _ => False) w (plainL 29).1 (plainL 29).2 e w' := by
  have hs := hg.big
  have HCell := Lib.hid (fun W (hW : Below w.heap.size w W) => (hg.below hW hg.big).cells)
  obtain ⟨c00, c01, c10, c11, c20, c21, c30, c31, c40, c41⟩ := hg.cells
  clear hg
  go_enter Tryz.func191, Tryz.ntmps191
  go_wp2_with fail
  go_region_held3 (fun w' => w'.cell? ⟨0, 0, none⟩ = some (.int .i64 8) ∧ w'.cell? ⟨0, 1, none⟩ = some (.int .i64 0) ∧ w'.cell? ⟨1, 0, none⟩ = some (.int .i64 1) ∧ w'.cell? ⟨1, 1, none⟩ = some (.int .i64 0) ∧ w'.cell? ⟨2, 0, none⟩ = some (.int .i64 3) ∧ w'.cell? ⟨2, 1, none⟩ = some (.int .i64 0) ∧ w'.cell? ⟨3, 0, none⟩ = some (.int .i64 2) ∧ w'.cell? ⟨3, 1, none⟩ = some (.int .i64 0) ∧ w'.cell? ⟨4, 0, none⟩ = some (.int .i64 7) ∧ w'.cell? ⟨4, 1, none⟩ = some (.int .i64 0) ∧ Below w.heap.size w w')
    (first | (refine hold10 HCell.out ?_; repeat (first | exact Below.refl _ _ | assumption | refine Below.drew ?_ | refine Below.alloc ?_ (by simp <;> omega) _)))
    (first | (go_at_call 226; refine (types_calls _ _).mono ?_; rintro e w' ⟨rfl, rfl⟩))
  all_goals
    go_wp2
    refine bodyPost_ret (plain_results _ _ w.heap.size _ _ ⟨_, _, _, rfl⟩ ⟨_, _, _, rfl⟩ false rfl rfl (by repeat (first | (refine blk_new' _ ?_; first | rfl | (simp; done)) | refine blk_drew ?_ | refine blk_alloc ?_ _))) rfl ?_
    exact ⟨_, _, _, _, _, _, rfl, ⟨rfl, rfl, by decide, by decide, (by first | exact Rd.Row.nil _ _ _ _ | exact row_cells (by repeat (first | (refine blk_new' _ ?_; first | rfl | (simp; done)) | refine blk_drew ?_ | refine blk_alloc ?_ _)) ⟨by first | omega | (simp; done) | (simp; omega), .inr (by first | omega | (simp; done) | (simp; omega))⟩ rfl (by decide)), (by first | exact Rd.Row.nil _ _ _ _ | exact row_cells (by repeat (first | (refine blk_new' _ ?_; first | rfl | (simp; done)) | refine blk_drew ?_ | refine blk_alloc ?_ _)) ⟨by first | omega | (simp; done) | (simp; omega), .inr (by first | omega | (simp; done) | (simp; omega))⟩ rfl (by decide)), by decide, by decide⟩, (by repeat (first | exact Below.refl _ _ | refine Below.drew ?_ | refine below_up ?_ _))⟩
set_option maxRecDepth 100000 in
set_option maxHeartbeats 8000000 in
theorem plain_30 (w : World) (hg : Glob w) : Calls Tryz.prog 191 #[.int .i64 30] w fun e w' => RuleOut (fun _ => False) w (plainL 30).1 (plainL 30).2 e w' := by
  have hs := hg.big
  have HCell := Lib.hid (fun W (hW : Below w.heap.size w W) => (hg.below hW hg.big).cells)
  obtain ⟨c00, c01, c10, c11, c20, c21, c30, c31, c40, c41⟩ := hg.cells
  clear hg
  go_enter Tryz.func191, Tryz.ntmps191
  go_wp2_with fail
  go_region_held3 (fun w' => w'.cell? ⟨0, 0, none⟩ = some (.int .i64 8) ∧ w'.cell? ⟨0, 1, none⟩ = some (.int .i64 0) ∧ w'.cell? ⟨1, 0, none⟩ = some (.int .i64 1) ∧ w'.cell? ⟨1, 1, none⟩ = some (.int .i64 0) ∧ w'.cell? ⟨2, 0, none⟩ = some (.int .i64 3) ∧ w'.cell? ⟨2, 1, none⟩ = some (.int .i64 0) ∧ w'.cell? ⟨3, 0, none⟩ = some (.int .i64 2) ∧ w'.cell? ⟨3, 1, none⟩ = some (.int .i64 0) ∧ w'.cell? ⟨4, 0, none⟩ = some (.int .i64 7) ∧ w'.cell? ⟨4, 1, none⟩ = some (.int .i64 0) ∧ Below w.heap.size w w')
    (first | (refine hold10 HCell.out ?_; repeat (first | exact Below.refl _ _ | assumption | refine Below.drew ?_ | refine Below.alloc ?_ (by simp <;> omega) _)))
    (first | (go_at_call 226; refine (types_calls _ _).mono ?_; rintro e w' ⟨rfl, rfl⟩))
  all_goals
    go_wp2
    refine bodyPost_ret (plain_results _ _ w.heap.size _ _ ⟨_, _, _, rfl⟩ ⟨_, _, _, rfl⟩ false rfl rfl (by repeat (first | (refine blk_new' _ ?_; first | rfl | (simp; done)) | refine blk_drew ?_ | refine blk_alloc ?_ _))) rfl ?_
    exact ⟨_, _, _, _, _, _, rfl, ⟨rfl, rfl, by decide, by decide, (by first | exact Rd.Row.nil _ _ _ _ | exact row_cells (by repeat (first | (refine blk_new' _ ?_; first | rfl | (simp; done)) | refine blk_drew ?_ | refine blk_alloc ?_ _)) ⟨by first | omega | (simp; done) | (simp; omega), .inr (by first | omega | (simp; done) | (simp; omega))⟩ rfl (by decide)), (by first | exact Rd.Row.nil _ _ _ _ | exact row_cells (by repeat (first | (refine blk_new' _ ?_; first | rfl | (simp; done)) | refine blk_drew ?_ | refine blk_alloc ?_ _)) ⟨by first | omega | (simp; done) | (simp; omega), .inr (by first | omega | (simp; done) | (simp; omega))⟩ rfl (by decide)), by decide, by decide⟩, (by repeat (first | exact Below.refl _ _ | refine Below.drew ?_ | refine below_up ?_ _))⟩
end Go.Proofs.YtmceaeoeakkppaaGreatDoor
