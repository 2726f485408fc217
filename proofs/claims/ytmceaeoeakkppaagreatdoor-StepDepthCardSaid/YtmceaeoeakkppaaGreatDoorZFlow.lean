/- McFlow: flow.types, flow.plain. Printed by gen_mcflow.py of this repo. -/
import Derived.Test.YtmceaeoeakkppaaGreatDoorZD
import Derived.Deep.RegionHeld3
namespace Go.Proofs.YtmceaeoeakkppaaGreatDoor
open Go.RowKit Go.Sort
set_option linter.unusedVariables false
/-- The package's five types. -/
structure Glob (w : World) : Prop where
  use : w.heap[0]? = some (.cells #[.int .i64 8, .int .i64 0] 58 (0, 0))
  num : w.heap[1]? = some (.cells #[.int .i64 1, .int .i64 0] 58 (0, 0))
  words : w.heap[2]? = some (.cells #[.int .i64 3, .int .i64 0] 58 (0, 0))
  octets : w.heap[3]? = some (.cells #[.int .i64 2, .int .i64 0] 58 (0, 0))
  refs : w.heap[4]? = some (.cells #[.int .i64 7, .int .i64 0] 58 (0, 0))
theorem Glob.big {w : World} (h : Glob w) : 4 < w.heap.size := blk_lt h.refs
theorem Glob.keep {w w' : World} (h : Glob w) (hk : ∀ b, b < 5 → w'.heap[b]? = w.heap[b]?) : Glob w' := ⟨(hk 0 (by decide)).trans h.use, (hk 1 (by decide)).trans h.num, (hk 2 (by decide)).trans h.words, (hk 3 (by decide)).trans h.octets, (hk 4 (by decide)).trans h.refs⟩
theorem Glob.below {w w' : World} {B : Nat} (h : Glob w) (hb : Below B w w') (hB : 4 < B) : Glob w' := h.keep (fun b hb' => hb.block b (by omega))
theorem Glob.cells {w' : World} (h : Glob w') : w'.cell? ⟨0, 0, none⟩ = some (.int .i64 8) ∧ w'.cell? ⟨0, 1, none⟩ = some (.int .i64 0) ∧ w'.cell? ⟨1, 0, none⟩ = some (.int .i64 1) ∧ w'.cell? ⟨1, 1, none⟩ = some (.int .i64 0) ∧ w'.cell? ⟨2, 0, none⟩ = some (.int .i64 3) ∧ w'.cell? ⟨2, 1, none⟩ = some (.int .i64 0) ∧ w'.cell? ⟨3, 0, none⟩ = some (.int .i64 2) ∧ w'.cell? ⟨3, 1, none⟩ = some (.int .i64 0) ∧ w'.cell? ⟨4, 0, none⟩ = some (.int .i64 7) ∧ w'.cell? ⟨4, 1, none⟩ = some (.int .i64 0) :=
  ⟨blk_cell h.use 0, blk_cell h.use 1, blk_cell h.num 0, blk_cell h.num 1, blk_cell h.words 0, blk_cell h.words 1, blk_cell h.octets 0, blk_cell h.octets 1, blk_cell h.refs 0, blk_cell h.refs 1⟩
theorem types_calls (w : World) (v : Value) : Calls Tryz.prog 226 #[v] w fun e w' => e = .returned v ∧ w' = w := by
  go_enter Tryz.func226, Tryz.ntmps226
  go_wp2
  go_ret
  exact ⟨rfl, rfl⟩
theorem below_up {w W : World} (h : Below w.heap.size w W) (o : Go.Obj) : Below w.heap.size w (W.alloc o) := h.alloc h.size o
theorem blk_new' {w : World} {g : Nat} (o : Go.Obj) (h : g = w.heap.size) : (w.alloc o).heap[g]? = some o := by subst h; exact blk_new w o
theorem hold10 {V w' : World} (hc : ∀ W, Below V.heap.size V W → W.cell? ⟨0, 0, none⟩ = some (.int .i64 8) ∧ W.cell? ⟨0, 1, none⟩ = some (.int .i64 0) ∧ W.cell? ⟨1, 0, none⟩ = some (.int .i64 1) ∧ W.cell? ⟨1, 1, none⟩ = some (.int .i64 0) ∧ W.cell? ⟨2, 0, none⟩ = some (.int .i64 3) ∧ W.cell? ⟨2, 1, none⟩ = some (.int .i64 0) ∧ W.cell? ⟨3, 0, none⟩ = some (.int .i64 2) ∧ W.cell? ⟨3, 1, none⟩ = some (.int .i64 0) ∧ W.cell? ⟨4, 0, none⟩ = some (.int .i64 7) ∧ W.cell? ⟨4, 1, none⟩ = some (.int .i64 0)) (hb : Below V.heap.size V w') : w'.cell? ⟨0, 0, none⟩ = some (.int .i64 8) ∧ w'.cell? ⟨0, 1, none⟩ = some (.int .i64 0) ∧ w'.cell? ⟨1, 0, none⟩ = some (.int .i64 1) ∧ w'.cell? ⟨1, 1, none⟩ = some (.int .i64 0) ∧ w'.cell? ⟨2, 0, none⟩ = some (.int .i64 3) ∧ w'.cell? ⟨2, 1, none⟩ = some (.int .i64 0) ∧ w'.cell? ⟨3, 0, none⟩ = some (.int .i64 2) ∧ w'.cell? ⟨3, 1, none⟩ = some (.int .i64 0) ∧ w'.cell? ⟨4, 0, none⟩ = some (.int .i64 7) ∧ w'.cell? ⟨4, 1, none⟩ = some (.int .i64 0) ∧ Below V.heap.size V w' := by
  obtain ⟨a, b, c, d, e, f, g, h, i, j⟩ := hc w' hb
  exact ⟨a, b, c, d, e, f, g, h, i, j, hb⟩
theorem held10 {a b c d e f g h i j : Prop} {V w' : World} (hh : a ∧ b ∧ c ∧ d ∧ e ∧ f ∧ g ∧ h ∧ i ∧ j ∧ Below V.heap.size V w') : Below V.heap.size V w' := hh.2.2.2.2.2.2.2.2.2.2
/-- Old blocks of S, and new ones. -/
def SP (S : Nat → Prop) (w w' : World) : Nat → Prop := fun b => b < w'.heap.size ∧ (S b ∨ w.heap.size ≤ b)
theorem row_cells {S : Nat → Prop} {w : World} {g : Nat} {t : TypeId} {cs : Array Value} {xs : List Ty} (h : w.heap[g]? = some (.cells cs t (0, 0))) (hb : S g) (hcs : cs.toList = xs.flatMap (fun x => [.int .i64 x.kind, .int .i64 x.n])) (hwf : ∀ x ∈ xs, (Lit.int .i64 x.kind).wf = true ∧ (Lit.int .i64 x.n).wf = true) : k_ty.Row S w (some ⟨g, 0, none⟩) xs := by
  refine Rd.Row.of_blk h hb (cells := cs.toList) ?_ (fun j v hj => by simpa using hj)
  rw [hcs]
  clear h hcs hb
  induction xs with
  | nil => rfl
  | cons x xs ih => exact Rd.Flat.cons (k_ty_mk x (hwf x (by simp)).1 (hwf x (by simp)).2) (ih (fun y hy => hwf y (by simp [hy])))
/-- What a rule's two slices are. -/
structure RuleR (S : Nat → Prop) (w w' : World) (A : Option Addr) (n c : Nat) (B : Option Addr) (k d : Nat) (r : List Ty × List Ty) : Prop where
  i : r.1.length = n
  o : r.2.length = k
  ci : n ≤ c
  co : k ≤ d
  ri : k_ty.Row (SP S w w') w' A r.1
  ro : k_ty.Row (SP S w w') w' B r.2
  si : n ≤ 1000
  so : k ≤ 1000
def RuleOut (S : Nat → Prop) (w : World) (r : List Ty × List Ty) (ok : Bool) (e : Ending) (w' : World) : Prop := ∃ A n c B k d, e = .returned (.tuple #[.agg #[.slice A n c, .slice B k d], .bool ok]) ∧ RuleR S w w' A n c B k d r ∧ Below w.heap.size w w'
theorem plain_results (tmps : Array Value) (w : World) (b : Nat) (x y : Value) (hx : ∃ A n c, x = .slice A n c) (hy : ∃ A n c, y = .slice A n c) (r : Bool) (h2 : tmps.getD 2 undef = .pointer (some ⟨b, 0, none⟩)) (h3 : tmps.getD 3 undef = .bool r) (hb : w.heap[b]? = some (.cells #[x, y] 221 (0, 0))) :
    (results Tryz.f191 tmps).run Tryz.prog w = .ok (.tuple #[.agg #[x, y], .bool r]) w := by
  obtain ⟨_, _, _, rfl⟩ := hx
  obtain ⟨_, _, _, rfl⟩ := hy
  rw [results_cell_tmp Tryz.results191, h2, h3]
  have c0 := blk_cell hb 0
  have c1 := blk_cell hb 1
  simp at c0 c1
  simp [go_sem, c0, c1]
/-- What the rule of an instruction that names nothing is, and whether it has one. -/
def plainL (op : Int) : (List Ty × List Ty) × Bool :=
  if op = 2 then (([], [⟨6, 0⟩]), true) else if op = 5 then (([⟨8, 0⟩], []), true) else if op = 22 then (([⟨1, 0⟩, ⟨1, 0⟩], [⟨1, 0⟩, ⟨1, 0⟩]), true) else if op = 23 then (([], []), true) else if op = 24 then (([⟨1, 0⟩], []), true)
  else if op = 31 then (([⟨1, 0⟩], [⟨3, 0⟩]), true) else if op = 32 then (([⟨3, 0⟩, ⟨1, 0⟩], [⟨1, 0⟩]), true) else if op = 33 then (([⟨3, 0⟩, ⟨1, 0⟩, ⟨1, 0⟩], []), true) else if op = 34 then (([⟨3, 0⟩], [⟨1, 0⟩]), true)
  else if op = 35 then (([⟨1, 0⟩], [⟨2, 0⟩]), true) else if op = 36 then (([⟨2, 0⟩, ⟨1, 0⟩], [⟨1, 0⟩]), true) else if op = 37 then (([⟨2, 0⟩, ⟨1, 0⟩, ⟨1, 0⟩], []), true) else if op = 38 then (([⟨2, 0⟩], [⟨1, 0⟩]), true)
  else if op = 39 then (([⟨7, 0⟩], [⟨1, 0⟩]), true) else if op = 40 then (([⟨7, 0⟩, ⟨7, 0⟩], [⟨1, 0⟩]), true) else (([⟨1, 0⟩, ⟨1, 0⟩], [⟨1, 0⟩]), decide (8 ≤ op) && decide (op ≤ 21))
set_option maxRecDepth 100000 in
set_option maxHeartbeats 8000000 in
theorem plain_2 (w : World) (hg : Glob w) : Calls Tryz.prog 191 #[.int .i64 2] w fun e w' => RuleOut (fun _ => False) w (plainL 2).1 (plainL 2).2 e w' := by
  have hs := hg.big
  have HCell := Lib.hid (fun W (hW : Below w.heap.size w W) => (hg.below hW hg.big).cells)
  obtain ⟨c00, c01, c10, c11, c20, c21, c30, c31, c40, c41⟩ := hg.cells
  clear hg
  obtain ⟨v00, v01, v10, v11, v20, v21, v30, v31, v40, v41⟩ := HCell.out _ (below_a1 w (Obj.cells #[.slice none 0 0, .slice none 0 0] 221))
  go_enter Tryz.func191, Tryz.ntmps191
  go_wp2_with (go_at_call 226; refine (types_calls _ _).mono ?_; rintro e w' ⟨rfl, rfl⟩)
  refine bodyPost_ret (plain_results _ _ w.heap.size _ _ ⟨_, _, _, rfl⟩ ⟨_, _, _, rfl⟩ true rfl rfl (by repeat (first | (refine blk_new' _ ?_; first | rfl | (simp; done)) | refine blk_drew ?_ | refine blk_alloc ?_ _))) rfl ?_
  exact ⟨_, _, _, _, _, _, rfl, ⟨rfl, rfl, by decide, by decide, (by first | exact Rd.Row.nil _ _ _ _ | exact row_cells (by repeat (first | (refine blk_new' _ ?_; first | rfl | (simp; done)) | refine blk_drew ?_ | refine blk_alloc ?_ _)) ⟨by first | omega | (simp; done) | (simp; omega), .inr (by first | omega | (simp; done) | (simp; omega))⟩ rfl (by decide)), (by first | exact Rd.Row.nil _ _ _ _ | exact row_cells (by repeat (first | (refine blk_new' _ ?_; first | rfl | (simp; done)) | refine blk_drew ?_ | refine blk_alloc ?_ _)) ⟨by first | omega | (simp; done) | (simp; omega), .inr (by first | omega | (simp; done) | (simp; omega))⟩ rfl (by decide)), by decide, by decide⟩, (by repeat (first | exact Below.refl _ _ | refine Below.drew ?_ | refine below_up ?_ _))⟩
set_option maxRecDepth 100000 in
set_option maxHeartbeats 8000000 in
theorem plain_5 (w : World) (hg : Glob w) : Calls Tryz.prog 191 #[.int .i64 5] w fun e w' => RuleOut (fun _ => False) w (plainL 5).1 (plainL 5).2 e w' := by
  have hs := hg.big
  have HCell := Lib.hid (fun W (hW : Below w.heap.size w W) => (hg.below hW hg.big).cells)
  obtain ⟨c00, c01, c10, c11, c20, c21, c30, c31, c40, c41⟩ := hg.cells
  clear hg
  obtain ⟨v00, v01, v10, v11, v20, v21, v30, v31, v40, v41⟩ := HCell.out _ (below_a1 w (Obj.cells #[.slice none 0 0, .slice none 0 0] 221))
  go_enter Tryz.func191, Tryz.ntmps191
  go_wp2_with (go_at_call 226; refine (types_calls _ _).mono ?_; rintro e w' ⟨rfl, rfl⟩)
  refine bodyPost_ret (plain_results _ _ w.heap.size _ _ ⟨_, _, _, rfl⟩ ⟨_, _, _, rfl⟩ true rfl rfl (by repeat (first | (refine blk_new' _ ?_; first | rfl | (simp; done)) | refine blk_drew ?_ | refine blk_alloc ?_ _))) rfl ?_
  exact ⟨_, _, _, _, _, _, rfl, ⟨rfl, rfl, by decide, by decide, (by first | exact Rd.Row.nil _ _ _ _ | exact row_cells (by repeat (first | (refine blk_new' _ ?_; first | rfl | (simp; done)) | refine blk_drew ?_ | refine blk_alloc ?_ _)) ⟨by first | omega | (simp; done) | (simp; omega), .inr (by first | omega | (simp; done) | (simp; omega))⟩ rfl (by decide)), (by first | exact Rd.Row.nil _ _ _ _ | exact row_cells (by repeat (first | (refine blk_new' _ ?_; first | rfl | (simp; done)) | refine blk_drew ?_ | refine blk_alloc ?_ _)) ⟨by first | omega | (simp; done) | (simp; omega), .inr (by first | omega | (simp; done) | (simp; omega))⟩ rfl (by decide)), by decide, by decide⟩, (by repeat (first | exact Below.refl _ _ | refine Below.drew ?_ | refine below_up ?_ _))⟩
set_option maxRecDepth 100000 in
set_option maxHeartbeats 8000000 in
theorem plain_22 (w : World) (hg : Glob w) : Calls Tryz.prog 191 #[.int .i64 22] w fun e w' => RuleOut (fun _ => False) w (plainL 22).1 (plainL 22).2 e w' := by
  have hs := hg.big
  have HCell := Lib.hid (fun W (hW : Below w.heap.size w W) => (hg.below hW hg.big).cells)
  obtain ⟨c00, c01, c10, c11, c20, c21, c30, c31, c40, c41⟩ := hg.cells
  clear hg
  go_enter Tryz.func191, Tryz.ntmps191
  go_wp2_with fail
  go_region_held3 (fun w' => w'.cell? ⟨0, 0, none⟩ = some (.int .i64 8) ∧ w'.cell? ⟨0, 1, none⟩ = some (.int .i64 0) ∧ w'.cell? ⟨1, 0, none⟩ = some (.int .i64 1) ∧ w'.cell? ⟨1, 1, none⟩ = some (.int .i64 0) ∧ w'.cell? ⟨2, 0, none⟩ = some (.int .i64 3) ∧ w'.cell? ⟨2, 1, none⟩ = some (.int .i64 0) ∧ w'.cell? ⟨3, 0, none⟩ = some (.int .i64 2) ∧ w'.cell? ⟨3, 1, none⟩ = some (.int .i64 0) ∧ w'.cell? ⟨4, 0, none⟩ = some (.int .i64 7) ∧ w'.cell? ⟨4, 1, none⟩ = some (.int .i64 0) ∧ Below w.heap.size w w')
    (first | (refine hold10 HCell.out ?_; repeat (first | exact Below.refl _ _ | assumption | refine Below.drew ?_ | refine Below.alloc ?_ (by simp <;> omega) _)))
    (first | (go_at_call 226; refine (types_calls _ _).mono ?_; rintro e w' ⟨rfl, rfl⟩))
  all_goals
    go_wp2
    refine bodyPost_ret (plain_results _ _ w.heap.size _ _ ⟨_, _, _, rfl⟩ ⟨_, _, _, rfl⟩ true rfl rfl (by repeat (first | (refine blk_new' _ ?_; first | rfl | (simp; done)) | refine blk_drew ?_ | refine blk_alloc ?_ _))) rfl ?_
    exact ⟨_, _, _, _, _, _, rfl, ⟨rfl, rfl, by decide, by decide, (by first | exact Rd.Row.nil _ _ _ _ | exact row_cells (by repeat (first | (refine blk_new' _ ?_; first | rfl | (simp; done)) | refine blk_drew ?_ | refine blk_alloc ?_ _)) ⟨by first | omega | (simp; done) | (simp; omega), .inr (by first | omega | (simp; done) | (simp; omega))⟩ rfl (by decide)), (by first | exact Rd.Row.nil _ _ _ _ | exact row_cells (by repeat (first | (refine blk_new' _ ?_; first | rfl | (simp; done)) | refine blk_drew ?_ | refine blk_alloc ?_ _)) ⟨by first | omega | (simp; done) | (simp; omega), .inr (by first | omega | (simp; done) | (simp; omega))⟩ rfl (by decide)), by decide, by decide⟩, (by repeat (first | exact Below.refl _ _ | refine Below.drew ?_ | refine below_up ?_ _))⟩
set_option maxRecDepth 100000 in
set_option maxHeartbeats 8000000 in
theorem plain_23 (w : World) (hg : Glob w) : Calls Tryz.prog 191 #[.int .i64 23] w fun e w' => RuleOut (fun _ => False) w (plainL 23).1 (plainL 23).2 e w' := by
  have hs := hg.big
  have HCell := Lib.hid (fun W (hW : Below w.heap.size w W) => (hg.below hW hg.big).cells)
  obtain ⟨c00, c01, c10, c11, c20, c21, c30, c31, c40, c41⟩ := hg.cells
  clear hg
  obtain ⟨v00, v01, v10, v11, v20, v21, v30, v31, v40, v41⟩ := HCell.out _ (below_a1 w (Obj.cells #[.slice none 0 0, .slice none 0 0] 221))
  go_enter Tryz.func191, Tryz.ntmps191
  go_wp2_with (go_at_call 226; refine (types_calls _ _).mono ?_; rintro e w' ⟨rfl, rfl⟩)
  refine bodyPost_ret (plain_results _ _ w.heap.size _ _ ⟨_, _, _, rfl⟩ ⟨_, _, _, rfl⟩ true rfl rfl (by repeat (first | (refine blk_new' _ ?_; first | rfl | (simp; done)) | refine blk_drew ?_ | refine blk_alloc ?_ _))) rfl ?_
  exact ⟨_, _, _, _, _, _, rfl, ⟨rfl, rfl, by decide, by decide, (by first | exact Rd.Row.nil _ _ _ _ | exact row_cells (by repeat (first | (refine blk_new' _ ?_; first | rfl | (simp; done)) | refine blk_drew ?_ | refine blk_alloc ?_ _)) ⟨by first | omega | (simp; done) | (simp; omega), .inr (by first | omega | (simp; done) | (simp; omega))⟩ rfl (by decide)), (by first | exact Rd.Row.nil _ _ _ _ | exact row_cells (by repeat (first | (refine blk_new' _ ?_; first | rfl | (simp; done)) | refine blk_drew ?_ | refine blk_alloc ?_ _)) ⟨by first | omega | (simp; done) | (simp; omega), .inr (by first | omega | (simp; done) | (simp; omega))⟩ rfl (by decide)), by decide, by decide⟩, (by repeat (first | exact Below.refl _ _ | refine Below.drew ?_ | refine below_up ?_ _))⟩
set_option maxRecDepth 100000 in
set_option maxHeartbeats 8000000 in
theorem plain_24 (w : World) (hg : Glob w) : Calls Tryz.prog 191 #[.int .i64 24] w fun e w' => RuleOut (fun _ => False) w (plainL 24).1 (plainL 24).2 e w' := by
  have hs := hg.big
  have HCell := Lib.hid (fun W (hW : Below w.heap.size w W) => (hg.below hW hg.big).cells)
  obtain ⟨c00, c01, c10, c11, c20, c21, c30, c31, c40, c41⟩ := hg.cells
  clear hg
  obtain ⟨v00, v01, v10, v11, v20, v21, v30, v31, v40, v41⟩ := HCell.out _ (below_a1 w (Obj.cells #[.slice none 0 0, .slice none 0 0] 221))
  go_enter Tryz.func191, Tryz.ntmps191
  go_wp2_with (go_at_call 226; refine (types_calls _ _).mono ?_; rintro e w' ⟨rfl, rfl⟩)
  refine bodyPost_ret (plain_results _ _ w.heap.size _ _ ⟨_, _, _, rfl⟩ ⟨_, _, _, rfl⟩ true rfl rfl (by repeat (first | (refine blk_new' _ ?_; first | rfl | (simp; done)) | refine blk_drew ?_ | refine blk_alloc ?_ _))) rfl ?_
  exact ⟨_, _, _, _, _, _, rfl, ⟨rfl, rfl, by decide, by decide, (by first | exact Rd.Row.nil _ _ _ _ | exact row_cells (by repeat (first | (refine blk_new' _ ?_; first | rfl | (simp; done)) | refine blk_drew ?_ | refine blk_alloc ?_ _)) ⟨by first | omega | (simp; done) | (simp; omega), .inr (by first | omega | (simp; done) | (simp; omega))⟩ rfl (by decide)), (by first | exact Rd.Row.nil _ _ _ _ | exact row_cells (by repeat (first | (refine blk_new' _ ?_; first | rfl | (simp; done)) | refine blk_drew ?_ | refine blk_alloc ?_ _)) ⟨by first | omega | (simp; done) | (simp; omega), .inr (by first | omega | (simp; done) | (simp; omega))⟩ rfl (by decide)), by decide, by decide⟩, (by repeat (first | exact Below.refl _ _ | refine Below.drew ?_ | refine below_up ?_ _))⟩
set_option maxRecDepth 100000 in
set_option maxHeartbeats 8000000 in
theorem plain_31 (w : World) (hg : Glob w) : Calls Tryz.prog 191 #[.int .i64 31] w fun e w' => RuleOut (fun _ => False) w (plainL 31).1 (plainL 31).2 e w' := by
  have hs := hg.big
  have HCell := Lib.hid (fun W (hW : Below w.heap.size w W) => (hg.below hW hg.big).cells)
  obtain ⟨c00, c01, c10, c11, c20, c21, c30, c31, c40, c41⟩ := hg.cells
  clear hg
  go_enter Tryz.func191, Tryz.ntmps191
  go_wp2_with fail
  go_region_held3 (fun w' => w'.cell? ⟨0, 0, none⟩ = some (.int .i64 8) ∧ w'.cell? ⟨0, 1, none⟩ = some (.int .i64 0) ∧ w'.cell? ⟨1, 0, none⟩ = some (.int .i64 1) ∧ w'.cell? ⟨1, 1, none⟩ = some (.int .i64 0) ∧ w'.cell? ⟨2, 0, none⟩ = some (.int .i64 3) ∧ w'.cell? ⟨2, 1, none⟩ = some (.int .i64 0) ∧ w'.cell? ⟨3, 0, none⟩ = some (.int .i64 2) ∧ w'.cell? ⟨3, 1, none⟩ = some (.int .i64 0) ∧ w'.cell? ⟨4, 0, none⟩ = some (.int .i64 7) ∧ w'.cell? ⟨4, 1, none⟩ = some (.int .i64 0) ∧ Below w.heap.size w w')
    (first | (refine hold10 HCell.out ?_; repeat (first | exact Below.refl _ _ | assumption | refine Below.drew ?_ | refine Below.alloc ?_ (by simp <;> omega) _)))
    (first | (go_at_call 226; refine (types_calls _ _).mono ?_; rintro e w' ⟨rfl, rfl⟩))
  all_goals
    go_wp2
    refine bodyPost_ret (plain_results _ _ w.heap.size _ _ ⟨_, _, _, rfl⟩ ⟨_, _, _, rfl⟩ true rfl rfl (by repeat (first | (refine blk_new' _ ?_; first | rfl | (simp; done)) | refine blk_drew ?_ | refine blk_alloc ?_ _))) rfl ?_
    exact ⟨_, _, _, _, _, _, rfl, ⟨rfl, rfl, by decide, by decide, (by first | exact Rd.Row.nil _ _ _ _ | exact row_cells (by repeat (first | (refine blk_new' _ ?_; first | rfl | (simp; done)) | refine blk_drew ?_ | refine blk_alloc ?_ _)) ⟨by first | omega | (simp; done) | (simp; omega), .inr (by first | omega | (simp; done) | (simp; omega))⟩ rfl (by decide)), (by first | exact Rd.Row.nil _ _ _ _ | exact row_cells (by repeat (first | (refine blk_new' _ ?_; first | rfl | (simp; done)) | refine blk_drew ?_ | refine blk_alloc ?_ _)) ⟨by first | omega | (simp; done) | (simp; omega), .inr (by first | omega | (simp; done) | (simp; omega))⟩ rfl (by decide)), by decide, by decide⟩, (by repeat (first | exact Below.refl _ _ | refine Below.drew ?_ | refine below_up ?_ _))⟩
set_option maxRecDepth 100000 in
set_option maxHeartbeats 8000000 in
theorem plain_32 (w : World) (hg : Glob w) : Calls Tryz.prog 191 #[.int .i64 32] w fun e w' => RuleOut (fun _ => False) w (plainL 32).1 (plainL 32).2 e w' := by
  have hs := hg.big
  have HCell := Lib.hid (fun W (hW : Below w.heap.size w W) => (hg.below hW hg.big).cells)
  obtain ⟨c00, c01, c10, c11, c20, c21, c30, c31, c40, c41⟩ := hg.cells
  clear hg
  go_enter Tryz.func191, Tryz.ntmps191
  go_wp2_with fail
  go_region_held3 (fun w' => w'.cell? ⟨0, 0, none⟩ = some (.int .i64 8) ∧ w'.cell? ⟨0, 1, none⟩ = some (.int .i64 0) ∧ w'.cell? ⟨1, 0, none⟩ = some (.int .i64 1) ∧ w'.cell? ⟨1, 1, none⟩ = some (.int .i64 0) ∧ w'.cell? ⟨2, 0, none⟩ = some (.int .i64 3) ∧ w'.cell? ⟨2, 1, none⟩ = some (.int .i64 0) ∧ w'.cell? ⟨3, 0, none⟩ = some (.int .i64 2) ∧ w'.cell? ⟨3, 1, none⟩ = some (.int .i64 0) ∧ w'.cell? ⟨4, 0, none⟩ = some (.int .i64 7) ∧ w'.cell? ⟨4, 1, none⟩ = some (.int .i64 0) ∧ Below w.heap.size w w')
    (first | (refine hold10 HCell.out ?_; repeat (first | exact Below.refl _ _ | assumption | refine Below.drew ?_ | refine Below.alloc ?_ (by simp <;> omega) _)))
    (first | (go_at_call 226; refine (types_calls _ _).mono ?_; rintro e w' ⟨rfl, rfl⟩))
  all_goals
    go_wp2
    refine bodyPost_ret (plain_results _ _ w.heap.size _ _ ⟨_, _, _, rfl⟩ ⟨_, _, _, rfl⟩ true rfl rfl (by repeat (first | (refine blk_new' _ ?_; first | rfl | (simp; done)) | refine blk_drew ?_ | refine blk_alloc ?_ _))) rfl ?_
    exact ⟨_, _, _, _, _, _, rfl, ⟨rfl, rfl, by decide, by decide, (by first | exact Rd.Row.nil _ _ _ _ | exact row_cells (by repeat (first | (refine blk_new' _ ?_; first | rfl | (simp; done)) | refine blk_drew ?_ | refine blk_alloc ?_ _)) ⟨by first | omega | (simp; done) | (simp; omega), .inr (by first | omega | (simp; done) | (simp; omega))⟩ rfl (by decide)), (by first | exact Rd.Row.nil _ _ _ _ | exact row_cells (by repeat (first | (refine blk_new' _ ?_; first | rfl | (simp; done)) | refine blk_drew ?_ | refine blk_alloc ?_ _)) ⟨by first | omega | (simp; done) | (simp; omega), .inr (by first | omega | (simp; done) | (simp; omega))⟩ rfl (by decide)), by decide, by decide⟩, (by repeat (first | exact Below.refl _ _ | refine Below.drew ?_ | refine below_up ?_ _))⟩
set_option maxRecDepth 100000 in
set_option maxHeartbeats 8000000 in
theorem plain_33 (w : World) (hg : Glob w) : Calls Tryz.prog 191 #[.int .i64 33] w fun e w' => RuleOut (fun _ => False) w (plainL 33).1 (plainL 33).2 e w' := by
  have hs := hg.big
  have HCell := Lib.hid (fun W (hW : Below w.heap.size w W) => (hg.below hW hg.big).cells)
  obtain ⟨c00, c01, c10, c11, c20, c21, c30, c31, c40, c41⟩ := hg.cells
  clear hg
  obtain ⟨v00, v01, v10, v11, v20, v21, v30, v31, v40, v41⟩ := HCell.out _ (below_a1 w (Obj.cells #[.slice none 0 0, .slice none 0 0] 221))
  go_enter Tryz.func191, Tryz.ntmps191
  go_wp2_with (go_at_call 226; refine (types_calls _ _).mono ?_; rintro e w' ⟨rfl, rfl⟩)
  refine bodyPost_ret (plain_results _ _ w.heap.size _ _ ⟨_, _, _, rfl⟩ ⟨_, _, _, rfl⟩ true rfl rfl (by repeat (first | (refine blk_new' _ ?_; first | rfl | (simp; done)) | refine blk_drew ?_ | refine blk_alloc ?_ _))) rfl ?_
  exact ⟨_, _, _, _, _, _, rfl, ⟨rfl, rfl, by decide, by decide, (by first | exact Rd.Row.nil _ _ _ _ | exact row_cells (by repeat (first | (refine blk_new' _ ?_; first | rfl | (simp; done)) | refine blk_drew ?_ | refine blk_alloc ?_ _)) ⟨by first | omega | (simp; done) | (simp; omega), .inr (by first | omega | (simp; done) | (simp; omega))⟩ rfl (by decide)), (by first | exact Rd.Row.nil _ _ _ _ | exact row_cells (by repeat (first | (refine blk_new' _ ?_; first | rfl | (simp; done)) | refine blk_drew ?_ | refine blk_alloc ?_ _)) ⟨by first | omega | (simp; done) | (simp; omega), .inr (by first | omega | (simp; done) | (simp; omega))⟩ rfl (by decide)), by decide, by decide⟩, (by repeat (first | exact Below.refl _ _ | refine Below.drew ?_ | refine below_up ?_ _))⟩
set_option maxRecDepth 100000 in
set_option maxHeartbeats 8000000 in
theorem plain_34 (w : World) (hg : Glob w) : Calls Tryz.prog 191 #[.int .i64 34] w fun e w' => RuleOut (fun _ => False) w (plainL 34).1 (plainL 34).2 e w' := by
  have hs := hg.big
  have HCell := Lib.hid (fun W (hW : Below w.heap.size w W) => (hg.below hW hg.big).cells)
  obtain ⟨c00, c01, c10, c11, c20, c21, c30, c31, c40, c41⟩ := hg.cells
  clear hg
  go_enter Tryz.func191, Tryz.ntmps191
  go_wp2_with fail
  go_region_held3 (fun w' => w'.cell? ⟨0, 0, none⟩ = some (.int .i64 8) ∧ w'.cell? ⟨0, 1, none⟩ = some (.int .i64 0) ∧ w'.cell? ⟨1, 0, none⟩ = some (.int .i64 1) ∧ w'.cell? ⟨1, 1, none⟩ = some (.int .i64 0) ∧ w'.cell? ⟨2, 0, none⟩ = some (.int .i64 3) ∧ w'.cell? ⟨2, 1, none⟩ = some (.int .i64 0) ∧ w'.cell? ⟨3, 0, none⟩ = some (.int .i64 2) ∧ w'.cell? ⟨3, 1, none⟩ = some (.int .i64 0) ∧ w'.cell? ⟨4, 0, none⟩ = some (.int .i64 7) ∧ w'.cell? ⟨4, 1, none⟩ = some (.int .i64 0) ∧ Below w.heap.size w w')
    (first | (refine hold10 HCell.out ?_; repeat (first | exact Below.refl _ _ | assumption | refine Below.drew ?_ | refine Below.alloc ?_ (by simp <;> omega) _)))
    (first | (go_at_call 226; refine (types_calls _ _).mono ?_; rintro e w' ⟨rfl, rfl⟩))
  all_goals
    go_wp2
    refine bodyPost_ret (plain_results _ _ w.heap.size _ _ ⟨_, _, _, rfl⟩ ⟨_, _, _, rfl⟩ true rfl rfl (by repeat (first | (refine blk_new' _ ?_; first | rfl | (simp; done)) | refine blk_drew ?_ | refine blk_alloc ?_ _))) rfl ?_
    exact ⟨_, _, _, _, _, _, rfl, ⟨rfl, rfl, by decide, by decide, (by first | exact Rd.Row.nil _ _ _ _ | exact row_cells (by repeat (first | (refine blk_new' _ ?_; first | rfl | (simp; done)) | refine blk_drew ?_ | refine blk_alloc ?_ _)) ⟨by first | omega | (simp; done) | (simp; omega), .inr (by first | omega | (simp; done) | (simp; omega))⟩ rfl (by decide)), (by first | exact Rd.Row.nil _ _ _ _ | exact row_cells (by repeat (first | (refine blk_new' _ ?_; first | rfl | (simp; done)) | refine blk_drew ?_ | refine blk_alloc ?_ _)) ⟨by first | omega | (simp; done) | (simp; omega), .inr (by first | omega | (simp; done) | (simp; omega))⟩ rfl (by decide)), by decide, by decide⟩, (by repeat (first | exact Below.refl _ _ | refine Below.drew ?_ | refine below_up ?_ _))⟩
set_option maxRecDepth 100000 in
set_option maxHeartbeats 8000000 in
theorem plain_35 (w : World) (hg : Glob w) : Calls Tryz.prog 191 #[.int .i64 35] w fun e w' => RuleOut (fun _ => False) w (plainL 35).1 (plainL 35).2 e w' := by
  have hs := hg.big
  have HCell := Lib.hid (fun W (hW : Below w.heap.size w W) => (hg.below hW hg.big).cells)
  obtain ⟨c00, c01, c10, c11, c20, c21, c30, c31, c40, c41⟩ := hg.cells
  clear hg
  go_enter Tryz.func191, Tryz.ntmps191
  go_wp2_with fail
  go_region_held3 (fun w' => w'.cell? ⟨0, 0, none⟩ = some (.int .i64 8) ∧ w'.cell? ⟨0, 1, none⟩ = some (.int .i64 0) ∧ w'.cell? ⟨1, 0, none⟩ = some (.int .i64 1) ∧ w'.cell? ⟨1, 1, none⟩ = some (.int .i64 0) ∧ w'.cell? ⟨2, 0, none⟩ = some (.int .i64 3) ∧ w'.cell? ⟨2, 1, none⟩ = some (.int .i64 0) ∧ w'.cell? ⟨3, 0, none⟩ = some (.int .i64 2) ∧ w'.cell? ⟨3, 1, none⟩ = some (.int .i64 0) ∧ w'.cell? ⟨4, 0, none⟩ = some (.int .i64 7) ∧ w'.cell? ⟨4, 1, none⟩ = some (.int .i64 0) ∧ Below w.heap.size w w')
    (first | (refine hold10 HCell.out ?_; repeat (first | exact Below.refl _ _ | assumption | refine Below.drew ?_ | refine Below.alloc ?_ (by simp <;> omega) _)))
    (first | (go_at_call 226; refine (types_calls _ _).mono ?_; rintro e w' ⟨rfl, rfl⟩))
  all_goals
    go_wp2
    refine bodyPost_ret (plain_results _ _ w.heap.size _ _ ⟨_, _, _, rfl⟩ ⟨_, _, _, rfl⟩ true rfl rfl (by repeat (first | (refine blk_new' _ ?_; first | rfl | (simp; done)) | refine blk_drew ?_ | refine blk_alloc ?_ _))) rfl ?_
    exact ⟨_, _, _, _, _, _, rfl, ⟨rfl, rfl, by decide, by decide, (by first | exact Rd.Row.nil _ _ _ _ | exact row_cells (by repeat (first | (refine blk_new' _ ?_; first | rfl | (simp; done)) | refine blk_drew ?_ | refine blk_alloc ?_ _)) ⟨by first | omega | (simp; done) | (simp; omega), .inr (by first | omega | (simp; done) | (simp; omega))⟩ rfl (by decide)), (by first | exact Rd.Row.nil _ _ _ _ | exact row_cells (by repeat (first | (refine blk_new' _ ?_; first | rfl | (simp; done)) | refine blk_drew ?_ | refine blk_alloc ?_ _)) ⟨by first | omega | (simp; done) | (simp; omega), .inr (by first | omega | (simp; done) | (simp; omega))⟩ rfl (by decide)), by decide, by decide⟩, (by repeat (first | exact Below.refl _ _ | refine Below.drew ?_ | refine below_up ?_ _))⟩
set_option maxRecDepth 100000 in
set_option maxHeartbeats 8000000 in
theorem plain_36 (w : World) (hg : Glob w) : Calls Tryz.prog 191 #[.int .i64 36] w fun e w' => RuleOut (fun _ => False) w (plainL 36).1 (plainL 36).2 e w' := by
  have hs := hg.big
  have HCell := Lib.hid (fun W (hW : Below w.heap.size w W) => (hg.below hW hg.big).cells)
  obtain ⟨c00, c01, c10, c11, c20, c21, c30, c31, c40, c41⟩ := hg.cells
  clear hg
  go_enter Tryz.func191, Tryz.ntmps191
  go_wp2_with fail
  go_region_held3 (fun w' => w'.cell? ⟨0, 0, none⟩ = some (.int .i64 8) ∧ w'.cell? ⟨0, 1, none⟩ = some (.int .i64 0) ∧ w'.cell? ⟨1, 0, none⟩ = some (.int .i64 1) ∧ w'.cell? ⟨1, 1, none⟩ = some (.int .i64 0) ∧ w'.cell? ⟨2, 0, none⟩ = some (.int .i64 3) ∧ w'.cell? ⟨2, 1, none⟩ = some (.int .i64 0) ∧ w'.cell? ⟨3, 0, none⟩ = some (.int .i64 2) ∧ w'.cell? ⟨3, 1, none⟩ = some (.int .i64 0) ∧ w'.cell? ⟨4, 0, none⟩ = some (.int .i64 7) ∧ w'.cell? ⟨4, 1, none⟩ = some (.int .i64 0) ∧ Below w.heap.size w w')
    (first | (refine hold10 HCell.out ?_; repeat (first | exact Below.refl _ _ | assumption | refine Below.drew ?_ | refine Below.alloc ?_ (by simp <;> omega) _)))
    (first | (go_at_call 226; refine (types_calls _ _).mono ?_; rintro e w' ⟨rfl, rfl⟩))
  all_goals
    go_wp2
    refine bodyPost_ret (plain_results _ _ w.heap.size _ _ ⟨_, _, _, rfl⟩ ⟨_, _, _, rfl⟩ true rfl rfl (by repeat (first | (refine blk_new' _ ?_; first | rfl | (simp; done)) | refine blk_drew ?_ | refine blk_alloc ?_ _))) rfl ?_
    exact ⟨_, _, _, _, _, _, rfl, ⟨rfl, rfl, by decide, by decide, (by first | exact Rd.Row.nil _ _ _ _ | exact row_cells (by repeat (first | (refine blk_new' _ ?_; first | rfl | (simp; done)) | refine blk_drew ?_ | refine blk_alloc ?_ _)) ⟨by first | omega | (simp; done) | (simp; omega), .inr (by first | omega | (simp; done) | (simp; omega))⟩ rfl (by decide)), (by first | exact Rd.Row.nil _ _ _ _ | exact row_cells (by repeat (first | (refine blk_new' _ ?_; first | rfl | (simp; done)) | refine blk_drew ?_ | refine blk_alloc ?_ _)) ⟨by first | omega | (simp; done) | (simp; omega), .inr (by first | omega | (simp; done) | (simp; omega))⟩ rfl (by decide)), by decide, by decide⟩, (by repeat (first | exact Below.refl _ _ | refine Below.drew ?_ | refine below_up ?_ _))⟩
set_option maxRecDepth 100000 in
set_option maxHeartbeats 8000000 in
theorem plain_37 (w : World) (hg : Glob w) : Calls Tryz.prog 191 #[.int .i64 37] w fun e w' => RuleOut (fun _ => False) w (plainL 37).1 (plainL 37).2 e w' := by
  have hs := hg.big
  have HCell := Lib.hid (fun W (hW : Below w.heap.size w W) => (hg.below hW hg.big).cells)
  obtain ⟨c00, c01, c10, c11, c20, c21, c30, c31, c40, c41⟩ := hg.cells
  clear hg
  obtain ⟨v00, v01, v10, v11, v20, v21, v30, v31, v40, v41⟩ := HCell.out _ (below_a1 w (Obj.cells #[.slice none 0 0, .slice none 0 0] 221))
  go_enter Tryz.func191, Tryz.ntmps191
  go_wp2_with (go_at_call 226; refine (types_calls _ _).mono ?_; rintro e w' ⟨rfl, rfl⟩)
  refine bodyPost_ret (plain_results _ _ w.heap.size _ _ ⟨_, _, _, rfl⟩ ⟨_, _, _, rfl⟩ true rfl rfl (by repeat (first | (refine blk_new' _ ?_; first | rfl | (simp; done)) | refine blk_drew ?_ | refine blk_alloc ?_ _))) rfl ?_
  exact ⟨_, _, _, _, _, _, rfl, ⟨rfl, rfl, by decide, by decide, (by first | exact Rd.Row.nil _ _ _ _ | exact row_cells (by repeat (first | (refine blk_new' _ ?_; first | rfl | (simp; done)) | refine blk_drew ?_ | refine blk_alloc ?_ _)) ⟨by first | omega | (simp; done) | (simp; omega), .inr (by first | omega | (simp; done) | (simp; omega))⟩ rfl (by decide)), (by first | exact Rd.Row.nil _ _ _ _ | exact row_cells (by repeat (first | (refine blk_new' _ ?_; first | rfl | (simp; done)) | refine blk_drew ?_ | refine blk_alloc ?_ _)) ⟨by first | omega | (simp; done) | (simp; omega), .inr (by first | omega | (simp; done) | (simp; omega))⟩ rfl (by decide)), by decide, by decide⟩, (by repeat (first | exact Below.refl _ _ | refine Below.drew ?_ | refine below_up ?_ _))⟩
set_option maxRecDepth 100000 in
set_option maxHeartbeats 8000000 in
theorem plain_38 (w : World) (hg : Glob w) : Calls Tryz.prog 191 #[.int .i64 38] w fun e w' => RuleOut (fun _ => False) w (plainL 38).1 (plainL 38).2 e w' := by
  have hs := hg.big
  have HCell := Lib.hid (fun W (hW : Below w.heap.size w W) => (hg.below hW hg.big).cells)
  obtain ⟨c00, c01, c10, c11, c20, c21, c30, c31, c40, c41⟩ := hg.cells
  clear hg
  go_enter Tryz.func191, Tryz.ntmps191
  go_wp2_with fail
  go_region_held3 (fun w' => w'.cell? ⟨0, 0, none⟩ = some (.int .i64 8) ∧ w'.cell? ⟨0, 1, none⟩ = some (.int .i64 0) ∧ w'.cell? ⟨1, 0, none⟩ = some (.int .i64 1) ∧ w'.cell? ⟨1, 1, none⟩ = some (.int .i64 0) ∧ w'.cell? ⟨2, 0, none⟩ = some (.int .i64 3) ∧ w'.cell? ⟨2, 1, none⟩ = some (.int .i64 0) ∧ w'.cell? ⟨3, 0, none⟩ = some (.int .i64 2) ∧ w'.cell? ⟨3, 1, none⟩ = some (.int .i64 0) ∧ w'.cell? ⟨4, 0, none⟩ = some (.int .i64 7) ∧ w'.cell? ⟨4, 1, none⟩ = some (.int .i64 0) ∧ Below w.heap.size w w')
    (first | (refine hold10 HCell.out ?_; repeat (first | exact Below.refl _ _ | assumption | refine Below.drew ?_ | refine Below.alloc ?_ (by simp <;> omega) _)))
    (first | (go_at_call 226; refine (types_calls _ _).mono ?_; rintro e w' ⟨rfl, rfl⟩))
  all_goals
    go_wp2
    refine bodyPost_ret (plain_results _ _ w.heap.size _ _ ⟨_, _, _, rfl⟩ ⟨_, _, _, rfl⟩ true rfl rfl (by repeat (first | (refine blk_new' _ ?_; first | rfl | (simp; done)) | refine blk_drew ?_ | refine blk_alloc ?_ _))) rfl ?_
    exact ⟨_, _, _, _, _, _, rfl, ⟨rfl, rfl, by decide, by decide, (by first | exact Rd.Row.nil _ _ _ _ | exact row_cells (by repeat (first | (refine blk_new' _ ?_; first | rfl | (simp; done)) | refine blk_drew ?_ | refine blk_alloc ?_ _)) ⟨by first | omega | (simp; done) | (simp; omega), .inr (by first | omega | (simp; done) | (simp; omega))⟩ rfl (by decide)), (by first | exact Rd.Row.nil _ _ _ _ | exact row_cells (by repeat (first | (refine blk_new' _ ?_; first | rfl | (simp; done)) | refine blk_drew ?_ | refine blk_alloc ?_ _)) ⟨by first | omega | (simp; done) | (simp; omega), .inr (by first | omega | (simp; done) | (simp; omega))⟩ rfl (by decide)), by decide, by decide⟩, (by repeat (first | exact Below.refl _ _ | refine Below.drew ?_ | refine below_up ?_ _))⟩
set_option maxRecDepth 100000 in
set_option maxHeartbeats 8000000 in
theorem plain_39 (w : World) (hg : Glob w) : Calls Tryz.prog 191 #[.int .i64 39] w fun e w' => RuleOut (fun _ => False) w (plainL 39).1 (plainL 39).2 e w' := by
  have hs := hg.big
  have HCell := Lib.hid (fun W (hW : Below w.heap.size w W) => (hg.below hW hg.big).cells)
  obtain ⟨c00, c01, c10, c11, c20, c21, c30, c31, c40, c41⟩ := hg.cells
  clear hg
  go_enter Tryz.func191, Tryz.ntmps191
  go_wp2_with fail
  go_region_held3 (fun w' => w'.cell? ⟨0, 0, none⟩ = some (.int .i64 8) ∧ w'.cell? ⟨0, 1, none⟩ = some (.int .i64 0) ∧ w'.cell? ⟨1, 0, none⟩ = some (.int .i64 1) ∧ w'.cell? ⟨1, 1, none⟩ = some (.int .i64 0) ∧ w'.cell? ⟨2, 0, none⟩ = some (.int .i64 3) ∧ w'.cell? ⟨2, 1, none⟩ = some (.int .i64 0) ∧ w'.cell? ⟨3, 0, none⟩ = some (.int .i64 2) ∧ w'.cell? ⟨3, 1, none⟩ = some (.int .i64 0) ∧ w'.cell? ⟨4, 0, none⟩ = some (.int .i64 7) ∧ w'.cell? ⟨4, 1, none⟩ = some (.int .i64 0) ∧ Below w.heap.size w w')
    (first | (refine hold10 HCell.out ?_; repeat (first | exact Below.refl _ _ | assumption | refine Below.drew ?_ | refine Below.alloc ?_ (by simp <;> omega) _)))
    (first | (go_at_call 226; refine (types_calls _ _).mono ?_; rintro e w' ⟨rfl, rfl⟩))
  all_goals
    go_wp2
    refine bodyPost_ret (plain_results _ _ w.heap.size _ _ ⟨_, _, _, rfl⟩ ⟨_, _, _, rfl⟩ true rfl rfl (by repeat (first | (refine blk_new' _ ?_; first | rfl | (simp; done)) | refine blk_drew ?_ | refine blk_alloc ?_ _))) rfl ?_
    exact ⟨_, _, _, _, _, _, rfl, ⟨rfl, rfl, by decide, by decide, (by first | exact Rd.Row.nil _ _ _ _ | exact row_cells (by repeat (first | (refine blk_new' _ ?_; first | rfl | (simp; done)) | refine blk_drew ?_ | refine blk_alloc ?_ _)) ⟨by first | omega | (simp; done) | (simp; omega), .inr (by first | omega | (simp; done) | (simp; omega))⟩ rfl (by decide)), (by first | exact Rd.Row.nil _ _ _ _ | exact row_cells (by repeat (first | (refine blk_new' _ ?_; first | rfl | (simp; done)) | refine blk_drew ?_ | refine blk_alloc ?_ _)) ⟨by first | omega | (simp; done) | (simp; omega), .inr (by first | omega | (simp; done) | (simp; omega))⟩ rfl (by decide)), by decide, by decide⟩, (by repeat (first | exact Below.refl _ _ | refine Below.drew ?_ | refine below_up ?_ _))⟩
set_option maxRecDepth 100000 in
set_option maxHeartbeats 8000000 in
theorem plain_40 (w : World) (hg : Glob w) : Calls Tryz.prog 191 #[.int .i64 40] w fun e w' => RuleOut (fun _ => False) w (plainL 40).1 (plainL 40).2 e w' := by
  have hs := hg.big
  have HCell := Lib.hid (fun W (hW : Below w.heap.size w W) => (hg.below hW hg.big).cells)
  obtain ⟨c00, c01, c10, c11, c20, c21, c30, c31, c40, c41⟩ := hg.cells
  clear hg
  go_enter Tryz.func191, Tryz.ntmps191
  go_wp2_with fail
  go_region_held3 (fun w' => w'.cell? ⟨0, 0, none⟩ = some (.int .i64 8) ∧ w'.cell? ⟨0, 1, none⟩ = some (.int .i64 0) ∧ w'.cell? ⟨1, 0, none⟩ = some (.int .i64 1) ∧ w'.cell? ⟨1, 1, none⟩ = some (.int .i64 0) ∧ w'.cell? ⟨2, 0, none⟩ = some (.int .i64 3) ∧ w'.cell? ⟨2, 1, none⟩ = some (.int .i64 0) ∧ w'.cell? ⟨3, 0, none⟩ = some (.int .i64 2) ∧ w'.cell? ⟨3, 1, none⟩ = some (.int .i64 0) ∧ w'.cell? ⟨4, 0, none⟩ = some (.int .i64 7) ∧ w'.cell? ⟨4, 1, none⟩ = some (.int .i64 0) ∧ Below w.heap.size w w')
    (first | (refine hold10 HCell.out ?_; repeat (first | exact Below.refl _ _ | assumption | refine Below.drew ?_ | refine Below.alloc ?_ (by simp <;> omega) _)))
    (first | (go_at_call 226; refine (types_calls _ _).mono ?_; rintro e w' ⟨rfl, rfl⟩))
  all_goals
    go_wp2
    refine bodyPost_ret (plain_results _ _ w.heap.size _ _ ⟨_, _, _, rfl⟩ ⟨_, _, _, rfl⟩ true rfl rfl (by repeat (first | (refine blk_new' _ ?_; first | rfl | (simp; done)) | refine blk_drew ?_ | refine blk_alloc ?_ _))) rfl ?_
    exact ⟨_, _, _, _, _, _, rfl, ⟨rfl, rfl, by decide, by decide, (by first | exact Rd.Row.nil _ _ _ _ | exact row_cells (by repeat (first | (refine blk_new' _ ?_; first | rfl | (simp; done)) | refine blk_drew ?_ | refine blk_alloc ?_ _)) ⟨by first | omega | (simp; done) | (simp; omega), .inr (by first | omega | (simp; done) | (simp; omega))⟩ rfl (by decide)), (by first | exact Rd.Row.nil _ _ _ _ | exact row_cells (by repeat (first | (refine blk_new' _ ?_; first | rfl | (simp; done)) | refine blk_drew ?_ | refine blk_alloc ?_ _)) ⟨by first | omega | (simp; done) | (simp; omega), .inr (by first | omega | (simp; done) | (simp; omega))⟩ rfl (by decide)), by decide, by decide⟩, (by repeat (first | exact Below.refl _ _ | refine Below.drew ?_ | refine below_up ?_ _))⟩
end Go.Proofs.YtmceaeoeakkppaaGreatDoor
