/- step's machine: State; what a machine that is none answers. -/
import Derived.Test.YtdmmjckhpagibaaGreatDoorMcLoad
namespace Go.Proofs.YtdmmjckhpagibaaGreatDoor
open Go.RowKit Go.Sort
set_option linter.unusedVariables false
theorem mstate_results (tmps : Array Value) (w : World) (b : Nat) (cs : Array Value) (hs : cs.size = 7) (h : tmps.getD 2 undef = .pointer (some ⟨b, 0, none⟩)) (hb : w.heap[b]? = some (.cells cs 45 (0, 0))) :
    (results Tryz.f15 tmps).run Tryz.prog w = .ok (.agg cs) w :=
  results_cell_row Tryz.results15 tmps w b _ _ _ _ h hb Tryz.underlying45 rfl (by rw [hs]; kernel_rfl)
theorem hold1m {V w' : World} {p : Nat} {t : TypeId} {cs : Array Value} {a : Value} (hp : V.heap[p]? = some (.cells cs t (0, 0))) (h12 : cs[12]? = some a) (hb : Below V.heap.size V w') : w'.cell? ⟨p, 12, none⟩ = some a ∧ Below V.heap.size V w' := ⟨(blk_cell (blk_below hp hb (blk_lt hp)) 12).trans h12, hb⟩
set_option maxRecDepth 100000 in
set_option maxHeartbeats 4000000 in
theorem state_calls {w : World} {p FB hp tp : Nat} {B0 B1 B2 B3 B4 : Option Addr} {m0 m1 m2 m3 m4 d0 d1 d2 d3 d4 : Nat} {q : Int} {MA : Option Addr} {mn mc fc : Nat} {v : Int} (h : McE w p FB hp tp B0 B1 B2 B3 B4 m0 m1 m2 m3 m4 d0 d1 d2 d3 d4 q MA mn mc fc v) (hh : ∃ x, w.heap[hp]? = some (.cells #[x, .int .i64 q, .int .i64 0] 167 (0, 0))) (ht : w.heap[tp]? = some (.cells #[.slice none 0 0] 170 (0, 0))) :
    Calls Tryz.prog 15 #[.pointer (some ⟨p, 0, none⟩)] w fun e w' => e = .returned (.agg #[.slice none 0 0, .slice none 0 0, .slice none 0 0, .int .i64 q, .int .i64 0, .int .i64 1, .int .u64 v]) ∧ Below w.heap.size w w' := by
  obtain ⟨x, hh⟩ := hh
  have hP : w.heap[p]? = _ := h
  have KS := Lib.hid (fun W (hb : Below w.heap.size w W) => wstate_calls (w := W) (blk_below hP hb (blk_lt hP)) ⟨x, blk_below hh hb (blk_lt hh)⟩ (blk_below ht hb (blk_lt ht)) (.slice (some ⟨FB, 0, none⟩) 0 fc))
  have HP := Lib.hid hP
  have HX := Lib.hid (blk_new w (Obj.cells #[.slice none 0 0, .slice none 0 0, .slice none 0 0, .int .i64 0, .int .i64 0, .int .i64 0, .int .u64 0] 45))
  clear h hh ht hP
  go_enter Tryz.func15, Tryz.ntmps15
  go_upto_region 3 with fail
  go_region_held3 (fun w' => w'.cell? ⟨p, 12, none⟩ = some (.slice (some ⟨FB, 0, none⟩) 0 fc) ∧ Below w.heap.size w w')
    (first | (refine hold1m HP.out rfl ?_; first | (with_reducible refine below7f ?_ (Nat.le_refl _) _ _ _ _ _ _ _; with_reducible assumption) | with_reducible assumption | (repeat (first | exact Below.refl _ _ | refine Below.drew ?_ | refine below_up ?_ _))))
    (first
      | (go_at_call 35; go_must (refine (KS.out _ (And.right (by assumption))).mono ?_; rintro e w1 ⟨rfl, hb1⟩; have hbw : Below w.heap.size w w1 := Below.trans (And.right (by assumption)) (hb1.mono (Below.size (And.right (by assumption)))); have hx1 := blk_below (blk_drew HX.out) hb1 (blk_lt HX.out); obtain ⟨⟨q0, q1, q2, q3, q4, q5, q6⟩, r0, r1, r2, r3, r4, r5, r6⟩ := box7f hx1)))
  all_goals
    have hres := set7f hx1 (.slice none 0 0) (.slice none 0 0) (.slice none 0 0) (.int .i64 q) (.int .i64 0) (.int .i64 1) (.int .u64 v)
    have hbl := below7f hbw (Nat.le_refl _) (.slice none 0 0) (.slice none 0 0) (.slice none 0 0) (.int .i64 q) (.int .i64 0) (.int .i64 1) (.int .u64 v)
    go_wp2
    refine bodyPost_ret (mstate_results _ _ w.heap.size _ rfl rfl hres) rfl ⟨rfl, hbl⟩
set_option maxRecDepth 100000 in
theorem state_none (w : World) : Calls Tryz.prog 15 #[.pointer none] w fun e w' => e = .returned (.agg #[.slice none 0 0, .slice none 0 0, .slice none 0 0, .int .i64 0, .int .i64 0, .int .i64 0, .int .u64 0]) ∧ Below w.heap.size w w' := by
  have HX := Lib.hid (blk_new w (Obj.cells #[.slice none 0 0, .slice none 0 0, .slice none 0 0, .int .i64 0, .int .i64 0, .int .i64 0, .int .u64 0] 45))
  go_enter Tryz.func15, Tryz.ntmps15
  go_wp2
  refine bodyPost_ret (mstate_results _ _ w.heap.size _ rfl rfl (by first | exact HX.out | (exact set7f HX.out _ _ _ _ _ _ _))) rfl ⟨rfl, by first | exact below_a1 _ _ | exact below7f (below_a1 _ _) (Nat.le_refl _) _ _ _ _ _ _ _⟩
set_option maxRecDepth 100000 in
theorem next_none (w : World) (x : Value) : Calls Tryz.prog 13 #[.pointer none, x] w fun e w' => e = .returned (.tuple #[.slice none 0 0, .bool false]) ∧ Below w.heap.size w w' := by
  go_enter Tryz.func13, Tryz.ntmps13
  go_wp2
  go_ret2
  exact ⟨rfl, Below.refl _ _⟩
set_option maxRecDepth 100000 in
theorem want_none (w : World) : Calls Tryz.prog 16 #[.pointer none] w fun e w' => e = .returned (.tuple #[.int .i64 0, .bool false]) ∧ Below w.heap.size w w' := by
  go_enter Tryz.func16, Tryz.ntmps16
  go_wp2
  go_ret2
  exact ⟨rfl, Below.refl _ _⟩
end Go.Proofs.YtdmmjckhpagibaaGreatDoor
