/- step's Machine.State of what goes on. Printed out of XMcMS by program. -/
import Derived.Test.YtmceaeoeakkppaaGreatDoorMkGo
namespace Go.Proofs.YtmceaeoeakkppaaGreatDoor
open Go.RowKit Go.Sort
set_option linter.unusedVariables false
set_option linter.unusedSimpArgs false
set_option maxRecDepth 100000 in
set_option maxHeartbeats 4000000 in
theorem stateG_calls {w : World} {p hp tp : Nat} {B0 B1 B2 B3 B4 : Option Addr} {m0 m1 m2 m3 m4 d0 d1 d2 d3 d4 : Nat} {q : Int} {MA : Option Addr} {mn mc : Nat} {FB fc : Nat} {v : Int} (fs : List Fra) (h : McG w p hp tp B0 B1 B2 B3 B4 m0 m1 m2 m3 m4 d0 d1 d2 d3 d4 q MA mn mc (some ⟨FB, 0, none⟩) fs.length fc v) (hh : w.heap[hp]? = some (.cells #[.slice none 0 0, .int .i64 q, .int .i64 0] 204 (0, 0))) (ht : w.heap[tp]? = some (.cells #[.slice none 0 0] 207 (0, 0))) (hn : fs.length ≤ 1000) (hz : ∀ (k : Nat) (x : Fra), fs[k]? = some x → x.ln = 0 ∧ x.SA = none ∧ x.sn = 0 ∧ x.sc = 0) (hc : ∀ (j : Nat) (v : Value), (frasC fs)[j]? = some v → w.cell? ⟨FB, j, none⟩ = some v) :
    Calls Tryz.prog 23 #[.pointer (some ⟨p, 0, none⟩)] w fun e w' => ∃ A c, e = .returned (.agg #[.slice A fs.length c, .slice none 0 0, .slice none 0 0, .int .i64 q, .int .i64 0, .int .i64 0, .int .u64 v]) ∧ Below w.heap.size w w' := by
  have hP : w.heap[p]? = _ := h
  have KS := Lib.hid (fun W (hb : Below w.heap.size w W) => wstateG_calls (w := W) (blk_below hP hb (blk_lt hP)) ⟨_, blk_below hh hb (blk_lt hh)⟩ (blk_below ht hb (blk_lt ht)) FB fc fs hn hz (fun j v hj => below_cell (hc j v hj) hb) (blk_cell (blk_below hh hb (blk_lt hh)) 0))
  have HP := Lib.hid hP
  have HX := Lib.hid (blk_new w (Obj.cells #[.slice none 0 0, .slice none 0 0, .slice none 0 0, .int .i64 0, .int .i64 0, .int .i64 0, .int .u64 0] 34))
  clear h hh ht hP hc hz
  go_enter Tryz.func23, Tryz.ntmps23
  go_upto_region 3 with fail
  go_region_held3 (fun w' => w'.cell? ⟨p, 12, none⟩ = some (.slice (some ⟨FB, 0, none⟩) fs.length fc) ∧ Below w.heap.size w w')
    (first | (refine hold1m HP.out rfl ?_; first | (with_reducible refine below7f ?_ (Nat.le_refl _) _ _ _ _ _ _ _; with_reducible assumption) | with_reducible assumption | (repeat (first | exact Below.refl _ _ | refine Below.drew ?_ | refine below_up ?_ _))))
    (first
      | (go_at_call 56; go_must (refine (KS.out _ (And.right (by assumption))).mono ?_; rintro e w1 ⟨A9, c9, rfl, hb1⟩; have hbw : Below w.heap.size w w1 := Below.trans (And.right (by assumption)) (hb1.mono (Below.size (And.right (by assumption)))); have hx1 := blk_below (blk_drew HX.out) hb1 (blk_lt HX.out); obtain ⟨⟨q0, q1, q2, q3, q4, q5, q6⟩, r0, r1, r2, r3, r4, r5, r6⟩ := box7f hx1)))
  all_goals
    have hres := set7f hx1 (.slice A9 fs.length c9) (.slice none 0 0) (.slice none 0 0) (.int .i64 q) (.int .i64 0) (.int .i64 0) (.int .u64 v)
    have hbl := below7f hbw (Nat.le_refl _) (.slice A9 fs.length c9) (.slice none 0 0) (.slice none 0 0) (.int .i64 q) (.int .i64 0) (.int .i64 0) (.int .u64 v)
    go_wp2
    refine bodyPost_ret (mstate_results _ _ w.heap.size _ rfl rfl hres) rfl ⟨A9, c9, rfl, hbl⟩
end Go.Proofs.YtmceaeoeakkppaaGreatDoor
