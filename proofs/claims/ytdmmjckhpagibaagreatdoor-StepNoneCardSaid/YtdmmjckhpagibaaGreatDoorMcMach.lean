/- step's machine with one frame: what it is in memory; top, instr, takes. -/
import Derived.Test.YtdmmjckhpagibaaGreatDoorMcSt2
import Derived.Test.YtdmmjckhpagibaaGreatDoorMcMem
namespace Go.Proofs.YtdmmjckhpagibaaGreatDoor
open Go.RowKit Go.Sort
set_option linter.unusedVariables false
/-- A machine with one frame (in function 0). -/
structure Mc1 (w : World) (p FB hp tp : Nat) (B0 B1 B2 B3 B4 : Option Addr) (m0 m1 m2 m3 m4 d0 d1 d2 d3 d4 : Nat) (q : Int) (MA : Option Addr) (mn mc fc : Nat) (pc : Nat) (LA : Option Addr) (ln lc : Nat) (SA : Option Addr) (sn sc : Nat) : Prop where
  box : w.heap[p]? = some (.cells #[.slice B0 m0 d0, .slice B1 m1 d1, .slice B2 m2 d2, .slice B3 m3 d3, .slice B4 m4 d4, .pointer (some ⟨hp, 0, none⟩), .pointer (some ⟨tp, 0, none⟩), .int .i64 q, .int .i64 0, .int .u64 0, .slice none 0 0, .slice MA mn mc, .slice (some ⟨FB, 0, none⟩) 1 fc] 81 (0, 0))
  fr : ∃ cs : Array Value, w.heap[FB]? = some (.cells cs 83 (0, 0)) ∧ 4 ≤ cs.size ∧ cs[0]? = some (.int .i64 0) ∧ cs[1]? = some (.int .i64 pc) ∧ cs[2]? = some (.slice LA ln lc) ∧ cs[3]? = some (.slice SA sn sc)
theorem Mc1.below {w w' : World} {p FB hp tp : Nat} {B0 B1 B2 B3 B4 : Option Addr} {m0 m1 m2 m3 m4 d0 d1 d2 d3 d4 : Nat} {q : Int} {MA : Option Addr} {mn mc fc pc : Nat} {LA : Option Addr} {ln lc : Nat} {SA : Option Addr} {sn sc : Nat} (h : Mc1 w p FB hp tp B0 B1 B2 B3 B4 m0 m1 m2 m3 m4 d0 d1 d2 d3 d4 q MA mn mc fc pc LA ln lc SA sn sc) (hb : Below w.heap.size w w') : Mc1 w' p FB hp tp B0 B1 B2 B3 B4 m0 m1 m2 m3 m4 d0 d1 d2 d3 d4 q MA mn mc fc pc LA ln lc SA sn sc := by
  obtain ⟨cs, h1, h2⟩ := h.fr
  exact ⟨blk_below h.box hb (blk_lt h.box), cs, blk_below h1 hb (blk_lt h1), h2⟩
theorem Mc1.cells {w : World} {p FB hp tp : Nat} {B0 B1 B2 B3 B4 : Option Addr} {m0 m1 m2 m3 m4 d0 d1 d2 d3 d4 : Nat} {q : Int} {MA : Option Addr} {mn mc fc pc : Nat} {LA : Option Addr} {ln lc : Nat} {SA : Option Addr} {sn sc : Nat} (h : Mc1 w p FB hp tp B0 B1 B2 B3 B4 m0 m1 m2 m3 m4 d0 d1 d2 d3 d4 q MA mn mc fc pc LA ln lc SA sn sc) :
    w.cell? ⟨FB, 0, none⟩ = some (.int .i64 0) ∧ w.cell? ⟨FB, 1, none⟩ = some (.int .i64 pc) ∧ w.cell? ⟨FB, 2, none⟩ = some (.slice LA ln lc) ∧ w.cell? ⟨FB, 3, none⟩ = some (.slice SA sn sc) := by
  obtain ⟨cs, h1, -, h3, h4, h5, h6⟩ := h.fr
  exact ⟨(blk_cell h1 0).trans h3, (blk_cell h1 1).trans h4, (blk_cell h1 2).trans h5, (blk_cell h1 3).trans h6⟩
set_option maxRecDepth 100000 in
theorem top_calls (w : World) (p FB fc : Nat) (h : w.cell? ⟨p, 12, none⟩ = some (.slice (some ⟨FB, 0, none⟩) 1 fc)) :
    Calls Tryz.prog 30 #[.pointer (some ⟨p, 0, none⟩)] w fun e w' => e = .returned (.pointer (some ⟨FB, 0, none⟩)) ∧ Below w.heap.size w w' := by
  have g := cell_regrown h
  clear h
  go_enter Tryz.func30, Tryz.ntmps30
  go_wp2_with fail
  refine wp_region_quiet_below (by kernel_rfl) (by kernel_rfl) ?_
  repeat (first | go_big_quiet_step (fail) | quiet_step (fail))
  refine wpQuiet_nil ?_
  intro _ hw'
  obtain ⟨⟨dq, osq⟩, hw''⟩ := hw'
  subst hw''
  have HBq := Lib.hid (below_regrown w dq osq)
  clear g
  generalize grow (redrawn w dq) osq = wq at *
  go_wp2
  go_ret
  exact ⟨rfl, HBq.out⟩
set_option maxRecDepth 100000 in
theorem takes_0 (w : World) (x : Value) (a b : Int) : Calls Tryz.prog 31 #[x, .agg #[.int .i64 0, .int .i64 a, .int .i64 b]] w fun e w' => e = .returned (.int .i64 0) ∧ Below w.heap.size w w' := by
  have HB := Lib.hid (below_a1 w (Obj.cells #[.int .i64 0, .int .i64 a, .int .i64 b] 27))
  go_enter Tryz.func31, Tryz.ntmps31
  go_wp2
  go_ret
  exact ⟨rfl, HB.out⟩
set_option maxRecDepth 100000 in
theorem takes_26 (w : World) (x : Value) (a b : Int) : Calls Tryz.prog 31 #[x, .agg #[.int .i64 26, .int .i64 a, .int .i64 b]] w fun e w' => e = .returned (.int .i64 1) ∧ Below w.heap.size w w' := by
  have HB := Lib.hid (below_a1 w (Obj.cells #[.int .i64 26, .int .i64 a, .int .i64 b] 27))
  go_enter Tryz.func31, Tryz.ntmps31
  go_wp2
  go_ret
  exact ⟨rfl, HB.out⟩
theorem instr_results (tmps : Array Value) (w : World) (b : Nat) (x y z : Int) (h : tmps.getD 2 undef = .pointer (some ⟨b, 0, none⟩)) (hb : w.heap[b]? = some (.cells #[.int .i64 x, .int .i64 y, .int .i64 z] 27 (0, 0))) :
    (results Tryz.f29 tmps).run Tryz.prog w = .ok (.agg #[.int .i64 x, .int .i64 y, .int .i64 z]) w :=
  results_cell_row Tryz.results29 tmps w b _ _ _ _ h hb Tryz.underlying27 rfl (by kernel_rfl)
theorem hold8 {V w' : World} {p fb fo cb co g : Nat} {t : TypeId} {cs : Array Value} {a b c0 c1 i0 i1 i2 : Value} (hp : V.heap[p]? = some (.cells cs t (0, 0))) (h1 : cs[1]? = some a) (h12 : cs[12]? = some b) (hf : V.cell? ⟨fb, fo, none⟩ = some c0) (hg0 : V.cell? ⟨g, 0, none⟩ = some (.int .i64 0)) (hg1 : V.cell? ⟨g, 1, none⟩ = some c1) (h3 : V.cell? ⟨cb, co, none⟩ = some i0) (h4 : V.cell? ⟨cb, co + 1, none⟩ = some i1) (h5 : V.cell? ⟨cb, co + 2, none⟩ = some i2) (hb : Below V.heap.size V w') :
    w'.cell? ⟨p, 1, none⟩ = some a ∧ w'.cell? ⟨p, 12, none⟩ = some b ∧ w'.cell? ⟨fb, fo, none⟩ = some c0 ∧ w'.cell? ⟨g, 0, none⟩ = some (.int .i64 0) ∧ w'.cell? ⟨g, 1, none⟩ = some c1 ∧ w'.cell? ⟨cb, co, none⟩ = some i0 ∧ w'.cell? ⟨cb, co + 1, none⟩ = some i1 ∧ w'.cell? ⟨cb, co + 2, none⟩ = some i2 ∧ Below V.heap.size V w' :=
  have h := blk_below hp hb (blk_lt hp)
  ⟨(blk_cell h 1).trans h1, (blk_cell h 12).trans h12, below_cell hf hb, below_cell hg0 hb, below_cell hg1 hb, below_cell h3 hb, below_cell h4 hb, below_cell h5 hb, hb⟩
theorem held8 {a b c d e f g h : Prop} {V w' : World} (hh : a ∧ b ∧ c ∧ d ∧ e ∧ f ∧ g ∧ h ∧ Below V.heap.size V w') : Below V.heap.size V w' := hh.2.2.2.2.2.2.2.2
end Go.Proofs.YtdmmjckhpagibaaGreatDoor
