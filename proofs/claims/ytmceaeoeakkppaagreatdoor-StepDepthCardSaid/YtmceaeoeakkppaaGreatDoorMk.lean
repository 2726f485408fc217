/- step's machine with any number of frames: what it is in memory; top. -/
import Derived.Test.YtmceaeoeakkppaaGreatDoorZI
namespace Go.Proofs.YtmceaeoeakkppaaGreatDoor
open Go.RowKit Go.Sort
set_option linter.unusedVariables false
set_option linter.unusedSimpArgs false
/-- A frame, as it lies in memory. -/
structure Fra where
  fn : Nat
  pc : Nat
  LA : Option Addr
  ln : Nat
  lc : Nat
  SA : Option Addr
  sn : Nat
  sc : Nat
def fraC (x : Fra) : List Value := [.int .i64 x.fn, .int .i64 x.pc, .slice x.LA x.ln x.lc, .slice x.SA x.sn x.sc]
def frasC (l : List Fra) : List Value := l.flatMap fraC
theorem frasC_len (l : List Fra) : (frasC l).length = l.length * 4 := by
  induction l with
  | nil => rfl
  | cons x l ih => simp only [frasC, List.flatMap_cons, List.length_append, List.length_cons] at *; rw [ih]; simp [fraC]; omega
theorem frasC_app (a b : List Fra) : frasC (a ++ b) = frasC a ++ frasC b := by simp [frasC]
theorem frasC_at {l : List Fra} {i : Nat} {x : Fra} (h : l[i]? = some x) (j : Nat) (v : Value) (hv : (fraC x)[j]? = some v) : (frasC l)[i * 4 + j]? = some v := by
  have hj : j < 4 := by have := (List.getElem?_eq_some_iff.1 hv).1; simpa [fraC] using this
  induction l generalizing i with
  | nil => simp at h
  | cons y l ih =>
    cases i with
    | zero =>
      simp at h
      subst h
      simp only [frasC, List.flatMap_cons, Nat.zero_mul, Nat.zero_add]
      rw [List.getElem?_append_left (by simpa [fraC] using hj)]
      exact hv
    | succ i =>
      simp at h
      have := ih h
      simp only [frasC, List.flatMap_cons] at *
      rw [List.getElem?_append_right (by simp [fraC]; omega)]
      simp only [fraC, List.length_cons, List.length_nil] at *
      rw [show (i + 1) * 4 + j - (0 + 1 + 1 + 1 + 1) = i * 4 + j by omega]
      exact this
theorem frasC_one (l : List Fra) : ∀ u ∈ frasC l, u.oneCell' = true := by
  intro u hu
  simp only [frasC, List.mem_flatMap] at hu
  obtain ⟨x, -, hx⟩ := hu
  simp only [fraC, List.mem_cons, List.not_mem_nil, or_false] at hx
  rcases hx with rfl | rfl | rfl | rfl <;> rfl
/-- A machine: its frames lie in memory of their own. -/
structure Mk (bs : Nat) (w : World) (p hp tp : Nat) (B0 B1 B2 B3 B4 : Option Addr) (m0 m1 m2 m3 m4 d0 d1 d2 d3 d4 : Nat) (q en v : Int) (MA : Option Addr) (mn mc : Nat) (FA : Option Addr) (fc : Nat) (fs : List Fra) : Prop where
  box : w.heap[p]? = some (.cells #[.slice B0 m0 d0, .slice B1 m1 d1, .slice B2 m2 d2, .slice B3 m3 d3, .slice B4 m4 d4, .pointer (some ⟨hp, 0, none⟩), .pointer (some ⟨tp, 0, none⟩), .int .i64 q, .int .i64 en, .int .u64 v, .slice none 0 0, .slice MA mn mc, .slice FA fs.length fc] 101 (0, 0))
  own : w.ownsRow bs 91 4 (.slice FA fs.length fc) fs.length (frasC fs)
theorem Mk.below {bs : Nat} {w w' : World} {p hp tp : Nat} {B0 B1 B2 B3 B4 : Option Addr} {m0 m1 m2 m3 m4 d0 d1 d2 d3 d4 : Nat} {q en v : Int} {MA : Option Addr} {mn mc : Nat} {FA : Option Addr} {fc : Nat} {fs : List Fra} (h : Mk bs w p hp tp B0 B1 B2 B3 B4 m0 m1 m2 m3 m4 d0 d1 d2 d3 d4 q en v MA mn mc FA fc fs) (hb : Below w.heap.size w w') : Mk bs w' p hp tp B0 B1 B2 B3 B4 m0 m1 m2 m3 m4 d0 d1 d2 d3 d4 q en v MA mn mc FA fc fs :=
  ⟨blk_below h.box hb (blk_lt h.box), own_below h.own hb⟩
/-- The last frame's place. -/
theorem Mk.last {bs : Nat} {w : World} {p hp tp : Nat} {B0 B1 B2 B3 B4 : Option Addr} {m0 m1 m2 m3 m4 d0 d1 d2 d3 d4 : Nat} {q en v : Int} {MA : Option Addr} {mn mc : Nat} {FA : Option Addr} {fc : Nat} {fs : List Fra} (h : Mk bs w p hp tp B0 B1 B2 B3 B4 m0 m1 m2 m3 m4 d0 d1 d2 d3 d4 q en v MA mn mc FA fc fs) {k : Nat} (hk : fs.length = k + 1) {x : Fra} (hx : fs[k]? = some x) :
    ∃ FB cur, FA = some ⟨FB, 0, none⟩ ∧ w.heap[FB]? = some (.cells cur 91 (0, 0)) ∧ k + 1 ≤ fc ∧ w.cell? ⟨FB, k * 4, none⟩ = some (.int .i64 x.fn) ∧ w.cell? ⟨FB, k * 4 + 1, none⟩ = some (.int .i64 x.pc) ∧ w.cell? ⟨FB, k * 4 + 2, none⟩ = some (.slice x.LA x.ln x.lc) ∧ w.cell? ⟨FB, k * 4 + 3, none⟩ = some (.slice x.SA x.sn x.sc) ∧ p ≠ FB := by
  obtain ⟨g, c, cur, e, -, -, hle, hcur, hc, -⟩ := own_at h.own (by omega)
  cases e
  exact ⟨g, cur, rfl, hcur, by omega, hc _ _ (frasC_at hx 0 _ rfl), hc _ _ (frasC_at hx 1 _ rfl), hc _ _ (frasC_at hx 2 _ rfl), hc _ _ (frasC_at hx 3 _ rfl), blk_ne h.box hcur (by decide)⟩
set_option maxRecDepth 100000 in
theorem topk_calls (w : World) (p FB fc k : Nat) (hk : k ≤ 1000) (h : w.cell? ⟨p, 12, none⟩ = some (.slice (some ⟨FB, 0, none⟩) (k + 1) fc)) :
    Calls Tryz.prog 59 #[.pointer (some ⟨p, 0, none⟩)] w fun e w' => e = .returned (.pointer (some ⟨FB, k * 4, none⟩)) ∧ Below w.heap.size w w' := by
  have g := cell_regrown h
  have hw : IntKind.i64.wrap (((k + 1 : Nat) : Int) - 1) = k := by rw [IntKind.wrap_i64]; omega
  clear h
  go_enter Tryz.func59, Tryz.ntmps59
  go_wp2_with fail
  refine wp_region_quiet_below (by kernel_rfl) (by kernel_rfl) ?_
  repeat (first | go_big_quiet_step (fail) | quiet_step (fail))
  refine wpQuiet_nil ?_
  intro _ hw'
  obtain ⟨⟨dq, osq⟩, hw''⟩ := hw'
  subst hw''
  have HBq := Lib.hid (below_regrown w dq osq)
  clear g
  generalize grow (redrawn w dq) osq = wq at *
  go_wp2
  go_ret
  exact ⟨rfl, HBq.out⟩
end Go.Proofs.YtmceaeoeakkppaaGreatDoor
