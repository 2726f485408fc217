/- step's machine with any number of frames: its last frame is written; do of a call. -/
import Derived.Test.YtmceaeoeakkppaaGreatDoorMk2
namespace Go.Proofs.YtmceaeoeakkppaaGreatDoor
open Go.RowKit Go.Sort
set_option linter.unusedVariables false
set_option linter.unusedSimpArgs false
theorem own_set {w : World} {base : Nat} {e : TypeId} {size n c g : Nat} {xs : List Value} (h : w.ownsRow base e size (.slice (some ⟨g, 0, none⟩) n c) n xs) (i : Nat) (u : Value) : (w.setCell ⟨g, i, none⟩ u).ownsRow base e size (.slice (some ⟨g, 0, none⟩) n c) n (xs.set i u) := by
  refine ⟨by rw [List.length_set]; exact h.1, ?_⟩
  rcases h.2 with ⟨h', _⟩ | ⟨g', cap, cur, h', hb, hh, h4, h5, h6, h7⟩
  · cases h'
  · cases h'
    refine .inr ⟨g, c, _, rfl, hb, blk_set hh i u, h4, h5, by simpa using h6, ?_⟩
    rw [Array.toList_setIfInBounds, ← h7, List.take_set]
theorem frasC_set (fs : List Fra) (k : Nat) (x : Fra) (hx : fs[k]? = some x) (i : Nat) (u : Value) (y : Fra) (hy : (fraC x).set i u = fraC y) (hi : i < 4) : (frasC fs).set (k * 4 + i) u = frasC (fs.set k y) := by
  induction fs generalizing k with
  | nil => simp at hx
  | cons z fs ih =>
    cases k with
    | zero =>
      simp at hx
      subst hx
      simp only [frasC, List.flatMap_cons, Nat.zero_mul, Nat.zero_add, List.set_cons_zero]
      rw [List.set_append_left _ _ (by simpa [fraC] using hi), hy]
    | succ k =>
      simp at hx
      have := ih k hx
      simp only [frasC, List.flatMap_cons, List.set_cons_succ] at *
      rw [List.set_append_right _ _ (by simp [fraC]; omega), ← this]
      congr 2
      simp [fraC]
      omega
/-- The last frame stands elsewhere in its code. -/
def atPc (x : Fra) (pc : Nat) : Fra := { x with pc := pc }
theorem Mk.pcs {bs : Nat} {w : World} {p hp tp : Nat} {B0 B1 B2 B3 B4 : Option Addr} {m0 m1 m2 m3 m4 d0 d1 d2 d3 d4 : Nat} {q en v : Int} {MA : Option Addr} {mn mc : Nat} {FB : Nat} {fc : Nat} {fs : List Fra} (h : Mk bs w p hp tp B0 B1 B2 B3 B4 m0 m1 m2 m3 m4 d0 d1 d2 d3 d4 q en v MA mn mc (some ⟨FB, 0, none⟩) fc fs) {k : Nat} {x : Fra} (hx : fs[k]? = some x) (hpF : p ≠ FB) :
    Mk bs (w.setCell ⟨FB, k * 4 + 1, none⟩ (.int .i64 ((x.pc : Int) + 1))) p hp tp B0 B1 B2 B3 B4 m0 m1 m2 m3 m4 d0 d1 d2 d3 d4 q en v MA mn mc (some ⟨FB, 0, none⟩) fc (fs.set k (atPc x (x.pc + 1))) := by
  refine ⟨by rw [List.length_set]; exact blk_far h.box hpF _, ?_⟩
  rw [List.length_set, ← frasC_set fs k x hx 1 (.int .i64 ((x.pc : Int) + 1)) (atPc x (x.pc + 1)) (by simp [fraC, atPc]) (by decide)]
  exact own_set h.own _ _
set_option maxRecDepth 100000 in
set_option maxHeartbeats 8000000 in
theorem dok_25 {bs : Nat} {w : World} {p hp tp : Nat} {B0 B1 B2 B3 B4 : Option Addr} {m0 m1 m2 m3 m4 d0 d1 d2 d3 d4 : Nat} {q en v : Int} {MA : Option Addr} {mn mc : Nat} {FB : Nat} {fc : Nat} {fs : List Fra} (h : Mk bs w p hp tp B0 B1 B2 B3 B4 m0 m1 m2 m3 m4 d0 d1 d2 d3 d4 q en v MA mn mc (some ⟨FB, 0, none⟩) fc fs) {k : Nat} (hk : fs.length = k + 1) (hk8 : k ≤ 1000) {x : Fra} (hx : fs[k]? = some x) (hpc : x.pc ≤ 1000) (j : Nat) (b : Int) (inn ans : Value) (Post : World → Prop)
    (KC : ∀ W, Mk bs W p hp tp B0 B1 B2 B3 B4 m0 m1 m2 m3 m4 d0 d1 d2 d3 d4 q en v MA mn mc (some ⟨FB, 0, none⟩) fc (fs.set k (atPc x (x.pc + 1))) → Keeps (fun x => x = FB) w W → Calls Tryz.prog 96 #[.pointer (some ⟨p, 0, none⟩), .int .i64 j, inn] W fun e W' => e = .returned (.tuple #[]) ∧ Post W') :
    Calls Tryz.prog 62 #[.pointer (some ⟨p, 0, none⟩), .agg #[.int .i64 25, .int .i64 j, .int .i64 b], inn, ans] w fun e w' => e = .returned (.tuple #[]) ∧ Post w' := by
  obtain ⟨FB', cur, e, hcur, hfc, c0, c1, c2, c3, hpF⟩ := h.last hk hx
  cases e
  have hV := below_a1 w (Obj.cells #[.int .i64 25, .int .i64 (j : Int), .int .i64 b] 62)
  have HX := Lib.hid (blk_new w (Obj.cells #[.int .i64 25, .int .i64 (j : Int), .int .i64 b] 62))
  have hbox := h.box
  rw [hk] at hbox
  have KT := Lib.hid (topk_calls (w.alloc (Obj.cells #[.int .i64 25, .int .i64 (j : Int), .int .i64 b] 62)) p FB fc k hk8 (blk_cell (blk_below hbox hV (blk_lt hbox)) 12))
  have hFlt : FB < w.heap.size := blk_lt hcur
  have hne : w.heap.size ≠ FB := by omega
  have HH := Lib.hid h
  have HC := Lib.hid hcur
  have HC1 := Lib.hid c1
  have HV := Lib.hid hV
  have HXx := Lib.hid hx
  have HKC := Lib.hid KC
  have hwp : wrap64 ((x.pc : Int) + 1) = x.pc + 1 := by unfold wrap64; omega
  clear h hcur c0 c1 c2 c3 hV hbox hx KC hk
  go_enter Tryz.func62, Tryz.ntmps62
  go_upto_region 4 with (go_at_call 59; go_must (refine KT.out.mono ?_; rintro e w1 ⟨rfl, hb1⟩; have hbw1 : Below w.heap.size w w1 := HV.out.trans (hb1.mono HV.out.size); have y1 : w1.cell? ⟨FB, k * 4 + 1, none⟩ = some (.int .i64 x.pc) := below_cell HC1.out hbw1; have y2 := blk_frozen (blk_below HC.out hbw1 (blk_lt HC.out)) (k * 4 + 1); have HB1 := Lib.hid hbw1; have HX1 := Lib.hid (blk_below HX.out hb1 (blk_lt HX.out)); clear hb1 hbw1))
  have hm := (HH.out.below HB1.out).pcs HXx.out hpF
  have hkV : Keeps (fun x => x = FB) w (w1.setCell ⟨FB, k * 4 + 1, none⟩ (.int .i64 ((x.pc : Int) + 1))) := (Keeps.of_below (F := fun x => x = FB) HB1.out).setCell (p := ⟨FB, k * 4 + 1, none⟩) (fun _ => rfl) _
  have hXV := blk_far HX1.out hne (p := ⟨FB, k * 4 + 1, none⟩) (.int .i64 ((x.pc : Int) + 1))
  generalize (w1.setCell ⟨FB, k * 4 + 1, none⟩ (.int .i64 ((x.pc : Int) + 1))) = V at *
  obtain ⟨x0, x1, x2⟩ := cells3 hXV
  have K := Lib.hid (HKC.out V hm hkV)
  clear hm hkV hXV y1 y2 hwp
  go_wp2_with (go_at_call 96; go_must (refine K.out.mono ?_; rintro e w5 ⟨rfl, hp5⟩; have HP5 := Lib.hid hp5; clear hp5))
  (try simp only [Exit.inBlock, Exit.then])
  first
  | exact bodyPost_end (v := .tuple #[]) (by simp [results, Tryz.results62, go_sem]) rfl ⟨rfl, HP5.out⟩
  | exact bodyPost_ret (v := .tuple #[]) (by simp [results, Tryz.results62, go_sem]) rfl ⟨rfl, HP5.out⟩
end Go.Proofs.YtmceaeoeakkppaaGreatDoor
