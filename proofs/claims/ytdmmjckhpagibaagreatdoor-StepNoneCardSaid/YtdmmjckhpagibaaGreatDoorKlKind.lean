/- kind.Ref, Sub, Join, Good and the reference's. -/
import Derived.Test.YtdmmjckhpagibaaGreatDoorOwn
import Derived.Laws.StructEq
import Derived.Laws.ResultCell
namespace Go.Proofs.YtdmmjckhpagibaaGreatDoor
open Go.RowKit
set_option linter.unusedVariables false
def isRef (k : Int) : Bool := decide (k = 2) || decide (k = 3) || decide (k = 4) || decide (k = 6) || decide (k = 7)
def sub (a b : Ty) : Bool := decide (a = b) || decide (b.kind = 8) || (isRef a.kind && isRef b.kind && (decide (a.kind = 6) || decide (b.kind = 7)))
def join (a b : Ty) : Ty := if sub a b then b else if sub b a then a else if isRef a.kind && isRef b.kind then ⟨7, 0⟩ else ⟨8, 0⟩
def good (t : Ty) (recs : Int) : Bool := if t.kind = 1 ∨ t.kind = 2 ∨ t.kind = 3 ∨ t.kind = 7 then decide (t.n = 0) else if t.kind = 4 then decide (0 ≤ t.n) && decide (t.n < recs) else if t.kind = 5 then decide (0 ≤ t.n) && decide (t.n < 4) else false

theorem ref_calls (w : World) (k n : Int) : Calls Tryz.prog 152 #[.agg #[.int .i64 k, .int .i64 n]] w fun e w' => e = .returned (.bool (isRef k)) ∧ Below w.heap.size w w' := by
  have hk : k = 2 ∨ k = 3 ∨ k = 4 ∨ k = 6 ∨ k = 7 ∨ (k ≠ 2 ∧ k ≠ 3 ∧ k ≠ 4 ∧ k ≠ 6 ∧ k ≠ 7) := by omega
  rcases hk with rfl | rfl | rfl | rfl | rfl | ⟨h1, h2, h3, h4, h5⟩
  all_goals first
    | (go_enter Tryz.func152, Tryz.ntmps152
       go_wp2
       go_ret
       exact ⟨rfl, (Below.refl _ _).alloc (Nat.le_refl _) _⟩)
    | (have hr : isRef k = false := by simp [isRef, *]
       rw [hr]
       have b1 : (k == 2) = false := by simpa using h1
       have b2 : (k == 3) = false := by simpa using h2
       have b3 : (k == 4) = false := by simpa using h3
       have b4 : (k == 6) = false := by simpa using h4
       have b5 : (k == 7) = false := by simpa using h5
       clear h1 h2 h3 h4 h5 hr
       go_enter Tryz.func152, Tryz.ntmps152
       go_wp2
       go_ret
       exact ⟨rfl, (Below.refl _ _).alloc (Nat.le_refl _) _⟩)

theorem sub_calls (w : World) (a b : Ty) : Calls Tryz.prog 151 #[.agg #[.int .i64 a.kind, .int .i64 a.n], .agg #[.int .i64 b.kind, .int .i64 b.n]] w fun e w' => e = .returned (.bool (sub a b)) ∧ Below w.heap.size w w' := by
  obtain ⟨ak, an⟩ := a
  obtain ⟨bk, bn⟩ := b
  simp only
  go_enter Tryz.func151, Tryz.ntmps151
  go_wp2_with (first
    | (go_at_call 152; have hq := HB1; refine (ref_calls _ _ _).mono ?_; rintro e w2 ⟨rfl, hb2⟩
       have HB2 := Lib.hid (HB1.out.trans (hb2.mono (by omega)))
       have hs4 : w.heap.size < w2.heap.size := by have := hb2.size; omega
       have hs5 : w.heap.size + 1 < w2.heap.size := by have := hb2.size; omega
       obtain ⟨hc2, hf2⟩ := bcell hb2
       clear hb2)
    | (go_at_call 152; refine (ref_calls _ _ _).mono ?_; rintro e w1 ⟨rfl, hb1⟩
       have HB1 := Lib.hid ((((Below.refl w.heap.size w).alloc (Nat.le_refl _) _).alloc (by simp) _).trans (hb1.mono (by simp <;> omega)))
       have hs2 : w.heap.size < w1.heap.size := by have := hb1.size; simp at this; omega
       have hs3 : w.heap.size + 1 < w1.heap.size := by have := hb1.size; simp at this; omega
       obtain ⟨hc1, hf1⟩ := bcell hb1
       clear hb1))
  all_goals go_ret
  all_goals refine ⟨ret_bool ?_, ?_⟩
  all_goals first
    | exact HB2.out
    | exact HB1.out
    | exact ((Below.refl _ _).alloc (Nat.le_refl _) _).alloc (by simp) _
    | (simp [sub, *]; done)
    | (try clear hc1 hf1
       try clear hc2 hf2
       simp_all [sub, Bool.beq_eq_decide_eq]; done)

end Go.Proofs.YtdmmjckhpagibaaGreatDoor
