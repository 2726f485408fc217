/- Script: what Parse answers to a text whose lines are known; answers. -/
import Derived.Test.YtikidknmfbhilaaDoorScParse
import Derived.Test.YtikidknmfbhilaaDoorScGood
namespace Go.Proofs.YtikidknmfbhilaaDoor
open Go.RowKit Go.Sort
set_option linter.unusedVariables false
/-- A slice of orders that was made from B on. -/
def Made (B : Nat) (w : World) (v : Value) (l : List Odr) : Prop := ∃ A c, v = .slice A l.length c ∧ k_order.Row (fun b => B ≤ b ∧ b < w.heap.size) w A l
theorem made_of {B : Nat} {w : World} {v : Value} {l : List Odr} (ho : w.ownsRow B 36 4 v l.length (ocells l)) (hg : goodL l) (hl : l.length ≤ 1000000) : Made B w v l := by
  obtain ⟨A, c, h1, _, _, h4⟩ := Rd.Sl.of_own (d := k_order) (S := fun b => B ≤ b ∧ b < w.heap.size) ho (fun g hg => ho.lt g hg) (order_flat hg) (by omega)
  exact ⟨A, c, h1, h4⟩
theorem parse_ok (w : World) (s : ByteArray) (hs : s.size ≤ 1000000) (F : Facts w) (l : List Odr) (hg : goodL l) (ht : s.data.toList = textL l) :
    Calls Tryd.prog 10 #[.string s] w fun e w' => ∃ v, e = .returned (.tuple #[v, .int .i64 0, .int .i64 0]) ∧ Made w.heap.size w' v l ∧ RowKit.Below w.heap.size w w' := by
  refine (parse_calls w s hs F).mono ?_
  rintro e w' ⟨l', r, h1, h2, h3, h4, h5⟩
  obtain ⟨rfl, rfl⟩ := decode hg h2 Stop.nil h3 (show textL l ++ [] = textL l' ++ r by rw [List.append_nil, ← ht, h1])
  rcases h4 with ⟨_, v, h6, h7⟩ | ⟨h, _⟩
  · refine ⟨v, h6, made_of h7 h2 ?_, h5⟩
    have := line_count l
    rw [← ht, ← Lib.size_eq] at this
    omega
  · exact absurd rfl h
theorem parse_bad (w : World) (s : ByteArray) (hs : s.size ≤ 1000000) (F : Facts w) (l : List Odr) (r : List UInt8) (hg : goodL l) (hr : Stop r) (h0 : r ≠ []) (ht : s.data.toList = textL l ++ r) :
    Calls Tryd.prog 10 #[.string s] w fun e w' => e = .returned (.tuple #[.slice none 0 0, .int .i64 ((l.length : Int) + 1), .int .i64 9]) ∧ RowKit.Below w.heap.size w w' := by
  refine (parse_calls w s hs F).mono ?_
  rintro e w' ⟨l', r', h1, h2, h3, h4, h5⟩
  obtain ⟨rfl, rfl⟩ := decode hg h2 hr h3 (show textL l ++ r = textL l' ++ r' by rw [← ht, h1])
  rcases h4 with ⟨h, _⟩ | ⟨_, h6⟩
  · exact absurd h h0
  · exact ⟨h6, h5⟩
def odr0 : Odr := ⟨2, 1, -3, 0⟩
theorem good0 : goodL [odr0] := by
  intro o ho
  rw [List.mem_singleton] at ho
  subst ho
  decide
theorem text0L : (⟨#[50, 32, 49, 32, 45, 51, 32, 48, 10]⟩ : ByteArray).data.toList = textL [odr0] := by
  have e2 : Lib.itoa 2 = [50] := by rw [Lib.itoa, if_neg (by decide)]; exact Lib.decDigits_one (by decide)
  have e1 : Lib.itoa 1 = [49] := by rw [Lib.itoa, if_neg (by decide)]; exact Lib.decDigits_one (by decide)
  have e3 : Lib.itoa (-3) = [45, 51] := by rw [Lib.itoa, if_pos (by decide)]; exact congrArg _ (Lib.decDigits_one (by decide))
  have e0 : Lib.itoa 0 = [48] := by rw [Lib.itoa, if_neg (by decide)]; exact Lib.decDigits_one (by decide)
  simp [textL, lineL, odr0, e0, e1, e2, e3]
theorem text0 : (⟨(textL [odr0]).toArray⟩ : ByteArray) = ⟨#[50, 32, 49, 32, 45, 51, 32, 48, 10]⟩ := by rw [← text0L]
set_option maxRecDepth 100000 in
set_option maxHeartbeats 8000000 in
theorem scAnswers_calls (w : World) (F : Facts w) :
    Calls Tryd.prog 7 #[] w fun e w' => e = .returned (.bool true) ∧ RowKit.Below w.heap.size w w' := by
  have HF := Lib.hid F
  have hbig := F.big
  clear F
  have hrow : k_order.Row (fun b => b = w.heap.size) (w.alloc (.cells (ocells [odr0]).toArray 36 (0, 0))) (some ⟨w.heap.size, 0, none⟩) [odr0] :=
    Rd.Row.of_blk (blk_new _ _) rfl (order_flat good0) (fun j v hj => by simpa using hj)
  have HR := Lib.hid hrow
  have HB0 := Lib.hid ((RowKit.Below.refl w.heap.size w).alloc (Nat.le_refl _) (.cells (ocells [odr0]).toArray 36 (0, 0)))
  clear hrow
  go_enter Tryd.func7, Tryd.ntmps7
  go_wp2_with (first
    | (go_at_call 8; refine (print_calls (S := fun b => b = w.heap.size) _ _ 1 _ [odr0] rfl (by decide) (HF.out.below HB0.out hbig) (fun b hb => by subst hb; simp) HR.out).mono ?_; rw [printV_good good0, text0]; rintro e w1 ⟨rfl, hb1⟩; have HB1 := Lib.hid (HB0.out.trans (hb1.mono (by simp))); have hs1 := HB1.out.size; clear hb1)
    | (go_at_call 10; refine (parse_ok _ _ (by decide) (HF.out.below HB1.out hbig) [odr0] good0 text0L).mono ?_; rintro e w2 ⟨v, rfl, ⟨A, c, rfl, hrow⟩, hb2⟩; obtain ⟨b, o, rfl, _, d0, d1, d2, d3, _⟩ := k_order_at hrow (i := 0) (x := odr0) rfl; replace d2 : w2.cell? ⟨b, o + 0 * 4 + 2, none⟩ = some (.int .i64 (-3)) := d2; clear d0 d1 d3; have HB2 := Lib.hid (HB1.out.trans (hb2.mono hs1)); clear hb2 hrow))
  go_ret
  exact ⟨rfl, HB2.out⟩
end Go.Proofs.YtikidknmfbhilaaDoor
