/- Script: the walks of ScriptBack and ScriptEnds. -/
import Derived.Test.YtikidknmfbhilaaDoorScAns
namespace Go.Proofs.YtikidknmfbhilaaDoor
open Go.RowKit Go.Sort
set_option linter.unusedVariables false
theorem good_of_all {l : List Odr} (h : l.all goodO = true) : goodL l := List.all_eq_true.1 h
theorem text_size (l : List Odr) (h : goodL l) : (textL l).length ≤ 88 * l.length := by
  induction l with
  | nil => simp [textL]
  | cons o l ih =>
    obtain ⟨g0, g1, g2, g3⟩ := (goodO_iff o).1 (h o (by simp))
    have h1 := lineL_length o (fits_wf g0) (fits_wf g1) (fits_wf g2) (fits_wf g3)
    have h2 := ih (fun x hx => h x (by simp [hx]))
    rw [textL_cons, List.length_append, List.length_cons]; omega
theorem arr_size (l : List UInt8) : (⟨l.toArray⟩ : ByteArray).size = l.length := by rw [Lib.size_eq]

set_option maxRecDepth 100000 in
set_option maxHeartbeats 8000000 in
theorem scriptBack_walk (w : World) (F : Facts w) (A0 : Option Addr) (c0 : Nat) (x0 : List Odr) (l0 : x0.length ≤ c0) (m0 : x0.length ≤ 140737488351232) (row0 : k_order.Row (· < w.heap.size) w A0 x0) :
    Calls Tryd.prog 3 #[.slice A0 x0.length c0] w fun e w' => e = .returned (.bool true) ∧ RowKit.Below w.heap.size w w' := by
  have HF := Lib.hid F
  have hbig := F.big
  have HR := Lib.hid row0
  clear F row0
  by_cases hl : 300 < x0.length
  · go_enter Tryd.func3, Tryd.ntmps3
    go_wp2_with (go_at_call 7; refine (scAnswers_calls _ HF.out).mono ?_; rintro e w1 ⟨rfl, hb1⟩)
    go_ret
    exact ⟨rfl, hb1⟩
  · obtain ⟨n, hn⟩ : ∃ n, x0.length = n := ⟨_, rfl⟩
    rw [hn] at hl l0 ⊢
    have HN := Lib.hid hn
    clear hn m0
    by_cases hg : x0.all goodO = true
    · have HG := Lib.hid (good_of_all hg)
      have hts : (⟨(textL x0).toArray⟩ : ByteArray).size ≤ 1000000 := by rw [arr_size]; have := text_size x0 HG.out; rw [HN.out] at this; omega
      generalize hs : (⟨(textL x0).toArray⟩ : ByteArray) = s at hts
      have hsl : s.data.toList = textL x0 := by rw [← hs]
      go_enter Tryd.func3, Tryd.ntmps3
      go_wp2_with (first
        | (go_at_call 8; refine (print_calls (S := (· < w.heap.size)) w _ n _ x0 HN.out (by omega) HF.out (fun b hb => hb) HR.out).mono ?_; rw [printV_good HG.out, hs]; rintro e w1 ⟨rfl, hb1⟩; have HB1 := Lib.hid hb1; have hs1 := hb1.size; clear hb1)
        | (go_at_call 9; refine (refGood_calls (S := (· < w.heap.size)) _ _ n _ x0 HN.out (by omega) (fun b hb => Nat.lt_of_lt_of_le hb hs1) (HR.out.keep HB1.out.block)).mono ?_; rw [hg]; rintro e w2 ⟨rfl, hb2⟩; have HB2 := Lib.hid (HB1.out.trans (hb2.mono hs1)); have hs2 := HB2.out.size; clear hb2)
        | (go_at_call 10; refine (parse_ok _ s hts (HF.out.below HB2.out hbig) x0 HG.out hsl).mono ?_; rintro e w3 ⟨v, rfl, ⟨A, c, rfl, hrow⟩, hb3⟩; have HR3 := Lib.hid hrow; have HB3 := Lib.hid (HB2.out.trans (hb3.mono hs2)); have hs3 := HB3.out.size; clear hb3 hrow)
        | (go_at_call 7; refine (scAnswers_calls _ (HF.out.below HB3.out hbig)).mono ?_; rintro e w4 ⟨rfl, hb4⟩; have HR4 := Lib.hid (HR3.out.keep (fun b hb => hb4.block b hb.2)); have HB4 := Lib.hid (HB3.out.trans (hb4.mono hs3)); have hs4 := HB4.out.size; have hs34 := hb4.size; clear hb4)
        | (go_at_call 11; refine (refPrint_calls (S := (· < w.heap.size)) _ _ n _ x0 HN.out (by omega) (fun b hb => Nat.lt_of_lt_of_le hb hs4) (HR.out.keep HB4.out.block)).mono ?_; rw [hs]; rintro e w5 ⟨rfl, hb5⟩; have HR5 := Lib.hid (HR4.out.keep (fun b hb => hb5.block b (Nat.lt_of_lt_of_le hb.2 hs34))); have HB5 := Lib.hid (HB4.out.trans (hb5.mono hs4)); have hs5 := HB5.out.size; have hs35 := Nat.le_trans hs34 hb5.size; clear hb5)
        | (go_at_call 12; rw [HN.out]; refine (refSame_eq (S := fun b => w2.heap.size ≤ b ∧ b < w3.heap.size) (T := (· < w.heap.size)) _ _ _ n _ _ x0 HN.out (by omega) (fun b hb => Nat.lt_of_lt_of_le hb.2 hs35) (fun b hb => Nat.lt_of_lt_of_le hb hs5) HR5.out (HR.out.keep HB5.out.block)).mono ?_; rintro e w6 ⟨rfl, hb6⟩; have HB6 := Lib.hid (HB5.out.trans (hb6.mono hs5)); clear hb6))
      go_ret
      exact ⟨rfl, HB6.out⟩
    · have hg' : x0.all goodO = false := by simpa using hg
      go_enter Tryd.func3, Tryd.ntmps3
      have hpv : printV x0 = .tuple #[.string ⟨#[]⟩, .int .i64 2] := by unfold printV; rw [if_neg hg]
      go_wp2_with (first
        | (go_at_call 8; refine (print_calls (S := (· < w.heap.size)) w _ n _ x0 HN.out (by omega) HF.out (fun b hb => hb) HR.out).mono ?_; rw [hpv]; rintro e w1 ⟨rfl, hb1⟩; have HB1 := Lib.hid hb1; have hs1 := hb1.size; clear hb1)
        | (go_at_call 9; refine (refGood_calls (S := (· < w.heap.size)) _ _ n _ x0 HN.out (by omega) (fun b hb => Nat.lt_of_lt_of_le hb hs1) (HR.out.keep HB1.out.block)).mono ?_; rw [hg']; rintro e w2 ⟨rfl, hb2⟩; have HB2 := Lib.hid (HB1.out.trans (hb2.mono hs1)); have hs2 := HB2.out.size; clear hb2)
        | (go_at_call 7; refine (scAnswers_calls _ (HF.out.below HB2.out hbig)).mono ?_; rintro e w4 ⟨rfl, hb4⟩; have HB4 := Lib.hid (HB2.out.trans (hb4.mono hs2)); clear hb4))
      go_ret
      exact ⟨rfl, HB4.out⟩
end Go.Proofs.YtikidknmfbhilaaDoor
