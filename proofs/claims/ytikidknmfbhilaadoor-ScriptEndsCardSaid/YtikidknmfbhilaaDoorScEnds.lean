/- Script: the walk of ScriptEnds. -/
import Derived.Test.YtikidknmfbhilaaDoorScBack
namespace Go.Proofs.YtikidknmfbhilaaDoor
open Go.RowKit Go.Sort
set_option linter.unusedVariables false
theorem body_ne (o : Odr) : body o ≠ [] := by unfold body; simp
set_option maxRecDepth 100000 in
set_option maxHeartbeats 8000000 in
theorem scriptEnds_walk (w : World) (F : Facts w) (A0 : Option Addr) (c0 : Nat) (x0 : List Odr) (l0 : x0.length ≤ c0) (m0 : x0.length ≤ 140737488351232) (row0 : k_order.Row (· < w.heap.size) w A0 x0) :
    Calls Tryd.prog 6 #[.slice A0 x0.length c0] w fun e w' => e = .returned (.bool true) ∧ RowKit.Below w.heap.size w w' := by
  have HF := Lib.hid F
  have hbig := F.big
  have HR := Lib.hid row0
  clear F row0
  obtain ⟨n, hn⟩ : ∃ n, x0.length = n := ⟨_, rfl⟩
  rw [hn] at l0 ⊢
  have HN := Lib.hid hn
  clear hn m0
  by_cases hl : n = 0 ∨ 100 < n
  · rcases hl with rfl | hl
    · go_enter Tryd.func6, Tryd.ntmps6
      go_wp2_with (go_at_call 7; refine (scAnswers_calls _ HF.out).mono ?_; rintro e w1 ⟨rfl, hb1⟩)
      go_ret
      exact ⟨rfl, hb1⟩
    · go_enter Tryd.func6, Tryd.ntmps6
      go_wp2_with (go_at_call 7; refine (scAnswers_calls _ HF.out).mono ?_; rintro e w1 ⟨rfl, hb1⟩)
      go_ret
      exact ⟨rfl, hb1⟩
  · have hn1 : 1 ≤ n := by omega
    have hn2 : n ≤ 100 := by omega
    have hn3 : ¬ n = 0 := by omega
    clear hl
    have hz0 : ((n : Int) == 0) = false := by rw [beq_eq_false_iff_ne]; omega
    have hz1 : ¬ (100 : Int) < (n : Int) := by omega
    by_cases hg : x0.all goodO = true
    · have HG := Lib.hid (good_of_all hg)
      obtain ⟨l, o, rfl⟩ : ∃ l o, x0 = l ++ [o] := by
        rcases List.eq_nil_or_concat x0 with h | ⟨l, o, h⟩
        · exact absurd (HN.out.symm.trans (by rw [h]; rfl)) hn3
        · exact ⟨l, o, by rw [h, List.concat_eq_append]⟩
      have hgl : goodL l := fun x hx => HG.out x (by simp [hx])
      have hts : (textL (l ++ [o])).length ≤ 10000 := by have := text_size _ HG.out; rw [HN.out] at this; omega
      have htx : textL (l ++ [o]) = textL l ++ body o ++ [10] := by rw [textL_append, textL_cons, lineL_body]; simp [textL]
      have hnl : l.length + 1 = n := by have := HN.out; simpa using this
      have hnl2 : (l.length : Int) + 1 = (n : Int) := by omega
      generalize hs : (⟨(textL (l ++ [o])).toArray⟩ : ByteArray) = s
      obtain ⟨q, hq⟩ : ∃ q, (textL l ++ body o).length = q := ⟨_, rfl⟩
      have hsz : s.size = q + 1 := by rw [← hs, arr_size, htx, List.length_append, hq]; rfl
      have hsz2 : q ≤ 10000 := by have : s.size ≤ 10000 := (by rw [← hs, arr_size]; exact hts); omega
      have hsd : (s.extract 0 q).data.toList = textL l ++ body o := by
        rw [Lib.extract_from_zero, ← hs, htx, ← hq]; exact List.take_left
      have hse : (s.extract 0 q).size ≤ 1000000 := by rw [Lib.size_eq, hsd, hq]; omega
      have HS := Lib.hid hsd
      have HT := Lib.hid htx
      have HQ := Lib.hid hq
      clear hsd htx hq hts
      go_enter Tryd.func6, Tryd.ntmps6
      go_wp2_with (first
        | (go_at_call 9; refine (refGood_calls (S := (· < w.heap.size)) w _ n _ (l ++ [o]) HN.out (by omega) (fun b hb => hb) HR.out).mono ?_; rw [hg]; rintro e w1 ⟨rfl, hb1⟩; have HB1 := Lib.hid hb1; have hs1 := hb1.size; clear hb1)
        | (go_at_call 11; refine (refPrint_calls (S := (· < w.heap.size)) _ _ n _ (l ++ [o]) HN.out (by omega) (fun b hb => Nat.lt_of_lt_of_le hb hs1) (HR.out.keep HB1.out.block)).mono ?_; rw [hs]; rintro e w2 ⟨rfl, hb2⟩; have HB2 := Lib.hid (HB1.out.trans (hb2.mono hs1)); have hs2 := HB2.out.size; clear hb2)
        | (go_at_call 10; refine (parse_bad _ (s.extract 0 q) hse (HF.out.below HB2.out hbig) l (body o) hgl (stop_no10 (body_no10 o)) (body_ne o) HS.out).mono ?_; rw [hnl2]; rintro e w3 ⟨rfl, hb3⟩; have HB3 := Lib.hid (HB2.out.trans (hb3.mono hs2)); have hs3 := HB3.out.size; clear hb3)
        | (go_at_call 7; refine (scAnswers_calls _ (HF.out.below HB3.out hbig)).mono ?_; rintro e w4 ⟨rfl, hb4⟩; have HB4 := Lib.hid (HB3.out.trans (hb4.mono hs3)); clear hb4))
      go_ret
      exact ⟨rfl, HB4.out⟩
    · have hg' : x0.all goodO = false := by simpa using hg
      go_enter Tryd.func6, Tryd.ntmps6
      go_wp2_with (first
        | (go_at_call 9; refine (refGood_calls (S := (· < w.heap.size)) w _ n _ x0 HN.out (by omega) (fun b hb => hb) HR.out).mono ?_; rw [hg']; rintro e w1 ⟨rfl, hb1⟩; have HB1 := Lib.hid hb1; have hs1 := hb1.size; clear hb1)
        | (go_at_call 7; refine (scAnswers_calls _ (HF.out.below HB1.out hbig)).mono ?_; rintro e w4 ⟨rfl, hb4⟩; have HB4 := Lib.hid (HB1.out.trans (hb4.mono hs1)); clear hb4))
      go_ret
      exact ⟨rfl, HB4.out⟩
end Go.Proofs.YtikidknmfbhilaaDoor
