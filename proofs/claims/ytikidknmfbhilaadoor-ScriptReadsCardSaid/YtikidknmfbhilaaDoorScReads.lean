/- Script: the walk of ScriptReads. -/
import Derived.Test.YtikidknmfbhilaaDoorScBack
namespace Go.Proofs.YtikidknmfbhilaaDoor
open Go.RowKit Go.Sort
set_option linter.unusedVariables false
theorem itoa_min (n : Int) : 1 ≤ (Lib.itoa n).length := by
  unfold Lib.itoa
  split
  · simp
  · rw [Lib.decDigits_length]; exact Lib.nDigits_pos _
theorem line_min (o : Odr) : 8 ≤ (lineL o).length := by
  have h0 := itoa_min o.kind
  have h1 := itoa_min o.a
  have h2 := itoa_min o.b
  have h3 := itoa_min o.c
  unfold lineL
  simp only [List.length_append, List.length_cons, List.length_nil]
  omega
theorem text_min : ∀ l : List Odr, 8 * l.length ≤ (textL l).length
  | [] => by simp
  | o :: l => by
    have h1 := line_min o
    have h2 := text_min l
    rw [textL_cons, List.length_append, List.length_cons]; omega
set_option maxRecDepth 100000 in
set_option maxHeartbeats 8000000 in
theorem scriptReads_walk (w : World) (F : Facts w) (s : ByteArray) (m0 : s.size ≤ 140737488351232) :
    Calls Tryd.prog 4 #[.string s] w fun e w' => e = .returned (.bool true) ∧ RowKit.Below w.heap.size w w' := by
  have HF := Lib.hid F
  have hbig := F.big
  clear F
  by_cases hl : 4000 < s.size
  · go_enter Tryd.func4, Tryd.ntmps4
    go_wp2_with (go_at_call 7; refine (scAnswers_calls _ HF.out).mono ?_; rintro e w1 ⟨rfl, hb1⟩)
    go_ret
    exact ⟨rfl, hb1⟩
  · obtain ⟨l, r, hs, hg, hr⟩ : ∃ l r, s.data.toList = textL l ++ r ∧ goodL l ∧ Stop r := by
      obtain ⟨e, w', fr, ⟨l, r, h1, h2, h3, _⟩, _⟩ := parse_calls w s (by omega) HF.out []
      exact ⟨l, r, h1, h2, h3⟩
    have hll : 8 * l.length ≤ s.size := by
      have h1 := text_min l
      rw [Lib.size_eq, hs, List.length_append]; omega
    have hz : ¬ (4000 : Int) < (s.size : Int) := by omega
    have HG := Lib.hid hg
    have HS := Lib.hid hs
    clear hg hs
    by_cases h0 : r = []
    · subst h0
      have HE := Lib.hid (show (⟨(textL l).toArray⟩ : ByteArray) = s by rw [← byte_eta s, HS.out, List.append_nil])
      go_enter Tryd.func4, Tryd.ntmps4
      go_wp2_with (first
        | (go_at_call 10; refine (parse_ok w s (by omega) HF.out l HG.out (by rw [HS.out, List.append_nil])).mono ?_; rintro e w3 ⟨v, rfl, ⟨A, c, rfl, hrow⟩, hb3⟩; have HR3 := Lib.hid hrow; have HB3 := Lib.hid hb3; have hs3 := HB3.out.size; clear hb3 hrow)
        | (go_at_call 7; refine (scAnswers_calls _ (HF.out.below HB3.out hbig)).mono ?_; rintro e w4 ⟨rfl, hb4⟩; have HR4 := Lib.hid (HR3.out.keep (fun b hb => hb4.block b hb.2)); have HB4 := Lib.hid (HB3.out.trans (hb4.mono hs3)); have hs4 := HB4.out.size; have hs34 := hb4.size; clear hb4)
        | (go_at_call 11; refine (refPrint_calls (S := fun b => w.heap.size ≤ b ∧ b < w3.heap.size) _ _ _ _ l rfl (by omega) (fun b hb => Nat.lt_of_lt_of_le hb.2 hs34) HR4.out).mono ?_; rw [HE.out]; rintro e w5 ⟨rfl, hb5⟩; have HB5 := Lib.hid (HB4.out.trans (hb5.mono hs4)); clear hb5))
      go_ret
      exact ⟨rfl, HB5.out⟩
    · have hcn : l.length ≤ (s.data.toList).count 10 := by
        rw [HS.out, List.count_append, count_text]; omega
      have hll' : l.length ≤ 1000 := by omega
      go_enter Tryd.func4, Tryd.ntmps4
      go_wp2_with (go_at_call 10; refine (parse_bad w s (by omega) HF.out l r HG.out hr h0 HS.out).mono ?_; rintro e w3 ⟨rfl, hb3⟩; have HB3 := Lib.hid hb3; have hs3 := HB3.out.size; clear hb3)
      go_loopw [6, 7] (fun t i wr => ∃ k : Nat, k ≤ s.size ∧ i = .int .i64 k ∧ t = .int .i64 ((s.data.toList.take k).count 10 : Nat) ∧ wr = w3) (fun _ i _ => s.size - (intOf i).toNat)
      case atStart => exact ⟨0, Nat.zero_le _, rfl, rfl, rfl⟩
      case round =>
        obtain ⟨k, hk, rfl, rfl, rfl⟩ := hrel
        by_cases hlt : k < s.size
        · have hcb : ((s.data.toList.take k).count 10) ≤ k := Nat.le_trans List.count_le_length (by rw [List.length_take]; omega)
          have htk : (s.data.toList.take (k + 1)).count 10 = (s.data.toList.take k).count 10 + (if s.data[k]'hlt = 10 then 1 else 0) := by
            rw [List.take_succ_eq_append_getElem (by rw [← Lib.size_eq]; exact hlt), List.count_append, List.count_singleton, Array.getElem_toList]
            simp
          generalize (s.data.toList.take k).count 10 = q at *
          by_cases h10 : s.data[k]'hlt = 10
          · have hb : (((s[k]'hlt).toNat : Int) == 10) = true := by
              rw [show s[k]'hlt = 10 from h10]; rfl
            rw [if_pos h10] at htk
            go_wp2
            exact ⟨⟨k + 1, by omega, by go_num, by rw [htk]; simp, trivial⟩, by simp [intOf]; omega⟩
          · have hb : (((s[k]'hlt).toNat : Int) == 10) = false := by
              rw [beq_eq_false_iff_ne]
              intro e
              have e' : (s[k]'hlt).toNat = 10 := by omega
              exact h10 (UInt8.toNat_inj.1 e')
            rw [if_neg h10] at htk
            go_wp2
            exact ⟨⟨k + 1, by omega, by go_num, by rw [htk]; simp, trivial⟩, by simp [intOf]; omega⟩
        · obtain rfl : k = s.size := by omega
          have hcl : (s.data.toList.take s.size).count 10 ≤ 4000 := Nat.le_trans List.count_le_length (by rw [List.length_take]; omega)
          have hcq : l.length ≤ (s.data.toList.take s.size).count 10 := by rw [Lib.size_eq, List.take_length]; exact hcn
          generalize (s.data.toList.take s.size).count 10 = z at *
          have hzi : (l.length : Int) + 1 ≤ (z : Int) + 1 := by omega
          have hz1 : (1 : Int) ≤ (l.length : Int) + 1 := by omega
          go_wp2_with (go_at_call 7; refine (scAnswers_calls _ (HF.out.below HB3.out hbig)).mono ?_; rintro e w4 ⟨rfl, hb4⟩; have HB4 := Lib.hid (HB3.out.trans (hb4.mono hs3)); clear hb4)
          go_ret
          exact ⟨rfl, HB4.out⟩
end Go.Proofs.YtikidknmfbhilaaDoor
