/- The walk of HansFull. -/
import Derived.Test.YtmadgnfnljnggaaHansA
import Derived.WalkArith
namespace Go.Proofs.Ytmadgnfnljnggaa
open Go.RowKit
set_option linter.unusedVariables false
theorem openAt_last (hs : List Han) (x : Han) (h : x.opn = true) : openAt (hs ++ [x]) hs.length = some x := by
  unfold openAt; simp [h]
attribute [local irreducible] shutAt openAt hcells
theorem keeps_low {B : Nat} {F : Nat → Prop} {w a b : World} (h : Below B w a) (hk : Keeps F a b) (hB : B ≤ a.heap.size) (hF : ∀ x, F x → B ≤ x) : Below B w b :=
  h.trans (hk.below hB (fun x hx hf => Nat.lt_irrefl _ (Nat.lt_of_lt_of_le hx (hF x hf))))
theorem tabF_ge {p B : Nat} {v : Value} (hp : B ≤ p) (hv : ∀ g, v.ownBlock = some g → B ≤ g) : ∀ x, TabF p v x → B ≤ x := fun x h => h.elim (fun e => e ▸ hp) (hv x)
set_option maxRecDepth 10000 in
theorem hansFull_walk (w : World) (a0 : Int) (w0 : (Lit.int .u8 a0).wf = true) (a1 : Int) (w1 : (Lit.int .u16 a1).wf = true) :
    Calls Try.prog 13 #[.int .u8 a0, .int .u16 a1] w fun e w' => e = .returned (.bool true) ∧ Below w.heap.size w w' := by
  have b0 := bounds_u8 w0
  have b1 := bounds_u16 w1
  go_enter Try.func13, Try.ntmps13
  go_wp2_with (first
    | (go_at_call 33; refine (new_calls _ _ _ _ [] rfl (by decide) (fun h => absurd h (by decide)) (fun _ h => absurd h (by simp))).mono ?_; rintro e w1 ⟨p, v, rfl, ht, hp, hv, hb⟩; have HT := Lib.hid ht; have HV := Lib.hid hv; have HB := Lib.hid hb; clear ht hv hb))
  go_loopw [7, 8, 9, 10] (fun got i _ _ wr => ∃ (k : Nat) (v : Value) (hs : List Han), (k : Int) ≤ a0 % 24 ∧ i = .int .i64 k ∧ got = .int .i64 hs.length ∧ hs.length = min k 16 ∧ Hid (Tab wr p v hs) ∧ Hid (∀ g, v.ownBlock = some g → w.heap.size ≤ g) ∧ Below w.heap.size w wr ∧ w.heap.size ≤ wr.heap.size) (fun _ i _ _ _ => (a0 % 24).toNat - (intOf i).toNat)
  case atStart => exact ⟨0, v, [], by omega, rfl, rfl, rfl, HT, HV, HB.out, HB.out.size⟩
  case round =>
    obtain ⟨k, v, hs, hk, rfl, rfl, hl, HT, HV, hb, hsz⟩ := hrel
    have hmod : (k : Int).tmod 4 = (k : Int) % 4 := Int.tmod_eq_emod_of_nonneg (by omega)
    by_cases hlt : (k : Int) < a0 % 24
    · by_cases h16 : hs.length < 16
      · go_wp2_with (first
          | (go_at_call 34; go_loud (refine (open_room _ _ _ _ HT.out h16 _ _ (WalkArith.wf_i64 (by omega)) (WalkArith.wf_u64 (by omega))).mono ?_); rintro e w2 ⟨v2, rfl, ht, hv, hk2⟩; have HT2 := Lib.hid ht; have HV2 := Lib.hid (own_ge2 HV.out hv hsz); have hb2 := keeps_low hb hk2 hsz (tabF_ge hp HV.out); have hs2 := Nat.le_trans hsz hk2.size; clear ht hv hk2)
          | (go_at_call 36; refine (close_calls _ _ _ _ HT2.out (by simp; omega) _ (WalkArith.wf_u64 (by omega))).mono ?_; rintro e w4 ⟨rfl, ht, hk⟩; have HT4 := Lib.hid ht; have hb4 := keeps_low hb2 hk hs2 HV2.out; have hs4 := Nat.le_trans hs2 hk.size; clear ht hk))
        all_goals go_roundw
        all_goals first
          | (case rel => exact ⟨k + 1, v2, _, by omega, by go_num, congrArg (Value.int .i64) (by rw [shutAt_length, List.length_append, List.length_singleton, hl]; rfl), by rw [shutAt_length, List.length_append, List.length_singleton]; omega, HT4, HV2, hb4, hs4⟩)
          | (case rel => exact ⟨k + 1, v2, _, by omega, by go_num, congrArg (Value.int .i64) (by rw [List.length_append, List.length_singleton, hl]; rfl), by rw [List.length_append, List.length_singleton]; omega, HT2, HV2, hb2, hs2⟩)
          | (case measure => simp [intOf]; omega)
      · go_wp2_with (first
          | (go_at_call 34; refine (open_full _ _ _ _ HT.out (by omega) (by omega) _ _).mono ?_; rintro e w2 ⟨rfl, rfl⟩))
        go_roundw
        case rel => exact ⟨k + 1, v, hs, by omega, by go_num, by rw [hl], by omega, HT, HV, hb, hsz⟩
        case measure => simp [intOf]; omega
    · have hkk : (k : Int) = a0 % 24 := by omega
      have hl2 : ((hs.length : Nat) : Int) = if 16 < a0 % 24 then 16 else a0 % 24 := by split <;> omega
      have hm := Lib.hid (show hs.length ≤ 1000000 by omega)
      have HL := Lib.hid hl2
      clear hl
      by_cases h16 : 16 < a0 % 24
      all_goals
        (first | rw [if_pos h16] at hl2 | rw [if_neg h16] at hl2)
        go_wp2_with (first
          | (go_at_call 32; refine (hansAnswers_calls _).mono ?_; rintro e w5 ⟨rfl, hb5⟩; have HT5 := Lib.hid (HT.out.keeps (Keeps.of_below (F := fun _ => False) hb5) (fun h => h) (fun _ _ h => h)))
          | (go_at_call 38; refine (tlist_calls _ _ _ _ HT5.out hm.out).mono ?_; rintro e w6 ⟨A, c, rfl, ho, hg, hb6⟩))
        go_ret
        exact ⟨rfl, (hb.trans (hb5.mono hsz)).trans (hb6.mono (Nat.le_trans hsz hb5.size))⟩
end Go.Proofs.Ytmadgnfnljnggaa
