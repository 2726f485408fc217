/- The walk of NumShort. -/
import Derived.Test.YtdgeofeijgflcaaNumLaws
namespace Go.Proofs.Ytdgeofeijgflcaa
open Go.RowKit
set_option linter.unusedVariables false
set_option maxRecDepth 100000 in
set_option maxHeartbeats 4000000 in
theorem numShort_walk (w : World) (A0 : Option Addr) (c0 : Nat) (x0 : (List Int)) (l0 : x0.length ≤ c0) (m0 : x0.length ≤ 140737488351232) (row0 : (Rd.int .u8).Row (· < w.heap.size) w A0 x0) :
    Calls Try.prog 10 #[.slice A0 x0.length c0] w fun e w' => e = .returned (.bool true) ∧ Below w.heap.size w w' := by
  obtain ⟨cells, hfl, hlie⟩ := row0.flat
  obtain ⟨rfl, hB⟩ := byte_flat.1 hfl
  have HL := Lib.hid hlie
  have HB := Lib.hid hB
  have HR0 := Lib.hid row0
  clear hfl hlie row0
  by_cases hbig : 30 < x0.length
  · go_enter Try.func10, Try.ntmps10
    go_wp2_with (go_at_call 18; refine (numAnswers_calls _).mono ?_; rintro e w5 ⟨rfl, hb5⟩)
    go_ret
    exact ⟨rfl, hb5⟩
  · cases hbad : (readV 0 0 x0).bad with
    | true =>
      have HG := Lib.hid hbad
      have HZ := Lib.hid (readV_bad _ 0 0 hbad)
      clear hbad hB
      go_enter Try.func10, Try.ntmps10
      go_wp2_with (first
        | (go_at_call 19; refine (newReader_calls _ _ _ _ x0 rfl (by omega) HL.out HB.out).mono ?_; rintro e w1 ⟨p, S, rfl, hR, hp, hS, hb1⟩; have HR := Lib.hid hR; have HB1 := Lib.hid hb1; clear hR hS hb1)
        | (go_at_call 22; refine (rdVar_calls _ _ _ _ HR.out).mono ?_; rw [HG.out, HZ.out]; rintro e w2 ⟨rfl, hR, hK⟩; have HR2 := Lib.hid hR; have HK2 := Lib.hid hK; clear hR hK)
        | (go_at_call 25; refine (bad_calls _ _ _ _ _ HR2.out).mono ?_; rintro e w3 ⟨rfl, rfl⟩)
        | (go_at_call 18; refine (numAnswers_calls _).mono ?_; rintro e w4 ⟨rfl, hb4⟩))
      go_ret
      have hs1 := HB1.out.size
      have hs2 := HK2.out.size
      exact ⟨rfl, (HB1.out.trans (HK2.out.below hs1 (fun x hx e => by omega))).trans (hb4.mono (by omega))⟩
    | false =>
      obtain ⟨n, hn, e1, e2, e3⟩ := readV_good hB hbad
      obtain ⟨v0, hv0⟩ : ∃ v0, (readV 0 0 x0).val = v0 := ⟨_, rfl⟩
      rw [hv0] at e1 e3
      obtain ⟨L2, hL2⟩ : ∃ L2, (x0.drop (n + 1)).length = L2 := ⟨_, rfl⟩
      have hlen : x0.length = n + 1 + L2 := by rw [← hL2, List.length_drop]; omega
      have hG : readV 0 0 x0 = ⟨v0, x0.drop (n + 1), false⟩ := by
        cases hh : readV 0 0 x0
        rw [hh] at hv0 e2 hbad
        simp only at hv0 e2 hbad
        rw [hv0, e2, hbad]
      have HG := Lib.hid hG
      have HE := Lib.hid e1
      have HL2 := Lib.hid hL2
      have hk : (x0.length : Int) - (L2 : Int) = (n : Int) + 1 := by omega
      have hb10 := varB_ten e3
      have htl : (x0.take (n + 1)).length = n + 1 := by rw [List.length_take]; omega
      have HTL := Lib.hid htl
      have hc2 : n + 1 ≤ c0 := by omega
      have hn1 : n + 1 ≤ 1000000 := by omega
      have hv1 : (varB v0).length ≤ 1000000 := by omega
      have hne : ¬ x0.length = 0 := by omega
      obtain ⟨b, o, rfl, hb0, _⟩ := HR0.out (by omega)
      have hL1 : L2 ≤ 1000000 := by omega
      clear hbad hB e1 e2 hv0 hL2 hlen hG htl hn
      go_enter Try.func10, Try.ntmps10
      go_wp2_with (first
        | (go_at_call 19; refine (newReader_calls _ _ _ _ x0 rfl (by omega) HL.out HB.out).mono ?_; rintro e w1 ⟨p, S, rfl, hR, hp, hS, hb1⟩; have HR := Lib.hid hR; have HB1 := Lib.hid hb1; clear hR hS hb1)
        | (go_at_call 22; refine (rdVar_calls _ _ _ _ HR.out).mono ?_; rw [HG.out]; rintro e w2 ⟨rfl, hR, hK⟩; have HR2 := Lib.hid hR; have HK2 := Lib.hid hK; clear hR hK)
        | (go_at_call 25; refine (bad_calls _ _ _ _ _ HR2.out).mono ?_; rintro e w3 ⟨rfl, rfl⟩)
        | (go_at_call 26; refine (left_calls _ _ _ _ _ HR2.out).mono ?_; rw [HL2.out]; rintro e w4 ⟨rfl, rfl⟩))
      have hs1 := HB1.out.size
      have HB2 := Lib.hid (HB1.out.trans (HK2.out.below hs1 (fun x hx e => by omega)))
      have hs2 := HB2.out.size
      have hw1 : 0 ≤ (n : Int) + 1 := by omega
      have hw2 : ((n : Int) + 1).toNat = n + 1 := by omega
      go_region_with (first
        | (go_at_call 18; refine (numAnswers_calls _).mono ?_; rintro e w5 ⟨rfl, hb5⟩; have HB5 := Lib.hid (HB2.out.trans (show Below w.heap.size _ w5 from ⟨hb5.os, hb5.tape, hb5.output, hb5.size, fun k hk => hb5.block k (Nat.lt_of_lt_of_le hk hs2)⟩)); clear hb5)
        | (go_at_call 27; refine (var_calls _ v0 e3).mono ?_; rintro e w6 ⟨A6, c6, rfl, ho, hb6⟩; have HO6 := Lib.hid ho; have HB6 := Lib.hid (HB5.out.trans (hb6.mono HB5.out.size)); clear ho hb6)
        | (go_at_call 24; refine (same_calls (S := fun b => (Value.slice A6 (varB v0).length c6).ownBlock = some b) (T := (· < w.heap.size)) _ _ _ _ _ _ _ (varB v0) (x0.take (n + 1)) rfl HTL.out hv1 hn1 (fun b hb => (HO6.out.lt b hb).2) (fun b hb => Nat.lt_of_lt_of_le hb HB6.out.size) (own_brow HO6.out rfl (varB_isB v0) hv1) ((row_take HR0.out (n + 1)).keep HB6.out.block)).mono ?_; rintro e w7 ⟨he, hb7⟩; obtain rfl := he.trans (ret_bool (decide_eq_true HE.out)); have HB7 := Lib.hid (HB6.out.trans (hb7.mono HB6.out.size)); clear he hb7))
      all_goals
        clear hw1 hw2
        go_wp2
        go_ret
        exact ⟨rfl, HB7.out⟩
end Go.Proofs.Ytdgeofeijgflcaa
