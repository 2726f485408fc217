/- The walk of NumWrites. -/
import Derived.Test.YtdgeofeijgflcaaNumLaws
import Derived.Test.YtdgeofeijgflcaaFixed
namespace Go.Proofs.Ytdgeofeijgflcaa
open Go.RowKit
set_option linter.unusedVariables false
theorem leB_snoc (p : List Int) (c : Int) : leB (p ++ [c]) = leB p + c.toNat % 256 * 256 ^ p.length := by
  induction p with
  | nil => simp [leB]
  | cons b p ih =>
    show b.toNat % 256 + 256 * leB (p ++ [c]) = b.toNat % 256 + 256 * leB p + _
    rw [ih, List.length_cons, Nat.pow_succ, Nat.mul_add]
    have : 256 * (c.toNat % 256 * 256 ^ p.length) = c.toNat % 256 * (256 ^ p.length * 256) := by ac_rfl
    omega
theorem leB_fixB (v k : Nat) : leB (fixB v k) = v % 256 ^ k := by
  induction k with
  | zero => simp [fixB, leB, Nat.mod_one]
  | succ k ih =>
    rw [fixB_succ, leB_snoc, ih, fixB_len, Nat.pow_succ, Nat.mod_mul]
    have e : ((v / 256 ^ k % 256 : Nat) : Int).toNat % 256 = v / 256 ^ k % 256 := by omega
    rw [e, Nat.mul_comm]
set_option maxRecDepth 100000 in
set_option maxHeartbeats 4000000 in
theorem numWrites_walk (w : World) (a0 : Int) (w0 : (Lit.int .u64 a0).wf = true) (a1 : Int) (w1 : (Lit.int .i64 a1).wf = true) (A2 : Option Addr) (c2 : Nat) (x2 : (List Int)) (l2 : x2.length ≤ c2) (m2 : x2.length ≤ 140737488351232) (row2 : (Rd.int .u8).Row (· < w.heap.size) w A2 x2) :
    Calls Try.prog 14 #[.int .u64 a0, .int .i64 a1, .slice A2 x2.length c2] w fun e w' => e = .returned (.bool true) ∧ Below w.heap.size w w' := by
  obtain ⟨cells, hfl, hlie⟩ := row2.flat
  obtain ⟨rfl, hB⟩ := byte_flat.1 hfl
  have b0 := bounds_u64 w0
  obtain ⟨v, rfl⟩ := Int.eq_ofNat_of_zero_le b0.1
  have hv : v < 18446744073709551616 := by omega
  have HL := Lib.hid hlie
  have HB := Lib.hid hB
  clear hfl hlie row2 hB w0 w1 b0
  by_cases hbig : 100 < x2.length
  · go_enter Try.func14, Try.ntmps14
    go_wp2_with (go_at_call 18; refine (numAnswers_calls _).mono ?_; rintro e w5 ⟨rfl, hb5⟩)
    go_ret
    exact ⟨rfl, hb5⟩
  · obtain ⟨k, hk⟩ : ∃ k, k = cnt a1 := ⟨_, rfl⟩
    have hk8 : k ≤ 8 := hk ▸ cnt_le a1
    have HK := Lib.hid hk
    obtain ⟨L, hL⟩ : ∃ L, L = (varB v).length := ⟨_, rfl⟩
    have hL10 : L ≤ 10 := hL ▸ varB_ten hv
    have HLv := Lib.hid hL
    have hfx := Lib.hid (fixB_len v k)
    have hall := Lib.hid (show (fixB v k ++ varB v ++ x2).length = k + L + x2.length by rw [List.length_append, List.length_append, fixB_len, hL])
    have hBall := Lib.hid (show isB (fixB v k ++ varB v ++ x2) from isB_append (isB_append (fixB_isB v k) (varB_isB v)) HB.out)
    have htk := Lib.hid (show leB ((fixB v k ++ varB v ++ x2).take (cnt a1)) = v % 256 ^ k by
      rw [← hk, List.append_assoc, List.take_left' (fixB_len v k), leB_fixB])
    have hdr := Lib.hid (show (fixB v k ++ varB v ++ x2).drop (cnt a1) = varB v ++ x2 by
      rw [← hk, List.append_assoc, List.drop_left' (fixB_len v k)])
    have hrd := Lib.hid (readV_back v x2 hv)
    obtain ⟨want, hwant⟩ : ∃ want, want = v % 256 ^ k := ⟨_, rfl⟩
    have HW := Lib.hid hwant
    have hP : k < 8 → IntKind.u64.wrap (2 ^ (8 * k)) = ((256 ^ k : Nat) : Int) := fun h => by
      have e1 : ((2 : Int) ^ (8 * k)) = ((256 ^ k : Nat) : Int) := by
        have h : (2 : Nat) ^ (8 * k) = 256 ^ k := by rw [Nat.pow_mul]
        have h2 : ((2 : Int) ^ (8 * k)) = ((2 ^ (8 * k) : Nat) : Int) := by rw [Int.natCast_pow]; rfl
        rw [h2, h]
      have h3 : (256 : Nat) ^ k ≤ 256 ^ 7 := Nat.pow_le_pow_right (by decide) (by omega)
      have h4 : (256 : Nat) ^ 7 = 72057594037927936 := by decide +kernel
      rw [e1, IntKind.wrap_u64]
      generalize (256 : Nat) ^ k = P at *
      omega
    obtain ⟨P, hPe⟩ : ∃ P, P = 256 ^ k := ⟨_, rfl⟩
    rw [← hPe] at hP
    have hP1 : 1 ≤ P := by rw [hPe]; exact Nat.pow_pos (by decide)
    have hmod : (v : Int) % (P : Int) = (want : Int) := by rw [hwant, ← hPe]; exact (Int.natCast_emod v P).symm
    have hbig8 : ¬ k < 8 → want = v := fun h => by
      have e8 : k = 8 := by omega
      have h4 : (256 : Nat) ^ 8 = 18446744073709551616 := by decide +kernel
      rw [hwant, e8, h4]
      exact Nat.mod_eq_of_lt hv
    have hway : (k < 8 ∧ IntKind.u64.wrap (2 ^ (8 * k)) = (P : Int)) ∨ (¬ k < 8 ∧ Hid (want = v)) := by
      by_cases h : k < 8
      · exact .inl ⟨h, hP h⟩
      · exact .inr ⟨h, Lib.hid (hbig8 h)⟩
    clear hk hL hwant hP hPe hbig8
    have hk1 : k ≤ 1000000 := by omega
    have hL1 : L ≤ 1000000 := by omega
    rcases hway with ⟨hk7, hwr⟩ | ⟨hk7, hwe⟩
    all_goals (try (have e := hwe.out.symm; subst e; clear hwe hmod))
    all_goals
      go_enter Try.func14, Try.ntmps14
      go_wp2_with (first
        | (go_at_call 29; refine (fixed_calls w v a1 hv).mono ?_; rintro e w1 ⟨A1, c1, rfl, ho, hb⟩; rw [← HK.out] at ho ⊢; have HO1 := Lib.hid ho; have HB1 := Lib.hid hb; clear ho hb)
        | (go_at_call 27; refine (var_calls w1 v hv).mono ?_; rintro e w3 ⟨A3, c3, rfl, ho, hb⟩; rw [← HLv.out] at ho ⊢; have HO3 := Lib.hid ho; have HB3 := Lib.hid hb; clear ho hb)
        | (at_builtin; refine list_app _ rfl (.tmp 25) (.tmp 26) _ rfl 5 Try.underlying35 byte_info rfl (by decide) (by decide) w3.heap.size rfl (World.ownsRow_made w3 #[] 0 (Nat.le_refl _) (Nat.zero_le _) rfl) rfl (by rw [bcells_length, hfx.out]) (by exact (own_lie (own_below HO1.out HB3.out)).below ((Below.refl _ _).alloc (Nat.le_refl _) _)) (bcells_one _) (by omega) (by simp) ?_; intro v' w4 hown hg hat; have hB := grown_below ((Below.refl w3.heap.size w3).alloc (Nat.le_refl _) _) hg (by simp) (.inr ⟨_, rfl, Nat.le_refl _⟩); simp only [Nat.zero_add, List.nil_append] at hown; obtain ⟨A4, c4, rfl, hn4, _, _⟩ := own_shape hown; have HO4 := Lib.hid hown; have HB4 := Lib.hid hB; have hs4 := hB.size; clear hown hg hat hB)
        | (at_builtin; refine list_app _ rfl (.tmp 27) (.tmp 28) _ rfl 5 Try.underlying35 byte_info rfl (by decide) (by decide) w3.heap.size rfl HO4.out rfl (by rw [bcells_length, ← HLv.out]) (by exact (own_lie (own_below HO3.out HB4.out))) (bcells_one _) (by omega) (by omega) ?_; intro v' w5 hown hg hat; have hB := grown_below HB4.out hg (by omega) (own_ge HO4.out); rw [← bcells_append] at hown; obtain ⟨A5, c5, rfl, hn5, _, _⟩ := own_shape hown; have HO5 := Lib.hid hown; have HB5 := Lib.hid hB; have hs5 := hB.size; clear hown hg hat hB)
        | (at_builtin; refine list_app _ rfl (.tmp 29) (.tmp 30) _ rfl 5 Try.underlying35 byte_info rfl (by decide) (by decide) w3.heap.size rfl HO5.out rfl (bcells_length _) (by exact HL.out.below (((HB1.out.trans (HB3.out.mono HB1.out.size)).trans (HB5.out.mono (Nat.le_trans HB1.out.size HB3.out.size))))) (bcells_one _) (by omega) (by omega) ?_; intro v' w6 hown hg hat; have hB := grown_below HB5.out hg (by omega) (own_ge HO5.out); rw [← bcells_append] at hown; obtain ⟨A6, c6, rfl, hn6, _, _⟩ := own_shape hown; have HO6 := Lib.hid hown; have HB6 := Lib.hid hB; have hs6 := hB.size; clear hown hg hat hB)
        | (go_at_call 19; refine (newReader_calls _ _ _ _ (fixB v k ++ varB v ++ x2) hall.out (by omega) (own_lie HO6.out) hBall.out).mono ?_; rintro e w7 ⟨p, S, rfl, hR, hp, hS, hb7⟩; have HR7 := Lib.hid hR; have HB7 := Lib.hid (HB6.out.trans (hb7.mono (by omega))); have hp3 : w3.heap.size ≤ p := by omega
           clear hR hS hb7)
        | (go_at_call 20; refine (rdFixed_ok _ _ _ _ HR7.out a1 (by rw [hall.out, ← HK.out]; omega)).mono ?_; rw [htk.out, hdr.out, ← HW.out]; rintro e w8 ⟨rfl, hR, hK⟩; have HR8 := Lib.hid hR; have HB8 := Lib.hid (HB7.out.trans (hK.below HB7.out.size (fun x hx e => by omega))); clear hR hK)
        | (go_at_call 22; refine (rdVar_calls _ _ _ _ HR8.out).mono ?_; rw [hrd.out]; rintro e w9 ⟨rfl, hR, hK⟩; have HR9 := Lib.hid hR; have HB9 := Lib.hid (HB8.out.trans (hK.below HB8.out.size (fun x hx e => by omega))); clear hR hK)
        | (go_at_call 18; refine (numAnswers_calls _).mono ?_; rintro e w10 ⟨rfl, hb10⟩; have HB10 := Lib.hid (HB9.out.trans (hb10.mono HB9.out.size)); have HR10 := Lib.hid (HR9.out.below hb10); clear hb10)
        | (go_at_call 30; refine (refFixed_calls _ v a1 hv).mono ?_; rintro e w11 ⟨A11, c11, rfl, ho, hb11⟩; rw [← HK.out] at ho ⊢; have HO11 := Lib.hid ho; have HB11 := Lib.hid (HB10.out.trans (hb11.mono HB10.out.size)); have HR11 := Lib.hid (HR10.out.below hb11); clear ho hb11)
        | (go_at_call 24; have tok := hfx; refine (same_calls (S := fun b => (Value.slice A1 k c1).ownBlock = some b) (T := fun b => (Value.slice A11 k c11).ownBlock = some b) _ _ _ _ _ _ _ (fixB v k) (fixB v k) (fixB_len v k) (fixB_len v k) hk1 hk1 (fun b hb => Nat.lt_of_lt_of_le (Nat.lt_of_lt_of_le (HO1.out.lt b hb).2 HB3.out.size) HB11.out.size) (fun b hb => (HO11.out.lt b hb).2) (own_brow (own_below (own_below HO1.out HB3.out) HB11.out) (fixB_len v k) (fixB_isB v k) hk1) (own_brow HO11.out (fixB_len v k) (fixB_isB v k) hk1)).mono ?_; rintro e w12 ⟨he, hb12⟩; obtain rfl := he.trans (ret_bool (decide_eq_true rfl)); have HB12 := Lib.hid (HB11.out.trans (hb12.mono HB11.out.size)); have HR12 := Lib.hid (HR11.out.below hb12); clear he hb12; clear hfx tok)
        | (go_at_call 28; refine (refVar_calls v _ hv).mono ?_; rintro e w13 ⟨A13, c13, rfl, ho, hb13⟩; rw [← HLv.out] at ho ⊢; have HO13 := Lib.hid ho; have HB13 := Lib.hid (HB12.out.trans (hb13.mono HB12.out.size)); have HR13 := Lib.hid (HR12.out.below hb13); clear ho hb13)
        | (go_at_call 24; refine (same_calls (S := fun b => (Value.slice A3 L c3).ownBlock = some b) (T := fun b => (Value.slice A13 L c13).ownBlock = some b) _ _ _ _ _ _ _ (varB v) (varB v) HLv.out.symm HLv.out.symm hL1 hL1 (fun b hb => Nat.lt_of_lt_of_le (HO3.out.lt b hb).2 HB13.out.size) (fun b hb => (HO13.out.lt b hb).2) (own_brow (own_below HO3.out HB13.out) HLv.out.symm (varB_isB v) hL1) (own_brow HO13.out HLv.out.symm (varB_isB v) hL1)).mono ?_; rintro e w14 ⟨he, hb14⟩; obtain rfl := he.trans (ret_bool (decide_eq_true rfl)); have HB14 := Lib.hid (HB13.out.trans (hb14.mono HB13.out.size)); have HR14 := Lib.hid (HR13.out.below hb14); clear he hb14)
        | (go_at_call 26; refine (left_calls _ _ _ _ _ HR14.out).mono ?_; rintro e w15 ⟨rfl, rfl⟩)
        | (go_at_call 25; refine (bad_calls _ _ _ _ _ HR14.out).mono ?_; rintro e w15 ⟨rfl, rfl⟩))
      go_ret
      exact ⟨rfl, (HB1.out.trans (HB3.out.mono HB1.out.size)).trans (HB14.out.mono (Nat.le_trans HB1.out.size HB3.out.size))⟩
end Go.Proofs.Ytdgeofeijgflcaa
