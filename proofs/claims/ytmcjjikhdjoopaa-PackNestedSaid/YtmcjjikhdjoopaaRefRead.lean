/- The reference's ReadVar. -/
import Derived.Test.YtmcjjikhdjoopaaReadPure
import Derived.Test.YtmcjjikhdjoopaaRefVar
import Derived.Deep.RegionWith
namespace Go.Proofs.Ytmcjjikhdjoopaa
open Go.RowKit
set_option linter.unusedVariables false
theorem or_shift2 (acc d s : Nat) (ha : acc < 2 ^ s) (hs : s ≤ 63) : Go.bits .or .u64 (acc : Int) (IntKind.u64.wrap ((d : Int) * 2 ^ s)) = (((acc + d * 2 ^ s) % 18446744073709551616 : Nat) : Int) := by
  have e64 : 2 ^ (64 - s) * 2 ^ s = 18446744073709551616 := by rw [← Nat.pow_add, show 64 - s + s = 64 by omega]
  have hq := Nat.two_pow_pos (64 - s)
  have hd : d % 2 ^ (64 - s) < 2 ^ (64 - s) := Nat.mod_lt _ hq
  have h1 : d * 2 ^ s % 18446744073709551616 = d % 2 ^ (64 - s) * 2 ^ s := by rw [← e64, Nat.mul_mod_mul_right]
  have hle : (d % 2 ^ (64 - s) + 1) * 2 ^ s ≤ 18446744073709551616 := by rw [← e64]; exact Nat.mul_le_mul_right _ hd
  rw [Nat.add_mul, Nat.one_mul] at hle
  have h2 : (acc + d * 2 ^ s) % 18446744073709551616 = acc + d % 2 ^ (64 - s) * 2 ^ s := by
    generalize d % 2 ^ (64 - s) * 2 ^ s = Q at *
    generalize d * 2 ^ s = R at *
    omega
  have h3 : IntKind.u64.wrap ((d : Int) * 2 ^ s) = IntKind.u64.wrap (((d % 2 ^ (64 - s) : Nat) : Int) * 2 ^ s) := by
    have e1 : ((d : Int) * 2 ^ s) = ((d * 2 ^ s : Nat) : Int) := by rw [Int.natCast_mul, Int.natCast_pow]; rfl
    have e2 : (((d % 2 ^ (64 - s) : Nat) : Int) * 2 ^ s) = ((d % 2 ^ (64 - s) * 2 ^ s : Nat) : Int) := by rw [Int.natCast_mul, Int.natCast_pow]; rfl
    rw [e1, e2, IntKind.wrap_u64, IntKind.wrap_u64]
    generalize d % 2 ^ (64 - s) * 2 ^ s = Q at *
    generalize d * 2 ^ s = R at *
    omega
  rw [h3, or_shift acc _ s ha (by omega), h2]
theorem row_take {S : Nat → Prop} {w : World} {A : Option Addr} {bs : List Int} (h : (Rd.int .u8).Row S w A bs) (k : Nat) : (Rd.int .u8).Row S w A (bs.take k) := fun hp => by
  have hl : 0 < bs.length := by rw [List.length_take] at hp; omega
  obtain ⟨b, o, e, hb, hc⟩ := h hl
  exact ⟨b, o, e, hb, fun i hi => by
    have hi2 : i < bs.length := by rw [List.length_take] at hi; omega
    obtain ⟨cs, hK, hcell⟩ := hc i hi2
    exact ⟨cs, by rw [List.getElem_take]; exact hK, hcell⟩⟩
/-- Owned bytes can be read. -/
theorem own_brow {w : World} {base : Nat} {A : Option Addr} {n c : Nat} {bs : List Int} (h : w.ownsRow base 5 1 (.slice A n c) n (bcells bs)) (hn : bs.length = n) (hB : isB bs) (hm : n ≤ 1000000) : (Rd.int .u8).Row (fun b => (Value.slice A n c).ownBlock = some b) w A bs := by
  subst hn
  obtain ⟨_, _, e, _, _, hr⟩ := Rd.Sl.of_own (d := Rd.int .u8) (S := fun b => (Value.slice A bs.length c).ownBlock = some b) h (fun g hg => hg) (byte_flat.2 ⟨rfl, hB⟩) (by omega)
  cases e
  exact hr
theorem slice_to (w : World) (b o n c k : Nat) (h : k ≤ c) (hc : ¬ c = 0) : (Instr.slice 29 (.slice (some ⟨b, o, none⟩) n c) none (some (.int .i64 (k : Int))) none).run Try.prog w = .ok (.slice (some ⟨b, o, none⟩) k c) w := by
  have hu := Try.underlying29
  simp [Instr.slice, run_underlying hu, go_sem, h]
set_option maxRecDepth 100000 in
set_option maxHeartbeats 4000000 in
theorem refRead_calls {S : Nat → Prop} (w : World) (A : Option Addr) (n c : Nat) (bs : List Int) (hn : bs.length = n) (hm : n ≤ 1000000) (hnc : n ≤ c) (hS : ∀ b, S b → b < w.heap.size) (hr : (Rd.int .u8).Row S w A bs) :
    Calls Try.prog 45 #[.slice A n c] w fun e w' => e = .returned (.tuple #[.int .u64 (refV bs 0 0 bs).1, .int .i64 (refV bs 0 0 bs).2]) ∧ Below w.heap.size w w' := by
  subst hn
  have HR := Lib.hid hr
  clear hr
  go_enter Try.func45, Try.ntmps45
  go_wp2
  go_loopw [4, 5] (fun v i wr => ∃ (k acc : Nat), k ≤ bs.length ∧ k ≤ 10 ∧ v = .int .u64 acc ∧ i = .int .i64 k ∧ acc < 18446744073709551616 ∧ Hid (acc < 2 ^ (7 * k)) ∧ Hid (refV bs k acc (bs.drop k) = refV bs 0 0 bs) ∧ Below w.heap.size w wr) (fun _ i _ => 10 - (intOf i).toNat)
  case atStart => exact ⟨0, 0, Nat.zero_le _, by omega, rfl, rfl, by omega, Lib.hid (by decide), Lib.hid rfl, Below.refl _ _⟩
  case round =>
    obtain ⟨k, acc, hk, hk10, rfl, rfl, hacc, HA, HE, hb⟩ := hrel
    by_cases hend : k < bs.length ∧ k < 10
    · obtain ⟨h1, h2⟩ := hend
      obtain ⟨x, hx⟩ : ∃ x, bs[k]? = some x := ⟨_, List.getElem?_eq_getElem h1⟩
      obtain ⟨b, o, rfl, hSb, c0, f0⟩ := row_u8_at (HR.out.keep (fun b hb' => hb.block b (hS b hb'))) hx
      have hxb := bounds_u8 f0
      obtain ⟨d, rfl⟩ := Int.eq_ofNat_of_zero_le hxb.1
      obtain ⟨m, hm0⟩ : ∃ m, m = (acc + d % 128 * 2 ^ (7 * k)) % 18446744073709551616 := ⟨_, rfl⟩
      have hor : Go.bits .or .u64 (acc : Int) (IntKind.u64.wrap ((d : Int) % 128 * 2 ^ (7 * k))) = (m : Int) := by
        have h := or_shift2 acc (d % 128) (7 * k) HA.out (by omega)
        rw [← hm0] at h
        have e : ((d % 128 : Nat) : Int) = (d : Int) % 128 := by omega
        rw [e] at h
        exact h
      have hm1 : m < 18446744073709551616 := by omega
      have hmle : m ≤ acc + d % 128 * 2 ^ (7 * k) := by rw [hm0]; exact Nat.mod_le _ _
      have HM := Lib.hid hm0
      have HMLE := Lib.hid hmle
      have hstep := Lib.hid (show bs.drop k = (d : Int) :: bs.drop (k + 1) by
        obtain ⟨h, e⟩ := List.getElem?_eq_some_iff.1 hx
        rw [List.drop_eq_getElem_cons h, e])
      clear hx f0 hm0 hmle
      by_cases h128 : d < 128
      · have hv : refV bs 0 0 bs = if varB m = bs.take (k + 1) then (m, k + 1) else (0, 0) := by
          rw [← HE.out, hstep.out, refV, if_neg (by omega), if_pos (by omega)]
          rw [HM.out]
          rfl
        have HV := Lib.hid hv
        have hlen := varB_ten hm1
        have hRt := Lib.hid (row_take (HR.out.keep (fun b hb' => hb.block b (hS b hb'))) (k + 1))
        have htl : (bs.take (k + 1)).length = k + 1 := by rw [List.length_take]; omega
        have hsz := hb.size
        have hc0 : ¬ c = 0 := by omega
        have hsl : ∀ w' : World, (Instr.slice 29 (.slice (some ⟨b, o, none⟩) bs.length c) none (some (.int .i64 ((k : Int) + 1))) none).run Try.prog w' = .ok (.slice (some ⟨b, o, none⟩) (k + 1) c) w' := fun w' => by
          rw [show ((k : Int) + 1) = ((k + 1 : Nat) : Int) from by omega]
          exact slice_to w' b o bs.length c (k + 1) (by omega) hc0
        clear hv
        have hsS : ∀ b, S b → b < wr.heap.size := fun b hb => Nat.lt_of_lt_of_le (hS b hb) hsz
        have HSS := Lib.hid hsS
        clear hsS
        obtain ⟨v, hvb⟩ : ∃ v : Bool, v = decide (varB m = bs.take (k + 1)) := ⟨_, rfl⟩
        have HVB := Lib.hid hvb
        clear hvb
        have hl1 : (varB m).length ≤ 1000000 := by omega
        have hl2 : k + 1 ≤ 1000000 := by omega
        cases v
        all_goals
          go_wp2_with fail
          have hw1 : IntKind.i64.wrap ((k : Int) + 1) = (k : Int) + 1 := by rw [IntKind.wrap_i64]; omega
          have hw3 : 0 ≤ (k : Int) + 1 := by clear hw1; omega
          have hw4 : ((k : Int) + 1).toNat = k + 1 := by clear hw1; omega
          go_region_with (first
            | (go_at_call 44; refine (refVar_calls m _ hm1).mono ?_; rintro e w2 ⟨A2, c2, rfl, ho, hb2⟩; have HO2 := Lib.hid ho; have HB2 := Lib.hid hb2; clear ho hb2)
            | (go_at_call 21; refine (same_calls (S := fun b => (Value.slice A2 (varB m).length c2).ownBlock = some b) (T := S) _ _ _ _ _ _ _ (varB m) (bs.take (k + 1)) rfl htl hl1 hl2 (fun b hb => (HO2.out.lt b hb).2) (fun b hb => Nat.lt_of_lt_of_le (HSS.out b hb) HB2.out.size) (own_brow HO2.out rfl (varB_isB m) hl1) (hRt.out.keep (fun b hb => HB2.out.block b (HSS.out b hb)))).mono ?_; rintro e w3 ⟨he, hb3⟩; obtain rfl := he.trans (ret_bool HVB.out.symm); have HB3 := Lib.hid hb3; clear he hb3))
          all_goals
            clear hw1 hw3 hw4
            go_wp2
            go_ret2
            refine ⟨?_, hb.trans (((show Below wr.heap.size wr w2 from ⟨HB2.out.os, HB2.out.tape, HB2.out.output, HB2.out.size, HB2.out.block⟩).trans (HB3.out.mono HB2.out.size)).mono hsz)⟩
            rw [HV.out]
            first
              | rw [if_pos (of_decide_eq_true HVB.out.symm)]
              | rw [if_neg (of_decide_eq_false HVB.out.symm)]
            try rfl
      · have hd : (refV bs k acc (bs.drop k)) = refV bs (k + 1) m (bs.drop (k + 1)) := by
          rw [hstep.out, refV, if_neg (by omega), if_neg (by omega), HM.out]
          rfl
        have hle : acc + d % 128 * 2 ^ (7 * k) < 2 ^ (7 * (k + 1)) := by
          have e : 2 ^ (7 * (k + 1)) = 128 * 2 ^ (7 * k) := by rw [Nat.mul_add, Nat.pow_add, Nat.mul_comm]
          have h3 : d % 128 * 2 ^ (7 * k) ≤ 127 * 2 ^ (7 * k) := Nat.mul_le_mul_right _ (by omega)
          have h4 := HA.out
          rw [e]
          generalize 2 ^ (7 * k) = P at *
          generalize d % 128 * P = Q at *
          omega
        have HD := Lib.hid (hd.symm.trans HE.out)
        have HLE := Lib.hid (Nat.lt_of_le_of_lt HMLE.out hle)
        clear hd hle
        go_wp2
        go_roundw
        case rel => exact ⟨k + 1, m, by omega, by omega, rfl, by go_num, hm1, HLE, HD, hb⟩
        case measure => simp [intOf]; omega
    · have hz := Lib.hid (show refV bs 0 0 bs = (0, 0) by
        rw [← HE.out]
        by_cases h : k < bs.length
        · rw [List.drop_eq_getElem_cons h, refV, if_pos (by omega)]
        · rw [List.drop_eq_nil_of_le (by omega)]; rfl)
      have hway : ¬ k < bs.length ∨ (k < bs.length ∧ ¬ k < 10) := by omega
      clear hend
      rcases hway with h | ⟨h1, h2⟩
      all_goals
        go_wp2
        go_ret2
        rw [hz.out]
        exact ⟨rfl, hb⟩
end Go.Proofs.Ytmcjjikhdjoopaa
