/- The walks of PackBack, PackReads, PackMost. -/
import Derived.Test.YtmcjjikhdjoopaaPackLaws
namespace Go.Proofs.Ytmcjjikhdjoopaa
open Go.RowKit
set_option linter.unusedVariables false
theorem row_isB {S : Nat → Prop} {w : World} {A : Option Addr} {l : List (List Int)} (h : kB.Row S w A l) : ∀ p ∈ l, isB p := by
  intro p hp
  obtain ⟨k, hk⟩ := List.getElem?_of_mem hp
  obtain ⟨b, o, B, c, rfl, _, _, _, hr⟩ := row_sl_at h hk
  obtain ⟨cells, hf, _⟩ := hr.flat
  exact (byte_flat.1 hf).2
theorem joinB_len {l : List (List Int)} {M : Nat} (hn : l.length < 18446744073709551616) (hM : M < 18446744073709551616) (h : ∀ p ∈ l, p.length ≤ M) : (joinB l).length ≤ 10 + l.length * (M + 10) := by
  have h1 := varB_ten hn
  have h2 := partsB_len hM h
  unfold joinB
  rw [List.length_append]
  omega
theorem refSplit_no {bs : List Int} {most : Int} {e : Ending} {w' : World} (h : RefSplitPost bs most e w') (hs : splitB bs most = none) : ∃ v, e = .returned (.tuple #[v, .bool false]) := by
  rcases h with ⟨_, h1⟩ | ⟨l', A, c, h1, _⟩
  · exact h1
  · rw [hs] at h1; cases h1
theorem refSplit_ok {bs : List Int} {most : Int} {e : Ending} {w' : World} {l : List (List Int)} (h : RefSplitPost bs most e w') (hs : splitB bs most = some l) : ∃ A c, e = .returned (.tuple #[.slice A l.length c, .bool true]) ∧ l.length ≤ c ∧ kB.Row (fun b => b < w'.heap.size) w' A l := by
  rcases h with ⟨h1, _⟩ | ⟨l', A, c, h1, h2, h3, _, h4⟩
  · rw [hs] at h1; cases h1
  · rw [hs] at h1; cases h1
    exact ⟨A, c, h2, h3, h4⟩
theorem partsB_ge (l : List (List Int)) : l.length ≤ (partsB l).length := by
  induction l with
  | nil => simp
  | cons p l ih =>
    have := varB_pos p.length
    rw [partsB_cons, List.length_append, List.length_append, List.length_cons]
    omega
theorem splitB_len {bs : List Int} {most : Int} {l : List (List Int)} (hB : isB bs) (h : splitB bs most = some l) : l.length ≤ bs.length := by
  have h1 := splitB_only hB h
  have h2 := partsB_ge l
  rw [h1]
  unfold joinB
  rw [List.length_append]
  omega
theorem splitB_part {bs : List Int} {most : Int} {l : List (List Int)} (hB : isB bs) (h : splitB bs most = some l) : ∀ p ∈ l, p.length ≤ bs.length := by
  intro p hp
  have h1 := splitB_only hB h
  have h2 := partsB_part hp
  rw [h1]
  unfold joinB
  rw [List.length_append]
  omega
theorem all_of {α : Type} {l : List α} {Q : α → Prop} {n : Nat} (hn : l.length = n) (h : ∀ j, j < n → ∀ p, l[j]? = some p → Q p) : ∀ p ∈ l, Q p := by
  intro p hp
  obtain ⟨k, hk⟩ := List.getElem?_of_mem hp
  exact h k (by have := (List.getElem?_eq_some_iff.1 hk).1; omega) p hk
set_option maxRecDepth 100000 in
set_option maxHeartbeats 4000000 in
theorem packBack_walk (w : World) (A0 : Option Addr) (c0 : Nat) (x0 : List (List Int)) (l0 : x0.length ≤ c0) (m0 : x0.length ≤ 140737488351232) (row0 : kB.Row (· < w.heap.size) w A0 x0) (a1 : Int) (w1 : (Lit.int .i64 a1).wf = true) :
    Calls Try.prog 4 #[.slice A0 x0.length c0, .int .i64 a1] w fun e w' => e = .returned (.bool true) ∧ Below w.heap.size w w' := by
  obtain ⟨n, hn⟩ : ∃ n, x0.length = n := ⟨_, rfl⟩
  have ha := bounds_i64 w1
  rw [hn] at l0 m0 ⊢
  have HN := Lib.hid hn
  have HR := Lib.hid row0
  clear row0 hn w1
  by_cases hbig : 300 < n
  · go_enter Try.func4, Try.ntmps4
    go_wp2_with (go_at_call 18; refine (packAnswers_calls _).mono ?_; rintro e w5 ⟨rfl, hb5⟩)
    go_ret
    exact ⟨rfl, hb5⟩
  · have hn300 : n ≤ 300 := by omega
    go_enter Try.func4, Try.ntmps4
    go_wp2
    go_loopw [5] (fun ix wr => ∃ k : Nat, k ≤ n ∧ ix = .int .i64 k ∧ wr = w ∧ Hid (∀ j, j < k → ∀ p, x0[j]? = some p → p.length ≤ 1000)) (fun ix _ => n - (intOf ix).toNat)
    case atStart => exact ⟨0, Nat.zero_le _, rfl, rfl, Lib.hid (fun j hj => by omega)⟩
    case round =>
      obtain ⟨k, hk, rfl, rfl, HA⟩ := hrel
      by_cases hlt : k < n
      · obtain ⟨p, hp⟩ : ∃ p, x0[k]? = some p := ⟨_, List.getElem?_eq_getElem (by have := HN.out; omega)⟩
        obtain ⟨b, o, B, c, rfl, hSb, hcell, _, _⟩ := row_sl_at HR.out hp
        obtain ⟨q, hq⟩ : ∃ q, p.length = q := ⟨_, rfl⟩
        rw [hq] at hcell
        by_cases hq1 : 1000 < q
        · clear hp hq
          go_wp2_with (go_at_call 18; refine (packAnswers_calls _).mono ?_; rintro e w5 ⟨rfl, hb5⟩)
          go_ret
          exact ⟨rfl, hb5⟩
        · have HA1 : Hid (∀ j, j < k + 1 → ∀ p, x0[j]? = some p → p.length ≤ 1000) := Lib.hid (fun j hj p' hp' => by
            by_cases e : j = k
            · subst e
              rw [hp] at hp'
              cases hp'
              omega
            · exact HA.out j (by omega) p' hp')
          clear hp hq
          go_wp2
          go_roundw
          case rel => exact ⟨k + 1, by omega, by go_num, trivial, HA1⟩
          case measure => simp [intOf]; omega
      · obtain rfl : k = n := by omega
        have hall := all_of HN.out HA.out
        have HAll := Lib.hid hall
        have hT : (partsB x0).length ≤ 303000 := by have := partsB_len (M := 1000) (by decide) hall; rw [HN.out] at this; omega
        have HT := Lib.hid hT
        obtain ⟨L, hL⟩ : ∃ L, (joinB x0).length = L := ⟨_, rfl⟩
        have hL1 : L ≤ 303010 := by have := joinB_len (M := 1000) (by rw [HN.out]; omega) (by decide) hall; rw [HN.out] at this; omega
        have HL := Lib.hid hL
        have HBj := Lib.hid (joinB_isB (row_isB HR.out))
        have hsp := splitB_back x0 (fun p hp => by have := hall p hp; omega) (by rw [HN.out]; omega) a1
        rw [HN.out] at hsp
        have hways : ((k : Int) ≤ a1 ∧ Hid (splitB (joinB x0) a1 = some x0)) ∨ (a1 < (k : Int) ∧ Hid (splitB (joinB x0) a1 = none)) := by
          by_cases h : (k : Int) ≤ a1
          · exact .inl ⟨h, Lib.hid (by rw [hsp, if_pos h])⟩
          · exact .inr ⟨by omega, Lib.hid (by rw [hsp, if_neg h])⟩
        clear hall hT hL hsp
        rcases hways with ⟨h1, HS⟩ | ⟨h1, HS⟩
        · have hd : decide (a1 < (k : Int)) = false := decide_eq_false (by omega)
          go_wp2_with (first
            | (go_at_call 19; refine (join_calls _ _ _ _ x0 HN.out (by omega) 303000 HT.out (by decide) (fun b hb => hb) HR.out).mono ?_; rw [HL.out]; rintro e w2 ⟨A2, c2, rfl, ho, hb⟩; have HO2 := Lib.hid ho; have HB2 := Lib.hid hb; have hs2 := hb.size; clear ho hb)
            | (go_at_call 20; refine (split_calls _ _ _ _ (joinB x0) HL.out (by omega) (own_lie HO2.out) HBj.out a1 ha).mono ?_; rintro e w3 ⟨hp, hb⟩; obtain ⟨A3, c3, rfl, hc3, hr3⟩ := split_ok hp HS.out; rw [HN.out]; have HR3 := Lib.hid hr3; have HO3 := Lib.hid (own_below HO2.out hb); have HB3 := Lib.hid (HB2.out.trans (hb.mono hs2)); have hs3 := HB3.out.size; clear hp hb hr3 hc3)
            | (go_at_call 22; refine (refJoin_calls (S := (· < wr.heap.size)) _ _ _ _ x0 HN.out (by omega) HAll.out (fun b hb => Nat.lt_of_lt_of_le hb hs3) (HR.out.keep (fun b hb => HB3.out.block b hb))).mono ?_; rw [HL.out]; rintro e w4 ⟨A4, c4, rfl, ho, hb⟩; have HO4 := Lib.hid ho; have HOb := Lib.hid (own_below HO3.out hb); have HB4 := Lib.hid (HB3.out.trans (hb.mono hs3)); have hs4 := HB4.out.size; have HR4 : Hid (kB.Row (· < w4.heap.size) w4 A3 x0) := Lib.hid ((HR3.out.keep (fun b h => hb.block b h.2)).mono (fun b h => Nat.lt_of_lt_of_le h.2 hb.size)); clear ho hb)
            | (go_at_call 21; refine (same_eq _ _ _ _ _ _ (joinB x0) HL.out (by omega) (fun b hb => (HOb.out.lt b hb).2) (fun b hb => (HO4.out.lt b hb).2) (own_brow HOb.out HL.out HBj.out (by omega)) (own_brow HO4.out HL.out HBj.out (by omega))).mono ?_; rintro e w5 ⟨rfl, hb⟩; have HB5 := Lib.hid (HB4.out.trans (hb.mono hs4)); have hs5 := HB5.out.size; have HR5 : Hid (kB.Row (· < w5.heap.size) w5 A3 x0) := Lib.hid ((HR4.out.keep (fun b h => hb.block b h)).mono (fun b h => Nat.lt_of_lt_of_le h hb.size)); clear hb)
            | (go_at_call 18; refine (packAnswers_calls _).mono ?_; rintro e w6 ⟨rfl, hb⟩; have HB6 := Lib.hid (HB5.out.trans (hb.mono hs5)); have hs6 := HB6.out.size; have HR6 : Hid (kB.Row (· < w6.heap.size) w6 A3 x0) := Lib.hid ((HR5.out.keep (fun b h => hb.block b h)).mono (fun b h => Nat.lt_of_lt_of_le h hb.size)); clear hb)
            | (go_at_call 23; refine (parts_eq (T := (· < wr.heap.size)) _ _ _ _ _ _ x0 HN.out (by omega) (fun p hp => by have := HAll.out p hp; omega) (fun b hb => hb) (fun b hb => Nat.lt_of_lt_of_le hb hs6) HR6.out (HR.out.keep (fun b hb => HB6.out.block b hb))).mono ?_; rintro e w7 ⟨rfl, hb⟩; have HB7 := Lib.hid (HB6.out.trans (hb.mono hs6)); clear hb))
          go_ret
          exact ⟨rfl, HB7.out⟩
        · have hd : decide (a1 < (k : Int)) = true := decide_eq_true (by omega)
          go_wp2_with (first
            | (go_at_call 19; refine (join_calls _ _ _ _ x0 HN.out (by omega) 303000 HT.out (by decide) (fun b hb => hb) HR.out).mono ?_; rw [HL.out]; rintro e w2 ⟨A2, c2, rfl, ho, hb⟩; have HO2 := Lib.hid ho; have HB2 := Lib.hid hb; have hs2 := hb.size; clear ho hb)
            | (go_at_call 20; refine (split_calls _ _ _ _ (joinB x0) HL.out (by omega) (own_lie HO2.out) HBj.out a1 ha).mono ?_; rintro e w3 ⟨hp, hb⟩; obtain rfl := split_no hp HS.out; have HO3 := Lib.hid (own_below HO2.out hb); have HB3 := Lib.hid (HB2.out.trans (hb.mono hs2)); have hs3 := HB3.out.size; clear hp hb)
            | (go_at_call 22; refine (refJoin_calls (S := (· < wr.heap.size)) _ _ _ _ x0 HN.out (by omega) HAll.out (fun b hb => Nat.lt_of_lt_of_le hb hs3) (HR.out.keep (fun b hb => HB3.out.block b hb))).mono ?_; rw [HL.out]; rintro e w4 ⟨A4, c4, rfl, ho, hb⟩; have HO4 := Lib.hid ho; have HOb := Lib.hid (own_below HO3.out hb); have HB4 := Lib.hid (HB3.out.trans (hb.mono hs3)); have hs4 := HB4.out.size; clear ho hb)
            | (go_at_call 21; refine (same_eq _ _ _ _ _ _ (joinB x0) HL.out (by omega) (fun b hb => (HOb.out.lt b hb).2) (fun b hb => (HO4.out.lt b hb).2) (own_brow HOb.out HL.out HBj.out (by omega)) (own_brow HO4.out HL.out HBj.out (by omega))).mono ?_; rintro e w5 ⟨rfl, hb⟩; have HB5 := Lib.hid (HB4.out.trans (hb.mono hs4)); have hs5 := HB5.out.size; clear hb)
            | (go_at_call 18; refine (packAnswers_calls _).mono ?_; rintro e w6 ⟨rfl, hb⟩; have HB6 := Lib.hid (HB5.out.trans (hb.mono hs5)); clear hb))
          go_ret
          exact ⟨rfl, HB6.out⟩
set_option maxRecDepth 100000 in
set_option maxHeartbeats 4000000 in
theorem packReads_walk (w : World) (A0 : Option Addr) (c0 : Nat) (x0 : List Int) (l0 : x0.length ≤ c0) (m0 : x0.length ≤ 140737488351232) (row0 : (Rd.int .u8).Row (· < w.heap.size) w A0 x0) (a1 : Int) (w1 : (Lit.int .i64 a1).wf = true) :
    Calls Try.prog 5 #[.slice A0 x0.length c0, .int .i64 a1] w fun e w' => e = .returned (.bool true) ∧ Below w.heap.size w w' := by
  obtain ⟨n, hn⟩ : ∃ n, x0.length = n := ⟨_, rfl⟩
  have ha := bounds_i64 w1
  rw [hn] at l0 m0 ⊢
  obtain ⟨cells, hfl, hlie⟩ := row0.flat
  obtain ⟨rfl, hB⟩ := byte_flat.1 hfl
  rw [hn] at hlie
  have HN := Lib.hid hn
  have HR := Lib.hid row0
  have HL := Lib.hid hlie
  have HB := Lib.hid hB
  clear row0 hn w1 hfl hlie hB
  by_cases hbig : 3000 < n
  · go_enter Try.func5, Try.ntmps5
    go_wp2_with (go_at_call 18; refine (packAnswers_calls _).mono ?_; rintro e w5 ⟨rfl, hb5⟩)
    go_ret
    exact ⟨rfl, hb5⟩
  · have hc63 : ∃ c1 : Nat, c1 = c0 := ⟨_, rfl⟩
    have hways : Hid (splitB x0 a1 = none) ∨ ∃ l, Hid (splitB x0 a1 = some l) := by
      cases h : splitB x0 a1 with
      | none => exact .inl (Lib.hid rfl)
      | some l => exact .inr ⟨l, Lib.hid rfl⟩
    rcases hways with HS | ⟨l, HS⟩
    · go_enter Try.func5, Try.ntmps5
      go_wp2_with (first
        | (go_at_call 20; refine (split_calls _ _ _ _ x0 HN.out (by omega) HL.out HB.out a1 ha).mono ?_; rintro e w3 ⟨hp, hb⟩; obtain rfl := split_no hp HS.out; have HB3 := Lib.hid hb; have hs3 := hb.size; clear hp hb)
        | (go_at_call 24; refine (refSplit_calls (S := (· < w.heap.size)) _ _ _ _ x0 HN.out (by omega) l0 (fun b hb => Nat.lt_of_lt_of_le hb hs3) (HR.out.keep (fun b hb => HB3.out.block b hb)) HB.out a1 ha).mono ?_; rintro e w4 ⟨hp, hb⟩; obtain ⟨v, rfl⟩ := refSplit_no hp HS.out; have HB4 := Lib.hid (HB3.out.trans (hb.mono hs3)); have hs4 := HB4.out.size; clear hp hb)
        | (go_at_call 18; refine (packAnswers_calls _).mono ?_; rintro e w6 ⟨rfl, hb⟩; have HB6 := Lib.hid (HB4.out.trans (hb.mono hs4)); clear hb))
      go_ret
      exact ⟨rfl, HB6.out⟩
    · have hl1 := splitB_len HB.out HS.out
      have hl2 := splitB_part HB.out HS.out
      rw [HN.out] at hl1 hl2
      have HL2 := Lib.hid hl2
      obtain ⟨m, hm⟩ : ∃ m, l.length = m := ⟨_, rfl⟩
      have HM := Lib.hid hm
      rw [hm] at hl1
      clear hl2 hm
      go_enter Try.func5, Try.ntmps5
      go_wp2_with (first
        | (go_at_call 20; refine (split_calls _ _ _ _ x0 HN.out (by omega) HL.out HB.out a1 ha).mono ?_; rintro e w3 ⟨hp, hb⟩; obtain ⟨A3, c3, rfl, hc3, hr3⟩ := split_ok hp HS.out; rw [HM.out]; have HR3 := Lib.hid hr3; have HB3 := Lib.hid hb; have hs3 := hb.size; clear hp hb hc3 hr3)
        | (go_at_call 24; refine (refSplit_calls (S := (· < w.heap.size)) _ _ _ _ x0 HN.out (by omega) l0 (fun b hb => Nat.lt_of_lt_of_le hb hs3) (HR.out.keep (fun b hb => HB3.out.block b hb)) HB.out a1 ha).mono ?_; rintro e w4 ⟨hp, hb⟩; obtain ⟨A4, c4, rfl, hc4, hr4⟩ := refSplit_ok hp HS.out; rw [HM.out]; have HR4 := Lib.hid hr4; have HR34 : Hid (kB.Row (· < w4.heap.size) w4 A3 l) := Lib.hid ((HR3.out.keep (fun b h => hb.block b h.2)).mono (fun b h => Nat.lt_of_lt_of_le h.2 hb.size)); have HB4 := Lib.hid (HB3.out.trans (hb.mono hs3)); have hs4 := HB4.out.size; clear hp hb hc4 hr4)
        | (go_at_call 18; refine (packAnswers_calls _).mono ?_; rintro e w6 ⟨rfl, hb⟩; have HR5 : Hid (kB.Row (· < w6.heap.size) w6 A3 l) := Lib.hid ((HR34.out.keep (fun b h => hb.block b h)).mono (fun b h => Nat.lt_of_lt_of_le h hb.size)); have HR6 : Hid (kB.Row (· < w6.heap.size) w6 A4 l) := Lib.hid ((HR4.out.keep (fun b h => hb.block b h)).mono (fun b h => Nat.lt_of_lt_of_le h hb.size)); have HB6 := Lib.hid (HB4.out.trans (hb.mono hs4)); have hs6 := HB6.out.size; clear hb)
        | (go_at_call 23; refine (parts_eq _ _ _ _ _ _ l HM.out (by omega) (fun p hp => by have := HL2.out p hp; omega) (fun b hb => hb) (fun b hb => hb) HR5.out HR6.out).mono ?_; rintro e w7 ⟨rfl, hb⟩; have HB7 := Lib.hid (HB6.out.trans (hb.mono hs6)); clear hb))
      go_ret
      exact ⟨rfl, HB7.out⟩
end Go.Proofs.Ytmcjjikhdjoopaa
