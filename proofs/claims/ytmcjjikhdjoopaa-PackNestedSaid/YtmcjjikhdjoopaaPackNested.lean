/- The walk of PackNested. -/
import Derived.Test.YtmcjjikhdjoopaaPackWalks
namespace Go.Proofs.Ytmcjjikhdjoopaa
open Go.RowKit
set_option linter.unusedVariables false
theorem row2 {S : Nat → Prop} {w : World} {g : Nat} {t : TypeId} {A B : Option Addr} {n m c d : Nat} {p q : List Int} (h : w.heap[g]? = some (.cells #[.slice A n c, .slice B m d] t (0, 0))) (hg : S g) (hp : p.length = n) (hq : q.length = m) (hc : n ≤ c) (hd : m ≤ d) (hm : n ≤ 1000000) (hm2 : m ≤ 1000000) (hA : (Rd.int .u8).Row S w A p) (hB : (Rd.int .u8).Row S w B q) : kB.Row S w (some ⟨g, 0, none⟩) [p, q] := by
  subst hp; subst hq
  exact Rd.Row.of_blk h hg (Rd.Flat.cons (c := [.slice A p.length c]) ⟨_, rfl, A, c, rfl, hc, by omega, hA⟩ (Rd.Flat.one (d := kB) (c := [.slice B q.length d]) ⟨_, rfl, B, d, rfl, hd, by omega, hB⟩)) (fun j v hj => by simpa using hj)
theorem row_grow {w w' : World} {A : Option Addr} {l : List (List Int)} (h : kB.Row (· < w.heap.size) w A l) (hb : Below w.heap.size w w') : kB.Row (· < w'.heap.size) w' A l := (h.keep (fun b hb' => hb.block b hb')).mono (fun b hb' => Nat.lt_of_lt_of_le hb' hb.size)
theorem brow_grow {w w' : World} {A : Option Addr} {l : List Int} (h : (Rd.int .u8).Row (· < w.heap.size) w A l) (hb : Below w.heap.size w w') : (Rd.int .u8).Row (· < w'.heap.size) w' A l := (h.keep (fun b hb' => hb.block b hb')).mono (fun b hb' => Nat.lt_of_lt_of_le hb' hb.size)
theorem row_lie {S : Nat → Prop} {w : World} {A : Option Addr} {bs : List Int} {n : Nat} (h : (Rd.int .u8).Row S w A bs) (hn : bs.length = n) : Lie w A n (bcells bs) := by
  subst hn
  obtain ⟨cells, hf, hl⟩ := h.flat
  obtain ⟨rfl, _⟩ := byte_flat.1 hf
  exact hl
theorem key_step {k : Nat} {x : List (List Int)} {p : List Int} (hp : x[k]? = some p) (hl : p.length ≤ 500) (h : ∀ j, j < k → ∀ p, x[j]? = some p → p.length ≤ 500) : ∀ j, j < k + 1 → ∀ p, x[j]? = some p → p.length ≤ 500 := fun j hj p' hp' => by
  by_cases e : j = k
  · subst e
    rw [hp] at hp'
    cases hp'
    exact hl
  · exact h j (by omega) p' hp'
theorem key_none {k : Nat} {x : List (List Int)} (hl : x.length ≤ k) (h : ∀ j, j < k → ∀ p, x[j]? = some p → p.length ≤ 500) : ∀ j, j < k + 1 → ∀ p, x[j]? = some p → p.length ≤ 500 := fun j hj p' hp' => by
  have := (List.getElem?_eq_some_iff.1 hp').1
  exact h j (by omega) p' hp'
theorem own_cap' {w : World} {base : Nat} {e : TypeId} {size n c : Nat} {A : Option Addr} {xs : List Value} (h : w.ownsRow base e size (.slice A n c) n xs) : n ≤ c := by
  obtain ⟨A', c', e1, h1, _⟩ := own_shape h
  cases e1
  exact h1
theorem nested_row {w : World} {base base' : Nat} {A B : Option Addr} {n m c d : Nat} {p q : List Int} (h : w.ownsRow base 5 1 (.slice A n c) n (bcells p)) (h' : w.ownsRow base' 5 1 (.slice B m d) m (bcells q)) (hp : p.length = n) (hq : q.length = m) (hBp : isB p) (hBq : isB q) (hn : n ≤ 1000000) (hm : m ≤ 1000000) : kB.Row (· < (w.alloc (Obj.cells #[.slice A n c, .slice B m d] 29)).heap.size) (w.alloc (Obj.cells #[.slice A n c, .slice B m d] 29)) (some ⟨w.heap.size, 0, none⟩) [p, q] := by
  have k1 := (own_brow (h.alloc (Obj.cells #[.slice A n c, .slice B m d] 29)) hp hBp hn).mono (S' := (· < (w.alloc (Obj.cells #[.slice A n c, .slice B m d] 29)).heap.size)) (fun b hb => by have := (h.lt b hb).2; simp; omega)
  have k2 := (own_brow (h'.alloc (Obj.cells #[.slice A n c, .slice B m d] 29)) hq hBq hm).mono (S' := (· < (w.alloc (Obj.cells #[.slice A n c, .slice B m d] 29)).heap.size)) (fun b hb => by have := (h'.lt b hb).2; simp; omega)
  exact row2 (blk_new w _) (by simp) hp hq (own_cap' h) (own_cap' h') hn hm k1 k2
set_option maxRecDepth 100000 in
set_option maxHeartbeats 4000000 in
theorem packNested_walk (w : World) (A0 : Option Addr) (c0 : Nat) (x0 : List (List Int)) (l0 : x0.length ≤ c0) (m0 : x0.length ≤ 140737488351232) (row0 : kB.Row (· < w.heap.size) w A0 x0) (A1 : Option Addr) (c1 : Nat) (x1 : List (List Int)) (l1 : x1.length ≤ c1) (m1 : x1.length ≤ 140737488351232) (row1 : kB.Row (· < w.heap.size) w A1 x1) :
    Calls Try.prog 7 #[.slice A0 x0.length c0, .slice A1 x1.length c1] w fun e w' => e = .returned (.bool true) ∧ Below w.heap.size w w' := by
  obtain ⟨n, hn⟩ : ∃ n, x0.length = n := ⟨_, rfl⟩
  obtain ⟨m, hm⟩ : ∃ m, x1.length = m := ⟨_, rfl⟩
  rw [hn] at l0 m0 ⊢
  rw [hm] at l1 m1 ⊢
  have HN := Lib.hid hn
  have HM := Lib.hid hm
  have HR := Lib.hid row0
  have HR1 := Lib.hid row1
  clear row0 hn row1 hm
  by_cases hbig : 20 < n ∨ 20 < m
  · have hway : 20 < n ∨ (¬ 20 < n ∧ 20 < m) := by omega
    clear hbig
    rcases hway with h | ⟨h, h2⟩
    all_goals
      go_enter Try.func7, Try.ntmps7
      go_wp2_with (go_at_call 18; refine (packAnswers_calls _).mono ?_; rintro e w5 ⟨rfl, hb5⟩)
      go_ret
      exact ⟨rfl, hb5⟩
  · have hn20 : n ≤ 20 := by omega
    have hm20 : m ≤ 20 := by omega
    clear hbig
    have hd20 : decide ((20 : Int) < (n : Int)) = false := decide_eq_false (by omega)
    have hd21 : decide ((20 : Int) < (m : Int)) = false := decide_eq_false (by omega)
    go_enter Try.func7, Try.ntmps7
    go_wp2
    go_loopw [5] (fun ix wr => ∃ k : Nat, k ≤ 20 ∧ ix = .int .i64 k ∧ wr = w ∧ Hid (∀ j, j < k → ∀ p, x0[j]? = some p → p.length ≤ 500) ∧ Hid (∀ j, j < k → ∀ p, x1[j]? = some p → p.length ≤ 500)) (fun ix _ => 20 - (intOf ix).toNat)
    case atStart => exact ⟨0, Nat.zero_le _, rfl, rfl, Lib.hid (fun j hj => by omega), Lib.hid (fun j hj => by omega)⟩
    case round =>
      obtain ⟨k, hk, rfl, rfl, HA, HA1⟩ := hrel
      by_cases hlt : k < n
      · obtain ⟨p, hp⟩ : ∃ p, x0[k]? = some p := ⟨_, List.getElem?_eq_getElem (by have := HN.out; omega)⟩
        obtain ⟨b, o, B, c, rfl, hSb, hcell, _, _⟩ := row_sl_at HR.out hp
        obtain ⟨q, hq⟩ : ∃ q, p.length = q := ⟨_, rfl⟩
        rw [hq] at hcell
        have HPp := Lib.hid hp
        have HQ := Lib.hid hq
        clear hp hq hSb
        by_cases hq1 : 500 < q
        · go_wp2_with (go_at_call 18; refine (packAnswers_calls _).mono ?_; rintro e w5 ⟨rfl, hb5⟩)
          all_goals
            go_ret
            exact ⟨rfl, hb5⟩
        · have HA2 := Lib.hid (key_step HPp.out (by rw [HQ.out]; omega) HA.out)
          by_cases hlt1 : k < m
          · obtain ⟨p1, hp1⟩ : ∃ p, x1[k]? = some p := ⟨_, List.getElem?_eq_getElem (by have := HM.out; omega)⟩
            obtain ⟨b1, o1, B1, d1, rfl, hSb1, hcell1, _, _⟩ := row_sl_at HR1.out hp1
            obtain ⟨q1, hq1'⟩ : ∃ q, p1.length = q := ⟨_, rfl⟩
            rw [hq1'] at hcell1
            have HPp1 := Lib.hid hp1
            have HQ1 := Lib.hid hq1'
            clear hp1 hq1' hSb1
            by_cases hq2 : 500 < q1
            · go_wp2_with (go_at_call 18; refine (packAnswers_calls _).mono ?_; rintro e w5 ⟨rfl, hb5⟩)
              all_goals
                go_ret
                exact ⟨rfl, hb5⟩
            · have HA3 := Lib.hid (key_step HPp1.out (by rw [HQ1.out]; omega) HA1.out)
              go_wp2
              all_goals
                go_roundw
                case rel => exact ⟨k + 1, by omega, by go_num, trivial, HA2, HA3⟩
                case measure => simp [intOf]; omega
          · have HA3 := Lib.hid (key_none (by rw [HM.out]; omega) HA1.out)
            go_wp2
            all_goals
              go_roundw
              case rel => exact ⟨k + 1, by omega, by go_num, trivial, HA2, HA3⟩
              case measure => simp [intOf]; omega
      · have HA2 := Lib.hid (key_none (by rw [HN.out]; omega) HA.out)
        by_cases hlt1 : k < m
        · obtain ⟨p1, hp1⟩ : ∃ p, x1[k]? = some p := ⟨_, List.getElem?_eq_getElem (by have := HM.out; omega)⟩
          obtain ⟨b1, o1, B1, d1, rfl, hSb1, hcell1, _, _⟩ := row_sl_at HR1.out hp1
          obtain ⟨q1, hq1'⟩ : ∃ q, p1.length = q := ⟨_, rfl⟩
          rw [hq1'] at hcell1
          have HPp1 := Lib.hid hp1
          have HQ1 := Lib.hid hq1'
          clear hp1 hq1' hSb1
          by_cases hq2 : 500 < q1
          · go_wp2_with (go_at_call 18; refine (packAnswers_calls _).mono ?_; rintro e w5 ⟨rfl, hb5⟩)
            all_goals
              go_ret
              exact ⟨rfl, hb5⟩
          · have HA3 := Lib.hid (key_step HPp1.out (by rw [HQ1.out]; omega) HA1.out)
            go_wp2
            all_goals
              go_roundw
              case rel => exact ⟨k + 1, by omega, by go_num, trivial, HA2, HA3⟩
              case measure => simp [intOf]; omega
        · have hall : ∀ p ∈ x0, p.length ≤ 500 := all_of HN.out (fun j hj p hp => HA.out j (by omega) p hp)
          have hall1 : ∀ p ∈ x1, p.length ≤ 500 := all_of HM.out (fun j hj p hp => HA1.out j (by omega) p hp)
          have hT0 : (partsB x0).length ≤ 20000 := by have := partsB_len (M := 500) (by decide) hall; rw [HN.out] at this; omega
          have hT1 : (partsB x1).length ≤ 20000 := by have := partsB_len (M := 500) (by decide) hall1; rw [HM.out] at this; omega
          obtain ⟨L0, hL0⟩ : ∃ L, (joinB x0).length = L := ⟨_, rfl⟩
          obtain ⟨L1, hL1⟩ : ∃ L, (joinB x1).length = L := ⟨_, rfl⟩
          have hL0b : L0 ≤ 20000 := by have := joinB_len (M := 500) (by rw [HN.out]; omega) (by decide) hall; rw [HN.out] at this; omega
          have hL1b : L1 ≤ 20000 := by have := joinB_len (M := 500) (by rw [HM.out]; omega) (by decide) hall1; rw [HM.out] at this; omega
          have hB0 := joinB_isB (row_isB HR.out)
          have hB1 := joinB_isB (row_isB HR1.out)
          have hall2 : ∀ p ∈ [joinB x0, joinB x1], p.length ≤ 20000 := by simp [hL0, hL1]; omega
          have hT2 : (partsB [joinB x0, joinB x1]).length ≤ 50000 := by have := partsB_len (M := 20000) (by decide) hall2; exact Nat.le_trans this (by simp)
          have hB2 : isB (joinB [joinB x0, joinB x1]) := joinB_isB (fun p hp => by
            simp at hp
            rcases hp with rfl | rfl
            · exact hB0
            · exact hB1)
          obtain ⟨L2, hL2⟩ : ∃ L, (joinB [joinB x0, joinB x1]).length = L := ⟨_, rfl⟩
          have hL2b : L2 ≤ 50000 := by rw [← hL2]; exact Nat.le_trans (joinB_len (M := 20000) (by simp) (by decide) hall2) (by simp)
          have hs2 : splitB (joinB [joinB x0, joinB x1]) 2 = some [joinB x0, joinB x1] := by rw [splitB_back _ (fun p hp => by have := hall2 p hp; omega) (by simp), if_pos (by simp)]
          have hs0 : splitB (joinB x0) n = some x0 := by rw [splitB_back _ (fun p hp => by have := hall p hp; omega) (by rw [HN.out]; omega), if_pos (by rw [HN.out]; omega)]
          have hs1 : splitB (joinB x1) m = some x1 := by rw [splitB_back _ (fun p hp => by have := hall1 p hp; omega) (by rw [HM.out]; omega), if_pos (by rw [HM.out]; omega)]
          have HT0 := Lib.hid hT0
          have HT1 := Lib.hid hT1
          have HT2 := Lib.hid hT2
          have HL0 := Lib.hid hL0
          have HL1 := Lib.hid hL1
          have HL2 := Lib.hid hL2
          have HB0 := Lib.hid hB0
          have HBb1 := Lib.hid hB1
          have HBb2 := Lib.hid hB2
          have HS0 := Lib.hid hs0
          have HS1 := Lib.hid hs1
          have HS2 := Lib.hid hs2
          have HP0 : Hid (∀ p ∈ x0, p.length ≤ 1000000) := Lib.hid (fun p hp => Nat.le_trans (hall p hp) (by decide))
          have HP1 : Hid (∀ p ∈ x1, p.length ≤ 1000000) := Lib.hid (fun p hp => Nat.le_trans (hall1 p hp) (by decide))
          have HTok : Hid (True) := Lib.hid trivial
          clear hall hall1 hall2 hT0 hT1 hT2 hL0 hL1 hL2 hB0 hB1 hB2 hs0 hs1 hs2 HA HA1 HA2
          go_wp2_with (first
            | (go_at_call 19; refine (join_calls _ _ 2 _ [joinB x0, joinB x1] rfl (by decide) 50000 HT2.out (by decide) HS3.out HR3.out).mono ?_; rw [HL2.out]; rintro e w4 ⟨A4, c4, rfl, ho, hb⟩; have HO4 := Lib.hid ho; have HB4 := Lib.hid (HBk3.out.trans (hb.mono hs3)); have hs4 := HB4.out.size; clear ho hb)
            | (go_at_call 19; refine (join_calls (S := (· < wr.heap.size)) _ _ _ _ x1 HM.out (by omega) 20000 HT1.out (by decide) (fun b hb => Nat.lt_of_lt_of_le hb hsz2) (HR1.out.keep (fun b hb => HB2.out.block b hb))).mono ?_; rw [HL1.out]; rintro e w3 ⟨A3, c3, rfl, ho, hb⟩; have hc2 := own_cap' HO2.out; have hc3 := own_cap' ho; have hB3 := HB2.out.trans (hb.mono hsz2); have hrw2 := nested_row (own_below HO2.out hb) ho HL0.out HL1.out HB0.out HBb1.out (by omega) (by omega); have HR3 := Lib.hid hrw2; have HS3 : Hid (∀ b, b < (w3.alloc (Obj.cells #[.slice A2 L0 c2, .slice A3 L1 c3] 29)).heap.size → b < (w3.alloc (Obj.cells #[.slice A2 L0 c2, .slice A3 L1 c3] 29)).heap.size) := Lib.hid (fun b hb => hb); have HBk3 := Lib.hid (hB3.alloc hB3.size (Obj.cells #[.slice A2 L0 c2, .slice A3 L1 c3] 29)); have hs3 := HBk3.out.size; clear ho hb hB3 hrw2 hsz2)
            | (go_at_call 19; refine (join_calls _ _ _ _ x0 HN.out (by omega) 20000 ((fun (_ : True) => HT0.out) HTok.out) (by decide) (fun b hb => hb) HR.out).mono ?_; rw [HL0.out]; rintro e w2 ⟨A2, c2, rfl, ho, hb⟩; have HO2 := Lib.hid ho; have HB2 := Lib.hid hb; have hsz2 := hb.size; clear ho hb HTok)
            | (go_at_call 20; refine (split_calls _ _ _ _ (joinB x1) HL1.out (by omega) (row_lie HRj6.out HL1.out) HBb1.out m (by omega)).mono ?_; rintro e w7 ⟨hp, hb⟩; obtain ⟨A7, c7, rfl, hc7, hr7⟩ := split_ok hp HS1.out; rw [HM.out]; have HRy7 : Hid (kB.Row (· < w7.heap.size) w7 A7 x1) := Lib.hid (hr7.mono (fun b hb => hb.2)); have HRx7 := Lib.hid (row_grow HRx6.out hb); have HB7 := Lib.hid (HB6.out.trans (hb.mono hs6)); have hs7 := HB7.out.size; clear hp hb hr7 hc7)
            | (go_at_call 20; refine (split_calls _ _ _ _ (joinB x0) HL0.out (by omega) (row_lie HRi5.out HL0.out) HB0.out n (by omega)).mono ?_; rintro e w6 ⟨hp, hb⟩; obtain ⟨A6, c6, rfl, hc6, hr6⟩ := split_ok hp HS0.out; rw [HN.out]; have HRx6 : Hid (kB.Row (· < w6.heap.size) w6 A6 x0) := Lib.hid (hr6.mono (fun b hb => hb.2)); have HRj6 := Lib.hid (brow_grow HRj5.out hb); have e1 := (World.cell?_of_block (a := ⟨b5, o5 + 1, none⟩) (hb.block b5 hb5l)).trans HC51.out; have HB6 := Lib.hid (HB5.out.trans (hb.mono hs5)); have hs6 := HB6.out.size; clear hp hb hr6 hc6 e0)
            | (go_at_call 20; refine (split_calls _ _ _ _ (joinB [joinB x0, joinB x1]) HL2.out (by omega) (own_lie HO4.out) HBb2.out 2 (by decide)).mono ?_; rintro e w5 ⟨hp, hb⟩; obtain ⟨A5, c5, rfl, hc5, hr5⟩ := split_ok hp HS2.out; obtain ⟨b5, o5, B5, d5, rfl, hbs5, e0, _, hi5⟩ := row_sl_at (hr5.mono (fun b hb => hb.2) : kB.Row (· < w5.heap.size) w5 A5 [joinB x0, joinB x1]) (k := 0) (p := joinB x0) rfl; obtain ⟨b5', o5', B6, d6, e5, _, e1, _, hj5⟩ := row_sl_at (hr5.mono (fun b hb => hb.2) : kB.Row (· < w5.heap.size) w5 _ [joinB x0, joinB x1]) (k := 1) (p := joinB x1) rfl; cases e5; rw [HL0.out, Nat.add_zero] at e0; rw [HL1.out] at e1; have hb5l : b5 < w5.heap.size := World.block_lt_of_cell? w5 _ e0; have HC51 := Lib.hid e1; have HRi5 := Lib.hid hi5; have HRj5 := Lib.hid hj5; have HB5 := Lib.hid (HB4.out.trans (hb.mono hs4)); have hs5 := HB5.out.size; clear hp hb hr5 hc5 hbs5 hi5 hj5 e1)
            | (go_at_call 18; refine (packAnswers_calls _).mono ?_; rintro e w8 ⟨rfl, hb⟩; have HRx8 := Lib.hid (row_grow HRx7.out hb); have HRy8 := Lib.hid (row_grow HRy7.out hb); have HB8 := Lib.hid (HB7.out.trans (hb.mono hs7)); have hs8 := HB8.out.size; clear hb)
            | (go_at_call 23; refine (parts_eq (S := (· < w9.heap.size)) (T := (· < wr.heap.size)) _ _ _ _ _ _ x1 HM.out (by omega) HP1.out (fun b hb => hb) (fun b hb => Nat.lt_of_lt_of_le hb hs9) HRy9.out (HR1.out.keep (fun b hb => HB9.out.block b hb))).mono ?_; rintro e w10 ⟨rfl, hb⟩; have HB10 := Lib.hid (HB9.out.trans (hb.mono hs9)); clear hb)
            | (go_at_call 23; refine (parts_eq (S := (· < w8.heap.size)) (T := (· < wr.heap.size)) _ _ _ _ _ _ x0 HN.out (by omega) HP0.out (fun b hb => hb) (fun b hb => Nat.lt_of_lt_of_le hb hs8) HRx8.out (HR.out.keep (fun b hb => HB8.out.block b hb))).mono ?_; rintro e w9 ⟨rfl, hb⟩; have HRy9 := Lib.hid (row_grow HRy8.out hb); have HB9 := Lib.hid (HB8.out.trans (hb.mono hs8)); have hs9 := HB9.out.size; clear hb))
          go_ret
          exact ⟨rfl, HB10.out⟩
end Go.Proofs.Ytmcjjikhdjoopaa
