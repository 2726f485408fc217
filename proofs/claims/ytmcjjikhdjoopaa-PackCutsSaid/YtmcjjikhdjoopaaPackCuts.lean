/- The walk of PackCuts. -/
import Derived.Test.YtmcjjikhdjoopaaPackWalks
namespace Go.Proofs.Ytmcjjikhdjoopaa
open Go.RowKit
set_option linter.unusedVariables false
theorem own_addr {w : World} {base : Nat} {e : TypeId} {size n c : Nat} {A : Option Addr} {xs : List Value} (h : w.ownsRow base e size (.slice A n c) n xs) (hn : 0 < n) : ∃ g, A = some ⟨g, 0, none⟩ ∧ base ≤ g ∧ g < w.heap.size := by
  obtain ⟨A', c', e, _, _, h5⟩ := own_shape h
  cases e
  exact h5 hn
theorem own_cap {w : World} {base : Nat} {e : TypeId} {size n c : Nat} {A : Option Addr} {xs : List Value} (h : w.ownsRow base e size (.slice A n c) n xs) : n ≤ c := by
  obtain ⟨A', c', e1, h1, _⟩ := own_shape h
  cases e1
  exact h1
theorem bcells_take2 (bs : List Int) (k : Nat) : bcells (bs.take k) = (bcells bs).take k := by simp [bcells, List.map_take]
set_option maxRecDepth 100000 in
set_option maxHeartbeats 4000000 in
theorem packCuts_walk (w : World) (A0 : Option Addr) (c0 : Nat) (x0 : List (List Int)) (l0 : x0.length ≤ c0) (m0 : x0.length ≤ 140737488351232) (row0 : kB.Row (· < w.heap.size) w A0 x0) (a1 : Int) (w1 : (Lit.int .u16 a1).wf = true) (a2 : Int) (w2 : (Lit.int .u8 a2).wf = true) :
    Calls Try.prog 6 #[.slice A0 x0.length c0, .int .u16 a1, .int .u8 a2] w fun e w' => e = .returned (.bool true) ∧ Below w.heap.size w w' := by
  obtain ⟨n, hn⟩ : ∃ n, x0.length = n := ⟨_, rfl⟩
  have ha := bounds_u16 w1
  have ha2 := bounds_u8 w2
  obtain ⟨at', rfl⟩ := Int.eq_ofNat_of_zero_le ha.1
  rw [hn] at l0 m0 ⊢
  have HN := Lib.hid hn
  have HR := Lib.hid row0
  clear row0 hn w1 w2
  by_cases hbig : 50 < n
  · go_enter Try.func6, Try.ntmps6
    go_wp2_with (go_at_call 18; refine (packAnswers_calls _).mono ?_; rintro e w5 ⟨rfl, hb5⟩)
    go_ret
    exact ⟨rfl, hb5⟩
  · have hn50 : n ≤ 50 := by omega
    go_enter Try.func6, Try.ntmps6
    go_wp2
    go_loopw [7] (fun ix wr => ∃ k : Nat, k ≤ n ∧ ix = .int .i64 k ∧ wr = w ∧ Hid (∀ j, j < k → ∀ p, x0[j]? = some p → p.length ≤ 1000)) (fun ix _ => n - (intOf ix).toNat)
    case atStart => exact ⟨0, Nat.zero_le _, rfl, rfl, Lib.hid (fun j hj => by omega)⟩
    case round =>
      obtain ⟨k, hk, rfl, rfl, HA⟩ := hrel
      by_cases hlt : k < n
      · obtain ⟨p, hp⟩ : ∃ p, x0[k]? = some p := ⟨_, List.getElem?_eq_getElem (by have := HN.out; omega)⟩
        obtain ⟨b, o, B, c, rfl, hSb, hcell, _, _⟩ := row_sl_at HR.out hp
        obtain ⟨q, hq⟩ : ∃ q, p.length = q := ⟨_, rfl⟩
        rw [hq] at hcell
        by_cases hq1 : 1000 < q
        · clear hp hq
          go_wp2_with (go_at_call 18; refine (packAnswers_calls _).mono ?_; rintro e w5 ⟨rfl, hb5⟩)
          go_ret
          exact ⟨rfl, hb5⟩
        · have HA1 : Hid (∀ j, j < k + 1 → ∀ p, x0[j]? = some p → p.length ≤ 1000) := Lib.hid (fun j hj p' hp' => by
            by_cases e : j = k
            · subst e
              rw [hp] at hp'
              cases hp'
              omega
            · exact HA.out j (by omega) p' hp')
          clear hp hq
          go_wp2
          go_roundw
          case rel => exact ⟨k + 1, by omega, by go_num, trivial, HA1⟩
          case measure => simp [intOf]; omega
      · obtain rfl : k = n := by omega
        have hall := all_of HN.out HA.out
        have HAll := Lib.hid hall
        obtain ⟨L, hL⟩ : ∃ L, (joinB x0).length = L := ⟨_, rfl⟩
        have hL1 : L ≤ 50510 := by have := joinB_len (M := 1000) (by rw [HN.out]; omega) (by decide) hall; rw [HN.out] at this; omega
        have hL0 : 0 < L := by
          rw [← hL]
          unfold joinB
          rw [List.length_append]
          have := varB_pos x0.length
          omega
        have HL := Lib.hid hL
        have HBj := Lib.hid (joinB_isB (row_isB HR.out))
        obtain ⟨t, ht⟩ : ∃ t, at' % L = t := ⟨_, rfl⟩
        have htl : t < L := by rw [← ht]; exact Nat.mod_lt _ hL0
        have hcut := splitB_cut x0 (row_isB HR.out) (fun p hp => by have := hall p hp; omega) (by rw [HN.out]; omega) t (by rw [hL]; exact htl) 100
        have hmore := splitB_behind x0 (fun p hp => by have := hall p hp; omega) (by rw [HN.out]; omega) [a2] (by simp) 100
        have HC := Lib.hid hcut
        have HM := Lib.hid hmore
        have htk := Lib.hid (show ((joinB x0).take t).length = t by rw [List.length_take, hL]; omega)
        have htb := Lib.hid (show isB ((joinB x0).take t) from fun x hx => HBj.out x (List.mem_of_mem_take hx))
        have hmb := Lib.hid (isB_append HBj.out (isB_one ha2))
        have hml := Lib.hid (show (joinB x0 ++ [a2]).length = L + 1 by rw [List.length_append, hL]; rfl)
        have hti : (at' : Int) % (L : Int) = (t : Int) := by rw [← ht]; rfl
        have hLz : ¬ (L : Int) = 0 := by omega
        have hLz2 : ((L : Int) == 0) = false := beq_eq_false_iff_ne.2 hLz
        clear hall hL hcut hmore ht
        go_wp2_with (first
          | (go_at_call 22; refine (refJoin_calls (S := (· < wr.heap.size)) _ _ _ _ x0 HN.out (by omega) HAll.out (fun b hb => hb) HR.out).mono ?_; rw [HL.out]; rintro e w2 ⟨A2, c2, rfl, ho, hb⟩; obtain ⟨g2, rfl, _, _⟩ := own_addr ho hL0; have hc2 := own_cap ho; have HO2 := Lib.hid ho; have HB2 := Lib.hid hb; have hs2 := hb.size; clear ho hb)
          | (go_at_call 20; refine (split_calls _ _ _ _ (joinB x0 ++ [a2]) hml.out (by omega) (own_lie HO5.out) hmb.out 100 (by decide)).mono ?_; rintro e w6 ⟨hp, hb⟩; obtain rfl := split_no hp HM.out; have HB6 := Lib.hid (HB5.out.trans (hb.mono hs5)); have hs6 := HB6.out.size; clear hp hb)
          | (go_at_call 20; refine (split_calls _ _ _ _ ((joinB x0).take t) htk.out (by omega) (by rw [bcells_take2]; exact lie_take (own_lie HO2.out) (by omega)) htb.out 100 (by decide)).mono ?_; rintro e w3 ⟨hp, hb⟩; obtain rfl := split_no hp HC.out; have HO3 := Lib.hid (own_below HO2.out hb); have HB3 := Lib.hid (HB2.out.trans (hb.mono hs2)); have hs3 := HB3.out.size; clear hp hb HO2)
          | (at_builtin; refine list_app _ rfl (.tmp 44) (.tmp 45) _ rfl 5 Try.underlying29 byte_info rfl (by decide) (by decide) w3.heap.size rfl (World.ownsRow_made w3 #[] 0 (Nat.le_refl _) (Nat.zero_le _) rfl) rfl (by rw [bcells_length, HL.out]) (by exact (own_lie HO3.out).below ((Below.refl _ _).alloc (Nat.le_refl _) _)) (bcells_one _) (by omega) (by simp) ?_; intro v' w4 hown hg hat; have hB := grown_below (HB3.out.alloc hs3 _) hg (by first | omega | (simp; omega) | (simp; done)) (.inr ⟨_, rfl, hs3⟩); simp only [Nat.zero_add, List.nil_append] at hown; obtain ⟨A4, c4, rfl, hn4, _, _⟩ := own_shape hown; have HO4 := Lib.hid hown; have HB4 := Lib.hid hB; have hs4 := hB.size; obtain ⟨g4, e4, hg41, hg42⟩ := own_addr HO4.out hL0; have hs34 : w3.heap.size ≤ w4.heap.size := Nat.le_trans hg41 (Nat.le_of_lt hg42); clear hown hg hat hB e4 hg41 hg42)
          | (at_builtin; refine list_app _ rfl (.tmp 46) (.tmp 48) _ rfl 5 Try.underlying29 byte_info rfl (by decide) (by decide) w3.heap.size rfl (by exact HO4.out.alloc _) (news := bcells [a2]) rfl rfl (by exact lie_new _ _ _ rfl) (bcells_one _) (by omega) (by first | omega | (simp; omega) | (simp; done)) ?_; intro v' w5 hown hg hat; have hB := grown_below (HB4.out.alloc hs4 _) hg (by first | omega | (simp; omega) | (simp; done)) (by rcases own_ge HO4.out with h | ⟨g, h, h2⟩; exact .inl h; exact .inr ⟨g, h, by omega⟩); rw [← bcells_append] at hown; obtain ⟨A5, c5, rfl, hn5, _, _⟩ := own_shape hown; have HO5 := Lib.hid hown; have HB5 := Lib.hid hB; have hs5 := hB.size; clear hown hg hat hB)
          | (go_at_call 18; refine (packAnswers_calls _).mono ?_; rintro e w7 ⟨rfl, hb⟩; have HB7 := Lib.hid (HB6.out.trans (hb.mono hs6)); clear hb))
        all_goals
          go_ret
          exact ⟨rfl, HB7.out⟩
end Go.Proofs.Ytmcjjikhdjoopaa
