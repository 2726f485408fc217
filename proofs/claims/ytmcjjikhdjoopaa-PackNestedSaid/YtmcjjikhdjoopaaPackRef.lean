/- The reference's Join. -/
import Derived.Test.YtmcjjikhdjoopaaPackJoin
import Derived.Test.YtmcjjikhdjoopaaRefVar
import Derived.Deep.RegionHeld3
namespace Go.Proofs.Ytmcjjikhdjoopaa
open Go.RowKit
set_option linter.unusedVariables false
theorem holdS {w w1 : World} {b x : Nat} {u : Value} (h : w.cell? ⟨b, x, none⟩ = some u) (hl : b < w.heap.size) (hb : Below w.heap.size w w1) : w1.cell? ⟨b, x, none⟩ = some u ∧ Below w.heap.size w w1 := ⟨(World.cell?_of_block (a := ⟨b, x, none⟩) (hb.block b hl)).trans h, hb⟩
theorem heldS {c : Prop} {w w1 w2 : World} (h : c ∧ Below w.heap.size w w1) (hb : Below w1.heap.size w1 w2) : Below w.heap.size w w2 := h.2.trans (hb.mono h.2.size)
set_option maxRecDepth 100000 in
set_option maxHeartbeats 2000000 in
theorem refJoin_calls {S : Nat → Prop} (w : World) (A : Option Addr) (n c : Nat) (l : List (List Int)) (hn : l.length = n) (hm : n ≤ 300) (hl : ∀ p ∈ l, p.length ≤ 1000) (hS : ∀ b, S b → b < w.heap.size) (hrow : (Rd.slice (Rd.int .u8)).Row S w A l) : Calls Try.prog 22 #[.slice A n c] w fun e w' => ∃ A' c', e = .returned (.slice A' (joinB l).length c') ∧ w'.ownsRow w.heap.size 5 1 (.slice A' (joinB l).length c') (joinB l).length (bcells (joinB l)) ∧ Below w.heap.size w w' := by
  have HN := Lib.hid hn
  have HR := Lib.hid hrow
  have HS := Lib.hid hS
  have hl2 := Lib.hid hl
  have hn64 : n < 18446744073709551616 := by omega
  have hv := varB_ten hn64
  clear hn hrow hS hl
  go_enter Try.func22, Try.ntmps22
  go_wp2_with (go_at_call 44; refine (refVar_calls _ _ hn64).mono ?_; rintro e w1 ⟨A1, c1, rfl, ho, hb⟩; have HO0 := Lib.hid ho; have HB0 := Lib.hid hb; clear ho hb)
  go_loopw [3, 4] (fun out ix wr => ∃ (k m : Nat) (pre : List Int) (A' : Option Addr) (c' : Nat), k ≤ n ∧ ix = .int .i64 k ∧ out = .slice A' m c' ∧ m ≤ 10 + 1010 * k ∧ Hid (pre.length = m) ∧ Hid (pre = varB n ++ partsB (l.take k)) ∧ Hid (wr.ownsRow w.heap.size 5 1 (.slice A' m c') m (bcells pre)) ∧ Below w.heap.size w wr) (fun _ ix _ => n - (intOf ix).toNat)
  case atStart => exact ⟨0, _, _, A1, c1, Nat.zero_le _, rfl, rfl, by omega, Lib.hid rfl, Lib.hid (by simp [partsB]), HO0, HB0.out⟩
  case round =>
    obtain ⟨k, m, pre, A', c', hk, rfl, rfl, hmm, HM, HP, HO, hb⟩ := hrel
    by_cases hlt : k < n
    · obtain ⟨p, hp⟩ : ∃ p, l[k]? = some p := ⟨_, List.getElem?_eq_getElem (by have := HN.out; omega)⟩
      obtain ⟨b, o, B, cp, rfl, hSb, hcell0, hcp, hrp⟩ := row_sl_at HR.out hp
      have hbl := HS.out b hSb
      obtain ⟨cells, hfl, hlie⟩ := hrp.flat
      obtain ⟨rfl, hBp⟩ := byte_flat.1 hfl
      obtain ⟨q, hq⟩ : ∃ q, p.length = q := ⟨_, rfl⟩
      have hq1 : q ≤ 1000 := by rw [← hq]; exact hl2.out p (List.mem_of_getElem? hp)
      have HQ := Lib.hid hq
      rw [hq] at hcell0 hcp hlie
      have HC := Lib.hid hcell0
      have HPp := Lib.hid hp
      have HLp := Lib.hid hlie
      have hq64 : q < 18446744073709551616 := by omega
      have hvq := varB_ten hq64
      have hsz := hb.size
      clear hp hrp hq hcell0 hfl hBp hlie
      obtain ⟨t, ht⟩ : ∃ t, (varB q).length = t := ⟨_, rfl⟩
      have HT := Lib.hid ht
      rw [ht] at hvq
      clear ht
      have HA : Hid (∀ w' : World, Calls Try.prog 44 #[.int .u64 (IntKind.u64.wrap (q : Int))] w' fun e w'' => ∃ A c, e = .returned (.slice A t c) ∧ w''.ownsRow w'.heap.size 5 1 (.slice A t c) t (bcells (varB q)) ∧ Below w'.heap.size w' w'') := Lib.hid (fun w' => by rw [show IntKind.u64.wrap (q : Int) = (q : Int) by rw [IntKind.wrap_u64]; omega, ← HT.out]; exact refVar_calls q w' hq64)
      go_wp2_with fail
      have HBr := Lib.hid hb
      clear hb
      go_region_held3 (fun w' => w'.cell? ⟨b, o + k, none⟩ = some (.slice B q cp) ∧ Below w.heap.size w w')
        (first
          | exact holdS HC.out hbl HBr.out
          | exact holdS HC.out hbl HBr.out.drew
          | exact holdS HC.out hbl (by assumption))
        (first
          | (go_at_call 44; refine (HA.out _).mono ?_; rintro e w2 ⟨A2, c2, rfl, ho2, hb2⟩; have HO2 := Lib.hid ho2; have HOO := Lib.hid (own_below (own_below HO.out (Below.refl _ _).drew) hb2); have hbW : Below w.heap.size w w2 := heldS (by assumption) hb2; have HB2 := Lib.hid hbW; have hs2 := hbW.size; clear ho2 hb2)
          | (refine step_app _ (by rfl) (.tmp 15) (.tmp 22) _ (by rfl) 5 Try.underlying29 byte_info rfl (by decide) (by decide) w.heap.size (by rfl) HOO.out (by rfl) (by rw [bcells_length, HT.out]) (own_lie HO2.out) (bcells_one _) (by omega) hs2 ?_; intro v' w3 hown hg hat; have hbW : Below w.heap.size w w3 := grown_below HB2.out hg hs2 (own_ge HOO.out); rw [← bcells_append] at hown; obtain ⟨A3, c3, rfl, hn3, _, _⟩ := own_shape hown; have HO3 := Lib.hid hown; have HB3 := Lib.hid hbW; have hs3 := hbW.size; clear hown hg hat)
          | (refine step_app _ (by rfl) (.tmp 23) (.tmp 27) _ (by rfl) 5 Try.underlying29 byte_info rfl (by decide) (by decide) w.heap.size (by rfl) HO3.out (by rfl) (by rw [bcells_length, HQ.out]) (by exact HLp.out.below HB3.out) (bcells_one _) (by omega) hs3 ?_; intro v' w4 hown hg hat; have hbW : Below w.heap.size w w4 := grown_below HB3.out hg hs3 (own_ge HO3.out); rw [← bcells_append] at hown; obtain ⟨A4, c4, rfl, hn4, _, _⟩ := own_shape hown; have HO4 := Lib.hid hown; have HB4 := Lib.hid hbW; have hs4 := hbW.size; clear hown hg hat))
      all_goals
        go_wp2
        go_roundw
        case rel =>
          refine ⟨k + 1, _, pre ++ varB q ++ p, A4, c4, by omega, by go_num, rfl, by omega, Lib.hid (by rw [List.length_append, List.length_append, HM.out, HT.out, HQ.out]), Lib.hid ?_, HO4, HB4.out⟩
          rw [List.take_add_one, HPp.out, Option.toList_some, partsB_snoc, HP.out, HQ.out]
          simp only [List.append_assoc]
        case measure => simp [intOf]; omega
    · have hkn : k = n := by omega
      subst hkn
      have hj : joinB l = pre := by rw [HP.out]; unfold joinB; rw [HN.out, ← HN.out, List.take_length]
      have HJ := Lib.hid hj
      clear hj
      go_wp2
      go_ret
      rw [HJ.out, HM.out]
      exact ⟨A', c', rfl, HO.out, hb⟩
end Go.Proofs.Ytmcjjikhdjoopaa
