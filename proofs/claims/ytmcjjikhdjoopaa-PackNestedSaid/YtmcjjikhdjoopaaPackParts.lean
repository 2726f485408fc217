/- The law's comparison of parts, and what a program that does nothing does not answer. -/
import Derived.Test.YtmcjjikhdjoopaaPackRefS
import Derived.Test.YtmcjjikhdjoopaaPackRef
namespace Go.Proofs.Ytmcjjikhdjoopaa
open Go.RowKit
set_option linter.unusedVariables false
theorem holdS2 {w w1 : World} {b x b' x' : Nat} {u u' : Value} (h : w.cell? ⟨b, x, none⟩ = some u) (hl : b < w.heap.size) (h' : w.cell? ⟨b', x', none⟩ = some u') (hl' : b' < w.heap.size) (hb : Below w.heap.size w w1) : w1.cell? ⟨b, x, none⟩ = some u ∧ w1.cell? ⟨b', x', none⟩ = some u' ∧ Below w.heap.size w w1 :=
  ⟨(holdS h hl hb).1, holdS h' hl' hb⟩
theorem heldS2 {c d : Prop} {w w1 w2 : World} (h : c ∧ d ∧ Below w.heap.size w w1) (hb : Below w1.heap.size w1 w2) : Below w.heap.size w w2 := h.2.2.trans (hb.mono h.2.2.size)
theorem same_eq {S T : Nat → Prop} (w : World) (A B : Option Addr) (n c d : Nat) (xs : List Int) (hn : xs.length = n) (hb : n ≤ 1000000) (hS : ∀ b, S b → b < w.heap.size) (hT : ∀ b, T b → b < w.heap.size) (hx : (Rd.int .u8).Row S w A xs) (hy : (Rd.int .u8).Row T w B xs) :
    Calls Try.prog 21 #[.slice A n c, .slice B n d] w fun e w' => e = .returned (.bool true) ∧ Below w.heap.size w w' := by
  refine (same_calls w A B n n c d xs xs hn hn hb hb hS hT hx hy).mono ?_
  rintro e w' ⟨rfl, hb⟩
  exact ⟨ret_bool (decide_eq_true rfl), hb⟩
set_option maxRecDepth 100000 in
theorem parts_eq {S T : Nat → Prop} (w : World) (A B : Option Addr) (n c d : Nat) (l : List (List Int)) (hn : l.length = n) (hm : n ≤ 1000000) (hl : ∀ p ∈ l, p.length ≤ 1000000) (hS : ∀ b, S b → b < w.heap.size) (hT : ∀ b, T b → b < w.heap.size) (hx : kB.Row S w A l) (hy : kB.Row T w B l) :
    Calls Try.prog 23 #[.slice A n c, .slice B n d] w fun e w' => e = .returned (.bool true) ∧ Below w.heap.size w w' := by
  have HN := Lib.hid hn
  have HX := Lib.hid hx
  have HY := Lib.hid hy
  have HS := Lib.hid hS
  have HT := Lib.hid hT
  have HL := Lib.hid hl
  clear hn hx hy hS hT hl
  go_enter Try.func23, Try.ntmps23
  go_wp2
  go_loopw [5] (fun i wr => ∃ k : Nat, k ≤ n ∧ i = .int .i64 k ∧ Below w.heap.size w wr) (fun i _ => n - (intOf i).toNat)
  case atStart => exact ⟨0, Nat.zero_le _, rfl, Below.refl _ _⟩
  case round =>
    obtain ⟨k, hk, rfl, hb⟩ := hrel
    by_cases hlt : k < n
    · obtain ⟨p, hp⟩ : ∃ p, l[k]? = some p := ⟨_, List.getElem?_eq_getElem (by have := HN.out; omega)⟩
      have HSr : Hid (∀ b, S b → b < wr.heap.size) := Lib.hid (fun b h => Nat.lt_of_lt_of_le (HS.out b h) hb.size)
      have HTr : Hid (∀ b, T b → b < wr.heap.size) := Lib.hid (fun b h => Nat.lt_of_lt_of_le (HT.out b h) hb.size)
      obtain ⟨b, o, B1, c1, rfl, hSb, hc1, hl1, hr1⟩ := row_sl_at (HX.out.keep (fun b h => hb.block b (HS.out b h))) hp
      obtain ⟨b', o', B2, c2, rfl, hSb', hc2, hl2, hr2⟩ := row_sl_at (HY.out.keep (fun b h => hb.block b (HT.out b h))) hp
      obtain ⟨q, hq⟩ : ∃ q, p.length = q := ⟨_, rfl⟩
      have hq1 : q ≤ 1000000 := by rw [← hq]; exact HL.out p (List.mem_of_getElem? hp)
      rw [hq] at hc1 hc2
      have HQ := Lib.hid hq
      have HR1 := Lib.hid hr1
      have HR2 := Lib.hid hr2
      have hsz := hb.size
      have HBr := Lib.hid hb
      clear hp hl1 hr1 hl2 hr2 hq hSb hSb' hb
      have hbl : b < wr.heap.size := World.block_lt_of_cell? wr _ hc1
      have hbl' : b' < wr.heap.size := World.block_lt_of_cell? wr _ hc2
      have HC1 := Lib.hid hc1
      have HC2 := Lib.hid hc2
      clear hc1 hc2
      go_wp2_with fail
      have HB0 := Lib.hid (Below.refl wr.heap.size wr)
      go_region_held3 (fun w' => w'.cell? ⟨b, o + k, none⟩ = some (.slice B1 q c1) ∧ w'.cell? ⟨b', o' + k, none⟩ = some (.slice B2 q c2) ∧ Below wr.heap.size wr w')
        (first
          | exact holdS2 HC1.out hbl HC2.out hbl' HB0.out
          | exact holdS2 HC1.out hbl HC2.out hbl' HB0.out.drew
          | exact holdS2 HC1.out hbl HC2.out hbl' (by assumption))
        (first | (go_at_call 21; refine (same_eq _ _ _ _ _ _ p HQ.out hq1 (fun b hb => Nat.lt_of_lt_of_le (HSr.out b hb) (show Below wr.heap.size wr _ from (by assumption : _ ∧ _ ∧ _).2.2).size) (fun b hb => Nat.lt_of_lt_of_le (HTr.out b hb) (show Below wr.heap.size wr _ from (by assumption : _ ∧ _ ∧ _).2.2).size) (HR1.out.keep (fun b hb => (show Below wr.heap.size wr _ from (by assumption : _ ∧ _ ∧ _).2.2).block b (HSr.out b hb))) (HR2.out.keep (fun b hb => (show Below wr.heap.size wr _ from (by assumption : _ ∧ _ ∧ _).2.2).block b (HTr.out b hb)))).mono ?_; rintro e w5 ⟨rfl, hb5⟩; have hbW : Below wr.heap.size wr w5 := heldS2 (by assumption) hb5; clear hb5))
      have hbW2 := HBr.out.trans (hbW.mono hsz)
      clear hbW
      go_wp2
      go_roundw
      case rel => exact ⟨k + 1, by omega, by go_num, hbW2⟩
      case measure => simp [intOf]; omega
    · go_wp2
      go_ret
      exact ⟨rfl, hb⟩
end Go.Proofs.Ytmcjjikhdjoopaa
