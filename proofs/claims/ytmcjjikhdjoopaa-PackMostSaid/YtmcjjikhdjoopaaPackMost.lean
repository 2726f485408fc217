/- The walk of PackMost. -/
import Derived.Test.YtmcjjikhdjoopaaPackWalks
import Derived.Deep.OwnRows
namespace Go.Proofs.Ytmcjjikhdjoopaa
open Go.RowKit
set_option linter.unusedVariables false
theorem flat_nils (S : Nat → Prop) (w : World) (k : Nat) : kB.Flat S w (List.replicate k []) (List.replicate k (.slice none 0 0)) := by
  induction k with
  | zero => exact Rd.Flat.nil _ _ _
  | succ k ih => exact Rd.Flat.cons (d := kB) (c := [.slice none 0 0]) ⟨_, rfl, none, 0, rfl, Nat.le_refl 0, by decide, Rd.Row.nil _ _ _ _⟩ ih
theorem madeNils (k : Nat) : madeCells #[.slice none 0 0] k = (List.replicate k (Value.slice none 0 0)).toArray := by
  apply Array.ext
  · simp [madeCells]
  · intro i h1 h2
    simp [madeCells, Nat.mod_one]
theorem row_nils (w : World) (k : Nat) : kB.Row (· = w.heap.size) (w.alloc (.cells (madeCells #[.slice none 0 0] k) 29)) (some ⟨w.heap.size, 0, none⟩) (List.replicate k []) :=
  Rd.Row.of_blk (blk_new w _) rfl (flat_nils _ _ k) (fun j v hj => by rw [madeNils, List.getElem?_toArray]; exact hj)
set_option maxRecDepth 100000 in
set_option maxHeartbeats 4000000 in
theorem packMost_walk (w : World) (a0 : Int) (w0 : (Lit.int .u8 a0).wf = true) (a1 : Int) (w1 : (Lit.int .u8 a1).wf = true) :
    Calls Try.prog 8 #[.int .u8 a0, .int .u8 a1] w fun e w' => e = .returned (.bool true) ∧ Below w.heap.size w w' := by
  have h0 := bounds_u8 w0
  have h1 := bounds_u8 w1
  clear w0 w1
  obtain ⟨n0, rfl⟩ := Int.eq_ofNat_of_zero_le h0.1
  obtain ⟨n1, rfl⟩ := Int.eq_ofNat_of_zero_le h1.1
  obtain ⟨k, hk⟩ : ∃ k, n0 % 40 = k := ⟨_, rfl⟩
  obtain ⟨t, ht⟩ : ∃ t, n1 % 40 = t := ⟨_, rfl⟩
  have hk2 : (n0 : Int) % 40 = (k : Int) := by omega
  have ht2 : (n1 : Int) % 40 = (t : Int) := by omega
  have hk40 : k < 40 := by omega
  have ht40 : t < 40 := by omega
  have hall : ∀ p ∈ List.replicate k ([] : List Int), p.length ≤ 0 := fun p hp => by rw [(List.mem_replicate.1 hp).2]; simp
  have hT := partsB_len (M := 0) (by decide) hall
  rw [List.length_replicate] at hT
  have hT4 : (partsB (List.replicate k [])).length ≤ 400 := by omega
  have hjl := joinB_len (l := List.replicate k []) (M := 0) (by rw [List.length_replicate]; omega) (by decide) hall
  rw [List.length_replicate] at hjl
  obtain ⟨L, hL⟩ : ∃ L, (joinB (List.replicate k [])).length = L := ⟨_, rfl⟩
  rw [hL] at hjl
  have hsp := splitB_back (List.replicate k []) (fun p hp => by have := hall p hp; omega) (by rw [List.length_replicate]; omega) (t : Int)
  rw [List.length_replicate] at hsp
  have hB : isB (joinB (List.replicate k [])) := joinB_isB (fun p hp => by rw [(List.mem_replicate.1 hp).2]; exact fun x hx => by cases hx)
  have hmk := fun w => run_make_row' (P := Try.prog) 37 29 (.slice none 0 0) 24 Try.underlying37 slb_info rfl .i64 .i64 k (by omega) (by omega) w
  have HT := Lib.hid hT4
  have HL := Lib.hid hL
  have HB := Lib.hid hB
  clear hall hT hT4 hL hB
  have hways : (k ≤ t ∧ Hid (splitB (joinB (List.replicate k [])) t = some (List.replicate k []))) ∨ (t < k ∧ Hid (splitB (joinB (List.replicate k [])) t = none)) := by
    by_cases h : k ≤ t
    · exact .inl ⟨h, Lib.hid (by rw [hsp, if_pos (by omega)])⟩
    · exact .inr ⟨by omega, Lib.hid (by rw [hsp, if_neg (by omega)])⟩
  have HR := Lib.hid (row_nils w k)
  have HB1 := Lib.hid ((Below.refl w.heap.size w).alloc (Nat.le_refl _) (.cells (madeCells #[.slice none 0 0] k) 29))
  clear hsp
  rcases hways with ⟨h, HS⟩ | ⟨h, HS⟩
  · have hd : decide (k ≤ t) = true := decide_eq_true h
    go_enter Try.func8, Try.ntmps8
    go_wp2_with (first
      | (go_at_call 19; refine (join_calls _ _ _ _ (List.replicate k []) List.length_replicate (by omega) 400 HT.out (by decide) (fun b hb => by subst hb; simp) HR.out).mono ?_; rw [HL.out]; rintro e w2 ⟨A2, c2, rfl, ho, hb⟩; have HO2 := Lib.hid ho; have HB2 := Lib.hid (HB1.out.trans (hb.mono (by simp))); have hs2 := HB2.out.size; clear ho hb)
      | (go_at_call 20; refine (split_calls _ _ _ _ (joinB (List.replicate k [])) HL.out (by omega) (own_lie HO2.out) HB.out t (by omega)).mono ?_; rintro e w3 ⟨hp, hb⟩; obtain ⟨A3, c3, rfl, hc3, hr3⟩ := split_ok hp HS.out; rw [List.length_replicate]; have HB3 := Lib.hid (HB2.out.trans (hb.mono hs2)); have hs3 := HB3.out.size; clear hp hb hr3 hc3)
      | (go_at_call 18; refine (packAnswers_calls _).mono ?_; rintro e w6 ⟨rfl, hb⟩; have HB6 := Lib.hid (HB3.out.trans (hb.mono hs3)); clear hb))
    go_ret
    exact ⟨rfl, HB6.out⟩
  · have hd : decide (k ≤ t) = false := decide_eq_false (by omega)
    go_enter Try.func8, Try.ntmps8
    go_wp2_with (first
      | (go_at_call 19; refine (join_calls _ _ _ _ (List.replicate k []) List.length_replicate (by omega) 400 HT.out (by decide) (fun b hb => by subst hb; simp) HR.out).mono ?_; rw [HL.out]; rintro e w2 ⟨A2, c2, rfl, ho, hb⟩; have HO2 := Lib.hid ho; have HB2 := Lib.hid (HB1.out.trans (hb.mono (by simp))); have hs2 := HB2.out.size; clear ho hb)
      | (go_at_call 20; refine (split_calls _ _ _ _ (joinB (List.replicate k [])) HL.out (by omega) (own_lie HO2.out) HB.out t (by omega)).mono ?_; rintro e w3 ⟨hp, hb⟩; obtain rfl := split_no hp HS.out; have HB3 := Lib.hid (HB2.out.trans (hb.mono hs2)); have hs3 := HB3.out.size; clear hp hb)
      | (go_at_call 18; refine (packAnswers_calls _).mono ?_; rintro e w6 ⟨rfl, hb⟩; have HB6 := Lib.hid (HB3.out.trans (hb.mono hs3)); clear hb))
    go_ret
    exact ⟨rfl, HB6.out⟩
end Go.Proofs.Ytmcjjikhdjoopaa
