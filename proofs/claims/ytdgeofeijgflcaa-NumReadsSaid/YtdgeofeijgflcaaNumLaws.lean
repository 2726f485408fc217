/- The laws of num: answers, NumNone, NumCuts, NumShort. -/
import Derived.Test.YtdgeofeijgflcaaRdFixed
import Derived.Test.YtdgeofeijgflcaaNumPure
import Derived.Test.YtdgeofeijgflcaaRefRead
namespace Go.Proofs.Ytdgeofeijgflcaa
open Go.RowKit
set_option linter.unusedVariables false
theorem rdFixed_none (w : World) (n : Int) : Calls Try.prog 20 #[.pointer none, .int .i64 n] w fun e w' => e = .returned (.int .u64 0) ∧ Below w.heap.size w w' := by
  refine (rdFixed_of w none n (fun w1 w2 bs => bs = [] ∧ w2 = w1) ?_).mono ?_
  · rintro w1 m rfl _
    refine (take_none _ m).mono ?_
    rintro e w2 ⟨rfl, rfl⟩
    exact ⟨[], ⟨none, 0, rfl, by simp, fun x hx => absurd hx (by simp), fun h => absurd h (by simp)⟩, ⟨rfl, rfl⟩, blk_new _ _⟩
  · rintro e w' ⟨bs, w1, w2, rfl, rfl, ⟨rfl, rfl⟩, hk⟩
    exact ⟨rfl, ((Below.refl _ w).alloc (Nat.le_refl _) _).trans (hk.below (by simp) (fun x hx e => by omega))⟩
theorem rdFixed_no (w : World) (p : Nat) (S : Nat → Prop) (bs : List Int) (bad : Bool) (h : Rdr w p S bs bad) (n : Int) (hn : bad = true ∨ bs.length < cnt n) : Calls Try.prog 20 #[.pointer (some ⟨p, 0, none⟩), .int .i64 n] w fun e w' => e = .returned (.int .u64 0) ∧ Rdr w' p S bs true ∧ Keeps (· = p) w w' := by
  have hp := blk_lt (h.box.choose_spec.choose_spec.1)
  refine (rdFixed_of w (some ⟨p, 0, none⟩) n (fun w1 w2 ys => ys = [] ∧ Rdr w2 p S bs true ∧ Keeps (· = p) w1 w2) ?_).mono ?_
  · rintro w1 m rfl rfl
    have h1 := h.below ((Below.refl _ w).alloc (Nat.le_refl _) (.cells #[.int .u64 0] 22))
    refine (take_no _ p S bs bad h1 _ (hn.elim .inl (fun h => .inr (.inr (by omega))))).mono ?_
    rintro e w2 ⟨rfl, hR, hK⟩
    exact ⟨[], ⟨none, 0, rfl, by simp, fun x hx => absurd hx (by simp), fun h => absurd h (by simp)⟩, ⟨rfl, hR, hK⟩, blk_keeps (blk_new _ _) hK (by omega)⟩
  · rintro e w' ⟨ys, w1, w2, rfl, rfl, ⟨rfl, hR, hK⟩, hk⟩
    refine ⟨rfl, hR.keeps hk (by omega) (fun b hb => by have := (h.far b hb).1; omega), ?_⟩
    exact ((Keeps.refl (· = p) w).alloc _).trans hK |>.step hk (fun x hx e => by omega)
theorem own_getD {w : World} {base bv : Nat} {k c : Nat} {A : Option Addr} {bs : List Int} (h : w.ownsRow base 5 1 (.slice A k c) k (bcells bs)) (hk : bs.length = k) (hbv : bv < base) : 0 < bs.length → ∃ b off, A = some ⟨b, off, none⟩ ∧ b < w.heap.size ∧ b ≠ bv ∧ ∀ j, j < bs.length → w.cell? ⟨b, off + j, none⟩ = some (.int .u8 (bs[j]?.getD 0)) := by
  intro hp
  obtain ⟨g, c', cur, e, _, hg, _, _, hc, _⟩ := own_at h (by omega)
  cases e
  exact ⟨g, 0, rfl, hg, by have := (h.lt g rfl).1; omega, fun j hj => by
    rw [Nat.zero_add, List.getElem?_eq_getElem hj]
    exact hc j _ (bcells_at (List.getElem?_eq_getElem hj))⟩
theorem rdFixed_ok (w : World) (p : Nat) (S : Nat → Prop) (bs : List Int) (h : Rdr w p S bs false) (n : Int) (hn : cnt n ≤ bs.length) : Calls Try.prog 20 #[.pointer (some ⟨p, 0, none⟩), .int .i64 n] w fun e w' => e = .returned (.int .u64 (leB (bs.take (cnt n)))) ∧ Rdr w' p S (bs.drop (cnt n)) false ∧ Keeps (· = p) w w' := by
  have hp := blk_lt (h.box.choose_spec.choose_spec.1)
  have hc8 := cnt_le n
  have hl : (bs.take (cnt n)).length = cnt n := by rw [List.length_take]; omega
  refine (rdFixed_of w (some ⟨p, 0, none⟩) n (fun w1 w2 ys => ys = bs.take (cnt n) ∧ Rdr w2 p S (bs.drop (cnt n)) false ∧ Keeps (· = p) w1 w2) ?_).mono ?_
  · rintro w1 m rfl rfl
    have h1 := h.below ((Below.refl _ w).alloc (Nat.le_refl _) (.cells #[.int .u64 0] 22))
    refine (take_ok _ p S bs h1 _ hn).mono ?_
    rintro e w2 ⟨A, c, rfl, ho, hR, hK⟩
    exact ⟨bs.take (cnt n), ⟨A, c, by rw [hl], by omega, fun x hx => h.isb x (List.mem_of_mem_take hx), own_getD ho hl (by simp)⟩, ⟨rfl, hR, hK⟩, blk_keeps (blk_new _ _) hK (by omega)⟩
  · rintro e w' ⟨ys, w1, w2, rfl, rfl, ⟨rfl, hR, hK⟩, hk⟩
    refine ⟨rfl, hR.keeps hk (by omega) (fun b hb => by have := (h.far b hb).1; omega), ?_⟩
    exact ((Keeps.refl (· = p) w).alloc _).trans hK |>.step hk (fun x hx e => by omega)
theorem own_le {w : World} {base : Nat} {e : TypeId} {size n c : Nat} {A : Option Addr} {xs : List Value} (h : w.ownsRow base e size (.slice A n c) n xs) : n ≤ c := by
  obtain ⟨A', c', e, h3, _, _⟩ := own_shape h
  cases e
  exact h3
theorem own_addr {w : World} {base : Nat} {e : TypeId} {size n c : Nat} {A : Option Addr} {xs : List Value} (h : w.ownsRow base e size (.slice A n c) n xs) (hn : 0 < n) : ∃ g, A = some ⟨g, 0, none⟩ ∧ base ≤ g ∧ g < w.heap.size := by
  obtain ⟨A', c', e, _, _, h5⟩ := own_shape h
  cases e
  exact h5 hn
set_option maxRecDepth 100000 in
set_option maxHeartbeats 2000000 in
theorem numAnswers_calls (w : World) : Calls Try.prog 18 #[] w fun e w' => e = .returned (.bool true) ∧ Below w.heap.size w w' := by
  have hv : varB 300 = [172, 2] := by rw [varB_big (by decide), varB_small (by decide)]; rfl
  have HV := Lib.hid hv
  have HG := Lib.hid (show readV 0 0 [172, 2, 7] = ⟨300, [7], false⟩ by simp [readV])
  have HE := Lib.hid (show leB [7] = 7 by simp [leB])
  clear hv
  go_enter Try.func18, Try.ntmps18
  go_wp2_with (first
    | (go_at_call 27; refine (var_calls _ 300 (by decide)).mono ?_; rintro e w1 ⟨A, c, rfl, ho, hb⟩; rw [HV.out] at ho ⊢; obtain ⟨g, rfl, hg1, hg2⟩ := own_addr ho (by decide); have HO := Lib.hid ho; have HB := Lib.hid hb; clear ho hb)
    | (go_at_call 19; refine (newReader_calls _ _ _ _ [172, 2, 7] rfl (by decide) (by exact lie_new _ _ _ rfl) (by intro x hx; simp at hx; omega)).mono ?_; rintro e w2 ⟨p, S, rfl, hR, hp, hS, hb2⟩; have HR := Lib.hid hR; have HS := Lib.hid hS; have HB2 := Lib.hid (hb2.mono (show w1.heap.size + 1 ≤ _ by simp)); have d0 : w2.cell? ⟨g, 0, none⟩ = some (.int .u8 172) := (hb2.cell (p := ⟨g, 0, none⟩) (by simp; omega)).trans (((Below.refl w1.heap.size w1).alloc (Nat.le_refl _) _).cell (p := ⟨g, 0, none⟩) hg2 |>.trans (HO.out.cellAt 0 (by decide))); have d1 : w2.cell? ⟨g, 1, none⟩ = some (.int .u8 2) := (hb2.cell (p := ⟨g, 1, none⟩) (by simp; omega)).trans (((Below.refl w1.heap.size w1).alloc (Nat.le_refl _) _).cell (p := ⟨g, 1, none⟩) hg2 |>.trans (HO.out.cellAt 1 (by decide))); clear hR hS hb2)
    | (go_at_call 22; refine (rdVar_calls _ _ _ _ HR.out).mono ?_; rw [HG.out]; rintro e w3 ⟨rfl, hR, hK⟩; have HR3 := Lib.hid hR; have HK3 := Lib.hid hK; clear hR hK)
    | (go_at_call 26; refine (left_calls _ _ _ _ _ HR3.out).mono ?_; rintro e w4 ⟨rfl, rfl⟩)
    | (go_at_call 20; refine (rdFixed_ok _ _ _ _ HR3.out 1 (by decide)).mono ?_; rintro e w5 ⟨rfl, hR, hK⟩; have HK5 := Lib.hid hK; clear hR hK))
  go_ret
  have hs := HB.out.size
  exact ⟨rfl, HB.out.trans (((Below.refl _ w1).alloc (Nat.le_refl _) _ |>.trans (HB2.out.mono (by omega))).mono hs |>.trans ((HK3.out.step HK5.out (fun _ _ h => h)).below (by have := HB2.out.size; simp at this; omega) (fun x hx e => by simp at hp; omega)))⟩
theorem numNone_walk (w : World) (a0 : Int) (w0 : (Lit.int .i64 a0).wf = true) : Calls Try.prog 11 #[.int .i64 a0] w fun e w' => e = .returned (.bool true) ∧ Below w.heap.size w w' := by
  go_enter Try.func11, Try.ntmps11
  go_wp2_with (first
    | (go_at_call 18; refine (numAnswers_calls _).mono ?_; rintro e w1 ⟨rfl, hb1⟩)
    | (go_at_call 25; refine (bad_none _).mono ?_; rintro e w2 ⟨rfl, rfl⟩)
    | (go_at_call 26; refine (left_none _).mono ?_; rintro e w2 ⟨rfl, rfl⟩)
    | (go_at_call 20; refine (rdFixed_none _ _).mono ?_; rintro e w3 ⟨rfl, hb3⟩)
    | (go_at_call 22; refine (rdVar_none _).mono ?_; rintro e w2 ⟨rfl, rfl⟩)
    | (go_at_call 23; refine (take_none _ _).mono ?_; rintro e w2 ⟨rfl, rfl⟩))
  go_ret
  exact ⟨rfl, hb1.trans (hb3.mono hb1.size)⟩
set_option maxRecDepth 100000 in
set_option maxHeartbeats 2000000 in
theorem numCuts_walk (w : World) (a0 : Int) (w0 : (Lit.int .u64 a0).wf = true) (a1 : Int) (w1 : (Lit.int .u8 a1).wf = true) : Calls Try.prog 12 #[.int .u64 a0, .int .u8 a1] w fun e w' => e = .returned (.bool true) ∧ Below w.heap.size w w' := by
  have b0 := bounds_u64 w0
  have b1 := bounds_u8 w1
  obtain ⟨v, rfl⟩ := Int.eq_ofNat_of_zero_le b0.1
  obtain ⟨m, rfl⟩ := Int.eq_ofNat_of_zero_le b1.1
  have hv : v < 18446744073709551616 := by omega
  have hlen := varB_ten hv
  have hpos := varB_pos v
  obtain ⟨L, hL⟩ : ∃ L, L = (varB v).length := ⟨_, rfl⟩
  rw [← hL] at hlen hpos
  have HL := Lib.hid hL
  have hk : m % L < L := Nat.mod_lt _ hpos
  have htl : ((varB v).take (m % L)).length = m % L := by rw [List.length_take, ← hL]; omega
  have HTL := Lib.hid htl
  have hcont := varB_init v (m % L) (by rw [← hL]; exact hk)
  have HC := Lib.hid (readV_cont _ 0 0 hcont)
  have HZ := Lib.hid (readV_bad _ 0 0 (readV_cont _ 0 0 hcont))
  have HB := Lib.hid (show isB ((varB v).take (m % L)) from fun x hx => varB_isB v x (List.mem_of_mem_take hx))
  clear hL htl hcont w0 w1 b0
  have hmod : (m : Int).tmod (L : Int) = ((m % L : Nat) : Int) := by rw [Int.tmod_eq_emod_of_nonneg (by omega)]; rfl
  go_enter Try.func12, Try.ntmps12
  go_wp2_with (first
    | (go_at_call 28; refine (refVar_calls v _ hv).mono ?_; rintro e w1 ⟨A, c, rfl, ho, hb⟩; rw [← HL.out] at ho ⊢; obtain ⟨g, rfl, hg1, hg2⟩ := own_addr ho hpos; have hLc := own_le ho; have HO := Lib.hid ho; have HB1 := Lib.hid hb; clear ho hb)
    | (go_at_call 19; refine (newReader_calls _ _ _ _ ((varB v).take (m % L)) HTL.out (by omega) (by rw [bcells_take]; exact lie_take (own_lie HO.out) (by omega)) HB.out).mono ?_; rintro e w2 ⟨p, S, rfl, hR, hp, hS, hb2⟩; have HR := Lib.hid hR; have HB2 := Lib.hid hb2; clear hR hS hb2)
    | (go_at_call 18; refine (numAnswers_calls _).mono ?_; rintro e w3 ⟨rfl, hb3⟩; have HR3 := Lib.hid (HR.out.below hb3); have HB3 := Lib.hid hb3; clear hb3)
    | (go_at_call 22; refine (rdVar_calls _ _ _ _ HR3.out).mono ?_; rw [HC.out, HZ.out]; rintro e w4 ⟨rfl, hR, hK⟩; have HR4 := Lib.hid hR; have HK4 := Lib.hid hK; clear hR hK)
    | (go_at_call 25; refine (bad_calls _ _ _ _ _ HR4.out).mono ?_; rintro e w5 ⟨rfl, rfl⟩)
    | (go_at_call 26; refine (left_calls _ _ _ _ _ HR4.out).mono ?_; rintro e w6 ⟨rfl, rfl⟩)
    | (go_at_call 23; refine (take_no _ _ _ _ _ HR4.out 0 (.inl rfl)).mono ?_; rintro e w7 ⟨rfl, hR, hK⟩; have HK7 := Lib.hid hK; clear hR hK))
  go_ret
  have hs := HB1.out.size
  have hs2 := HB2.out.size
  have hs3 := HB3.out.size
  exact ⟨rfl, ((HB1.out.trans (HB2.out.mono hs)).trans (HB3.out.mono (by omega))).trans ((HK4.out.step HK7.out (fun _ _ h => h)).below (by omega) (fun x hx e => by omega))⟩
end Go.Proofs.Ytdgeofeijgflcaa
