/- The walk of HansOwn. -/
import Derived.Test.YtmadgnfnljnggaaHansFull
import Derived.Test.YtmadgnfnljnggaaPlain
namespace Go.Proofs.Ytmadgnfnljnggaa
open Go.RowKit
set_option linter.unusedVariables false
/-- One more in the number that the host knows it by. -/
def bump (h : Han) : Han := { h with desc := IntKind.u64.wrap (h.desc + 1) }
def shutH (h : Han) : Han := { h with opn := false }
theorem shutAt_mix (xs : List Han) (k : Nat) (x : Han) (hx : xs[k]? = some x) : shutAt ((xs.take k).map shutH ++ xs.drop k) (k : Int) = (xs.take (k + 1)).map shutH ++ xs.drop (k + 1) := by
  have hy := mix_get shutH xs k x hx
  have hs := mix_set shutH xs k x hx
  unfold shutAt openAt
  simp only [Int.toNat_natCast, hy]
  cases ho : x.opn with
  | false =>
    simp only [Option.filter, ho]
    rw [← hs]
    have he : shutH x = x := by obtain ⟨a, b, c⟩ := x; simp only at ho; subst ho; rfl
    rw [he]
    obtain ⟨hl, e⟩ := List.getElem?_eq_some_iff.1 hy
    have h2 := List.set_getElem_self hl
    rw [e] at h2
    simp only [Bool.false_eq_true, if_false]
    exact h2.symm
  | true =>
    simp only [Option.filter, ho, if_true]
    exact hs
theorem own_addr {w : World} {base : Nat} {e : TypeId} {size n c : Nat} {A : Option Addr} {xs : List Value} (h : w.ownsRow base e size (.slice A n c) n xs) (hn : 0 < n) : ∃ g, A = some ⟨g, 0, none⟩ ∧ base ≤ g ∧ g < w.heap.size := by
  obtain ⟨A', c', e, _, _, h5⟩ := own_shape h
  cases e
  exact h5 hn
theorem keeps_drewN {F : Nat → Prop} {a w : World} (h : Keeps F a w) (n : Nat) : Keeps F a (w.drewN n) := ⟨h.os, h.tape, h.output, h.size, h.block⟩
theorem shut_none (xs : List Han) : openAt (xs.map shutH) 0 = none := by
  cases xs <;> simp [openAt, shutH, Option.filter]
def openH (h : Han) : Han := { h with opn := true }
attribute [local irreducible] shutAt openAt hcells
set_option maxRecDepth 100000 in
theorem hansOwn_walk (w : World) (A0 : Option Addr) (c0 : Nat) (x0 : (List Han)) (l0 : x0.length ≤ c0) (m0 : x0.length ≤ 140737488351232) (row0 : k_han.Row (· < w.heap.size) w A0 x0) :
    Calls Try.prog 14 #[.slice A0 x0.length c0] w fun e w' => e = .returned (.bool true) ∧ Below w.heap.size w w' := by
  obtain ⟨cells, hfl, hlie⟩ := row0.flat
  obtain ⟨rfl, hwf⟩ := han_flat.1 hfl
  have HF := Lib.hid hwf
  have HL := Lib.hid hlie
  have HR := Lib.hid row0
  clear hfl hwf hlie row0
  by_cases hbig : 16 < x0.length
  · go_enter Try.func14, Try.ntmps14
    go_wp2_with (go_at_call 32; refine (hansAnswers_calls _).mono ?_; rintro e w5 ⟨rfl, hb5⟩)
    go_ret
    exact ⟨rfl, hb5⟩
  · go_enter Try.func14, Try.ntmps14
    go_wp2_with (first
      | (at_builtin; refine list_app _ rfl (.tmp 14) (.tmp 15) _ rfl 35 Try.underlying24 han_info rfl (by decide) (by decide) w.heap.size rfl (World.ownsRow_made w #[] 0 (Nat.le_refl _) (Nat.zero_le _) rfl) rfl (hcells_length _) (by exact HL.out.below ((Below.refl _ _).alloc (Nat.le_refl _) _)) (hcells_one _) (by omega) (by simp) ?_; intro v' w3 hown hg hat; have hB := grown_below ((Below.refl _ _).alloc (Nat.le_refl _) _) hg (by simp) (.inr ⟨_, rfl, Nat.le_refl _⟩); simp only [Nat.zero_add, List.nil_append] at hown; obtain ⟨A3, c3, rfl, hn3, _, hA3⟩ := own_shape hown; have HO := Lib.hid hown; have HA3 := Lib.hid hA3; clear hown hg hat hA3)
      | (go_at_call 33; refine (new_calls _ _ _ _ x0 rfl (by omega) (own_lie HO.out) HF.out).mono ?_; rintro e w1 ⟨p, v, rfl, ht, hp, hv, hb⟩; have HT := Lib.hid ht; have HV := Lib.hid hv; have HB := Lib.hid hb; clear ht hv hb))
    have hp3 := blk_lt HT.out.box
    have hs3 := hB.size
    have hs1 := HB.out.size
    have HO1 := Lib.hid (own_zero (own_below HO.out HB.out))
    have hB1 := Lib.hid (hB.trans (HB.out.mono hs3))
    have hvlt := Lib.hid (fun g hg => (HT.out.own.lt g hg).2)
    clear hB HB HO
    go_wp2_with fail
    go_loopw [5] (fun i wr => ∃ k : Nat, k ≤ x0.length ∧ i = .int .i64 k ∧ Hid (wr.ownsRow 0 35 3 (.slice A3 x0.length c3) x0.length (hcells ((x0.take k).map bump ++ x0.drop k))) ∧ Hid (Tab wr p v ((x0.take k).map shutH ++ x0.drop k)) ∧ Hid (Below w.heap.size w wr) ∧ w1.heap.size ≤ wr.heap.size) (fun i _ => x0.length - (intOf i).toNat)
    case atStart => exact ⟨0, Nat.zero_le _, rfl, by simpa using HO1, by simpa using HT, hB1, Nat.le_refl _⟩
    case round =>
      obtain ⟨k, hk, rfl, HO, HT, HB, hsz⟩ := hrel
      by_cases hlt : k < x0.length
      · obtain ⟨g, rfl, hg1, hg2⟩ := HA3.out (by omega)
        obtain ⟨x, hx⟩ : ∃ x, x0[k]? = some x := ⟨_, List.getElem?_eq_getElem hlt⟩
        have hy := mix_get bump x0 k x hx
        have hset := hcells_set1 _ k x hy (IntKind.u64.wrap (x.desc + 1))
        have hnext := mix_set bump x0 k x hx
        have hcell := (HO.out.cellAt (k * 3 + 1) (by omega)).trans (hcells_at _ k x hy).2.1
        have hfr := HO.out.frozenAt (k * 3 + 1)
        have hst := (HO.out.stored (k * 3 + 1) (.int .u64 (IntKind.u64.wrap (x.desc + 1)))).1
        rw [hset] at hst
        have hst2 := hnext ▸ hst
        have hnp : g ≠ p := by omega
        have hnv : ∀ g', v.ownBlock = some g' → g' ≠ g := fun g' h' => by have := HV.out g' h'; omega
        have hT2 := HT.out.keeps ((Keeps.refl (fun b => b = g) wr).setCell (p := ⟨g, k * 3 + 1, none⟩) (fun _ => rfl) (.int .u64 (IntKind.u64.wrap (x.desc + 1)))) (fun e => hnp e.symm) hnv
        have hb2 := HB.out.setCell (p := ⟨g, k * 3 + 1, none⟩) hg1 (.int .u64 (IntKind.u64.wrap (x.desc + 1)))
        have HS2 := Lib.hid hst2
        have HT2 := Lib.hid hT2
        have HB2 := Lib.hid hb2
        have HX := Lib.hid hx
        have HNV := Lib.hid hnv
        clear hx hy hset hnext hst hst2 hT2 hb2 hnv
        go_wp2_with (first
          | (go_at_call 36; refine (close_calls _ _ _ _ HT2.out (by simp; omega) _ (WalkArith.wf_u64 (by omega))).mono ?_; rintro e w4 ⟨rfl, ht, hk⟩; have HT4 := Lib.hid ht; have HK4 := Lib.hid hk; clear ht hk))
        go_roundw
        case rel =>
          refine ⟨k + 1, by omega, by go_num, Lib.hid (own_keeps HS2.out HK4.out (fun g' h h' => HNV.out g' h' (Option.some.inj h).symm)), Lib.hid ?_, Lib.hid (keeps_low HB2.out HK4.out (by simp; omega) (fun b hb => by have := HV.out b hb; omega)), by have := HK4.out.size; simp at this; omega⟩
          have := HT4.out
          rwa [shutAt_mix x0 k x HX.out] at this
        case measure => simp [intOf]; omega
      · have he : k = x0.length := by omega
        subst he
        have hT := HT.out
        rw [show (x0.take x0.length).map shutH ++ x0.drop x0.length = x0.map shutH by simp] at hT
        have HT3 := Lib.hid hT
        have hlm : (x0.map shutH).length = x0.length := by simp
        clear hT HT HO
        have hRr := Lib.hid (HR.out.keep HB.out.block)
        clear hlt
        go_wp2_with (first
          | (go_at_call 38; refine (tlist_calls _ _ _ _ HT3.out (by omega)).mono ?_; rintro e w6 ⟨A, c, rfl, ho, hg, hb6⟩; rw [hlm] at ho ⊢; have HL6 := Lib.hid ho; have HG6 := Lib.hid hg; have HB6 := Lib.hid hb6; clear ho hg hb6))
        have hB6 := Lib.hid (HB.out.trans (HB6.out.mono (by omega)))
        have hs6 := HB6.out.size
        have HT6 := Lib.hid (HT3.out.keeps (Keeps.of_below (F := fun _ => False) HB6.out) (fun h => h) (fun _ _ h => h))
        have hvl := Lib.hid (fun g hg => (HT3.out.own.lt g hg).2)
        have hpl := blk_lt HT3.out.box
        clear HB6 HT3 HB
        go_wp2_with fail
        go_loopw [7] (fun i w7 => ∃ k : Nat, k ≤ x0.length ∧ i = .int .i64 k ∧ Hid (w7.ownsRow 0 35 3 (.slice A x0.length c) x0.length (hcells (((x0.map shutH).take k).map openH ++ (x0.map shutH).drop k))) ∧ Hid (Tab w7 p v (x0.map shutH)) ∧ Hid (Below w.heap.size w w7) ∧ w6.heap.size ≤ w7.heap.size) (fun i _ => x0.length - (intOf i).toNat)
        case atStart => exact ⟨0, Nat.zero_le _, rfl, by simpa using HL6, HT6, hB6, Nat.le_refl _⟩
        case round =>
          obtain ⟨k, hk, rfl, HO, HT, HB, hsz7⟩ := hrel
          by_cases hlt : k < x0.length
          · obtain ⟨g, rfl, _, hg7⟩ := own_addr HO.out (by omega)
            have hgr := HG6.out g rfl
            obtain ⟨x, hx⟩ : ∃ x, x0[k]? = some x := ⟨_, List.getElem?_eq_getElem hlt⟩
            have hxs : (x0.map shutH)[k]? = some (shutH x) := by rw [List.getElem?_map, hx]; rfl
            have hy := mix_get openH _ k _ hxs
            have hset := hcells_set _ k _ hy true
            have hnext := mix_set openH _ k _ hxs
            have hc := hcells_at _ k _ hy
            have d1 := (HO.out.cellAt (k * 3 + 1) (by omega)).trans hc.2.1
            have d2 := (HO.out.cellAt (k * 3 + 2) (by omega)).trans hc.2.2
            have hfr := HO.out.frozenAt (k * 3 + 2)
            obtain ⟨b, o, rfl, hSb, e0, e1, e2, _⟩ := k_han_at (HR.out.keep HB.out.block) hx
            have hst := (HO.out.stored (k * 3 + 2) (.bool true)).1
            rw [hset] at hst
            have HS := Lib.hid (hnext ▸ hst)
            have hnp : p ≠ g := by omega
            have hnv : ∀ g', v.ownBlock = some g' → g' ≠ g := fun g' h' => by have := hvl.out g' h'; omega
            have HNV := Lib.hid hnv
            clear hx hxs hy hset hnext hc hst hnv e0 e2
            obtain ⟨x1, x2, x3⟩ := x
            simp only [shutH] at d1 d2 e1
            go_wp2_with (go_quiet (fail))
            go_roundw
            case rel => exact ⟨k + 1, by omega, by go_num, HS, Lib.hid (HT.out.keeps ((keeps_drewN (Keeps.refl (fun b => b = g) _) _).setCell (p := ⟨g, k * 3 + 2, none⟩) (fun _ => rfl) _) hnp HNV.out), Lib.hid ((below_drewN HB.out _).setCell (p := ⟨g, k * 3 + 2, none⟩) (show w.heap.size ≤ g by omega) _), by simpa using hsz7⟩
            case measure => simp [intOf]; omega
          · go_wp2_with (first
              | (go_at_call 35; refine (use_no _ _ _ _ HT.out (by omega) 0 rfl (shut_none _)).mono ?_; rintro e w8 ⟨rfl, rfl⟩)
              | (go_at_call 32; refine (hansAnswers_calls _).mono ?_; rintro e w9 ⟨rfl, hb9⟩))
            go_ret
            exact ⟨rfl, HB.out.trans (hb9.mono (by omega))⟩
end Go.Proofs.Ytmadgnfnljnggaa
