/- The walk of InstReads. -/
import Derived.Test.YtjcceabdphkalaaInstLaws
namespace Go.Proofs.Ytjcceabdphkalaa
open Go.RowKit
set_option linter.unusedVariables false
theorem box3f {w : World} {g : Nat} {t : TypeId} {x y z : Value} (h : w.heap[g]? = some (.cells #[x, y, z] t (0, 0))) : w.frozen? ⟨g, 0, none⟩ = false ∧ w.frozen? ⟨g, 1, none⟩ = false ∧ w.frozen? ⟨g, 2, none⟩ = false := ⟨blk_frozen h 0, blk_frozen h 1, blk_frozen h 2⟩
set_option maxRecDepth 100000 in
set_option maxHeartbeats 4000000 in
theorem instReads_walk (w : World) (A0 : Option Addr) (c0 : Nat) (x0 : (List Int)) (l0 : x0.length ≤ c0) (m0 : x0.length ≤ 140737488351232) (row0 : (Rd.int .u8).Row (· < w.heap.size) w A0 x0) :
    Calls Try.prog 13 #[.slice A0 x0.length c0] w fun e w' => e = .returned (.bool true) ∧ Below w.heap.size w w' := by
  obtain ⟨cells, hfl, hlie⟩ := row0.flat
  obtain ⟨rfl, hB⟩ := byte_flat.1 hfl
  have HL := Lib.hid hlie
  have HB := Lib.hid hB
  have HR0 := Lib.hid row0
  clear hfl hlie row0
  by_cases hbig : 50 < x0.length
  · go_enter Try.func13, Try.ntmps13
    go_wp2_with (go_at_call 34; refine (instAnswers_calls _).mono ?_; rintro e w5 ⟨rfl, hb5⟩)
    go_ret
    exact ⟨rfl, hb5⟩
  · cases hg : getI x0 with
    | some q =>
      obtain ⟨⟨op, a, b⟩, rest⟩ := q
      obtain ⟨hgd, hx⟩ := getI_only hB hg
      obtain ⟨L, hL⟩ : ∃ L, L = (instB ⟨op, a, b⟩).length := ⟨_, rfl⟩
      obtain ⟨M, hM⟩ : ∃ M, rest.length = M := ⟨_, rfl⟩
      have hlen : x0.length = L + M := by rw [hx, List.length_append, ← hL, hM]
      have htk := Lib.hid (show x0.take L = instB ⟨op, a, b⟩ by rw [hx, hL]; exact List.take_left)
      have hne : instB ⟨op, a, b⟩ ≠ [] := by unfold instB; rw [if_pos hgd]; simp
      have hL1 : 0 < L := by rw [hL]; exact List.length_pos_iff.2 hne
      have hL2 : L ≤ 1000000 := by rw [hL]; have := instB_len ⟨op, a, b⟩; omega
      have HLn := Lib.hid hL
      have HM := Lib.hid hM
      have HG := Lib.hid hg
      have hk : (x0.length : Int) - (M : Int) = (L : Int) := by omega
      have hLc : L ≤ c0 := by omega
      have hM1 : M ≤ 50 := by omega
      have hxl : L ≤ x0.length := by omega
      obtain ⟨b0, o0, rfl, hb0, _⟩ := HR0.out (by omega)
      have HTL := Lib.hid (show (x0.take L).length = L by rw [List.length_take]; omega)
      clear hx hL hM hg hgd hne hlen hB
      go_enter Try.func13, Try.ntmps13
      go_wp2_with (first
        | (go_at_call 33; refine (newReader_calls _ _ _ _ x0 rfl (by omega) HL.out HB.out).mono ?_; rintro e w1 ⟨p, S, rfl, hR, hp, hS, hb1⟩; have HR := Lib.hid hR; have HB1 := Lib.hid hb1; have hs1 := hb1.size; clear hR hS hb1)
        | (go_at_call 32; refine (get_ok _ _ _ _ HR.out _ _ HG.out).mono ?_; rintro e w2 ⟨rfl, hR, hK⟩; have HB2 := Lib.hid (HB1.out.trans (hK.below hs1 (fun x hx e => by omega))); have hs2 := HB2.out.size; have HR2 := Lib.hid (hR.below ((Below.refl w2.heap.size w2).alloc (Nat.le_refl _) (Obj.cells #[.int .i64 op, .int .i64 a, .int .i64 b] 54))); have HX2 := Lib.hid (blk_new w2 (Obj.cells #[.int .i64 op, .int .i64 a, .int .i64 b] 54)); clear hR hK)
        | (go_at_call 34; refine (instAnswers_calls _).mono ?_; rintro e w3 ⟨rfl, hb3⟩; have HR3 := Lib.hid (HR2.out.below hb3); have HX3 := Lib.hid (blk_below HX2.out hb3 (by simp)); obtain ⟨k0, k1, k2⟩ := box3 HX3.out; have HB3 := Lib.hid ((HB2.out.alloc hs2 (Obj.cells #[.int .i64 op, .int .i64 a, .int .i64 b] 54)).trans (hb3.mono (by first | omega | (simp; omega)))); have hs3 := HB3.out.size; clear hb3)
        | (go_at_call 35; refine (refInstr_calls _ op a b).mono ?_; rw [← HLn.out]; rintro e w4 ⟨A4, c4, rfl, ho, hb4⟩; have HO4 := Lib.hid ho; have HR4 := Lib.hid (HR3.out.below hb4); have HB4 := Lib.hid (HB3.out.trans (hb4.mono hs3)); have hs4 := HB4.out.size; clear ho hb4)
        | (go_at_call 37; refine (left_calls _ _ _ _ _ HR4.out).mono ?_; rw [HM.out]; rintro e w5 ⟨rfl, rfl⟩)
        | (go_at_call 25; refine (same_calls (S := fun b => (Value.slice A4 L c4).ownBlock = some b) (T := (· < w.heap.size)) _ _ _ _ _ _ _ (instB ⟨op, a, b⟩) (x0.take L) HLn.out.symm HTL.out hL2 hL2 (fun b hb => (HO4.out.lt b hb).2) (fun b hb => Nat.lt_of_lt_of_le hb hs4) (own_brow HO4.out HLn.out.symm (instB_isB _) hL2) ((row_take HR0.out L).keep HB4.out.block)).mono ?_; rintro e w6 ⟨he, hb6⟩; obtain rfl := he.trans (ret_bool (decide_eq_true htk.out.symm)); have HB6 := Lib.hid (HB4.out.trans (hb6.mono hs4)); clear he hb6))
      go_ret
      exact ⟨rfl, HB6.out⟩
    | none =>
      have HG := Lib.hid hg
      clear hg hB
      by_cases h0 : x0.length = 0
      · obtain rfl := List.eq_nil_of_length_eq_zero h0
        go_enter Try.func13, Try.ntmps13
        go_wp2_with (first
          | (go_at_call 33; refine (newReader_calls _ _ _ _ [] rfl (by decide) HL.out HB.out).mono ?_; rintro e w1 ⟨p, S, rfl, hR, hp, hS, hb1⟩; have HR := Lib.hid hR; have HB1 := Lib.hid hb1; have hs1 := hb1.size; clear hR hS hb1)
          | (go_at_call 32; refine (get_no _ _ _ _ HR.out HG.out).mono ?_; rintro e w2 ⟨rfl, hK⟩; have HB2 := Lib.hid (HB1.out.trans (hK.below hs1 (fun x hx e => by omega))); have hs2 := HB2.out.size; clear hK)
          | (go_at_call 34; refine (instAnswers_calls _).mono ?_; rintro e w3 ⟨rfl, hb3⟩; have HX3 := Lib.hid (blk_below (blk_new w2 (Obj.cells #[.int .i64 0, .int .i64 0, .int .i64 0] 54)) hb3 (by simp)); obtain ⟨k0, k1, k2⟩ := box3 HX3.out; have HB3 := Lib.hid ((HB2.out.alloc hs2 (Obj.cells #[.int .i64 0, .int .i64 0, .int .i64 0] 54)).trans (hb3.mono (by first | omega | (simp; omega)))); clear hb3))
        go_ret
        exact ⟨rfl, HB3.out⟩
      · obtain ⟨c, hc⟩ : ∃ c, x0[0]? = some c := ⟨_, List.getElem?_eq_getElem (by omega)⟩
        obtain ⟨b0, o0, rfl, hb0, c0', hcw⟩ := row_u8_at HR0.out hc
        have hcb := HB.out c (List.mem_of_getElem? hc)
        obtain ⟨n, hn⟩ : ∃ n, argsN c = n := ⟨_, rfl⟩
        have hn0 : n ≠ 0 := by
          rw [← hn]
          cases x0 with
          | nil => simp at h0
          | cons d r => simp at hc; subst hc; exact getI_none HG.out
        have hq : (n == 0) = false := beq_eq_false_iff_ne.2 hn0
        have HN := Lib.hid hn
        clear hn hc
        rw [Nat.add_zero] at c0'
        go_enter Try.func13, Try.ntmps13
        go_wp2_with (first
          | (go_at_call 33; refine (newReader_calls _ _ _ _ x0 rfl (by omega) HL.out HB.out).mono ?_; rintro e w1 ⟨p, S, rfl, hR, hp, hS, hb1⟩; have HR := Lib.hid hR; have HB1 := Lib.hid hb1; have hs1 := hb1.size; clear hR hS hb1)
          | (go_at_call 32; refine (get_no _ _ _ _ HR.out HG.out).mono ?_; rintro e w2 ⟨rfl, hK⟩; have HB2 := Lib.hid (HB1.out.trans (hK.below hs1 (fun x hx e => by omega))); have hs2 := HB2.out.size; have q0 : w2.cell? ⟨b0, o0, none⟩ = some (.int .u8 c) := (HB2.out.cell (p := ⟨b0, o0, none⟩) hb0).trans c0'; have hbb : b0 ≠ w2.heap.size := by omega
             have hbl : b0 < w2.heap.size := by omega
             clear hK)
          | (go_at_call 30; refine (refArgs_at _ c n HN.out).mono ?_; rintro e w3 ⟨rfl, hb3⟩; have HX3 := Lib.hid (blk_below (blk_new w2 (Obj.cells #[.int .i64 0, .int .i64 0, .int .i64 0] 54)) hb3 (by simp)); have HB3 := Lib.hid ((HB2.out.alloc hs2 (Obj.cells #[.int .i64 0, .int .i64 0, .int .i64 0] 54)).trans (hb3.mono (by first | omega | (simp; omega)))); have hs3 := HB3.out.size; clear hb3)
          | (go_at_call 34; refine (instAnswers_calls _).mono ?_; rintro e w4 ⟨rfl, hb4⟩; have HX4 := Lib.hid (blk_below HX3.out hb4 (blk_lt HX3.out)); obtain ⟨k0, k1, k2⟩ := box3 HX4.out; have HB4 := Lib.hid (HB3.out.trans (hb4.mono hs3)); clear hb4))
        go_ret
        exact ⟨rfl, HB4.out⟩
end Go.Proofs.Ytjcceabdphkalaa
