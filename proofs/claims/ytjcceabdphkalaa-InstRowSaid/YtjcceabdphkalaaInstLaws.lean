/- The laws of inst: answers, InstCuts. -/
import Derived.Test.YtjcceabdphkalaaInstGet
import Derived.Test.YtjcceabdphkalaaInstRef
import Derived.Test.YtjcceabdphkalaaRefRead
import Derived.Laws.StructEq
namespace Go.Proofs.Ytjcceabdphkalaa
open Go.RowKit
set_option linter.unusedVariables false
theorem own_addr {w : World} {base : Nat} {e : TypeId} {size n c : Nat} {A : Option Addr} {xs : List Value} (h : w.ownsRow base e size (.slice A n c) n xs) (hn : 0 < n) : ∃ g, A = some ⟨g, 0, none⟩ ∧ base ≤ g ∧ g < w.heap.size := by
  obtain ⟨A', c', e, _, _, h5⟩ := own_shape h
  cases e
  exact h5 hn
theorem own_le {w : World} {base : Nat} {e : TypeId} {size n c : Nat} {A : Option Addr} {xs : List Value} (h : w.ownsRow base e size (.slice A n c) n xs) : n ≤ c := by
  obtain ⟨A', c', e, h3, _, _⟩ := own_shape h
  cases e
  exact h3
set_option maxRecDepth 100000 in
set_option maxHeartbeats 2000000 in
theorem instAnswers_calls (w : World) : Calls Try.prog 34 #[] w fun e w' => e = .returned (.bool true) ∧ Below w.heap.size w w' := by
  have HB := Lib.hid (show instB ⟨3, 3, 0⟩ = [3, 3] by
    have h := instB_enc (op := 3) (a := 3) (b := 0) (n := 1) (by decide) (by decide)
    simpa [enc, varB_small] using h)
  have HG := Lib.hid (show getI [8] = some (⟨8, 0, 0⟩, []) by decide)
  have HA := Lib.hid (fun w' => args_at w' 30 2 (by decide))
  go_enter Try.func34, Try.ntmps34
  go_wp2_with (first
    | (go_at_call 31; refine (put_calls _ 3 3 0).mono ?_; rw [HB.out]; rintro e w1 ⟨A, c, rfl, ho, hb⟩; obtain ⟨g, rfl, hg1, hg2⟩ := own_addr ho (by decide); have HO := Lib.hid ho; have HB1 := Lib.hid hb; have hs1 := hb.size; clear ho hb)
    | (go_at_call 33; refine (newReader_calls _ _ _ _ [8] rfl (by decide) (by exact lie_new _ _ _ rfl) (by intro x hx; simp at hx; omega)).mono ?_; rintro e w2 ⟨p, S, rfl, hR, hp, hS, hb2⟩; have HR := Lib.hid hR; have hp1 : w1.heap.size ≤ p := by simp at hp; omega
       have HB2 := Lib.hid (((Below.refl w1.heap.size w1).alloc (Nat.le_refl _) _).trans (hb2.mono (by simp))); have hs2 := HB2.out.size; clear hR hS hb2)
    | (go_at_call 32; refine (get_ok _ _ _ _ HR.out _ _ HG.out).mono ?_; rintro e w3 ⟨rfl, _, hK⟩; have HB3 := Lib.hid (HB2.out.trans (hK.below hs2 (fun x hx e => by omega))); have hs3 := HB3.out.size; have d1 : w3.cell? ⟨g, 1, none⟩ = some (.int .u8 3) := (HB3.out.cell (p := ⟨g, 1, none⟩) hg2).trans (HO.out.cellAt 1 (by decide)); have hg3 : g < w3.heap.size := by omega
       have hg4 : g ≠ w3.heap.size := by omega
       clear hK)
    | (go_at_call 36; refine (HA.out _).mono ?_; rintro e w4 ⟨rfl, rfl⟩))
  go_ret
  exact ⟨rfl, (HB1.out.trans (HB3.out.mono hs1)).alloc (by omega) _⟩
theorem instB_len (i : Ins) : (instB i).length ≤ 30 := by
  by_cases hg : goodI i = true
  · obtain ⟨h1, h2, h3, h4, h5, h6, h7⟩ := goodI_open hg
    have ha := varB_ten (show i.a.toNat < 18446744073709551616 by omega)
    have hb := varB_ten (show i.b.toNat < 18446744073709551616 by omega)
    unfold instB
    rw [if_pos hg, List.length_cons, List.length_append]
    split <;> split <;> simp <;> omega
  · unfold instB
    rw [if_neg hg]
    simp
set_option maxRecDepth 100000 in
set_option maxHeartbeats 4000000 in
theorem instCuts_walk (w : World) (a0 : Int) (w0 : (Lit.int .u8 a0).wf = true) (a1 : Int) (w1 : (Lit.int .u8 a1).wf = true) (a2 : Int) (w2 : (Lit.int .u8 a2).wf = true) (a3 : Int) (w3 : (Lit.int .u8 a3).wf = true) :
    Calls Try.prog 10 #[.int .u8 a0, .int .u8 a1, .int .u8 a2, .int .u8 a3] w fun e w' => e = .returned (.bool true) ∧ Below w.heap.size w w' := by
  have b0 := bounds_u8 w0
  have b1 := bounds_u8 w1
  have b2 := bounds_u8 w2
  have b3 := bounds_u8 w3
  obtain ⟨m, rfl⟩ := Int.eq_ofNat_of_zero_le b3.1
  obtain ⟨op, hop⟩ : ∃ op : Int, op = a0 % 42 := ⟨_, rfl⟩
  have hop1 : 0 ≤ op ∧ op < 42 := by omega
  have hmod : a0.tmod 42 = op := by rw [Int.tmod_eq_emod_of_nonneg (by omega), hop]
  clear hop w0 w1 w2 w3
  obtain ⟨n, hn⟩ : ∃ n : Nat, argsN op = (n : Int) := ⟨(argsN op).toNat, by
    have h : 0 ≤ argsN op := by
      unfold argsN
      split
      · decide
      · split
        · decide
        · rw [if_neg (by omega)]; decide
    omega⟩
  have hn2 : n = 0 ∨ n = 1 ∨ n = 2 := by rcases argsN_range op with h | h | h | h <;> omega
  have hop2 := hop1.1
  have hop3 := hop1.2
  have HN := Lib.hid hn
  clear hn hop1
  have hgood : ∀ x y : Int, (0 ≤ x ∧ x ≤ 255) → (0 ≤ y ∧ y ≤ 255) → (n = 0 → x = 0) → (n ≤ 1 → y = 0) → goodI ⟨op, x, y⟩ = true := fun x y hx hy h0 h1 => by
    unfold goodI mayN
    rw [HN.out]
    simp only [Bool.and_eq_true, Bool.or_eq_true, decide_eq_true_eq]
    refine ⟨by omega, ⟨hx.1, hx.2, ?_⟩, hy.1, hy.2, ?_⟩ <;> omega
  have HGD := Lib.hid hgood
  clear hgood
  rcases hn2 with rfl | rfl | rfl
  · have HA := Lib.hid (fun w' => refArgs_at w' op 0 HN.out)
    have hg := HGD.out 0 0 (by omega) (by omega) (by omega) (by omega)
    have hne : instB ⟨op, 0, 0⟩ ≠ [] := by unfold instB; rw [if_pos hg]; simp
    obtain ⟨L, hL⟩ : ∃ L, L = (instB ⟨op, 0, 0⟩).length := ⟨_, rfl⟩
    have hL1 : 0 < L := by rw [hL]; exact List.length_pos_iff.2 hne
    have hL2 : L ≤ 30 := by rw [hL]; exact instB_len _
    have HL := Lib.hid hL
    have hk : m % L < L := Nat.mod_lt _ hL1
    have hmL : (m : Int).tmod (L : Int) = ((m % L : Nat) : Int) := by rw [Int.tmod_eq_emod_of_nonneg (by omega)]; rfl
    have HTL := Lib.hid (show ((instB ⟨op, 0, 0⟩).take (m % L)).length = m % L by rw [List.length_take, ← hL]; omega)
    have HCut := Lib.hid (getI_cut ⟨op, 0, 0⟩ (m % L) (by rw [← hL]; exact hk))
    have HIB := Lib.hid (show isB ((instB ⟨op, 0, 0⟩).take (m % L)) from fun z hz => instB_isB _ z (List.mem_of_mem_take hz))
    have HX0 := Lib.hid (blk_new w (Obj.cells #[.int .i64 op, .int .i64 0, .int .i64 0] 54))
    have HB0 := Lib.hid ((Below.refl w.heap.size w).alloc (Nat.le_refl _) (Obj.cells #[.int .i64 op, .int .i64 0, .int .i64 0] 54))
    have hL0 : (L == 0) = false := beq_eq_false_iff_ne.2 (by omega)
    have hL0' : ((L : Int) == 0) = false := beq_eq_false_iff_ne.2 (by omega)
    clear hg hne hL HGD
    go_enter Try.func10, Try.ntmps10
    go_wp2_with (first
      | (go_at_call 30; have tok := HX0; refine (HA.out _).mono ?_; rintro e w1 ⟨rfl, hb1⟩; have HX1 := Lib.hid (blk_below HX0.out hb1 (by simp)); obtain ⟨c0, c1, c2⟩ := box3 HX1.out; have f1 := blk_frozen HX1.out 1; have f2 := blk_frozen HX1.out 2; have HB1 := Lib.hid (HB0.out.trans (hb1.mono (by simp))); have hs1 := blk_lt HX1.out; clear hb1 tok; clear HX0)
      | (go_at_call 30; refine (HA.out _).mono ?_; rintro e w2 ⟨rfl, hb2⟩; have HX2 := Lib.hid (show w2.heap[w.heap.size]? = some (.cells #[.int .i64 op, .int .i64 0, .int .i64 0] 54 (0, 0)) from blk_below HX1.out hb2 (by first | omega | (simp; omega))); obtain ⟨d0, d1, d2⟩ := box3 HX2.out; have f3 := blk_frozen HX2.out 2; have HB2 := Lib.hid (HB1.out.trans (hb2.mono (by first | omega | (simp; omega)))); have hs2 := blk_lt HX2.out; clear hb2)
      | (go_at_call 31; refine (put_calls _ op 0 0).mono ?_; rw [← HL.out]; rintro e w3 ⟨A3, c3, rfl, ho, hb3⟩; obtain ⟨g, rfl, hg1, hg2⟩ := own_addr ho hL1; have hLc := own_le ho; have HO3 := Lib.hid ho; have HB3 := Lib.hid (HB2.out.trans (hb3.mono (by first | omega | (simp; omega)))); have hs3 := HB3.out.size; clear ho hb3)
      | (go_at_call 33; refine (newReader_calls _ _ _ _ ((instB ⟨op, 0, 0⟩).take (m % L)) HTL.out (by omega) (by rw [bcells_take]; exact lie_take (own_lie HO3.out) (by omega)) HIB.out).mono ?_; rintro e w4 ⟨p, S, rfl, hR, hp, hS, hb4⟩; have HR4 := Lib.hid hR; have HB4 := Lib.hid (HB3.out.trans (hb4.mono hs3)); have hs4 := HB4.out.size; clear hR hS hb4)
      | (go_at_call 32; refine (get_no _ _ _ _ HR4.out HCut.out).mono ?_; rintro e w5 ⟨rfl, hK⟩; have HB5 := Lib.hid (HB4.out.trans (hK.below hs4 (fun x hx e => by omega))); have hs5 := HB5.out.size; clear hK)
      | (go_at_call 34; refine (instAnswers_calls _).mono ?_; rintro e w6 ⟨rfl, hb6⟩; have HX6 := Lib.hid (blk_below (blk_new w5 (Obj.cells #[.int .i64 0, .int .i64 0, .int .i64 0] 54)) hb6 (by simp)); obtain ⟨k0, k1, k2⟩ := box3 HX6.out; have HB6 := Lib.hid ((HB5.out.alloc hs5 (Obj.cells #[.int .i64 0, .int .i64 0, .int .i64 0] 54)).trans (hb6.mono (by first | omega | (simp; omega)))); clear hb6))
    go_ret
    exact ⟨rfl, HB6.out⟩
  · have HA := Lib.hid (fun w' => refArgs_at w' op 1 HN.out)
    have hg := HGD.out a1 0 (by omega) (by omega) (by omega) (by omega)
    have hne : instB ⟨op, a1, 0⟩ ≠ [] := by unfold instB; rw [if_pos hg]; simp
    obtain ⟨L, hL⟩ : ∃ L, L = (instB ⟨op, a1, 0⟩).length := ⟨_, rfl⟩
    have hL1 : 0 < L := by rw [hL]; exact List.length_pos_iff.2 hne
    have hL2 : L ≤ 30 := by rw [hL]; exact instB_len _
    have HL := Lib.hid hL
    have hk : m % L < L := Nat.mod_lt _ hL1
    have hmL : (m : Int).tmod (L : Int) = ((m % L : Nat) : Int) := by rw [Int.tmod_eq_emod_of_nonneg (by omega)]; rfl
    have HTL := Lib.hid (show ((instB ⟨op, a1, 0⟩).take (m % L)).length = m % L by rw [List.length_take, ← hL]; omega)
    have HCut := Lib.hid (getI_cut ⟨op, a1, 0⟩ (m % L) (by rw [← hL]; exact hk))
    have HIB := Lib.hid (show isB ((instB ⟨op, a1, 0⟩).take (m % L)) from fun z hz => instB_isB _ z (List.mem_of_mem_take hz))
    have HX0 := Lib.hid (blk_new w (Obj.cells #[.int .i64 op, .int .i64 0, .int .i64 0] 54))
    have HB0 := Lib.hid ((Below.refl w.heap.size w).alloc (Nat.le_refl _) (Obj.cells #[.int .i64 op, .int .i64 0, .int .i64 0] 54))
    have hL0 : (L == 0) = false := beq_eq_false_iff_ne.2 (by omega)
    have hL0' : ((L : Int) == 0) = false := beq_eq_false_iff_ne.2 (by omega)
    clear hg hne hL HGD
    go_enter Try.func10, Try.ntmps10
    go_wp2_with (first
      | (go_at_call 30; have tok := HX0; refine (HA.out _).mono ?_; rintro e w1 ⟨rfl, hb1⟩; have HX1 := Lib.hid (blk_below HX0.out hb1 (by simp)); obtain ⟨c0, c1, c2⟩ := box3 HX1.out; have f1 := blk_frozen HX1.out 1; have f2 := blk_frozen HX1.out 2; have HB1 := Lib.hid (HB0.out.trans (hb1.mono (by simp))); have hs1 := blk_lt HX1.out; clear hb1 tok; clear HX0)
      | (go_at_call 30; refine (HA.out _).mono ?_; rintro e w2 ⟨rfl, hb2⟩; have HX2 := Lib.hid (show w2.heap[w.heap.size]? = some (.cells #[.int .i64 op, .int .i64 a1, .int .i64 0] 54 (0, 0)) from blk_below (blk_set HX1.out 1 (.int .i64 a1)) hb2 (by first | omega | (simp; omega))); obtain ⟨d0, d1, d2⟩ := box3 HX2.out; have f3 := blk_frozen HX2.out 2; have HB2 := Lib.hid ((HB1.out.setCell (p := ⟨w.heap.size, 1, none⟩) (Nat.le_refl _) (.int .i64 a1)).trans (hb2.mono (by first | omega | (simp; omega)))); have hs2 := blk_lt HX2.out; clear hb2)
      | (go_at_call 31; refine (put_calls _ op a1 0).mono ?_; rw [← HL.out]; rintro e w3 ⟨A3, c3, rfl, ho, hb3⟩; obtain ⟨g, rfl, hg1, hg2⟩ := own_addr ho hL1; have hLc := own_le ho; have HO3 := Lib.hid ho; have HB3 := Lib.hid (HB2.out.trans (hb3.mono (by first | omega | (simp; omega)))); have hs3 := HB3.out.size; clear ho hb3)
      | (go_at_call 33; refine (newReader_calls _ _ _ _ ((instB ⟨op, a1, 0⟩).take (m % L)) HTL.out (by omega) (by rw [bcells_take]; exact lie_take (own_lie HO3.out) (by omega)) HIB.out).mono ?_; rintro e w4 ⟨p, S, rfl, hR, hp, hS, hb4⟩; have HR4 := Lib.hid hR; have HB4 := Lib.hid (HB3.out.trans (hb4.mono hs3)); have hs4 := HB4.out.size; clear hR hS hb4)
      | (go_at_call 32; refine (get_no _ _ _ _ HR4.out HCut.out).mono ?_; rintro e w5 ⟨rfl, hK⟩; have HB5 := Lib.hid (HB4.out.trans (hK.below hs4 (fun x hx e => by omega))); have hs5 := HB5.out.size; clear hK)
      | (go_at_call 34; refine (instAnswers_calls _).mono ?_; rintro e w6 ⟨rfl, hb6⟩; have HX6 := Lib.hid (blk_below (blk_new w5 (Obj.cells #[.int .i64 0, .int .i64 0, .int .i64 0] 54)) hb6 (by simp)); obtain ⟨k0, k1, k2⟩ := box3 HX6.out; have HB6 := Lib.hid ((HB5.out.alloc hs5 (Obj.cells #[.int .i64 0, .int .i64 0, .int .i64 0] 54)).trans (hb6.mono (by first | omega | (simp; omega)))); clear hb6))
    go_ret
    exact ⟨rfl, HB6.out⟩
  · have HA := Lib.hid (fun w' => refArgs_at w' op 2 HN.out)
    have hg := HGD.out a1 a2 (by omega) (by omega) (by omega) (by omega)
    have hne : instB ⟨op, a1, a2⟩ ≠ [] := by unfold instB; rw [if_pos hg]; simp
    obtain ⟨L, hL⟩ : ∃ L, L = (instB ⟨op, a1, a2⟩).length := ⟨_, rfl⟩
    have hL1 : 0 < L := by rw [hL]; exact List.length_pos_iff.2 hne
    have hL2 : L ≤ 30 := by rw [hL]; exact instB_len _
    have HL := Lib.hid hL
    have hk : m % L < L := Nat.mod_lt _ hL1
    have hmL : (m : Int).tmod (L : Int) = ((m % L : Nat) : Int) := by rw [Int.tmod_eq_emod_of_nonneg (by omega)]; rfl
    have HTL := Lib.hid (show ((instB ⟨op, a1, a2⟩).take (m % L)).length = m % L by rw [List.length_take, ← hL]; omega)
    have HCut := Lib.hid (getI_cut ⟨op, a1, a2⟩ (m % L) (by rw [← hL]; exact hk))
    have HIB := Lib.hid (show isB ((instB ⟨op, a1, a2⟩).take (m % L)) from fun z hz => instB_isB _ z (List.mem_of_mem_take hz))
    have HX0 := Lib.hid (blk_new w (Obj.cells #[.int .i64 op, .int .i64 0, .int .i64 0] 54))
    have HB0 := Lib.hid ((Below.refl w.heap.size w).alloc (Nat.le_refl _) (Obj.cells #[.int .i64 op, .int .i64 0, .int .i64 0] 54))
    have hL0 : (L == 0) = false := beq_eq_false_iff_ne.2 (by omega)
    have hL0' : ((L : Int) == 0) = false := beq_eq_false_iff_ne.2 (by omega)
    clear hg hne hL HGD
    go_enter Try.func10, Try.ntmps10
    go_wp2_with (first
      | (go_at_call 30; have tok := HX0; refine (HA.out _).mono ?_; rintro e w1 ⟨rfl, hb1⟩; have HX1 := Lib.hid (blk_below HX0.out hb1 (by simp)); obtain ⟨c0, c1, c2⟩ := box3 HX1.out; have f1 := blk_frozen HX1.out 1; have f2 := blk_frozen HX1.out 2; have HB1 := Lib.hid (HB0.out.trans (hb1.mono (by simp))); have hs1 := blk_lt HX1.out; clear hb1 tok; clear HX0)
      | (go_at_call 30; refine (HA.out _).mono ?_; rintro e w2 ⟨rfl, hb2⟩; have HX2 := Lib.hid (show w2.heap[w.heap.size]? = some (.cells #[.int .i64 op, .int .i64 a1, .int .i64 0] 54 (0, 0)) from blk_below (blk_set HX1.out 1 (.int .i64 a1)) hb2 (by first | omega | (simp; omega))); obtain ⟨d0, d1, d2⟩ := box3 HX2.out; have f3 := blk_frozen HX2.out 2; have HB2 := Lib.hid ((HB1.out.setCell (p := ⟨w.heap.size, 1, none⟩) (Nat.le_refl _) (.int .i64 a1)).trans (hb2.mono (by first | omega | (simp; omega)))); have hs2 := blk_lt HX2.out; clear hb2)
      | (go_at_call 31; refine (put_calls _ op a1 a2).mono ?_; rw [← HL.out]; rintro e w3 ⟨A3, c3, rfl, ho, hb3⟩; obtain ⟨g, rfl, hg1, hg2⟩ := own_addr ho hL1; have hLc := own_le ho; have HO3 := Lib.hid ho; have HB3 := Lib.hid ((HB2.out.setCell (p := ⟨w.heap.size, 2, none⟩) (Nat.le_refl _) (.int .i64 a2)).trans (hb3.mono (by first | omega | (simp; omega)))); have hs3 := HB3.out.size; clear ho hb3)
      | (go_at_call 33; refine (newReader_calls _ _ _ _ ((instB ⟨op, a1, a2⟩).take (m % L)) HTL.out (by omega) (by rw [bcells_take]; exact lie_take (own_lie HO3.out) (by omega)) HIB.out).mono ?_; rintro e w4 ⟨p, S, rfl, hR, hp, hS, hb4⟩; have HR4 := Lib.hid hR; have HB4 := Lib.hid (HB3.out.trans (hb4.mono hs3)); have hs4 := HB4.out.size; clear hR hS hb4)
      | (go_at_call 32; refine (get_no _ _ _ _ HR4.out HCut.out).mono ?_; rintro e w5 ⟨rfl, hK⟩; have HB5 := Lib.hid (HB4.out.trans (hK.below hs4 (fun x hx e => by omega))); have hs5 := HB5.out.size; clear hK)
      | (go_at_call 34; refine (instAnswers_calls _).mono ?_; rintro e w6 ⟨rfl, hb6⟩; have HX6 := Lib.hid (blk_below (blk_new w5 (Obj.cells #[.int .i64 0, .int .i64 0, .int .i64 0] 54)) hb6 (by simp)); obtain ⟨k0, k1, k2⟩ := box3 HX6.out; have HB6 := Lib.hid ((HB5.out.alloc hs5 (Obj.cells #[.int .i64 0, .int .i64 0, .int .i64 0] 54)).trans (hb6.mono (by first | omega | (simp; omega)))); clear hb6))
    go_ret
    exact ⟨rfl, HB6.out⟩
end Go.Proofs.Ytjcceabdphkalaa
