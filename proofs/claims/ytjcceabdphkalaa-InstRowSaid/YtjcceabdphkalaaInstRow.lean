/- The walk of InstRow. -/
import Derived.Test.YtjcceabdphkalaaInstLaws
import Derived.BigQuiet
import Derived.Deep.QuietTactic
namespace Go.Proofs.Ytjcceabdphkalaa
open Go.RowKit
set_option linter.unusedVariables false
theorem instr_info : (Try.prog.info? 54).map (fun i => (i.zero, i.size, i.bytes)) = some (some (.agg #[.int .i64 0, .int .i64 0, .int .i64 0]), 3, 24) := by kernel_rfl
def icells (l : List Ins) : List Value := l.flatMap fun i => [.int .i64 i.op, .int .i64 i.a, .int .i64 i.b]
theorem icells_snoc (l : List Ins) (i : Ins) : icells (l ++ [i]) = icells l ++ [.int .i64 i.op, .int .i64 i.a, .int .i64 i.b] := by simp [icells]
theorem icells_length (l : List Ins) : (icells l).length = l.length * 3 := by
  induction l with
  | nil => rfl
  | cons i l ih => show (icells l).length + 3 = (l.length + 1) * 3; omega
theorem icells_at (l : List Ins) (k : Nat) (i : Ins) (hk : l[k]? = some i) : (icells l)[k * 3]? = some (.int .i64 i.op) ∧ (icells l)[k * 3 + 1]? = some (.int .i64 i.a) ∧ (icells l)[k * 3 + 2]? = some (.int .i64 i.b) := by
  induction l generalizing k with
  | nil => simp at hk
  | cons x l ih =>
    have e : icells (x :: l) = [.int .i64 x.op, .int .i64 x.a, .int .i64 x.b] ++ icells l := rfl
    rw [e]
    cases k with
    | zero => simp at hk; subst hk; simp
    | succ k =>
      simp at hk
      have := ih k hk
      have hl : ([.int .i64 x.op, .int .i64 x.a, .int .i64 x.b] : List Value).length = 3 := rfl
      rw [List.getElem?_append_right (by omega), List.getElem?_append_right (by omega), List.getElem?_append_right (by omega), hl, show (k + 1) * 3 - 3 = k * 3 by omega, show (k + 1) * 3 + 1 - 3 = k * 3 + 1 by omega, show (k + 1) * 3 + 2 - 3 = k * 3 + 2 by omega]
      exact this
theorem ione (a b c : Int) : ∀ u ∈ ([.int .i64 a, .int .i64 b, .int .i64 c] : List Value), u.oneCell' = true := by
  intro u hu; simp at hu; rcases hu with rfl | rfl | rfl <;> rfl
/-- The instructions that have bytes; their bytes. -/
def wants (l : List Ins) : List Ins := l.filter goodI
def rowI (l : List Ins) : List Int := l.flatMap instB
theorem rowI_isB (l : List Ins) : isB (rowI l) := by
  intro x hx
  simp only [rowI, List.mem_flatMap] at hx
  obtain ⟨i, _, hx⟩ := hx
  exact instB_isB i x hx
theorem rowI_len (l : List Ins) : (rowI l).length ≤ l.length * 30 := by
  induction l with
  | nil => simp [rowI]
  | cons i l ih =>
    have e : rowI (i :: l) = instB i ++ rowI l := rfl
    have := instB_len i
    rw [e, List.length_append, List.length_cons]
    omega
theorem wants_snoc_good (l : List Ins) (i : Ins) (h : goodI i = true) : wants (l ++ [i]) = wants l ++ [i] := by simp [wants, h]
theorem wants_snoc_bad (l : List Ins) (i : Ins) (h : goodI i = false) : wants (l ++ [i]) = wants l := by simp [wants, h]
theorem rowI_snoc (l : List Ins) (i : Ins) : rowI (l ++ [i]) = rowI l ++ instB i := by simp [rowI]
theorem wants_good {l : List Ins} {j : Nat} {i : Ins} (h : (wants l)[j]? = some i) : goodI i = true := (List.mem_filter.1 (List.mem_of_getElem? h)).2
theorem rowI_drop {l : List Ins} {j : Nat} {i : Ins} (h : l[j]? = some i) : rowI (l.drop j) = instB i ++ rowI (l.drop (j + 1)) := by
  obtain ⟨hl, e⟩ := List.getElem?_eq_some_iff.1 h
  rw [List.drop_eq_getElem_cons hl, e]; rfl
theorem own_ne_own {w : World} {b1 b2 : Nat} {e t : TypeId} {z1 z2 : Nat} {v u : Value} {n m : Nat} {xs ys : List Value} {g : Nat} (h : w.ownsRow b1 e z1 v n xs) (h2 : w.ownsRow b2 t z2 u m ys) (hne : e ≠ t) (hv : v.ownBlock = some g) (hu : u.ownBlock = some g) : False := by
  rcases h2.2 with ⟨rfl, _⟩ | ⟨g', cap, cur, rfl, _, hh, _⟩
  · simp [Value.ownBlock] at hu
  · have e : g' = g := by simpa [Value.ownBlock] using hu
    subst e
    exact own_ne_blk h hh hne hv
theorem own_ge_ne {w : World} {base : Nat} {e : TypeId} {size : Nat} {v : Value} {n : Nat} {xs : List Value} {g : Nat} (h : w.ownsRow base e size v n xs) (hg : g < base) (hv : some g = v.ownBlock) : False := by
  have := (h.lt g hv.symm).1
  omega
theorem grown_cell {w w' : World} {row : Option Nat} {b o : Nat} {v : Value} (hg : w.grownBy w' row) (hc : w.cell? ⟨b, o, none⟩ = some v) (hne : some b ≠ row) : w'.cell? ⟨b, o, none⟩ = some v :=
  (World.cell?_of_block (a := ⟨b, o, none⟩) (hg.block b (World.block_lt_of_cell? w _ hc) hne)).trans hc
set_option maxRecDepth 100000 in
set_option maxHeartbeats 4000000 in
theorem instRow_walk (w : World) (A0 : Option Addr) (c0 : Nat) (x0 : (List Ins)) (l0 : x0.length ≤ c0) (m0 : x0.length ≤ 140737488351232) (row0 : k_instr.Row (· < w.heap.size) w A0 x0) :
    Calls Try.prog 11 #[.slice A0 x0.length c0] w fun e w' => e = .returned (.bool true) ∧ Below w.heap.size w w' := by
  have HR0 := Lib.hid row0
  clear row0
  by_cases hbig : 100 < x0.length
  · go_enter Try.func11, Try.ntmps11
    go_wp2_with (go_at_call 34; refine (instAnswers_calls _).mono ?_; rintro e w5 ⟨rfl, hb5⟩)
    go_ret
    exact ⟨rfl, hb5⟩
  · go_enter Try.func11, Try.ntmps11
    go_wp2
    go_loopw [3, 4, 5] (fun bv wv i wr => ∃ (k : Nat) (A : Option Addr) (c : Nat) (B : Option Addr) (d : Nat), k ≤ x0.length ∧ i = .int .i64 k ∧ bv = .slice A (rowI (wants (x0.take k))).length c ∧ wv = .slice B (wants (x0.take k)).length d ∧ Hid (wr.ownsRow w.heap.size 5 1 (.slice A (rowI (wants (x0.take k))).length c) (rowI (wants (x0.take k))).length (bcells (rowI (wants (x0.take k))))) ∧ Hid (wr.ownsRow w.heap.size 54 3 (.slice B (wants (x0.take k)).length d) (wants (x0.take k)).length (icells (wants (x0.take k)))) ∧ Hid (Below w.heap.size w wr)) (fun _ _ i _ => x0.length - (intOf i).toNat)
    case atStart => exact ⟨0, none, 0, none, 0, Nat.zero_le _, rfl, rfl, rfl, Lib.hid ⟨rfl, .inl ⟨rfl, rfl⟩⟩, Lib.hid ⟨rfl, .inl ⟨rfl, rfl⟩⟩, Lib.hid (Below.refl _ _)⟩
    case round =>
      obtain ⟨k, A, c, B, d, hk, rfl, rfl, rfl, HOb, HOw, HB⟩ := hrel
      have hsz := HB.out.size
      have hw1 : (wants (x0.take k)).length ≤ k := by
        have := List.length_filter_le goodI (x0.take k)
        have h2 : (x0.take k).length ≤ k := List.length_take_le _ _
        unfold wants; omega
      have hr1 := rowI_len (wants (x0.take k))
      by_cases hlt : k < x0.length
      · obtain ⟨i, hi⟩ : ∃ i, x0[k]? = some i := ⟨_, List.getElem?_eq_getElem hlt⟩
        obtain ⟨b0, o0, rfl, hSb, e0, e1, e2, _, _, _⟩ := k_instr_at (HR0.out.keep HB.out.block) hi
        have htk : x0.take (k + 1) = x0.take k ++ [i] := by
          obtain ⟨hl, e⟩ := List.getElem?_eq_some_iff.1 hi
          rw [List.take_succ_eq_append_getElem hl, e]
        have hb0 : b0 < wr.heap.size := World.block_lt_of_cell? wr _ e0
        have HTK := Lib.hid htk
        clear hi htk
        obtain ⟨op, a, b⟩ := i
        simp only at e0 e1 e2
        obtain ⟨L, hL⟩ : ∃ L, L = (instB ⟨op, a, b⟩).length := ⟨_, rfl⟩
        have hL30 : L ≤ 30 := by rw [hL]; exact instB_len _
        have HL := Lib.hid hL
        by_cases hg : goodI ⟨op, a, b⟩ = true
        · have hL1 : 0 < L := by rw [hL]; unfold instB; rw [if_pos hg]; simp
          have HW := Lib.hid (wants_snoc_good (x0.take k) _ hg)
          have HRs := Lib.hid (rowI_snoc (wants (x0.take k)) ⟨op, a, b⟩)
          clear hL hg
          go_wp2_with (first
            | (go_at_call 31; refine (put_calls _ op a b).mono ?_; rw [← HL.out]; rintro e w1 ⟨A1, cc1, rfl, ho, hb1⟩; have HO1 := Lib.hid ho; have HB1 := Lib.hid (HB.out.trans (hb1.mono hsz)); have hs1 := HB1.out.size; have q0 := (hb1.cell (p := ⟨b0, o0 + k * 3, none⟩) hb0).trans e0; have q1 := (hb1.cell (p := ⟨b0, o0 + k * 3 + 1, none⟩) hb0).trans e1; have q2 := (hb1.cell (p := ⟨b0, o0 + k * 3 + 2, none⟩) hb0).trans e2; have HOb1 := Lib.hid (own_below HOb.out hb1); have HOw1 := Lib.hid (own_below HOw.out hb1); have hs11 := hb1.size; clear ho hb1)
            | (at_builtin; refine list_app _ rfl (.tmp 31) (.tmp 32) _ rfl 5 Try.underlying29 byte_info rfl (by decide) (by decide) w.heap.size rfl HOb1.out rfl (by rw [bcells_length, ← HL.out]) (by exact own_lie HO1.out) (bcells_one _) (by omega) (by omega) ?_; intro v' w3 hown hg hat; have HB3 := Lib.hid (grown_below HB1.out hg hs1 (own_ge HOb1.out)); rw [← bcells_append, ← HRs.out] at hown; obtain ⟨A3, c3, rfl, hn3, _, _⟩ := own_shape hown; have HO3 := Lib.hid hown; have HOw3 := Lib.hid (own_keep HOw1.out (fun g hgo => hg.block g (HOw1.out.lt g hgo).2 (fun e => own_ne_own HOb1.out HOw1.out (by decide) e.symm hgo))); have r0 := (grown_cell hg q0 (fun e => own_ge_ne HOb1.out hSb e)); have r1 := (grown_cell hg q1 (fun e => own_ge_ne HOb1.out hSb e)); have r2 := (grown_cell hg q2 (fun e => own_ge_ne HOb1.out hSb e)); have hs3 := HB3.out.size; clear hown hg hat)
            | (at_builtin; refine list_app _ rfl (.tmp 34) (.tmp 39) _ rfl 54 Try.underlying62 instr_info rfl (by decide) (by decide) w.heap.size (n := (wants (x0.take k)).length) (xs := icells (wants (x0.take k))) rfl (by exact HOw3.out.alloc _) (news := [.int .i64 op, .int .i64 a, .int .i64 b]) rfl rfl (by exact lie_new _ _ _ rfl) (by exact ione op a b) (by omega) (Nat.le_trans hs3 (by simp)) ?_; intro v' w4 hown hg hat; have HB4 := Lib.hid (grown_below (HB3.out.alloc hs3 _) hg (Nat.le_trans hs3 (by simp)) (own_ge (HOw3.out.alloc (Obj.cells #[.int .i64 op, .int .i64 a, .int .i64 b] 54)))); have hown2 : World.ownsRow _ _ _ _ _ _ (icells (wants (x0.take k) ++ [⟨op, a, b⟩])) := (icells_snoc (wants (x0.take k)) ⟨op, a, b⟩).symm ▸ hown; obtain ⟨A4, c4, rfl, hn4, _, _⟩ := own_shape hown2; have HO4 := Lib.hid hown2; have HO34 := Lib.hid (own_keep (HO3.out.alloc (Obj.cells #[.int .i64 op, .int .i64 a, .int .i64 b] 54)) (fun g hgo => hg.block g ((HO3.out.alloc (Obj.cells #[.int .i64 op, .int .i64 a, .int .i64 b] 54)).lt g hgo).2 (fun e => own_ne_own (HO3.out.alloc (Obj.cells #[.int .i64 op, .int .i64 a, .int .i64 b] 54)) (HOw3.out.alloc (Obj.cells #[.int .i64 op, .int .i64 a, .int .i64 b] 54)) (by decide) hgo e.symm))); clear hown hown2 hg hat))
          go_roundw
          case rel =>
            refine ⟨k + 1, A3, c3, A4, c4, by omega, by go_num, ?_, ?_, ?_, ?_, HB4⟩
            · rw [HTK.out, HW.out, HRs.out, List.length_append, ← HL.out]
            · rw [HTK.out, HW.out, List.length_append]; rfl
            · rw [HTK.out, HW.out, HRs.out, List.length_append, ← HL.out]; rw [HRs.out] at HO34; exact HO34
            · rw [HTK.out, HW.out, List.length_append]; exact HO4
          case measure => simp [intOf]; omega
        · have hgf : goodI ⟨op, a, b⟩ = false := by simpa using hg
          have hL0 : L = 0 := by rw [hL, instB_bad hgf]; rfl
          have HW := Lib.hid (wants_snoc_bad (x0.take k) _ hgf)
          subst hL0
          clear hL hg hgf
          go_wp2_with (first
            | (go_at_call 31; refine (put_calls _ op a b).mono ?_; rw [← HL.out]; rintro e w1 ⟨A1, cc1, rfl, ho, hb1⟩; have HO1 := Lib.hid ho; have HB1 := Lib.hid (HB.out.trans (hb1.mono hsz)); have HOb1 := Lib.hid (own_below HOb.out hb1); have HOw1 := Lib.hid (own_below HOw.out hb1); clear ho hb1))
          go_roundw
          case rel => exact ⟨k + 1, A, c, B, d, by omega, by go_num, by rw [HTK.out, HW.out], by rw [HTK.out, HW.out], by rw [HTK.out, HW.out]; exact HOb1, by rw [HTK.out, HW.out]; exact HOw1, HB1⟩
          case measure => simp [intOf]; omega
      · obtain rfl : k = x0.length := by omega
        have hall : x0.take x0.length = x0 := List.take_length
        rw [hall] at HOb HOw hw1 hr1 ⊢
        obtain ⟨ws, hws⟩ : ∃ ws, wants x0 = ws := ⟨_, rfl⟩
        have hgood : ∀ j i, ws[j]? = some i → goodI i = true := fun j i h => wants_good (l := x0) (hws ▸ h)
        rw [hws] at HOb HOw hw1 hr1 ⊢
        obtain ⟨L, hL⟩ : ∃ L, (rowI ws).length = L := ⟨_, rfl⟩
        rw [hL] at HOb hr1 ⊢
        have HLr := Lib.hid hL
        have HGd := Lib.hid hgood
        clear hall hws hgood hL hlt
        go_wp2_with (first
          | (go_at_call 33; refine (newReader_calls _ _ _ _ (rowI ws) HLr.out (by omega) (own_lie HOb.out) (rowI_isB ws)).mono ?_; rintro e w6 ⟨p, S, rfl, hR, hp, hS, hb6⟩; have HR6 := Lib.hid hR; have HB6 := Lib.hid (HB.out.trans (hb6.mono hsz)); have HOw6 := Lib.hid (own_below HOw.out hb6); have hs6 := hb6.size; clear hR hS hb6))
        have hp6 : w.heap.size ≤ p := by omega
        have hs6w : w.heap.size ≤ w6.heap.size := by omega
        have hwl : ws.length ≤ 100 := by omega
        clear HOb HOw HB hw1 hr1
        go_loopw [8] (fun ix wq => ∃ j : Nat, j ≤ ws.length ∧ ix = .int .i64 j ∧ Hid (Rdr wq p S (rowI (ws.drop j)) false) ∧ Hid (wq.ownsRow w.heap.size 54 3 (.slice B ws.length d) ws.length (icells ws)) ∧ Hid (Below w.heap.size w wq) ∧ w.heap.size ≤ wq.heap.size) (fun ix _ => ws.length - (intOf ix).toNat)
        case atStart => exact ⟨0, Nat.zero_le _, rfl, HR6, HOw6, HB6, hs6w⟩
        case round =>
          obtain ⟨j, hj, rfl, HR, HO, HB, hsq⟩ := hrel
          have hRB := Lib.hid HR.out.box
          by_cases hjl : j < ws.length
          · obtain ⟨i, hi⟩ : ∃ i, ws[j]? = some i := ⟨_, List.getElem?_eq_getElem hjl⟩
            have hG := Lib.hid (show getI (rowI (ws.drop j)) = some (i, rowI (ws.drop (j + 1))) by rw [rowI_drop hi]; exact getI_back i (HGd.out j i hi) _)
            have HC := Lib.hid (icells_at ws j i hi)
            obtain ⟨g, rfl, hg1, _⟩ := own_addr HO.out (by omega)
            obtain ⟨op, a, b⟩ := i
            clear hi
            go_wp2_with (first
              | (go_at_call 32; refine (get_ok _ _ _ _ HR.out _ _ hG.out).mono ?_; rintro e w7 ⟨rfl, hR, hK⟩; have HO7 := Lib.hid (own_keeps HO.out hK (fun g hg e => own_ne_blk HO.out (hRB.out.choose_spec.choose_spec.1) (by decide) (by rw [hg, e]))); have HO8 := Lib.hid (HO7.out.alloc (Obj.cells #[.int .i64 op, .int .i64 a, .int .i64 b] 54)); have HB7 := Lib.hid (HB.out.trans (hK.below hsq (fun x hx e => by omega))); have hs7 := HB7.out.size; have HR8 := Lib.hid (hR.below ((Below.refl w7.heap.size w7).alloc (Nat.le_refl _) (Obj.cells #[.int .i64 op, .int .i64 a, .int .i64 b] 54))); have q0 := (HO8.out.cellAt (j * 3) (by omega)).trans HC.out.1; have q1 := (HO8.out.cellAt (j * 3 + 1) (by omega)).trans HC.out.2.1; have q2 := (HO8.out.cellAt (j * 3 + 2) (by omega)).trans HC.out.2.2; obtain ⟨k0, k1, k2⟩ := box3 (blk_new w7 (Obj.cells #[.int .i64 op, .int .i64 a, .int .i64 b] 54)); have HB8 := Lib.hid (HB7.out.alloc hs7 (Obj.cells #[.int .i64 op, .int .i64 a, .int .i64 b] 54)); clear hR hK))
            go_quiet (fail)
            go_wp2
            go_roundw
            case rel => exact ⟨j + 1, by omega, by go_num, Lib.hid (HR8.out.below (below_drewN (Below.refl _ _) _)), HO8, Lib.hid (below_drewN HB8.out _), by simp; omega⟩
            case measure => simp [intOf]; omega
          · obtain rfl : j = ws.length := by omega
            have hz : ws.drop ws.length = [] := List.drop_length
            have HR0' := HR.out
            rw [hz] at HR0'
            have HRz := Lib.hid HR0'
            clear HR0' hz HR
            go_wp2_with (first
              | (go_at_call 32; refine (get_no _ _ _ _ HRz.out rfl).mono ?_; rintro e w7 ⟨rfl, hK⟩; have HB7 := Lib.hid (HB.out.trans (hK.below hsq (fun x hx e => by omega))); have hs7 := HB7.out.size; clear hK)
              | (go_at_call 34; refine (instAnswers_calls _).mono ?_; rintro e w8 ⟨rfl, hb8⟩; have HB8 := Lib.hid ((HB7.out.alloc hs7 (Obj.cells #[.int .i64 0, .int .i64 0, .int .i64 0] 54)).trans (hb8.mono (by first | omega | (simp; omega)))); clear hb8))
            go_ret
            exact ⟨rfl, HB8.out⟩
end Go.Proofs.Ytjcceabdphkalaa
