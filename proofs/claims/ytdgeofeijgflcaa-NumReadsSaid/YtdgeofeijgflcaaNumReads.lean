/- The walk of NumReads. -/
import Derived.Test.YtdgeofeijgflcaaNumLaws
namespace Go.Proofs.Ytdgeofeijgflcaa
open Go.RowKit
set_option linter.unusedVariables false
theorem row_drop {S : Nat → Prop} {w : World} {A A' : Option Addr} {bs : List Int} {k : Nat} (h : (Rd.int .u8).Row S w A bs) (ha : bs.length ≤ k ∨ ∃ a, A = some a ∧ A' = some (a.add k)) : (Rd.int .u8).Row S w A' (bs.drop k) := fun hp => by
  have hl : (bs.drop k).length = bs.length - k := List.length_drop
  rcases ha with ha | ⟨a, rfl, rfl⟩
  · omega
  · obtain ⟨b, o, e, hSb, hc2⟩ := h (by omega)
    cases e
    refine ⟨b, o + k, by rw [add_at], hSb, fun i hi => ?_⟩
    obtain ⟨cs, hK, hcell⟩ := hc2 (k + i) (by omega)
    refine ⟨cs, by rw [List.getElem_drop]; exact hK, fun j u hj => ?_⟩
    have h1 := hcell j u hj
    have hs : (Rd.int .u8).sz = 1 := rfl
    rw [hs, Nat.mul_one] at h1 ⊢
    rw [← h1]
    congr 3
    omega
/-- What stands between two asks: what is left, and the reader. -/
structure Reads (w : World) (p : Nat) (S T : Nat → Prop) (wr : World) (A : Option Addr) (c : Nat) (rest rb : List Int) (bad : Bool) : Prop where
  row : (Rd.int .u8).Row T wr A rest
  cap : rest.length ≤ c
  len : rest.length ≤ 500
  isb : isB rest
  rdr : Rdr wr p S rb bad
  low : ∀ b, T b → b < wr.heap.size ∧ b ≠ p
  kept : Below w.heap.size w wr
  size : w.heap.size ≤ wr.heap.size
  far : w.heap.size ≤ p
  adr : (A = none ∧ rest = []) ∨ ∃ b o, A = some ⟨b, o, none⟩
section
variable {w wr w2 : World} {p : Nat} {S T : Nat → Prop} {A A' : Option Addr} {c c' : Nat} {rest rb rb2 : List Int} {bad bad2 : Bool}
theorem Reads.step (h : Reads w p S T wr A c rest rb bad) (hR : Rdr w2 p S rb2 bad2) (hk : Keeps (· = p) wr w2) : Reads w p S T w2 A c rest rb2 bad2 :=
  ⟨h.row.keep (fun b hb => hk.block b (h.low b hb).1 (h.low b hb).2), h.cap, h.len, h.isb, hR, fun b hb => ⟨Nat.lt_of_lt_of_le (h.low b hb).1 hk.size, (h.low b hb).2⟩, h.kept.trans (hk.below h.size (fun x hx e => by have := h.far; omega)), Nat.le_trans h.size hk.size, h.far, h.adr⟩
theorem Reads.below (h : Reads w p S T wr A c rest rb bad) (hb : Below wr.heap.size wr w2) : Reads w p S T w2 A c rest rb bad :=
  h.step (h.rdr.below hb) (Keeps.of_below hb)
theorem Reads.drop (h : Reads w p S T wr A c rest rb bad) (k : Nat) (ha : rest.length ≤ k ∨ ∃ a, A = some a ∧ A' = some (a.add k)) (hc : rest.length - k ≤ c') (hs : (A' = none ∧ rest.drop k = []) ∨ ∃ b o, A' = some ⟨b, o, none⟩) : Reads w p S T wr A' c' (rest.drop k) rb bad :=
  ⟨row_drop h.row ha, by rw [List.length_drop]; exact hc, by rw [List.length_drop]; have := h.len; omega, fun x hx => h.isb x (List.mem_of_mem_drop hx), h.rdr, h.low, h.kept, h.size, h.far, hs⟩
end
theorem Reads.dropSome {w wr : World} {p : Nat} {S T : Nat → Prop} {b o c c' : Nat} {rest rb : List Int} {bad : Bool} (h : Reads w p S T wr (some ⟨b, o, none⟩) c rest rb bad) (k : Nat) {o' : Nat} (ho : rest.length ≤ k ∨ o' = o + k) (hc : rest.length - k ≤ c') : Reads w p S T wr (some ⟨b, o', none⟩) c' (rest.drop k) rb bad :=
  h.drop k (ho.imp id (fun e => ⟨_, rfl, by rw [add_at, e]⟩)) hc (.inr ⟨b, o', rfl⟩)
theorem Reads.rebase {w wr : World} {p : Nat} {S T : Nat → Prop} {A : Option Addr} {c : Nat} {rest rb rb2 : List Int} {bad : Bool} (h : Reads w p S T wr A c rest rb bad) (e : rb = rb2) : Reads w p S T wr A c rest rb2 bad := e ▸ h
theorem if_addr (b o k c len : Nat) (h : len ≤ c) : ∃ o', (if c = k then some (⟨b, o, none⟩ : Addr) else some ⟨b, o + k, none⟩) = some ⟨b, o', none⟩ ∧ (len ≤ k ∨ o' = o + k) := by
  by_cases hc : c = k
  · exact ⟨o, if_pos hc, .inl (by omega)⟩
  · exact ⟨o + k, if_neg hc, .inr rfl⟩
theorem read_ref0 (bs : List Int) (h : isB bs) : ((refV bs 0 0 bs).2 = 0 ∧ (readV 0 0 bs).val = 0 ∧ (readV 0 0 bs).bad = true) ∨
    (∃ n, (refV bs 0 0 bs).2 = n + 1 ∧ (readV 0 0 bs).val = (refV bs 0 0 bs).1 ∧ (readV 0 0 bs).bad = false ∧ (readV 0 0 bs).rest = bs.drop (n + 1) ∧ n < bs.length) := by
  have := read_ref bs [] (by simp) (by simp) h
  simpa [valB] using this
theorem leB_drop (bs : List Int) (j : Nat) (x : Int) (hx : bs[j]? = some x) : leB (bs.drop j) = x.toNat % 256 + 256 * leB (bs.drop (j + 1)) := by
  obtain ⟨h, e⟩ := List.getElem?_eq_some_iff.1 hx
  rw [List.drop_eq_getElem_cons h, e]; rfl
theorem slice_len {A : Option Addr} {n m c : Nat} (h : n = m) : Value.slice A n c = .slice A m c := by rw [h]
set_option maxRecDepth 100000 in
set_option maxHeartbeats 20000000 in
theorem numReads_walk (w : World) (A0 : Option Addr) (c0 : Nat) (x0 : (List Int)) (l0 : x0.length ≤ c0) (m0 : x0.length ≤ 140737488351232) (row0 : (Rd.int .u8).Row (· < w.heap.size) w A0 x0) (A1 : Option Addr) (c1 : Nat) (x1 : (List Ask)) (l1 : x1.length ≤ c1) (m1 : x1.length ≤ 140737488351232) (row1 : k_ask.Row (· < w.heap.size) w A1 x1) :
    Calls Try.prog 9 #[.slice A0 x0.length c0, .slice A1 x1.length c1] w fun e w' => e = .returned (.bool true) ∧ Below w.heap.size w w' := by
  obtain ⟨cells, hfl, hlie⟩ := row0.flat
  obtain ⟨rfl, hB⟩ := byte_flat.1 hfl
  have HL := Lib.hid hlie
  have HB := Lib.hid hB
  have HR1 := Lib.hid row1
  clear hfl hlie row0 hB row1
  by_cases hbig : 500 < x0.length ∨ 100 < x1.length
  · have hr : (500 < x0.length) ∨ (¬ 500 < x0.length ∧ 100 < x1.length) := by omega
    clear hbig
    rcases hr with h | ⟨h, h2⟩
    all_goals
      go_enter Try.func9, Try.ntmps9
      go_wp2_with (go_at_call 18; refine (numAnswers_calls _).mono ?_; rintro e w5 ⟨rfl, hb5⟩)
      go_ret
      exact ⟨rfl, hb5⟩
  · have h500 : x0.length ≤ 500 := by omega
    have h100 : x1.length ≤ 100 := by omega
    clear hbig
    go_enter Try.func9, Try.ntmps9
    go_wp2_with (first
      | (go_at_call 19; refine (newReader_calls _ _ _ _ x0 rfl (by omega) HL.out HB.out).mono ?_; rintro e w1 ⟨p, S, rfl, hR, hp, hS, hb1⟩; have HR := Lib.hid hR; have HB1 := Lib.hid hb1; have HL1 := Lib.hid (HL.out.below hb1); clear hR hS hb1)
      | (at_builtin; refine list_app _ rfl (.tmp 27) (.tmp 28) _ rfl 5 Try.underlying35 byte_info rfl (by decide) (by decide) w1.heap.size rfl (World.ownsRow_made w1 #[] 0 (Nat.le_refl _) (Nat.zero_le _) rfl) rfl (bcells_length _) (by exact HL1.out.below ((Below.refl _ _).alloc (Nat.le_refl _) _)) (bcells_one _) (by omega) (by simp) ?_; intro v' w3 hown hg hat; have hB := grown_below ((Below.refl w1.heap.size w1).alloc (Nat.le_refl _) _) hg (by simp) (.inr ⟨_, rfl, Nat.le_refl _⟩); simp only [Nat.zero_add, List.nil_append] at hown; obtain ⟨A3, c3, rfl, hn3, _, _⟩ := own_shape hown; have HO := Lib.hid hown; have HB3 := Lib.hid hB; clear hown hg hat hB))
    have hs1 := HB1.out.size
    have hpl := blk_lt (HR.out.box.choose_spec.choose_spec.1)
    have HP : Hid (Reads w p S (fun b => (Value.slice A3 x0.length c3).ownBlock = some b) w3 A3 c3 x0 x0 false) := Lib.hid ⟨own_brow HO.out rfl HB.out (by omega), hn3, h500, HB.out, HR.out.below HB3.out, fun b hb => ⟨(HO.out.lt b hb).2, by have := (HO.out.lt b hb).1; omega⟩, HB1.out.trans (HB3.out.mono hs1), Nat.le_trans hs1 HB3.out.size, hp, by
      rcases HO.out.2 with ⟨e, h0⟩ | ⟨g, cap, cur, e, _⟩
      · simp only [Value.slice.injEq] at e; exact .inl ⟨e.1, List.eq_nil_of_length_eq_zero h0⟩
      · cases e; exact .inr ⟨g, 0, rfl⟩⟩
    obtain ⟨T, hT⟩ : ∃ T : Nat → Prop, T = fun b => (Value.slice A3 x0.length c3).ownBlock = some b := ⟨_, rfl⟩
    rw [← hT] at HP
    clear hT HO HB3 HR HB1 HL HL1
    go_loopw [6, 7, 8] (fun rs bd i wr => ∃ (k : Nat) (rest rb : List Int) (A : Option Addr) (c : Nat) (bad : Bool), k ≤ x1.length ∧ i = .int .i64 k ∧ rs = .slice A rest.length c ∧ bd = .bool bad ∧ (bad = false → rb = rest) ∧ Hid (Reads w p S T wr A c rest rb bad)) (fun _ _ i _ => x1.length - (intOf i).toNat)
    case atStart => exact ⟨0, x0, x0, A3, c3, false, Nat.zero_le _, rfl, rfl, rfl, fun _ => rfl, HP⟩
    case round =>
      obtain ⟨k, rest, rb, A, c, bad, hk, rfl, rfl, rfl, heq, HP⟩ := hrel
      by_cases hlt : k < x1.length
      · obtain ⟨x, hx⟩ : ∃ x, x1[k]? = some x := ⟨_, List.getElem?_eq_getElem hlt⟩
        obtain ⟨b1, o1, rfl, hSb1, e0, e1, g0, g1⟩ := k_ask_at (HR1.out.keep HP.out.kept.block) hx
        clear hx
        obtain ⟨what, n⟩ := x
        simp only at e0 e1 g0 g1
        have hbw := bounds_i64 g0
        have hbn := bounds_i64 g1
        have hrl := HP.out.len
        have hrc := HP.out.cap
        have hb1l : b1 < wr.heap.size := World.block_lt_of_cell? wr _ e1
        have hb1p : b1 ≠ p := by have := HP.out.far; omega
        clear g0 g1
        cases bad with
        | true =>
          by_cases hw0 : what = 0
          · as_aux_lemma =>
              subst hw0
              have hway : n < 0 ∨ (¬ n < 0 ∧ 8 < n) ∨ (¬ n < 0 ∧ ¬ 8 < n) := by omega
              obtain ⟨wo, rfl⟩ : ∃ wo : World, wo = wr := ⟨_, rfl⟩
              rcases hway with h | ⟨h1, h2⟩ | ⟨h1, h2⟩
              all_goals
                go_wp2
                go_loop [10, 11] (fun v i => ∃ z : Int, i = .int .i64 z ∧ -1 ≤ z ∧ z ≤ 7 ∧ v = .int .u64 0) (fun _ _ => 0)
                case atStart => exact ⟨_, rfl, by omega, by omega, rfl⟩
                case round =>
                  obtain ⟨z, rfl, hz1, hz2, rfl⟩ := hrel
                  by_cases hz : 0 ≤ z
                  all_goals
                    go_wp2_with (first
                      | (go_at_call 20; refine (rdFixed_no _ _ _ _ _ HP.out.rdr n (.inl rfl)).mono ?_; rintro e w3 ⟨rfl, hR, hK⟩; have H3 := Lib.hid (HP.out.step hR hK); clear hR hK)
                      | (go_at_call 25; refine (bad_calls _ _ _ _ _ H3.out.rdr).mono ?_; rintro e wb ⟨rfl, rfl⟩)
                      | (go_at_call 26; refine (left_calls _ _ _ _ _ H3.out.rdr).mono ?_; rintro e wb ⟨rfl, rfl⟩))
                    go_roundw
                    case rel => exact ⟨k + 1, rest, rb, A, c, true, by omega, by go_num, rfl, rfl, (fun h => by cases h), H3⟩
                    case measure => simp [intOf]; omega
          · by_cases hw1 : what = 1
            · as_aux_lemma =>
                subst hw1
                go_wp2_with (first
                  | (go_at_call 21; refine (refRead_calls (S := T) _ _ _ _ rest rfl (by omega) hrc (fun b hb => (HP.out.low b hb).1) HP.out.row).mono ?_; rintro e w2 ⟨rfl, hb2⟩; have H2 := Lib.hid (HP.out.below hb2); clear hb2)
                  | (go_at_call 22; refine (rdVar_bad _ _ _ _ H2.out.rdr).mono ?_; rintro e w3 ⟨rfl, hR, hK⟩; have H3 := Lib.hid (H2.out.step hR hK); clear hR hK)
                  | (go_at_call 25; refine (bad_calls _ _ _ _ _ H3.out.rdr).mono ?_; rintro e wb ⟨rfl, rfl⟩)
                  | (go_at_call 26; refine (left_calls _ _ _ _ _ H3.out.rdr).mono ?_; rintro e wb ⟨rfl, rfl⟩))
                go_roundw
                case rel => exact ⟨k + 1, rest, rb, A, c, true, by omega, by go_num, rfl, rfl, (fun h => by cases h), H3⟩
                case measure => simp [intOf]; omega
            · as_aux_lemma =>
                go_wp2_with (first
                  | (go_at_call 23; refine (take_no _ _ _ _ _ HP.out.rdr n (.inl rfl)).mono ?_; rintro e w3 ⟨rfl, hR, hK⟩; have H3 := Lib.hid (HP.out.step hR hK); clear hR hK)
                  | (go_at_call 25; refine (bad_calls _ _ _ _ _ H3.out.rdr).mono ?_; rintro e wb ⟨rfl, rfl⟩)
                  | (go_at_call 26; refine (left_calls _ _ _ _ _ H3.out.rdr).mono ?_; rintro e wb ⟨rfl, rfl⟩))
                go_roundw
                case rel => exact ⟨k + 1, rest, rb, A, c, true, by omega, by go_num, rfl, rfl, (fun h => by cases h), H3⟩
                case measure => simp [intOf]; omega
        | false =>
          obtain rfl : rest = rb := (heq rfl).symm
          by_cases hw0 : what = 0
          · as_aux_lemma =>
              subst hw0
              have hcn : (cnt n : Int) = if n < 0 then 0 else if 8 < n then 8 else n := by unfold cnt; split; rfl; split; rfl; omega
              have hc8 := cnt_le n
              obtain ⟨wo, rfl⟩ : ∃ wo : World, wo = wr := ⟨_, rfl⟩
              by_cases hfit : cnt n ≤ rest.length
              · obtain ⟨K, hK⟩ : ∃ K, K = cnt n := ⟨_, rfl⟩
                have HKc := Lib.hid hK
                rw [← hK] at hcn hc8 hfit
                have hway : (n < 0 ∧ K = 0) ∨ (¬ n < 0 ∧ 8 < n ∧ K = 8) ∨ (¬ n < 0 ∧ ¬ 8 < n ∧ n = K) := by
                  by_cases h1 : n < 0
                  · rw [if_pos h1] at hcn; exact .inl ⟨h1, by omega⟩
                  · rw [if_neg h1] at hcn
                    by_cases h2 : 8 < n
                    · rw [if_pos h2] at hcn; exact .inr (.inl ⟨h1, h2, by omega⟩)
                    · rw [if_neg h2] at hcn; exact .inr (.inr ⟨h1, h2, by omega⟩)
                clear hcn hK
                have hfitn := Lib.hid (show cnt n ≤ rest.length from HKc.out ▸ hfit)
                have hd8 : K = 8 → decide ((rest.length : Int) < 8) = false := fun h => decide_eq_false (by omega)
                have hdn : decide (rest.length < K) = false := decide_eq_false (by omega)
                have hway2 : (n < 0 ∧ K = 0 ∧ True) ∨ (¬ n < 0 ∧ 8 < n ∧ K = 8 ∧ decide ((rest.length : Int) < 8) = false) ∨ (¬ n < 0 ∧ ¬ 8 < n ∧ n = K) := by
                  rcases hway with ⟨h1, h2⟩ | ⟨h1, h2, h3⟩ | h
                  · exact .inl ⟨h1, h2, trivial⟩
                  · exact .inr (.inl ⟨h1, h2, h3, hd8 h3⟩)
                  · exact .inr (.inr h)
                clear hway hd8
                have hinv : ∀ j, j < K → ∃ x, rest[j]? = some x ∧ (0 ≤ x ∧ x ≤ 255) ∧ leB ((rest.take K).drop j) = x.toNat + 256 * leB ((rest.take K).drop (j + 1)) ∧ leB ((rest.take K).drop (j + 1)) < 72057594037927936 := fun j hj => by
                  obtain ⟨x, hx⟩ : ∃ x, rest[j]? = some x := ⟨_, List.getElem?_eq_getElem (by omega)⟩
                  have hb := HP.out.isb x (List.mem_of_getElem? hx)
                  have ht : (rest.take K)[j]? = some x := by rw [List.getElem?_take, if_pos hj]; exact hx
                  have h1 := leB_lt ((rest.take K).drop (j + 1))
                  have h2 : ((rest.take K).drop (j + 1)).length ≤ 7 := by rw [List.length_drop, List.length_take]; omega
                  have h3 : (256 : Nat) ^ ((rest.take K).drop (j + 1)).length ≤ 256 ^ 7 := Nat.pow_le_pow_right (by decide) h2
                  have h4 : (256 : Nat) ^ 7 = 72057594037927936 := by decide +kernel
                  refine ⟨x, hx, hb, ?_, by omega⟩
                  rw [leB_drop _ _ _ ht]
                  omega
                have HInv := Lib.hid hinv
                have htk : leB ((rest.take K).drop K) = 0 := by rw [List.drop_eq_nil_of_le (by rw [List.length_take]; omega)]; rfl
                have HTk := Lib.hid htk
                have HHf := Lib.hid hfit
                obtain ⟨VK, hVK⟩ : ∃ VK, leB (rest.take K) = VK := ⟨_, rfl⟩
                have HV0 := Lib.hid (show leB ((rest.take K).drop 0) = VK by rw [List.drop_zero]; exact hVK)
                have hVK := Lib.hid hVK
                clear hinv htk
                have hA : A = none ∨ ∃ b0 o0, A = some ⟨b0, o0, none⟩ := HP.out.adr.imp (fun h => h.1) id
                have hAn := Lib.hid (show A = none → rest.length = 0 from fun e => by
                  rcases HP.out.adr with ⟨_, h⟩ | ⟨_, _, h⟩
                  · rw [h]; rfl
                  · rw [e] at h; cases h)
                have hd0 : decide ((rest.length : Int) < 0) = false := decide_eq_false (by omega)
                rcases hA with rfl | ⟨b0, o0, rfl⟩
                · as_aux_lemma =>
                    have hK0 : K = 0 := by have := hAn.out rfl; omega
                    have HK0 := Lib.hid hK0
                    have hLd := Lib.hid (show (rest.drop K).length = rest.length by rw [hK0]; rfl)
                    have hway3 : n < 0 ∨ n = 0 := by rcases hway2 with h | h | h <;> omega
                    clear hK0 hway2 hdn
                    rcases hway3 with h1 | rfl
                    all_goals
                      go_wp2
                      go_loop [10, 11] (fun v i => ∃ (j V : Nat), Hid (j ≤ K) ∧ i = .int .i64 ((j : Int) - 1) ∧ v = .int .u64 V ∧ Hid (V = leB ((rest.take K).drop j))) (fun _ i => (intOf i + 1).toNat)
                      case atStart => exact ⟨K, 0, Lib.hid (Nat.le_refl _), by first | rfl | go_num | (rw [HK0.out]; rfl), rfl, Lib.hid HTk.out.symm⟩
                      case round =>
                        obtain ⟨j, V, hj, rfl, rfl, HV⟩ := hrel
                        by_cases hj0 : 0 < j
                        · obtain ⟨i, rfl⟩ : ∃ i, j = i + 1 := ⟨j - 1, by omega⟩
                          obtain ⟨x, hx, hxb, hx1, hx2⟩ := HInv.out i hj.out
                          obtain ⟨d, rfl⟩ := Int.eq_ofNat_of_zero_le hxb.1
                          obtain ⟨bb, oo, eA, hSb, c0', _⟩ := row_u8_at HP.out.row hx
                          rw [← HV.out] at hx1 hx2
                          have hx1 := Lib.hid hx1
                          have hje := hj.out
                          have ej : (((i + 1 : Nat) : Int) - 1) = (i : Int) := by omega
                          have hil : i < rest.length := by have := HHf.out; omega
                          rw [ej]
                          clear ej hx
                          first
                            | (exfalso; cases eA; done)
                            | (cases eA
                               go_wp2
                               refine ⟨⟨i, V * 256 + d, Lib.hid (by omega), by go_num, by go_num, Lib.hid (by rw [hx1.out]; omega)⟩, ?_⟩
                               simp [intOf])
                        · obtain rfl : j = 0 := by omega
                          have hV : V = VK := HV.out.trans HV0.out
                          rw [show (((0 : Nat) : Int) - 1) = -1 from rfl]
                          subst hV
                          go_wp2_with (first
                            | (go_at_call 20; refine (rdFixed_ok _ _ _ _ HP.out.rdr _ hfitn.out).mono ?_; rw [← HKc.out, hVK.out]; rintro e w3 ⟨rfl, hR, hK⟩; have H3 := Lib.hid (HP.out.step hR hK); clear hR hK)
                            | (go_at_call 25; refine (bad_calls _ _ _ _ _ H3.out.rdr).mono ?_; rintro e wb ⟨rfl, rfl⟩)
                            | (go_at_call 26; refine (left_calls _ _ _ _ _ H3.out.rdr).mono ?_; rw [hLd.out]; rintro e wb ⟨rfl, rfl⟩))
                          go_roundw
                          case rel =>
                            exact ⟨k + 1, rest, rest, none, c, false, by omega, by go_num, rfl, rfl, (fun _ => rfl), Lib.hid (H3.out.rebase (by rw [HK0.out]; rfl))⟩
                          case measure => simp [intOf]; omega
                · rcases hway2 with ⟨h1, hK0, _⟩ | ⟨h1, h2, hK0, h3⟩ | ⟨h1, h2, rfl⟩
                  · as_aux_lemma =>
                      have HK0 := Lib.hid hK0
                      have hLd := Lib.hid (show (rest.drop K).length = rest.length by rw [hK0]; rfl)
                      clear hK0 hdn
                      go_wp2
                      go_loop [10, 11] (fun v i => ∃ (j V : Nat), Hid (j ≤ K) ∧ i = .int .i64 ((j : Int) - 1) ∧ v = .int .u64 V ∧ Hid (V = leB ((rest.take K).drop j))) (fun _ i => (intOf i + 1).toNat)
                      case atStart => exact ⟨K, 0, Lib.hid (Nat.le_refl _), by first | rfl | go_num | (rw [HK0.out]; rfl), rfl, Lib.hid HTk.out.symm⟩
                      case round =>
                        obtain ⟨j, V, hj, rfl, rfl, HV⟩ := hrel
                        by_cases hj0 : 0 < j
                        · obtain ⟨i, rfl⟩ : ∃ i, j = i + 1 := ⟨j - 1, by omega⟩
                          obtain ⟨x, hx, hxb, hx1, hx2⟩ := HInv.out i hj.out
                          obtain ⟨d, rfl⟩ := Int.eq_ofNat_of_zero_le hxb.1
                          obtain ⟨bb, oo, eA, hSb, c0', _⟩ := row_u8_at HP.out.row hx
                          rw [← HV.out] at hx1 hx2
                          have hx1 := Lib.hid hx1
                          have hje := hj.out
                          have ej : (((i + 1 : Nat) : Int) - 1) = (i : Int) := by omega
                          have hil : i < rest.length := by have := HHf.out; omega
                          rw [ej]
                          clear ej hx
                          first
                            | (exfalso; cases eA; done)
                            | (cases eA
                               go_wp2
                               refine ⟨⟨i, V * 256 + d, Lib.hid (by omega), by go_num, by go_num, Lib.hid (by rw [hx1.out]; omega)⟩, ?_⟩
                               simp [intOf])
                        · obtain rfl : j = 0 := by omega
                          have hV : V = VK := HV.out.trans HV0.out
                          rw [show (((0 : Nat) : Int) - 1) = -1 from rfl]
                          subst hV
                          go_wp2_with (first
                            | (go_at_call 20; refine (rdFixed_ok _ _ _ _ HP.out.rdr _ hfitn.out).mono ?_; rw [← HKc.out, hVK.out]; rintro e w3 ⟨rfl, hR, hK⟩; have H3 := Lib.hid (HP.out.step hR hK); clear hR hK)
                            | (go_at_call 25; refine (bad_calls _ _ _ _ _ H3.out.rdr).mono ?_; rintro e wb ⟨rfl, rfl⟩)
                            | (go_at_call 26; refine (left_calls _ _ _ _ _ H3.out.rdr).mono ?_; rw [hLd.out]; rintro e wb ⟨rfl, rfl⟩))
                          go_roundw
                          case rel =>
                            exact ⟨k + 1, rest, rest, _, c, false, by omega, by go_num, rfl, rfl, (fun _ => rfl), Lib.hid (H3.out.rebase (by rw [HK0.out]; rfl))⟩
                          case measure => simp [intOf]; omega
                  · as_aux_lemma =>
                      have HK0 := Lib.hid hK0
                      have hLd := Lib.hid (show (rest.drop K).length = rest.length - 8 by rw [hK0, List.length_drop])
                      have hlen8 : 8 ≤ rest.length := by omega
                      clear hK0 hdn hd0
                      have hc8 : c = 8 ∨ ¬ c = 8 := by omega
                      rcases hc8 with rfl | hc8
                      all_goals
                        go_wp2
                        go_loop [10, 11] (fun v i => ∃ (j V : Nat), Hid (j ≤ K) ∧ i = .int .i64 ((j : Int) - 1) ∧ v = .int .u64 V ∧ Hid (V = leB ((rest.take K).drop j))) (fun _ i => (intOf i + 1).toNat)
                        case atStart => exact ⟨K, 0, Lib.hid (Nat.le_refl _), by first | rfl | go_num | (rw [HK0.out]; rfl), rfl, Lib.hid HTk.out.symm⟩
                        case round =>
                          obtain ⟨j, V, hj, rfl, rfl, HV⟩ := hrel
                          by_cases hj0 : 0 < j
                          · obtain ⟨i, rfl⟩ : ∃ i, j = i + 1 := ⟨j - 1, by omega⟩
                            obtain ⟨x, hx, hxb, hx1, hx2⟩ := HInv.out i hj.out
                            obtain ⟨d, rfl⟩ := Int.eq_ofNat_of_zero_le hxb.1
                            obtain ⟨bb, oo, eA, hSb, c0', _⟩ := row_u8_at HP.out.row hx
                            rw [← HV.out] at hx1 hx2
                            have hx1 := Lib.hid hx1
                            have hje := hj.out
                            have ej : (((i + 1 : Nat) : Int) - 1) = (i : Int) := by omega
                            have hil : i < rest.length := by have := HHf.out; omega
                            rw [ej]
                            clear ej hx
                            first
                              | (exfalso; cases eA; done)
                              | (cases eA
                                 go_wp2
                                 refine ⟨⟨i, V * 256 + d, Lib.hid (by omega), by go_num, by go_num, Lib.hid (by rw [hx1.out]; omega)⟩, ?_⟩
                                 simp [intOf])
                          · obtain rfl : j = 0 := by omega
                            have hV : V = VK := HV.out.trans HV0.out
                            rw [show (((0 : Nat) : Int) - 1) = -1 from rfl]
                            subst hV
                            go_wp2_with (first
                              | (go_at_call 20; refine (rdFixed_ok _ _ _ _ HP.out.rdr _ hfitn.out).mono ?_; rw [← HKc.out, hVK.out]; rintro e w3 ⟨rfl, hR, hK⟩; have H3 := Lib.hid (HP.out.step hR hK); clear hR hK)
                              | (go_at_call 25; refine (bad_calls _ _ _ _ _ H3.out.rdr).mono ?_; rintro e wb ⟨rfl, rfl⟩)
                              | (go_at_call 26; refine (left_calls _ _ _ _ _ H3.out.rdr).mono ?_; rw [hLd.out]; rintro e wb ⟨rfl, rfl⟩))
                            go_roundw
                            case rel =>
                              have hK := HK0.out
                              subst hK
                              exact ⟨k + 1, rest.drop 8, _, _, _, false, by omega, by go_num, slice_len (by first | exact List.length_drop.symm | (rw [List.length_drop]; omega)), rfl, (fun _ => rfl), Lib.hid (H3.out.dropSome 8 (by first | exact .inr rfl | exact .inl (by omega)) (by omega))⟩
                            case measure => simp [intOf]; omega
                  · as_aux_lemma =>
                      clear hd0
                      go_wp2
                      go_loop [10, 11] (fun v i => ∃ (j V : Nat), Hid (j ≤ K) ∧ i = .int .i64 ((j : Int) - 1) ∧ v = .int .u64 V ∧ Hid (V = leB ((rest.take K).drop j))) (fun _ i => (intOf i + 1).toNat)
                      case atStart => exact ⟨K, 0, Lib.hid (Nat.le_refl _), by first | rfl | go_num | (rw [HK0.out]; rfl), rfl, Lib.hid HTk.out.symm⟩
                      case round =>
                        obtain ⟨j, V, hj, rfl, rfl, HV⟩ := hrel
                        by_cases hj0 : 0 < j
                        · obtain ⟨i, rfl⟩ : ∃ i, j = i + 1 := ⟨j - 1, by omega⟩
                          obtain ⟨x, hx, hxb, hx1, hx2⟩ := HInv.out i hj.out
                          obtain ⟨d, rfl⟩ := Int.eq_ofNat_of_zero_le hxb.1
                          obtain ⟨bb, oo, eA, hSb, c0', _⟩ := row_u8_at HP.out.row hx
                          rw [← HV.out] at hx1 hx2
                          have hx1 := Lib.hid hx1
                          have hje := hj.out
                          have ej : (((i + 1 : Nat) : Int) - 1) = (i : Int) := by omega
                          have hil : i < rest.length := by have := HHf.out; omega
                          rw [ej]
                          clear ej hx
                          first
                            | (exfalso; cases eA; done)
                            | (cases eA
                               go_wp2
                               refine ⟨⟨i, V * 256 + d, Lib.hid (by omega), by go_num, by go_num, Lib.hid (by rw [hx1.out]; omega)⟩, ?_⟩
                               simp [intOf])
                        · obtain rfl : j = 0 := by omega
                          have hV : V = VK := HV.out.trans HV0.out
                          rw [show (((0 : Nat) : Int) - 1) = -1 from rfl]
                          subst hV
                          go_wp2_with (first
                            | (go_at_call 20; refine (rdFixed_ok _ _ _ _ HP.out.rdr _ hfitn.out).mono ?_; rw [← HKc.out, hVK.out]; rintro e w3 ⟨rfl, hR, hK⟩; have H3 := Lib.hid (HP.out.step hR hK); clear hR hK)
                            | (go_at_call 25; refine (bad_calls _ _ _ _ _ H3.out.rdr).mono ?_; rintro e wb ⟨rfl, rfl⟩)
                            | (go_at_call 26; refine (left_calls _ _ _ _ _ H3.out.rdr).mono ?_; rw [List.length_drop]; rintro e wb ⟨rfl, rfl⟩))
                          go_roundw
                          case rel =>
                            obtain ⟨o', hif, ho'⟩ := if_addr b0 o0 K c rest.length hrc
                            rw [hif]
                            exact ⟨k + 1, rest.drop K, _, _, _, false, by omega, by go_num, slice_len List.length_drop.symm, rfl, (fun _ => rfl), Lib.hid (H3.out.dropSome K ho' (by omega))⟩
                          case measure => simp [intOf]; omega
              · as_aux_lemma =>
                  have hnf : rest.length < cnt n := by omega
                  have HNF := Lib.hid hnf
                  have hway : (¬ n < 0 ∧ 8 < n ∧ rest.length < 8) ∨ (¬ n < 0 ∧ ¬ 8 < n ∧ (rest.length : Int) < n) := by
                    by_cases h1 : n < 0
                    · rw [if_pos h1] at hcn; omega
                    · rw [if_neg h1] at hcn
                      by_cases h2 : 8 < n
                      · rw [if_pos h2] at hcn; exact .inl ⟨h1, h2, by omega⟩
                      · rw [if_neg h2] at hcn; exact .inr ⟨h1, h2, by omega⟩
                  clear hcn hc8 hfit hnf
                  have hway : ∃ z : Int, (z = 8 ∨ z = n) ∧ ((¬ n < 0 ∧ 8 < n ∧ decide ((rest.length : Int) < 8) = true) ∨ (¬ n < 0 ∧ ¬ 8 < n ∧ decide ((rest.length : Int) < n) = true)) := by
                    rcases hway with ⟨h1, h2, h3⟩ | ⟨h1, h2, h3⟩
                    · exact ⟨8, .inl rfl, .inl ⟨h1, h2, decide_eq_true (by omega)⟩⟩
                    · exact ⟨n, .inr rfl, .inr ⟨h1, h2, decide_eq_true h3⟩⟩
                  obtain ⟨_, _, hway⟩ := hway
                  rcases hway with ⟨h1, h2, h3⟩ | ⟨h1, h2, h3⟩
                  all_goals
                    go_wp2
                    go_loop [10, 11] (fun v i => ∃ z : Int, i = .int .i64 z ∧ -1 ≤ z ∧ z ≤ 7 ∧ v = .int .u64 0) (fun _ _ => 0)
                    case atStart => exact ⟨_, rfl, by omega, by omega, rfl⟩
                    case round =>
                      obtain ⟨z, rfl, hz1, hz2, rfl⟩ := hrel
                      by_cases hz : 0 ≤ z
                      all_goals
                        go_wp2_with (first
                          | (go_at_call 20; refine (rdFixed_no _ _ _ _ _ HP.out.rdr n (.inr HNF.out)).mono ?_; rintro e w3 ⟨rfl, hR, hK⟩; have H3 := Lib.hid (HP.out.step hR hK); clear hR hK)
                          | (go_at_call 25; refine (bad_calls _ _ _ _ _ H3.out.rdr).mono ?_; rintro e wb ⟨rfl, rfl⟩)
                          | (go_at_call 26; refine (left_calls _ _ _ _ _ H3.out.rdr).mono ?_; rintro e wb ⟨rfl, rfl⟩))
                        go_roundw
                        case rel => exact ⟨k + 1, rest, rest, A, c, true, by omega, by go_num, rfl, rfl, (fun h => by cases h), H3⟩
                        case measure => simp [intOf]; omega
          · by_cases hw1 : what = 1
            · as_aux_lemma =>
                subst hw1
                rcases read_ref0 rest HP.out.isb with ⟨e1, e2, e3⟩ | ⟨m, e1, e2, e3, e4, e5⟩
                · as_aux_lemma =>
                    obtain ⟨v1, hv1⟩ : ∃ v1, (refV rest 0 0 rest).1 = v1 := ⟨_, rfl⟩
                    have HV1 := Lib.hid hv1
                    have HV2 := Lib.hid e1
                    have HV3 := Lib.hid e2
                    have HV4 := Lib.hid e3
                    clear hv1 e1 e2 e3
                    go_wp2_with (first
                      | (go_at_call 21; refine (refRead_calls (S := T) _ _ _ _ rest rfl (by omega) hrc (fun b hb => (HP.out.low b hb).1) HP.out.row).mono ?_; rw [HV1.out, HV2.out]; rintro e w2 ⟨rfl, hb2⟩; have H2 := Lib.hid (HP.out.below hb2); clear hb2)
                      | (go_at_call 22; refine (rdVar_calls _ _ _ _ H2.out.rdr).mono ?_; rw [HV3.out, HV4.out]; rintro e w3 ⟨rfl, hR, hK⟩; have H3 := Lib.hid (H2.out.step hR hK); clear hR hK)
                      | (go_at_call 25; refine (bad_calls _ _ _ _ _ H3.out.rdr).mono ?_; rintro e wb ⟨rfl, rfl⟩)
                      | (go_at_call 26; refine (left_calls _ _ _ _ _ H3.out.rdr).mono ?_; rintro e wb ⟨rfl, rfl⟩))
                    go_roundw
                    case rel => exact ⟨k + 1, rest, _, A, c, true, by omega, by go_num, rfl, rfl, (fun h => by cases h), H3⟩
                    case measure => simp [intOf]; omega
                · as_aux_lemma =>
                    obtain ⟨v1, hv1⟩ : ∃ v1, (refV rest 0 0 rest).1 = v1 := ⟨_, rfl⟩
                    rw [hv1] at e2
                    have HV1 := Lib.hid hv1
                    have HV2 := Lib.hid e1
                    have HV3 := Lib.hid e2
                    have HV4 := Lib.hid e3
                    have HV5 := Lib.hid e4
                    clear hv1 e1 e2 e3 e4
                    have hm1 : m + 1 ≤ rest.length := by omega
                    rcases HP.out.adr with ⟨rfl, rfl⟩ | ⟨b0, o0, rfl⟩
                    · exact absurd e5 (by simp)
                    go_wp2_with (first
                      | (go_at_call 21; refine (refRead_calls (S := T) _ _ _ _ rest rfl (by omega) hrc (fun b hb => (HP.out.low b hb).1) HP.out.row).mono ?_; rw [HV1.out, HV2.out]; rintro e w2 ⟨rfl, hb2⟩; have H2 := Lib.hid (HP.out.below hb2); clear hb2)
                      | (go_at_call 22; refine (rdVar_calls _ _ _ _ H2.out.rdr).mono ?_; rw [HV3.out, HV4.out, HV5.out]; rintro e w3 ⟨rfl, hR, hK⟩; have H3 := Lib.hid (H2.out.step hR hK); clear hR hK)
                      | (go_at_call 25; refine (bad_calls _ _ _ _ _ H3.out.rdr).mono ?_; rintro e wb ⟨rfl, rfl⟩)
                      | (go_at_call 26; refine (left_calls _ _ _ _ _ H3.out.rdr).mono ?_; rw [List.length_drop]; rintro e wb ⟨rfl, rfl⟩))
                    go_roundw
                    case rel =>
                      obtain ⟨o', hif, ho'⟩ := if_addr b0 o0 (m + 1) c rest.length hrc
                      rw [hif]
                      exact ⟨k + 1, rest.drop (m + 1), _, _, _, false, by omega, by go_num, slice_len List.length_drop.symm, rfl, (fun _ => rfl), Lib.hid (H3.out.dropSome (m + 1) ho' (by omega))⟩
                    case measure => simp [intOf]; omega
            · by_cases hno : n < 0 ∨ (rest.length : Int) < n
              · as_aux_lemma =>
                  have hway : n < 0 ∨ (¬ n < 0 ∧ (rest.length : Int) < n) := by omega
                  have HNO := Lib.hid hno
                  clear hno
                  rcases hway with h1 | ⟨h1, h2⟩
                  all_goals
                    go_wp2_with (first
                      | (go_at_call 23; refine (take_no _ _ _ _ _ HP.out.rdr n (.inr HNO.out)).mono ?_; rintro e w3 ⟨rfl, hR, hK⟩; have H3 := Lib.hid (HP.out.step hR hK); clear hR hK)
                      | (go_at_call 25; refine (bad_calls _ _ _ _ _ H3.out.rdr).mono ?_; rintro e wb ⟨rfl, rfl⟩)
                      | (go_at_call 26; refine (left_calls _ _ _ _ _ H3.out.rdr).mono ?_; rintro e wb ⟨rfl, rfl⟩))
                    go_roundw
                    case rel => exact ⟨k + 1, rest, rest, A, c, true, by omega, by go_num, rfl, rfl, (fun h => by cases h), H3⟩
                    case measure => simp [intOf]; omega
              · obtain ⟨m, rfl⟩ := Int.eq_ofNat_of_zero_le (show 0 ≤ n by omega)
                have hm : m ≤ rest.length := by omega
                have htl : (rest.take m).length = m := by rw [List.length_take]; omega
                have HTL := Lib.hid htl
                have HBt := Lib.hid (show isB (rest.take m) from fun x hx => HP.out.isb x (List.mem_of_mem_take hx))
                have hm1 : m ≤ 1000000 := by omega
                have hd1 : decide ((m : Int) < 0) = false := decide_eq_false (by omega)
                have hd2 : decide (rest.length < m) = false := decide_eq_false (by omega)
                clear htl hno
                rcases HP.out.adr with ⟨rfl, rfl⟩ | ⟨b0, o0, rfl⟩
                · as_aux_lemma =>
                    obtain rfl : m = 0 := by simpa using hm
                    have ht := Lib.hid (show Calls Try.prog 23 #[.pointer (some ⟨p, 0, none⟩), .int .i64 0] wr _ from take_ok wr p S [] HP.out.rdr 0 (by simp))
                    go_wp2_with (first
                      | (go_at_call 23; refine ht.out.mono ?_; rintro e w2 ⟨A2, c2, rfl, ho, hR, hK⟩; have HO2 := Lib.hid ho; have H2 := Lib.hid (HP.out.step hR hK); clear ho hR hK)
                      | (go_at_call 24; refine (same_calls (S := fun b => (Value.slice A2 0 c2).ownBlock = some b) (T := T) _ _ _ _ _ _ _ ([] : List Int) ([] : List Int) rfl rfl hm1 hm1 (fun b hb => (HO2.out.lt b hb).2) (fun b hb => (H2.out.low b hb).1) (own_brow (bs := []) (by simpa using HO2.out) rfl (fun x hx => absurd hx (by simp)) hm1) (Rd.Row.nil _ _ _ _)).mono ?_; rintro e w3 ⟨he, hb3⟩; obtain rfl := he.trans (ret_bool (decide_eq_true rfl)); have H3 := Lib.hid (H2.out.below hb3); clear he hb3)
                      | (go_at_call 25; refine (bad_calls _ _ _ _ _ H3.out.rdr).mono ?_; rintro e wb ⟨rfl, rfl⟩)
                      | (go_at_call 26; refine (left_calls _ _ _ _ _ H3.out.rdr).mono ?_; rw [List.length_drop]; rintro e wb ⟨rfl, rfl⟩))
                    go_roundw
                    case rel => exact ⟨k + 1, [], _, _, _, false, by omega, by go_num, rfl, rfl, (fun _ => rfl), Lib.hid (H3.out.drop 0 (.inl (by simp)) (by simp) (.inl ⟨rfl, rfl⟩))⟩
                    case measure => simp [intOf]; omega
                · as_aux_lemma =>
                    go_wp2_with (first
                      | (go_at_call 23; refine (take_ok _ _ _ _ HP.out.rdr m hm).mono ?_; rintro e w2 ⟨A2, c2, rfl, ho, hR, hK⟩; have HO2 := Lib.hid ho; have H2 := Lib.hid (HP.out.step hR hK); clear ho hR hK)
                      | (go_at_call 24; refine (same_calls (S := fun b => (Value.slice A2 m c2).ownBlock = some b) (T := T) _ _ _ _ _ _ _ (rest.take m) (rest.take m) HTL.out HTL.out hm1 hm1 (fun b hb => (HO2.out.lt b hb).2) (fun b hb => (H2.out.low b hb).1) (own_brow HO2.out HTL.out HBt.out hm1) (row_take H2.out.row m)).mono ?_; rintro e w3 ⟨he, hb3⟩; obtain rfl := he.trans (ret_bool (decide_eq_true rfl)); have H3 := Lib.hid (H2.out.below hb3); clear he hb3)
                      | (go_at_call 25; refine (bad_calls _ _ _ _ _ H3.out.rdr).mono ?_; rintro e wb ⟨rfl, rfl⟩)
                      | (go_at_call 26; refine (left_calls _ _ _ _ _ H3.out.rdr).mono ?_; rw [List.length_drop]; rintro e wb ⟨rfl, rfl⟩))
                    go_roundw
                    case rel =>
                      obtain ⟨o', hif, ho'⟩ := if_addr b0 o0 m c rest.length hrc
                      rw [hif]
                      exact ⟨k + 1, rest.drop m, _, _, _, false, by omega, by go_num, slice_len List.length_drop.symm, rfl, (fun _ => rfl), Lib.hid (H3.out.dropSome m ho' (by omega))⟩
                    case measure => simp [intOf]; omega
      · as_aux_lemma =>
          go_wp2_with (first
            | (go_at_call 18; refine (numAnswers_calls _).mono ?_; rintro e w5 ⟨rfl, hb5⟩))
          go_ret
          exact ⟨rfl, HP.out.kept.trans (hb5.mono HP.out.size)⟩
end Go.Proofs.Ytdgeofeijgflcaa
