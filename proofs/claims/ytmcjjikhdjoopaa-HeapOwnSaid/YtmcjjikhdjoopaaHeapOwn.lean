/- The walk of HeapOwn. -/
import Derived.Test.YtmcjjikhdjoopaaHeapLaws
namespace Go.Proofs.Ytmcjjikhdjoopaa
open Go.RowKit
set_option linter.unusedVariables false
theorem own_addr {w : World} {base : Nat} {e : TypeId} {size n c : Nat} {A : Option Addr} {xs : List Value} (h : w.ownsRow base e size (.slice A n c) n xs) (hn : 0 < n) : ∃ g, A = some ⟨g, 0, none⟩ ∧ base ≤ g ∧ g < w.heap.size := by
  obtain ⟨A', c', e, _, _, h5⟩ := own_shape h
  cases e
  exact h5 hn
theorem map_one {L : List (Ob × OV)} {o : Ob} (h : L.map (·.1) = [o]) : ∃ ov, L = [(o, ov)] := by
  match L, h with
  | [x], h => simp at h; exact ⟨x.2, by rw [← h]⟩
theorem byteS_one (o : Ob) (k : Nat) (x : Int) (h : o.bytes[k]? = some x) : byteS [o] 1 k = (x, 0) := by
  unfold byteS objAt
  simp [h]
/-- What in an object's bytes lies at a number. -/
theorem OL.bytes_at {w : World} {v : Value} {o : Ob} {ov : OV} (h : OL w v [(o, ov)]) (hn : 0 < o.bytes.length) : ∃ g c b d, v = .slice (some ⟨g, 0, none⟩) 1 c ∧ 1 ≤ c ∧ w.cell? ⟨g, 3, none⟩ = some (.slice (some ⟨b, 0, none⟩) o.bytes.length d) ∧ o.bytes.length ≤ d ∧ OMF (o, ov) b ∧ (∀ j x, o.bytes[j]? = some x → w.cell? ⟨b, j, none⟩ = some (.int .u8 x)) ∧ ∀ j, w.frozen? ⟨b, j, none⟩ = false := by
  obtain ⟨g, c, hv, hc, _, _, _, _, h3⟩ := h.place (i := 0) (x := (o, ov)) rfl
  obtain ⟨b, d, e, hd, _, hcell, hf⟩ := (h.mem (o, ov) (by simp)).bm.at_ hn
  refine ⟨g, c, b, d, hv, hc, ?_, hd, .inr (by rw [e]; rfl), fun j x hx => hcell j _ (bcells_at hx), hf⟩
  have := h3
  simp only at this
  rw [e] at this
  simpa using this
theorem hp_far {w : World} {p : Nat} {v : Value} {L : List (Ob × OV)} {q u : Int} {g : Nat} (h : Hp w p v L q u) (hg : ∀ b, HF p v L b → b ≠ g) (x : Nat) (y : Value) : Hp (w.setCell ⟨g, x, none⟩ y) p v L q u :=
  h.keeps (Keeps.setCell (F := (· = g)) (Keeps.refl _ _) (fun _ => rfl) _) (fun b hb e => hg b hb e)
set_option maxRecDepth 100000 in
set_option maxHeartbeats 4000000 in
theorem heapOwn_walk (w : World) (A0 : Option Addr) (c0 : Nat) (x0 : List Int) (l0 : x0.length ≤ c0) (m0 : x0.length ≤ 140737488351232) (row0 : (Rd.int .u8).Row (· < w.heap.size) w A0 x0) (a1 : Int) (w1 : (Lit.int .u8 a1).wf = true) :
    Calls Try.prog 9 #[.slice A0 x0.length c0, .int .u8 a1] w fun e w' => e = .returned (.bool true) ∧ Below w.heap.size w w' := by
  obtain ⟨n, hn⟩ : ∃ n, x0.length = n := ⟨_, rfl⟩
  have h1 := bounds_u8 w1
  obtain ⟨n1, rfl⟩ := Int.eq_ofNat_of_zero_le h1.1
  obtain ⟨cells, hfl, hlie⟩ := row0.flat
  obtain ⟨rfl, hB⟩ := byte_flat.1 hfl
  rw [hn] at l0 m0 hlie ⊢
  have HN := Lib.hid hn
  have HR := Lib.hid row0
  have HL := Lib.hid hlie
  have HB := Lib.hid hB
  clear w1 hfl hlie hB row0 hn
  by_cases hbig : n = 0 ∨ 100 < n
  · have hway : n = 0 ∨ (¬ n = 0 ∧ 100 < n) := by omega
    clear hbig
    rcases hway with rfl | ⟨h, h2⟩
    · go_enter Try.func9, Try.ntmps9
      go_wp2_with (go_at_call 15; refine (heapAnswers_calls _).mono ?_; rintro e w5 ⟨rfl, hb5⟩)
      go_ret
      exact ⟨rfl, hb5⟩
    · have hz : ((n : Int) == 0) = false := beq_eq_false_iff_ne.2 (by omega)
      go_enter Try.func9, Try.ntmps9
      go_wp2_with (go_at_call 15; refine (heapAnswers_calls _).mono ?_; rintro e w5 ⟨rfl, hb5⟩)
      go_ret
      exact ⟨rfl, hb5⟩
  · have hn0 : 0 < n := by omega
    have hn100 : n ≤ 100 := by omega
    have hz : ((n : Int) == 0) = false := beq_eq_false_iff_ne.2 (by omega)
    have hz2 : ¬ (n : Int) = 0 := by omega
    have hd100 : decide ((100 : Int) < (n : Int)) = false := decide_eq_false (by omega)
    clear hbig
    obtain ⟨t, ht⟩ : ∃ t, n1 % n = t := ⟨_, rfl⟩
    have htn : t < n := by rw [← ht]; exact Nat.mod_lt _ hn0
    have hti : (n1 : Int) % (n : Int) = (t : Int) := by rw [← ht]; rfl
    obtain ⟨y, hy⟩ : ∃ y, x0[t]? = some y := ⟨_, List.getElem?_eq_getElem (by rw [HN.out]; exact htn)⟩
    obtain ⟨z, hz0⟩ : ∃ z, x0[0]? = some z := ⟨_, List.getElem?_eq_getElem (by rw [HN.out]; exact hn0)⟩
    have hyb := HB.out y (List.mem_of_getElem? hy)
    have HY := Lib.hid hy
    have HZ := Lib.hid hz0
    have HWF : Hid (Ob.wf ⟨2, 0, [], x0⟩) := Lib.hid ⟨(by show (Lit.int .i64 2).wf = true; decide), (by show (Lit.int .i64 0).wf = true; decide), (fun x hx => by cases hx), HB.out, by simp, by show x0.length ≤ _; rw [HN.out]; omega⟩
    clear ht hy hz0
    obtain ⟨b0, o0, rfl, hb0, e0, _⟩ := row_u8_at HR.out HY.out
    go_enter Try.func9, Try.ntmps9
    go_wp2_with (first
      | (go_at_call 13; refine (new0_calls _ _ _).mono ?_; rintro e w1 ⟨p, rfl, ⟨A, c, hH, hF⟩, hB⟩; have HB1 := Lib.hid hB; have HH1 := Lib.hid hH; have HF1 := Lib.hid hF; have HL1 := Lib.hid (HL.out.below hB); have hs1 := hB.size; clear hH hF hB)
      | (at_builtin; refine list_app _ rfl (.tmp 21) (.tmp 22) _ rfl 5 Try.underlying29 byte_info rfl (by decide) (by decide) w1.heap.size rfl (World.ownsRow_made w1 #[] 0 (Nat.le_refl _) (Nat.zero_le _) rfl) rfl (by rw [bcells_length, HN.out]) (by exact HL1.out.below ((Below.refl _ _).alloc (Nat.le_refl _) _)) (bcells_one _) (by omega) (by simp) ?_; intro v' w2 hown hg hat; have hB := grown_below ((Below.refl w1.heap.size w1).alloc (Nat.le_refl _) _) hg (by simp) (.inr ⟨_, rfl, Nat.le_refl _⟩); simp only [Nat.zero_add, List.nil_append] at hown; obtain ⟨A2, c2, rfl, hn2, _, _⟩ := own_shape hown; obtain ⟨g2, rfl, hg21, hg22⟩ := own_addr hown hn0; have HO2 := Lib.hid hown; have HH2 := Lib.hid (HH1.out.below hB); have HB2 := Lib.hid (HB1.out.trans (hB.mono hs1)); have hs2 := HB2.out.size; have HLt := Lib.hid (fun b hb => HH1.out.lt (b := b) hb); clear hown hg hat hB)
      | (go_at_call 14; refine (add_ok _ p A 0 c [] rfl 1000 0 HH2.out 2 0 none _ 0 n 0 c2 [] x0 rfl HN.out (by decide) (by omega) (fun h => absurd h (by decide)) (by exact own_lie HO2.out) HWF.out (by decide) (by decide) (by omega) (by decide)).mono ?_; rintro e w3 ⟨A3, c3, ov, rfl, hH, hf, hk⟩; have HH3 := Lib.hid hH; have HO3 := Lib.hid (own_keeps HO2.out hk (fun g hg hb => by have h5 := (HO2.out.lt g hg).1; have := HLt.out _ hb; omega)); have HF3 : Hid (∀ b, HF p (.slice A3 (0 + 1) c3) ([] ++ [((⟨2, 0, [], x0⟩ : Ob), ov)]) b → w.heap.size ≤ b ∧ b ≠ g2) := Lib.hid (fun b hb => (hf b hb).elim (fun h => ⟨HF1.out b h, fun e => by have := HLt.out b h; omega⟩) (fun h => ⟨by omega, fun e => by omega⟩)); have HB3 := Lib.hid (HB2.out.trans (hk.below hs2 (fun x hx hx2 => by have := HF1.out x hx2; omega))); have hs3 := HB3.out.size; obtain ⟨gq, cq, cur, e3, _, _, _, _, hcl, hfz⟩ := own_at HO3.out hn0; cases e3; have c20 : w3.cell? ⟨g2, 0, none⟩ = some (.int .u8 z) := hcl 0 _ (bcells_at HZ.out); have f20 := hfz 0; clear hH hf hk hcl hfz)
      | (go_at_call 17; refine (objs_calls _ p A3 (0 + 1) c3 ([] ++ [((⟨2, 0, [], x0⟩ : Ob), ov)]) rfl _ _ (hp_far HH3.out (fun b hb => (HF3.out b hb).2) 0 _)).mono ?_; rintro e w5 ⟨A5, c5, L5, rfl, hL5, hO5, hF5, hb5⟩; obtain ⟨ov5, rfl⟩ := map_one hL5; obtain ⟨g5, c5', b5, d5, hv, _, q3, hd5, hom, hcell5, hfz5⟩ := hO5.bytes_at (by show 0 < x0.length; rw [HN.out]; exact hn0); cases hv; have q4 : w5.cell? ⟨g5, 3, none⟩ = some (.slice (some ⟨b5, 0, none⟩) n d5) := (by rw [← HN.out]; exact q3); have hd5' : n ≤ d5 := (by rw [← HN.out]; exact hd5); have c50 : w5.cell? ⟨b5, 0, none⟩ = some (.int .u8 z) := hcell5 0 z HZ.out; have f50 := hfz5 0; have hge := hF5 b5 (.inr ⟨_, by simp, hom⟩); have HP4 := hp_far HH3.out (fun b hb => (HF3.out b hb).2) 0 (.int .u8 ((z + 1) % 256)); have HH5 := Lib.hid (hp_far (HP4.below hb5) (g := b5) (fun b hb e => by have := HP4.lt hb; rw [e] at this; exact absurd this (Nat.not_lt.2 hge)) 0 (.int .u8 ((z - 1) % 256))); have HB5 := Lib.hid (((HB3.out.setCell (p := ⟨g2, 0, none⟩) (by show w.heap.size ≤ g2; omega) (.int .u8 ((z + 1) % 256))).trans (hb5.mono (by simp; omega))).setCell (p := ⟨b5, 0, none⟩) (by show w.heap.size ≤ b5; simp at hge; omega) (.int .u8 ((z - 1) % 256))); clear hL5 hO5 hF5 hb5 q3 hd5 hom hcell5 hfz5 hge HP4)
      | (go_at_call 25; refine (byteS_calls _ _ _ _ _ _ HH5.out 1 t (by decide) (by omega)).mono ?_; rw [show byteS (List.map (·.1) ([] ++ [((⟨2, 0, [], x0⟩ : Ob), ov)])) 1 t = (y, 0) from byteS_one _ t y HY.out]; rintro e w6 ⟨rfl, rfl⟩)
      | (go_at_call 15; refine (heapAnswers_calls _).mono ?_; rintro e w7 ⟨rfl, hb⟩; have HB7 := Lib.hid (HB5.out.trans (hb.mono HB5.out.size)); have e7 := (World.cell?_of_block (a := ⟨b0, o0 + t, none⟩) (HB7.out.block b0 hb0)).trans e0; clear hb))
    go_ret
    exact ⟨rfl, HB7.out⟩
end Go.Proofs.Ytmcjjikhdjoopaa
