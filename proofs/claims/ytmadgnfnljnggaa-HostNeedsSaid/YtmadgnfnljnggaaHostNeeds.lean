/- The walk of HostNeeds. -/
import Derived.Test.YtmadgnfnljnggaaHostW
import Derived.Test.YtmadgnfnljnggaaLight
namespace Go.Proofs.Ytmadgnfnljnggaa
open Go.RowKit
set_option linter.unusedVariables false
/-- Two boxes in a world that has grown. -/
theorem box75 {W w1 : World} {g k : Nat} {t t' : TypeId} {a b c d e f q A B C D E : Value} (h : W.heap[g]? = some (.cells #[a, b, c, d, e, f, q] t (0, 0))) (h' : W.heap[k]? = some (.cells #[A, B, C, D, E] t' (0, 0))) (hb : Below W.heap.size W w1) :
    w1.cell? ⟨g, 0, none⟩ = some a ∧ w1.cell? ⟨g, 1, none⟩ = some b ∧ w1.cell? ⟨g, 2, none⟩ = some c ∧ w1.cell? ⟨g, 3, none⟩ = some d ∧ w1.cell? ⟨g, 4, none⟩ = some e ∧ w1.cell? ⟨g, 5, none⟩ = some f ∧ w1.cell? ⟨g, 6, none⟩ = some q ∧
    w1.cell? ⟨k, 0, none⟩ = some A ∧ w1.cell? ⟨k, 1, none⟩ = some B ∧ w1.cell? ⟨k, 2, none⟩ = some C ∧ w1.cell? ⟨k, 3, none⟩ = some D ∧ w1.cell? ⟨k, 4, none⟩ = some E ∧ Below W.heap.size W w1 := by
  have hc := blk_cell (blk_below h hb (blk_lt h))
  have hc' := blk_cell (blk_below h' hb (blk_lt h'))
  exact ⟨hc 0, hc 1, hc 2, hc 3, hc 4, hc 5, hc 6, hc' 0, hc' 1, hc' 2, hc' 3, hc' 4, hb⟩
theorem held12 {a b c d e f q A B C D E : Prop} {W w1 w2 : World} (h : a ∧ b ∧ c ∧ d ∧ e ∧ f ∧ q ∧ A ∧ B ∧ C ∧ D ∧ E ∧ Below W.heap.size W w1) (hb : Below w1.heap.size w1 w2) : Below W.heap.size W w2 :=
  h.2.2.2.2.2.2.2.2.2.2.2.2.trans (hb.mono h.2.2.2.2.2.2.2.2.2.2.2.2.size)

theorem hostNeeds_walk (w : World) (cs0 : List Value) (x0 : St) (K0 : k_state.K (· < w.heap.size) w x0 cs0) (cs1 : List Value) (x1 : Md) (K1 : k_mod.K (· < w.heap.size) w x1 cs1) :
    Calls Try.prog 8 #[.agg cs0.toArray, .agg cs1.toArray] w fun e w' => e = .returned (.bool true) ∧ Below w.heap.size w w' := by
  obtain ⟨A0, c0, A1, c1, A2, c2, rfl, l0, m0, r0, l1, m1, r1, l2, m2, r2, f3, f4, f5, f6⟩ := k_state_open K0
  have KM := Lib.hid K1
  obtain ⟨B0, d0, B1, d1, B2, d2, B3, d3, B4, d4, rfl, _, _, _, _, _, _, _, _, s2, _, _, _, _, _, _⟩ := k_mod_open K1
  clear K0 r0 r1 l0 l1 m0 m1 f3 f4 f5 f6 K1
  have R2 := Lib.hid r2
  have S2 := Lib.hid s2
  clear r2 s2
  by_cases hbig : 300 < x0.hans.length ∨ light x1 = false
  · have hr : (300 < x0.hans.length) ∨ (¬ 300 < x0.hans.length ∧ light x1 = false) := by
      by_cases h : 300 < x0.hans.length
      · exact .inl h
      · exact .inr ⟨h, hbig.resolve_left h⟩
    clear hbig
    rcases hr with h | ⟨h, hl⟩
    · go_enter Try.func8, Try.ntmps8
      go_wp2_with (go_at_call 16; refine (hostAnswers_calls _).mono ?_; rintro e w2 ⟨rfl, hb⟩)
      go_ret
      exact ⟨rfl, (((Below.refl _ _).alloc (Nat.le_refl _) _).alloc (by simp) _).trans (hb.mono (by simp; omega))⟩
    · have hl2 := Lib.hid hl
      clear hl
      go_enter Try.func8, Try.ntmps8
      go_wp2_with (first
        | (go_at_call 23; refine (light_calls _ x1 [.slice B0 x1.recs.length d0, .slice B1 x1.funcs.length d1, .slice B2 x1.imports.length d2, .slice B3 x1.ints.length d3, .slice B4 x1.texts.length d4] (by exact k_mod.mono (fun b hb => Nat.lt_of_lt_of_le hb (by simp; omega)) (k_mod.keep (fun b hb => (Below.heap_alloc _ _ _ (by simp; omega)).trans (Below.heap_alloc _ _ _ hb)) KM.out))).mono ?_
           rintro e w2 ⟨he, hb2⟩
           obtain rfl := he.trans (ret_bool hl2.out)
           clear he)
        | (go_at_call 16; refine (hostAnswers_calls _).mono ?_; rintro e w3 ⟨rfl, hb3⟩))
      go_ret
      exact ⟨rfl, ((((Below.refl _ _).alloc (Nat.le_refl _) _).alloc (by simp) _).trans (hb2.mono (by simp; omega))).trans (hb3.mono (by have := hb2.size; simp at this; omega))⟩
  · have hl : light x1 = true := by cases h : light x1 <;> simp_all
    have hle : x0.hans.length ≤ 300 := by omega
    have him : x1.imports.length ≤ 200 := by
      unfold light at hl
      simp only [Bool.and_eq_true, decide_eq_true_eq] at hl
      have := hl.1
      unfold counts at this
      omega
    have hl2 := Lib.hid hl
    clear hl hbig
    go_enter Try.func8, Try.ntmps8
    go_wp2_with (first
        | (go_at_call 23; refine (light_calls _ x1 [.slice B0 x1.recs.length d0, .slice B1 x1.funcs.length d1, .slice B2 x1.imports.length d2, .slice B3 x1.ints.length d3, .slice B4 x1.texts.length d4] (by exact k_mod.mono (fun b hb => Nat.lt_of_lt_of_le hb (by simp; omega)) (k_mod.keep (fun b hb => (Below.heap_alloc _ _ _ (by simp; omega)).trans (Below.heap_alloc _ _ _ hb)) KM.out))).mono ?_
           rintro e w2 ⟨he, hb2⟩
           obtain rfl := he.trans (ret_bool hl2.out)
           clear he))
    have hB := Lib.hid ((((Below.refl w.heap.size w).alloc (Nat.le_refl _) _).alloc (by simp) _).trans (hb2.mono (by simp; omega)))
    have hX := Lib.hid (blk_below (blk_alloc (blk_new w _) _) hb2 (by simp; omega))
    have hY := Lib.hid (blk_below (blk_new2 w _ _) hb2 (by simp))
    have hs := blk_lt hX.out
    have hs' := blk_lt hY.out
    clear hb2
    have hneq : w.heap.size ≠ w.heap.size + 1 := by omega
    go_region_held3 (fun w' => w'.cell? ⟨w.heap.size, 0, none⟩ = some (.slice A0 x0.frames.length c0) ∧ w'.cell? ⟨w.heap.size, 1, none⟩ = some (.slice A1 x0.heap.length c1) ∧ w'.cell? ⟨w.heap.size, 2, none⟩ = some (.slice A2 x0.hans.length c2) ∧ w'.cell? ⟨w.heap.size, 3, none⟩ = some (.int .i64 x0.quota) ∧ w'.cell? ⟨w.heap.size, 4, none⟩ = some (.int .i64 x0.used) ∧ w'.cell? ⟨w.heap.size, 5, none⟩ = some (.int .i64 x0.en) ∧ w'.cell? ⟨w.heap.size, 6, none⟩ = some (.int .u64 x0.value) ∧
        w'.cell? ⟨w.heap.size + 1, 0, none⟩ = some (.slice B0 x1.recs.length d0) ∧ w'.cell? ⟨w.heap.size + 1, 1, none⟩ = some (.slice B1 x1.funcs.length d1) ∧ w'.cell? ⟨w.heap.size + 1, 2, none⟩ = some (.slice B2 x1.imports.length d2) ∧ w'.cell? ⟨w.heap.size + 1, 3, none⟩ = some (.slice B3 x1.ints.length d3) ∧ w'.cell? ⟨w.heap.size + 1, 4, none⟩ = some (.slice B4 x1.texts.length d4) ∧ Below w2.heap.size w2 w')
      (first
        | exact box75 hX.out hY.out (Below.refl _ _)
        | exact box75 hX.out hY.out (Below.refl _ _).drew
        | exact box75 hX.out hY.out (by assumption))
      (first
        | (go_at_call 16; refine (hostAnswers_calls _).mono ?_; rintro e w' ⟨rfl, hb⟩; have hbW : Below w2.heap.size w2 w' := held12 (by assumption) hb)
        | (go_at_call 19; refine (needs_calls (S := (· < w.heap.size)) _ _ _ _ _ _ _ _ _ x0.hans (by omega) ?_ ?_).mono ?_; (exact fun b hb => Nat.lt_of_lt_of_le (Nat.lt_trans hb hs) (held12 (by assumption) (Below.refl _ _)).size); (exact (R2.out.keep hB.out.block).keep (fun b hb => (held12 (by assumption) (Below.refl _ _)).block b (Nat.lt_trans hb hs))); rintro e w' ⟨rfl, hb⟩; have hbW : Below w2.heap.size w2 w' := held12 (by assumption) hb)
        | (go_at_call 17; refine (refNeeds_calls (S := (· < w.heap.size)) _ _ _ _ _ _ _ _ _ x0.hans (by omega) ?_ ?_).mono ?_; (exact fun b hb => Nat.lt_of_lt_of_le (Nat.lt_trans hb hs) (held12 (by assumption) (Below.refl _ _)).size); (exact (R2.out.keep hB.out.block).keep (fun b hb => (held12 (by assumption) (Below.refl _ _)).block b (Nat.lt_trans hb hs))); rintro e w' ⟨rfl, hb⟩; have hbW : Below w2.heap.size w2 w' := held12 (by assumption) hb)
        | (go_at_call 24; refine (wants_calls (S := (· < w.heap.size)) _ _ _ _ _ _ _ x1.imports (by omega) ?_ ?_).mono ?_; (exact fun b hb => Nat.lt_of_lt_of_le (Nat.lt_trans hb hs) (held12 (by assumption) (Below.refl _ _)).size); (exact (S2.out.keep hB.out.block).keep (fun b hb => (held12 (by assumption) (Below.refl _ _)).block b (Nat.lt_trans hb hs))); rintro e w' ⟨rfl, hb⟩; have hbW : Below w2.heap.size w2 w' := held12 (by assumption) hb)
        | (go_at_call 25; refine (refWants_calls (S := (· < w.heap.size)) _ _ _ _ _ _ _ x1.imports (by omega) ?_ ?_).mono ?_; (exact fun b hb => Nat.lt_of_lt_of_le (Nat.lt_trans hb hs) (held12 (by assumption) (Below.refl _ _)).size); (exact (S2.out.keep hB.out.block).keep (fun b hb => (held12 (by assumption) (Below.refl _ _)).block b (Nat.lt_trans hb hs))); rintro e w' ⟨rfl, hb⟩; have hbW : Below w2.heap.size w2 w' := held12 (by assumption) hb))
    go_wp2
    go_ret
    exact ⟨rfl, hB.out.trans (hbW.mono hB.out.size)⟩
end Go.Proofs.Ytmadgnfnljnggaa
