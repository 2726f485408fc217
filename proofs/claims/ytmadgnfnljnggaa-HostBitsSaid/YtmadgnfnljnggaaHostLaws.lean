/- The walks of the laws of chapter 23. -/
import Derived.Test.YtmadgnfnljnggaaHostB
import Derived.Test.YtmadgnfnljnggaaPlain
namespace Go.Proofs.Ytmadgnfnljnggaa
open Go.RowKit
set_option linter.unusedVariables false

/-! plain -/
def wantK (v has : Int) : Nat → Int
  | 0 => 0
  | k + 1 => if (v / 2 ^ k).tmod 2 = 1 ∧ (has / 2 ^ k) % 2 = 0 then 8 else wantK v has k
theorem B4.low (s : B4) : BitVec.ofInt 64 s.val &&& 15#64 = BitVec.ofInt 64 s.val := by
  obtain ⟨a, b, c, d⟩ := s
  revert a b c d; decide +kernel
theorem bind_want_small : ∀ m : Fin 16, ∀ a b c d : Bool, (if Go.bits .andNot .i64 (B4.val ⟨a, b, c, d⟩) (m.val : Int) = 0 then (0 : Int) else 8) = wantK (B4.val ⟨a, b, c, d⟩) (m.val : Int) 4 := by decide +kernel
theorem bind_want (s : B4) (has : Int) : bindOf s has = wantK s.val has 4 := by
  obtain ⟨a, b, c, d⟩ := s
  have h := bind_want_small ⟨(has % 16).toNat, by omega⟩ a b c d
  simp only at h
  rw [show (((has % 16).toNat : Nat) : Int) = has % 16 by omega] at h
  unfold bindOf
  rw [andNot_low _ _ (B4.low _), h]
  simp only [wantK]
  rw [show (has % 16 / 2 ^ 0) % 2 = (has / 2 ^ 0) % 2 by omega, show (has % 16 / 2 ^ 1) % 2 = (has / 2 ^ 1) % 2 by omega, show (has % 16 / 2 ^ 2) % 2 = (has / 2 ^ 2) % 2 by omega, show (has % 16 / 2 ^ 3) % 2 = (has / 2 ^ 3) % 2 by omega]
theorem wantK_two (v has : Int) (k : Nat) : wantK v has k = 0 ∨ wantK v has k = 8 := by
  induction k with
  | zero => exact .inl rfl
  | succ k ih => unfold wantK; split; exact .inr rfl; exact ih

theorem hostBinds_walk (w : World) (cs0 : List Value) (x0 : St) (K0 : k_state.K (· < w.heap.size) w x0 cs0) (a1 : Int) (w1 : (Lit.int .i64 a1).wf = true) :
    Calls Try.prog 3 #[.agg cs0.toArray, .int .i64 a1] w fun e w' => e = .returned (.bool true) ∧ Below w.heap.size w w' := by
  obtain ⟨A0, c0, A1, c1, A2, c2, rfl, l0, m0, r0, l1, m1, r1, l2, m2, r2, f3, f4, f5, f6⟩ := k_state_open K0
  clear K0 r0 r1 l0 l1 m0 m1 f3 f4 f5 f6
  by_cases hbig : 300 < x0.hans.length
  · go_enter Try.func3, Try.ntmps3
    go_wp2_with (go_at_call 16; refine (hostAnswers_calls _).mono ?_; rintro e w2 ⟨rfl, hb⟩)
    go_ret
    exact ⟨rfl, ((Below.refl _ _).alloc (Nat.le_refl _) _).trans (hb.mono (by simp))⟩
  · go_enter Try.func3, Try.ntmps3
    go_wp2_with fail
    go_loopw [5, 6] (fun v i wr => ∃ k : Nat, k ≤ 4 ∧ i = .int .i64 k ∧ v = .int .i64 (wantK (needs x0.hans).val a1 k) ∧ Below w.heap.size w wr ∧ w.heap.size < wr.heap.size ∧ wr.heap[w.heap.size]? = some (.cells #[.slice A0 x0.frames.length c0, .slice A1 x0.heap.length c1, .slice A2 x0.hans.length c2, .int .i64 x0.quota, .int .i64 x0.used, .int .i64 x0.en, .int .u64 x0.value] 27 (0, 0))) (fun _ i _ => 4 - (intOf i).toNat)
    case atStart => exact ⟨0, by omega, rfl, rfl, (Below.refl _ _).alloc (Nat.le_refl _) _, by simp, blk_new w _⟩
    case round =>
      obtain ⟨k, hk, rfl, rfl, hb, hlt, hbox⟩ := hrel
      have c := blk_cell hbox
      have hbox2 := Lib.hid hbox
      clear hbox
      by_cases h4 : k < 4
      · have hstep : ∀ y : Int, (y = 8 ∧ ((needs x0.hans).val / 2 ^ k).tmod 2 = 1 ∧ (a1 / 2 ^ k) % 2 = 0) ∨ (y = wantK (needs x0.hans).val a1 k ∧ ¬ (((needs x0.hans).val / 2 ^ k).tmod 2 = 1 ∧ (a1 / 2 ^ k) % 2 = 0)) → y = wantK (needs x0.hans).val a1 (k + 1) := by
          intro y hy
          simp only [wantK]
          rcases hy with ⟨h1, h2⟩ | ⟨h1, h2⟩
          · rw [if_pos h2]; exact h1
          · rw [if_neg h2]; exact h1
        have HS := Lib.hid hstep
        clear hstep
        obtain rfl | rfl | rfl | rfl : k = 0 ∨ k = 1 ∨ k = 2 ∨ k = 3 := by omega
        all_goals
          go_wp2_with (go_at_call 17; refine (refNeeds_calls (S := (· < w.heap.size)) _ _ _ _ _ _ _ _ _ x0.hans (by omega) (by intro b hb; omega) (by exact r2.keep (fun b h => hb.block b h))).mono ?_; rintro e w3 ⟨rfl, hb3⟩)
          all_goals
            refine ⟨⟨_, by decide, rfl, congrArg _ (HS.out _ ?_), hb.trans (hb3.mono (by omega)), Nat.lt_of_lt_of_le hlt hb3.size, blk_below hbox2.out hb3 hlt⟩, by simp [intOf]⟩
            · have ha := and_one (a1 / 2 ^ 0)
              have ha1 := and_one (a1 / 2 ^ 1)
              have ha2 := and_one (a1 / 2 ^ 2)
              have ha3 := and_one (a1 / 2 ^ 3)
              simp at ha ha1 ha2 ha3
              simp_all
      · obtain rfl : k = 4 := by omega
        have hw := Lib.hid (bind_want (needs x0.hans) a1)
        go_wp2_with (first
          | (go_at_call 16; refine (hostAnswers_calls _).mono ?_; rintro e w2 ⟨rfl, hb2⟩
             obtain ⟨hc2, hf2⟩ := bcell hb2)
          | (go_at_call 18; refine (bind_calls (S := (· < w.heap.size)) _ _ _ _ _ _ _ _ _ a1 x0.hans (by omega) (by intro b h; have := hb2.size; omega) (by exact (r2.keep (fun b h => hb.block b h)).keep (fun b h => hb2.block b (by omega)))).mono ?_; rintro e w3 ⟨he, hb3⟩
             obtain rfl := he.trans (ret_int hw.out)))
        go_ret
        exact ⟨rfl, (hb.trans (hb2.mono (by omega))).trans (hb3.mono (by have := hb2.size; omega))⟩
end Go.Proofs.Ytmadgnfnljnggaa
