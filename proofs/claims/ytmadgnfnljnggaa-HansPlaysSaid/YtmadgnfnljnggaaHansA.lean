/- The laws of hans: answers, HansNone, HansFull. -/
import Derived.Test.YtmadgnfnljnggaaTab
namespace Go.Proofs.Ytmadgnfnljnggaa
open Go.RowKit
set_option linter.unusedVariables false
attribute [local irreducible] hcells

theorem own_ge2 {v v2 : Value} {B n : Nat} (h : ∀ g, v.ownBlock = some g → B ≤ g) (h2 : v2.ownBlock = v.ownBlock ∨ v2.ownBlock = some (n + 1)) (hn : B ≤ n) : ∀ g, v2.ownBlock = some g → B ≤ g := by
  rintro g hg
  rcases h2 with h2 | h2
  · exact h g (h2 ▸ hg)
  · have : n + 1 = g := by rw [h2] at hg; exact Option.some.inj hg
    omega
theorem hansAnswers_calls (w : World) : Calls Try.prog 32 #[] w fun e w' => e = .returned (.bool true) ∧ Below w.heap.size w w' := by
  have hK0 := Lib.hid (Keeps.refl (· ≥ w.heap.size) w)
  go_enter Try.func32, Try.ntmps32
  go_wp2_with (first
    | (go_at_call 33; refine (new_calls _ _ _ _ [] rfl (by decide) (fun h => absurd h (by decide)) (fun _ h => absurd h (by simp))).mono ?_; rintro e w1 ⟨p, v, rfl, ht, hp, hv, hb⟩; have HT := Lib.hid ht; have HV := Lib.hid hv; have HB := Lib.hid hb; have hp1 := blk_lt ht.box; have hvl := Lib.hid (fun g hg => (ht.own.lt g hg).2); clear ht hv hb)
    | (go_at_call 34; refine (open_room _ _ _ _ HT.out (by decide) _ _ rfl rfl).mono ?_; rintro e w2 ⟨v2, rfl, ht, hv, hk⟩; have HT2 := Lib.hid ht; have HV2 := Lib.hid hv; have HK2 := Lib.hid hk; clear ht hv hk)
    | (go_at_call 35; refine (use_some _ _ _ _ HT2.out (by decide) 0 rfl ⟨1, 77, true⟩ rfl).mono ?_; rintro e w3 ⟨rfl, rfl⟩)
    | (go_at_call 36; refine (close_some _ _ _ _ [⟨1, 77, false⟩] HT2.out (by decide) 0 rfl ⟨1, 77, true⟩ rfl rfl).mono ?_; rintro e w4 ⟨rfl, ht, hk⟩; have HT4 := Lib.hid ht; have HK4 := Lib.hid hk; clear ht hk HT2)
    | (go_at_call 36; refine (close_no _ _ _ _ HT4.out (by decide) 0 rfl rfl).mono ?_; rintro e w5 ⟨rfl, ht, hk⟩; have HT5 := Lib.hid ht; have HK5 := Lib.hid hk; clear ht hk))
  go_ret
  have hv2 : ∀ g, v2.ownBlock = some g → w.heap.size ≤ g := own_ge2 HV.out HV2.out HB.out.size
  exact ⟨rfl, ((((Keeps.of_below (F := (w.heap.size ≤ ·)) HB.out).step HK2.out (fun x _ h => h.elim (fun e => e ▸ hp) (HV.out x))).step HK4.out (fun x _ h => hv2 x h)).step HK5.out (fun x _ h => hv2 x h)).below (Nat.le_refl _) (fun x hx h => Nat.lt_irrefl _ (Nat.lt_of_lt_of_le hx h))⟩

theorem hansNone_walk (w : World) (k : Int) (w0 : (Lit.int .i64 k).wf = true) (n : Int) (w1 : (Lit.int .u64 n).wf = true) : Calls Try.prog 12 #[.int .i64 k, .int .u64 n] w fun e w' => e = .returned (.bool true) ∧ Below w.heap.size w w' := by
  go_enter Try.func12, Try.ntmps12
  go_wp2_with (first
    | (go_at_call 34; refine (open_none _ _ _).mono ?_; rintro e w2 ⟨rfl, rfl⟩)
    | (go_at_call 35; refine (use_none _ _).mono ?_; rintro e w3 ⟨rfl, rfl⟩)
    | (go_at_call 36; refine (close_none _ _).mono ?_; rintro e w4 ⟨rfl, rfl⟩)
    | (go_at_call 38; refine (list_none _).mono ?_; rintro e w4 ⟨rfl, rfl⟩)
    | (go_at_call 32; refine (hansAnswers_calls _).mono ?_; rintro e w5 ⟨rfl, hb⟩))
  go_ret
  exact ⟨rfl, hb⟩
end Go.Proofs.Ytmadgnfnljnggaa
