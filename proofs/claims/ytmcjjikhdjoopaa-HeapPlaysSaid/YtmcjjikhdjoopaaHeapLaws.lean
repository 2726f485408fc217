/- What a program that does nothing does not answer of objects; the walks of HeapNone and HeapQuota. -/
import Derived.Test.YtmcjjikhdjoopaaHeapS
import Derived.Deep.OwnRows
namespace Go.Proofs.Ytmcjjikhdjoopaa
open Go.RowKit
set_option linter.unusedVariables false
theorem new0_calls (w : World) (q u : Int) : Calls Try.prog 13 #[.slice none 0 0, .int .i64 q, .int .i64 u] w fun e w' => ∃ p, e = .returned (.pointer (some ⟨p, 0, none⟩)) ∧ (∃ A c, Hp w' p (.slice A 0 c) [] q u ∧ (∀ b, HF p (.slice A 0 c) [] b → w.heap.size ≤ b)) ∧ Below w.heap.size w w' := by
  refine (heapNew_calls (S := fun _ => False) w none 0 0 q u [] rfl (by decide) (fun o ho => by cases ho) (fun b hb => hb.elim) (Rd.Row.nil _ _ _ _)).mono ?_
  rintro e w' ⟨p, A, c, L, rfl, hL, hH, hF, hB⟩
  obtain rfl : L = [] := List.map_eq_nil_iff.1 hL
  exact ⟨p, rfl, ⟨A, c, hH, hF⟩, hB⟩
set_option maxRecDepth 100000 in
theorem heapAnswers_calls (w : World) : Calls Try.prog 15 #[] w fun e w' => e = .returned (.bool true) ∧ Below w.heap.size w w' := by
  have HW : Hid (Ob.wf ⟨3, 0, [5], []⟩) := Lib.hid ⟨by decide, by decide, (fun x hx => by simp at hx; omega), (fun x hx => by cases hx), by simp, by simp⟩
  go_enter Try.func15, Try.ntmps15
  go_wp2_with (first
    | (go_at_call 13; refine (new0_calls _ _ _).mono ?_; rintro e w1 ⟨p, rfl, ⟨A, c, hH, hF⟩, hB⟩; have HB1 := Lib.hid hB; have HH1 := Lib.hid (hH.below ((Below.refl w1.heap.size w1).alloc (Nat.le_refl _) (Obj.cells #[.int .u64 5] 25))); have HF1 := Lib.hid hF; have HL1 := Lib.hid (lie_new (w := w1) (m := 1) (wcells [5]) 25 (0, 0) rfl); have HBa := Lib.hid (hB.alloc hB.size (Obj.cells #[.int .u64 5] 25)); clear hH hF hB)
    | (go_at_call 14; refine (add_ok _ p A 0 c [] rfl 100 0 HH1.out 3 0 _ none 1 0 1 0 [5] [] rfl rfl (by decide) (by decide) (by exact HL1.out) (fun h => absurd h (by decide)) HW.out (by decide) (by decide) (by decide) (by decide)).mono ?_; rintro e w2 ⟨A1, c1, ov, rfl, hH, hf, hk⟩; have HH2 := Lib.hid hH; have HB2 := Lib.hid (HBa.out.trans (hk.below (by exact HBa.out.size) (fun x hx hx2 => by have := HF1.out x hx2; omega))); clear hH hf hk)
    | (go_at_call 28; refine (wordS_calls _ _ _ _ _ _ HH2.out 1 0 (by decide) (by decide)).mono ?_; rw [show wordS (List.map (·.1) ([] ++ [((⟨3, 0, [5], []⟩ : Ob), ov)])) 1 0 = (5, 0) from rfl]; rintro e w3 ⟨rfl, rfl⟩)
    | (go_at_call 16; refine (used_calls _ _ _ _ _ _ HH2.out).mono ?_; rintro e w3 ⟨rfl, rfl⟩))
  go_ret
  exact ⟨rfl, HB2.out⟩
set_option maxRecDepth 100000 in
theorem heapNone_walk (w : World) (a0 : Int) (w0 : (Lit.int .u64 a0).wf = true) (a1 : Int) (w1 : (Lit.int .u64 a1).wf = true) (cs2 : List Value) (x2 : Ob) (K2 : k_obj.K (· < w.heap.size) w x2 cs2) :
    Calls Try.prog 12 #[.int .u64 a0, .int .u64 a1, .agg cs2.toArray] w fun e w' => e = .returned (.bool true) ∧ Below w.heap.size w w' := by
  obtain ⟨A2, c2, A3, c3, rfl, _⟩ := k_obj_open K2
  have HB0 := Lib.hid ((Below.refl w.heap.size w).alloc (Nat.le_refl _) (Obj.cells #[.int .i64 x2.kind, .int .i64 x2.n, .slice A2 x2.words.length c2, .slice A3 x2.bytes.length c3] 31))
  clear K2
  go_enter Try.func12, Try.ntmps12
  go_wp2_with (first
    | (go_at_call 14; refine (add_none _ _ _ _ _ _ _ _ _).mono ?_; rintro e w2 ⟨rfl, hb⟩; have HB2 := Lib.hid (HB0.out.trans (hb.mono (by simp))); have hs2 := HB2.out.size; clear hb)
    | (go_at_call 28; refine (word_null _ _ _ _ (at_none _ _)).mono ?_; rintro e w3 ⟨rfl, rfl⟩)
    | (go_at_call 25; refine (byte_null _ _ _ _ (at_none _ _)).mono ?_; rintro e w3 ⟨rfl, rfl⟩)
    | (go_at_call 29; refine (len_null _ _ _ (at_none _ _)).mono ?_; rintro e w3 ⟨rfl, rfl⟩)
    | (go_at_call 15; refine (heapAnswers_calls _).mono ?_; rintro e w4 ⟨rfl, hb⟩; have HB4 := Lib.hid (HB2.out.trans (hb.mono hs2)); clear hb)
    | (go_at_call 26; refine (setword_null _ _ _ _ _ (at_none _ _)).mono ?_; rintro e w3 ⟨rfl, rfl⟩)
    | (go_at_call 27; refine (setbyte_null _ _ _ _ _ (at_none _ _)).mono ?_; rintro e w3 ⟨rfl, rfl⟩)
    | (go_at_call 17; refine (objs_none _).mono ?_; rintro e w3 ⟨rfl, rfl⟩)
    | (go_at_call 16; refine (used_none _).mono ?_; rintro e w3 ⟨rfl, rfl⟩))
  go_ret
  exact ⟨rfl, HB4.out⟩
end Go.Proofs.Ytmcjjikhdjoopaa
