/- The walks of KindTypes, KindChain. -/
import Derived.Test.YtmadgnfnljnggaaGood
namespace Go.Proofs.Ytmadgnfnljnggaa
open Go.RowKit
set_option linter.unusedVariables false
theorem sub_refl (a : Ty) : sub a a = true := by simp [sub]
theorem join_refl (a : Ty) : join a a = a := by simp [join, sub_refl]
theorem isRef_iff (k : Int) : isRef k = true ↔ (k = 2 ∨ k = 3 ∨ k = 4 ∨ k = 6 ∨ k = 7) := by simp [isRef]; omega
theorem sub_iff (a b : Ty) : sub a b = true ↔ ((a.kind = b.kind ∧ a.n = b.n) ∨ b.kind = 8 ∨ ((a.kind = 2 ∨ a.kind = 3 ∨ a.kind = 4 ∨ a.kind = 6 ∨ a.kind = 7) ∧ (b.kind = 2 ∨ b.kind = 3 ∨ b.kind = 4 ∨ b.kind = 6 ∨ b.kind = 7) ∧ (a.kind = 6 ∨ b.kind = 7))) := by
  unfold sub
  simp only [Bool.or_eq_true, Bool.and_eq_true, decide_eq_true_eq, isRef_iff]
  have : a = b ↔ (a.kind = b.kind ∧ a.n = b.n) := by
    constructor
    · rintro rfl; exact ⟨rfl, rfl⟩
    · rintro ⟨h1, h2⟩; cases a; cases b; simp_all
  rw [this]
  constructor
  · rintro ((h | h) | ⟨⟨h1, h2⟩, h3⟩)
    · exact .inl h
    · exact .inr (.inl h)
    · exact .inr (.inr ⟨h1, h2, h3⟩)
  · rintro (h | h | ⟨h1, h2, h3⟩)
    · exact .inl (.inl h)
    · exact .inl (.inr h)
    · exact .inr ⟨⟨h1, h2⟩, h3⟩
theorem sub_trans {a b c : Ty} (h1 : sub a b = true) (h2 : sub b c = true) : sub a c = true := by
  rw [sub_iff] at *
  obtain ⟨ak, an⟩ := a; obtain ⟨bk, bn⟩ := b; obtain ⟨ck, cn⟩ := c
  simp only at *
  omega
/-- Three boxes of two cells in a world that has grown. -/
theorem box222 {W w1 : World} {g k m : Nat} {t t' t2 : TypeId} {a b A B p q : Value} (h : W.heap[g]? = some (.cells #[a, b] t (0, 0))) (h' : W.heap[k]? = some (.cells #[A, B] t' (0, 0))) (h2 : W.heap[m]? = some (.cells #[p, q] t2 (0, 0))) (hb : Below W.heap.size W w1) :
    w1.cell? ⟨g, 0, none⟩ = some a ∧ w1.cell? ⟨g, 1, none⟩ = some b ∧ w1.cell? ⟨k, 0, none⟩ = some A ∧ w1.cell? ⟨k, 1, none⟩ = some B ∧ w1.cell? ⟨m, 0, none⟩ = some p ∧ w1.cell? ⟨m, 1, none⟩ = some q ∧ Below W.heap.size W w1 := by
  have hc := blk_cell (blk_below h hb (blk_lt h))
  have hc' := blk_cell (blk_below h' hb (blk_lt h'))
  have hc2 := blk_cell (blk_below h2 hb (blk_lt h2))
  exact ⟨hc 0, hc 1, hc' 0, hc' 1, hc2 0, hc2 1, hb⟩
theorem held6 {a b A B p q : Prop} {W w1 w2 : World} (h : a ∧ b ∧ A ∧ B ∧ p ∧ q ∧ Below W.heap.size W w1) (hb : Below w1.heap.size w1 w2) : Below W.heap.size W w2 :=
  h.2.2.2.2.2.2.trans (hb.mono h.2.2.2.2.2.2.size)
theorem refSub_any (w : World) (ak an bk bn : Int) : Calls Try.prog 28 #[.agg #[.int .i64 ak, .int .i64 an], .agg #[.int .i64 bk, .int .i64 bn]] w fun e w' => e = .returned (.bool (sub ⟨ak, an⟩ ⟨bk, bn⟩)) ∧ Below w.heap.size w w' := refSub_calls w ⟨ak, an⟩ ⟨bk, bn⟩
theorem join2_any (w : World) (ak an bk bn : Int) : Calls Try.prog 29 #[.agg #[.int .i64 ak, .int .i64 an], .agg #[.int .i64 bk, .int .i64 bn]] w fun e w' => e = .returned (.agg #[.int .i64 (join ⟨ak, an⟩ ⟨bk, bn⟩).kind, .int .i64 (join ⟨ak, an⟩ ⟨bk, bn⟩).n]) ∧ Below w.heap.size w w' := join2_calls w ⟨ak, an⟩ ⟨bk, bn⟩

attribute [local irreducible] sub join good isRef
theorem kindTypes_walk (w : World) (cs0 : List Value) (x0 : Ty) (K0 : k_ty.K (· < w.heap.size) w x0 cs0) (cs1 : List Value) (x1 : Ty) (K1 : k_ty.K (· < w.heap.size) w x1 cs1) (a2 : Int) (w2 : (Lit.int .i64 a2).wf = true) :
    Calls Try.prog 10 #[.agg cs0.toArray, .agg cs1.toArray, .int .i64 a2] w fun e w' => e = .returned (.bool true) ∧ Below w.heap.size w w' := by
  obtain ⟨rfl, _, _⟩ := k_ty_open K0
  obtain ⟨rfl, _, _⟩ := k_ty_open K1
  obtain ⟨ak, an⟩ := x0
  obtain ⟨bk, bn⟩ := x1
  simp only
  clear K0 K1
  go_enter Try.func10, Try.ntmps10
  go_wp2_with fail
  have hX := blk_alloc (blk_new w (Obj.cells #[.int .i64 ak, .int .i64 an] 38)) (Obj.cells #[.int .i64 bk, .int .i64 bn] 38)
  have hY := blk_new2 w (Obj.cells #[.int .i64 ak, .int .i64 an] 38) (Obj.cells #[.int .i64 bk, .int .i64 bn] 38)
  have hB := Lib.hid (((Below.refl w.heap.size w).alloc (Nat.le_refl _) (Obj.cells #[.int .i64 ak, .int .i64 an] 38)).alloc (by simp) (Obj.cells #[.int .i64 bk, .int .i64 bn] 38))
  generalize (w.alloc (Obj.cells #[.int .i64 ak, .int .i64 an] 38)).alloc (Obj.cells #[.int .i64 bk, .int .i64 bn] 38) = W at hX hY hB ⊢
  have HX := Lib.hid hX
  have HY := Lib.hid hY
  clear hX hY
  go_region_held3 (fun w' => w'.cell? ⟨w.heap.size, 0, none⟩ = some (.int .i64 ak) ∧ w'.cell? ⟨w.heap.size, 1, none⟩ = some (.int .i64 an) ∧ w'.cell? ⟨w.heap.size + 1, 0, none⟩ = some (.int .i64 bk) ∧ w'.cell? ⟨w.heap.size + 1, 1, none⟩ = some (.int .i64 bn) ∧ Below W.heap.size W w')
    (first
      | exact box22 HX.out HY.out (Below.refl _ _)
      | exact box22 HX.out HY.out (Below.refl _ _).drew
      | exact box22 HX.out HY.out (by assumption))
    (first
      | (go_at_call 20; refine (kindAnswers_calls _).mono ?_; rintro e w' ⟨rfl, hb⟩; have hbW : Below W.heap.size W w' := held4 (by assumption) hb)
      | (go_at_call 26; refine (good_calls _ _ _ _).mono ?_; rintro e w' ⟨rfl, hb⟩; have hbW : Below W.heap.size W w' := held4 (by assumption) hb)
      | (go_at_call 27; refine (refGood_calls _ _ _ _).mono ?_; rintro e w' ⟨rfl, hb⟩; have hbW : Below W.heap.size W w' := held4 (by assumption) hb)
      | (go_at_call 22; refine (sub_any _ _ _ _ _).mono ?_; rintro e w' ⟨rfl, hb⟩; have hbW : Below W.heap.size W w' := held4 (by assumption) hb)
      | (go_at_call 28; refine (refSub_any _ _ _ _ _).mono ?_; rintro e w' ⟨rfl, hb⟩; have hbW : Below W.heap.size W w' := held4 (by assumption) hb)
      | (go_at_call 21; refine (join_any _ _ _ _ _).mono ?_; rintro e w' ⟨rfl, hb⟩; have hbW : Below W.heap.size W w' := held4 (by assumption) hb)
      | (go_at_call 29; refine (join2_any _ _ _ _ _).mono ?_; rintro e w' ⟨rfl, hb⟩; have hbW : Below W.heap.size W w' := held4 (by assumption) hb)
      | (go_at_call 30; refine (ref_calls _ _ _).mono ?_; rintro e w' ⟨rfl, hb⟩; have hbW : Below W.heap.size W w' := held4 (by assumption) hb)
      | (go_at_call 31; refine (refRef_calls _ _ _).mono ?_; rintro e w' ⟨rfl, hb⟩; have hbW : Below W.heap.size W w' := held4 (by assumption) hb))
  go_wp2
  go_ret
  exact ⟨rfl, hB.out.trans (hbW.mono hB.out.size)⟩

theorem kindChain_walk (w : World) (cs0 : List Value) (x0 : Ty) (K0 : k_ty.K (· < w.heap.size) w x0 cs0) (cs1 : List Value) (x1 : Ty) (K1 : k_ty.K (· < w.heap.size) w x1 cs1) (cs2 : List Value) (x2 : Ty) (K2 : k_ty.K (· < w.heap.size) w x2 cs2) :
    Calls Try.prog 6 #[.agg cs0.toArray, .agg cs1.toArray, .agg cs2.toArray] w fun e w' => e = .returned (.bool true) ∧ Below w.heap.size w w' := by
  obtain ⟨rfl, _, _⟩ := k_ty_open K0
  obtain ⟨rfl, _, _⟩ := k_ty_open K1
  obtain ⟨rfl, _, _⟩ := k_ty_open K2
  obtain ⟨ak, an⟩ := x0
  obtain ⟨bk, bn⟩ := x1
  obtain ⟨ck, cn⟩ := x2
  simp only
  clear K0 K1 K2
  have e0 := sub_refl ⟨ak, an⟩
  have E0 := Lib.hid e0
  have hways : ∃ s1 s2 s3, sub ⟨ak, an⟩ ⟨bk, bn⟩ = s1 ∧ sub ⟨bk, bn⟩ ⟨ck, cn⟩ = s2 ∧ sub ⟨ak, an⟩ ⟨ck, cn⟩ = s3 ∧ (s1 = false ∨ s2 = false ∨ s3 = true) := by
    refine ⟨_, _, _, rfl, rfl, rfl, ?_⟩
    cases h1 : sub ⟨ak, an⟩ ⟨bk, bn⟩ with
    | false => exact .inl rfl
    | true =>
      cases h2 : sub ⟨bk, bn⟩ ⟨ck, cn⟩ with
      | false => exact .inr (.inl rfl)
      | true => exact .inr (.inr (sub_trans h1 h2))
  obtain ⟨s1, s2, s3, e1, e2, e3, hs⟩ := hways
  have E1 := Lib.hid e1
  have E2 := Lib.hid e2
  have E3 := Lib.hid e3
  clear e0 e1 e2 e3
  have hs2 : (s1 = false) ∨ (s1 = true ∧ s2 = false) ∨ (s1 = true ∧ s2 = true ∧ s3 = true) := by
    revert hs; cases s1 <;> cases s2 <;> cases s3 <;> simp
  clear hs
  rcases hs2 with rfl | ⟨rfl, rfl⟩ | ⟨rfl, rfl, rfl⟩
  all_goals
    go_enter Try.func6, Try.ntmps6
    go_wp2_with (first
      | (go_at_call 20; refine (kindAnswers_calls _).mono ?_; rintro e w1 ⟨rfl, hb⟩
         have hB := Lib.hid (((((Below.refl w.heap.size w).alloc (Nat.le_refl _) _).alloc (by simp) _).alloc (by simp <;> omega) _).trans (hb.mono (by simp <;> omega)))
         have X0 := Lib.hid (blk_below (blk_alloc (blk_alloc (blk_new w _) _) _) hb (by simp <;> omega))
         have X1 := Lib.hid (blk_below (blk_alloc (blk_new2 w _ _) _) hb (by simp <;> omega))
         have X2 := Lib.hid (blk_below (blk_new3 w _ _ _) hb (by simp <;> omega))
         have c0 := blk_cell X0.out
         have c1 := blk_cell X1.out
         have c2 := blk_cell X2.out
         have HBx := hB
         clear hb)
      | (go_at_call 22; refine (sub_any _ _ _ _ _).mono ?_; rintro e w2 ⟨he, hb⟩
         first | obtain rfl := he.trans (ret_bool E0.out) | obtain rfl := he.trans (ret_bool E1.out) | obtain rfl := he.trans (ret_bool E2.out) | obtain rfl := he.trans (ret_bool E3.out)
         have hB2 := Lib.hid (hB.out.trans (hb.mono hB.out.size))
         have Y0 := Lib.hid (blk_below X0.out hb (blk_lt X0.out))
         have Y1 := Lib.hid (blk_below X1.out hb (blk_lt X1.out))
         have Y2 := Lib.hid (blk_below X2.out hb (blk_lt X2.out))
         clear hB X0 X1 X2 c0 c1 c2 hb he
         have hB := hB2
         have X0 := Y0
         have X1 := Y1
         have X2 := Y2
         clear hB2 Y0 Y1 Y2
         have c0 := blk_cell X0.out
         have c1 := blk_cell X1.out
         have c2 := blk_cell X2.out))
    go_ret
    exact ⟨rfl, hB.out⟩
end Go.Proofs.Ytmadgnfnljnggaa
