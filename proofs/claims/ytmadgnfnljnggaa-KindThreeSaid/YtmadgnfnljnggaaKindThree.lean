/- The walk of KindThree. -/
import Derived.Test.YtmadgnfnljnggaaKindLaws
import Derived.Deep.DeepCutAuto
namespace Go.Proofs.Ytmadgnfnljnggaa
open Go.RowKit
set_option linter.unusedVariables false
def lits : List Ty := [⟨1, 0⟩, ⟨2, 0⟩, ⟨3, 0⟩, ⟨4, 0⟩, ⟨4, 1⟩, ⟨5, 0⟩, ⟨5, 1⟩, ⟨6, 0⟩, ⟨7, 0⟩, ⟨8, 0⟩]
theorem lits_assoc : ∀ i j k : Fin 10, join lits[i] (join lits[j] lits[k]) = join (join lits[i] lits[j]) lits[k] ∧ join lits[i] lits[j] = join lits[j] lits[i] := by decide +kernel
theorem lits_row {W : World} {b : Nat} {t : TypeId} {fr : Nat × Nat} (h : W.heap[b]? = some (.cells #[.int .i64 1, .int .i64 0, .int .i64 2, .int .i64 0, .int .i64 3, .int .i64 0, .int .i64 4, .int .i64 0, .int .i64 4, .int .i64 1, .int .i64 5, .int .i64 0, .int .i64 5, .int .i64 1, .int .i64 6, .int .i64 0, .int .i64 7, .int .i64 0, .int .i64 8, .int .i64 0] t fr)) : k_ty.Row (· = b) W (some ⟨b, 0, none⟩) lits :=
  Rd.Row.of_blk h rfl (Rd.Flat.cons (k_ty_mk ⟨1, 0⟩ rfl rfl) (Rd.Flat.cons (k_ty_mk ⟨2, 0⟩ rfl rfl) (Rd.Flat.cons (k_ty_mk ⟨3, 0⟩ rfl rfl) (Rd.Flat.cons (k_ty_mk ⟨4, 0⟩ rfl rfl) (Rd.Flat.cons (k_ty_mk ⟨4, 1⟩ rfl rfl) (Rd.Flat.cons (k_ty_mk ⟨5, 0⟩ rfl rfl) (Rd.Flat.cons (k_ty_mk ⟨5, 1⟩ rfl rfl) (Rd.Flat.cons (k_ty_mk ⟨6, 0⟩ rfl rfl) (Rd.Flat.cons (k_ty_mk ⟨7, 0⟩ rfl rfl) (Rd.Flat.cons (k_ty_mk ⟨8, 0⟩ rfl rfl) (Rd.Flat.nil _ _ _))))))))))) (fun j v hj => by simpa using hj)
theorem six {W w1 : World} {g i0 i1 i2 i3 i4 i5 : Nat} {a b A B p q : Value} (h0 : W.cell? ⟨g, i0, none⟩ = some a) (h1 : W.cell? ⟨g, i1, none⟩ = some b) (h2 : W.cell? ⟨g, i2, none⟩ = some A) (h3 : W.cell? ⟨g, i3, none⟩ = some B) (h4 : W.cell? ⟨g, i4, none⟩ = some p) (h5 : W.cell? ⟨g, i5, none⟩ = some q) (hg : g < W.heap.size) (hb : Below W.heap.size W w1) :
    w1.cell? ⟨g, i0, none⟩ = some a ∧ w1.cell? ⟨g, i1, none⟩ = some b ∧ w1.cell? ⟨g, i2, none⟩ = some A ∧ w1.cell? ⟨g, i3, none⟩ = some B ∧ w1.cell? ⟨g, i4, none⟩ = some p ∧ w1.cell? ⟨g, i5, none⟩ = some q :=
  ⟨(hb.cell hg).trans h0, (hb.cell hg).trans h1, (hb.cell hg).trans h2, (hb.cell hg).trans h3, (hb.cell hg).trans h4, (hb.cell hg).trans h5⟩
attribute [local irreducible] sub join good isRef
theorem agg2 {a : Ty} {p q : Int} (h : a = ⟨p, q⟩) : Ending.returned (.agg #[.int .i64 a.kind, .int .i64 a.n]) = .returned (.agg #[.int .i64 p, .int .i64 q]) := by rw [h]
set_option maxHeartbeats 8000000 in
theorem kindThree_walk (w : World) (a0 : Int) (w0 : (Lit.int .u8 a0).wf = true) (a1 : Int) (w1 : (Lit.int .u8 a1).wf = true) (a2 : Int) (w2 : (Lit.int .u8 a2).wf = true) :
    Calls Try.prog 7 #[.int .u8 a0, .int .u8 a1, .int .u8 a2] w fun e w' => e = .returned (.bool true) ∧ Below w.heap.size w w' := by
  have b0 := bounds_u8 w0
  have b1 := bounds_u8 w1
  have b2 := bounds_u8 w2
  have i0 : a0 % 10 < 10 := by omega
  have i1 : a1 % 10 < 10 := by omega
  have i2 : a2 % 10 < 10 := by omega
  have j0 : 0 ≤ a0 % 10 := by omega
  have j1 : 0 ≤ a1 % 10 := by omega
  have j2 : 0 ≤ a2 % 10 := by omega
  have hx : lits[(a0 % 10).toNat]? = some lits[(⟨(a0 % 10).toNat, by omega⟩ : Fin 10)] := List.getElem?_eq_getElem (show (a0 % 10).toNat < lits.length by show _ < 10; omega)
  have hy : lits[(a1 % 10).toNat]? = some lits[(⟨(a1 % 10).toNat, by omega⟩ : Fin 10)] := List.getElem?_eq_getElem (show (a1 % 10).toNat < lits.length by show _ < 10; omega)
  have hz : lits[(a2 % 10).toNat]? = some lits[(⟨(a2 % 10).toNat, by omega⟩ : Fin 10)] := List.getElem?_eq_getElem (show (a2 % 10).toNat < lits.length by show _ < 10; omega)
  obtain ⟨hass, hcomm⟩ := lits_assoc ⟨(a0 % 10).toNat, by omega⟩ ⟨(a1 % 10).toNat, by omega⟩ ⟨(a2 % 10).toNat, by omega⟩
  generalize lits[(⟨(a0 % 10).toNat, by omega⟩ : Fin 10)] = x at hx hass hcomm
  generalize lits[(⟨(a1 % 10).toNat, by omega⟩ : Fin 10)] = y at hy hass hcomm
  generalize lits[(⟨(a2 % 10).toNat, by omega⟩ : Fin 10)] = z at hz hass
  have HX := Lib.hid hx
  have HY := Lib.hid hy
  have HZ := Lib.hid hz
  obtain ⟨xk, xn⟩ := x
  obtain ⟨yk, yn⟩ := y
  obtain ⟨zk, zn⟩ := z
  have h1 : ∃ p q, join ⟨yk, yn⟩ ⟨zk, zn⟩ = ⟨p, q⟩ := ⟨_, _, rfl⟩
  obtain ⟨p, q, e1⟩ := h1
  have h2 : ∃ r s, join ⟨xk, xn⟩ ⟨p, q⟩ = ⟨r, s⟩ := ⟨_, _, rfl⟩
  obtain ⟨r, s, e2⟩ := h2
  have h3 : ∃ t u, join ⟨xk, xn⟩ ⟨yk, yn⟩ = ⟨t, u⟩ := ⟨_, _, rfl⟩
  obtain ⟨t, u, e3⟩ := h3
  rw [e1, e2, e3] at hass
  rw [e3] at hcomm
  have E1 := Lib.hid e1
  have E2 := Lib.hid e2
  have E3 := Lib.hid e3
  have E4 := Lib.hid hass
  have E5 := Lib.hid hcomm
  clear hx hy hz e1 e2 e3 hass hcomm w0 w1 w2
  go_enter Try.func7, Try.ntmps7
  go_upto_region 2 with fail
  have hL := lits_row (blk_new w (Obj.cells #[.int .i64 1, .int .i64 0, .int .i64 2, .int .i64 0, .int .i64 3, .int .i64 0, .int .i64 4, .int .i64 0, .int .i64 4, .int .i64 1, .int .i64 5, .int .i64 0, .int .i64 5, .int .i64 1, .int .i64 6, .int .i64 0, .int .i64 7, .int .i64 0, .int .i64 8, .int .i64 0] 38))
  have hB := Lib.hid ((Below.refl w.heap.size w).alloc (Nat.le_refl _) (Obj.cells #[.int .i64 1, .int .i64 0, .int .i64 2, .int .i64 0, .int .i64 3, .int .i64 0, .int .i64 4, .int .i64 0, .int .i64 4, .int .i64 1, .int .i64 5, .int .i64 0, .int .i64 5, .int .i64 1, .int .i64 6, .int .i64 0, .int .i64 7, .int .i64 0, .int .i64 8, .int .i64 0] 38))
  generalize w.alloc (Obj.cells #[.int .i64 1, .int .i64 0, .int .i64 2, .int .i64 0, .int .i64 3, .int .i64 0, .int .i64 4, .int .i64 0, .int .i64 4, .int .i64 1, .int .i64 5, .int .i64 0, .int .i64 5, .int .i64 1, .int .i64 6, .int .i64 0, .int .i64 7, .int .i64 0, .int .i64 8, .int .i64 0] 38) = W at hL hB ⊢
  obtain ⟨_, _, e, _, q0, q1, _, _⟩ := k_ty_at hL HX.out
  cases e
  obtain ⟨_, _, e, _, q2, q3, _, _⟩ := k_ty_at hL HY.out
  cases e
  obtain ⟨_, _, e, _, q4, q5, _, _⟩ := k_ty_at hL HZ.out
  cases e
  simp only [Nat.zero_add] at q0 q1 q2 q3 q4 q5
  clear hL HX HY HZ
  have hlt : w.heap.size < W.heap.size := World.block_lt_of_cell? W _ q0
  have hne : W.heap.size ≠ w.heap.size := by omega
  have hne1 : W.heap.size + 1 ≠ w.heap.size := by omega
  have hne2 : W.heap.size + 1 + 1 ≠ w.heap.size := by omega
  have t0 : a0.tmod 10 = a0 % 10 := Int.tmod_eq_emod_of_nonneg (by omega)
  have u0 : IntKind.u8.wrap (a0 % 10) = a0 % 10 := by rw [IntKind.wrap_u8']; omega
  have t1 : a1.tmod 10 = a1 % 10 := Int.tmod_eq_emod_of_nonneg (by omega)
  have u1 : IntKind.u8.wrap (a1 % 10) = a1 % 10 := by rw [IntKind.wrap_u8']; omega
  have t2 : a2.tmod 10 = a2 % 10 := Int.tmod_eq_emod_of_nonneg (by omega)
  have u2 : IntKind.u8.wrap (a2 % 10) = a2 % 10 := by rw [IntKind.wrap_u8']; omega
  go_cut [8, 9, 10] (fun s8 s9 s10 w' => ∃ g8 g9 g10 : Nat, s8 = .pointer (some ⟨g8, 0, none⟩) ∧ s9 = .pointer (some ⟨g9, 0, none⟩) ∧ s10 = .pointer (some ⟨g10, 0, none⟩) ∧ Hid (Below W.heap.size W w') ∧ Hid (w'.heap[g8]? = some (.cells #[.int .i64 xk, .int .i64 xn] 38 (0, 0))) ∧ Hid (w'.heap[g9]? = some (.cells #[.int .i64 yk, .int .i64 yn] 38 (0, 0))) ∧ Hid (w'.heap[g10]? = some (.cells #[.int .i64 zk, .int .i64 zn] 38 (0, 0))))
  case first =>
    go_region_held3 (fun w' => w'.cell? ⟨w.heap.size, (a0 % 10).toNat * 2, none⟩ = some (.int .i64 xk) ∧ w'.cell? ⟨w.heap.size, (a0 % 10).toNat * 2 + 1, none⟩ = some (.int .i64 xn) ∧ w'.cell? ⟨w.heap.size, (a1 % 10).toNat * 2, none⟩ = some (.int .i64 yk) ∧ w'.cell? ⟨w.heap.size, (a1 % 10).toNat * 2 + 1, none⟩ = some (.int .i64 yn) ∧ w'.cell? ⟨w.heap.size, (a2 % 10).toNat * 2, none⟩ = some (.int .i64 zk) ∧ w'.cell? ⟨w.heap.size, (a2 % 10).toNat * 2 + 1, none⟩ = some (.int .i64 zn)) ((refine six q0 q1 q2 q3 q4 q5 hlt ?_; repeat (first | exact Below.refl _ _ | refine Below.drew ?_ | refine Below.alloc ?_ (by simp <;> omega) _ | refine Below.setCell ?_ (by simp <;> omega) _))) (fail)
    all_goals
      go_wp2_with fail
      go_meet
      refine ⟨_, _, _, rfl, rfl, rfl, ?_, ?_, ?_, ?_⟩
      · show Below _ _ _
        repeat (first | exact Below.refl _ _ | refine Below.drew ?_ | refine Below.alloc ?_ (by simp <;> omega) _ | refine Below.setCell ?_ (by simp <;> omega) _)
      all_goals show _ = some _
      all_goals first
        | exact blk_drew (blk_alloc (blk_alloc (blk_new _ _) _) _)
        | exact blk_drew (blk_alloc (blk_new2 _ _ _) _)
        | exact blk_drew (blk_new3 _ _ _ _)
  case rest =>
    obtain ⟨g8, g9, g10, rfl, rfl, rfl, hBW, H8, H9, H10⟩ := hcut
    have hB2 := Lib.hid (hB.out.trans (hBW.out.mono hB.out.size))
    clear hB hBW q0 q1 q2 q3 q4 q5 t0 t1 t2 u0 u1 u2 i0 i1 i2 j0 j1 j2 b0 b1 b2 hlt hne hne1 hne2
    go_wp2_with fail
    go_region_held3 (fun w' => w'.cell? ⟨g8, 0, none⟩ = some (.int .i64 xk) ∧ w'.cell? ⟨g8, 1, none⟩ = some (.int .i64 xn) ∧ w'.cell? ⟨g9, 0, none⟩ = some (.int .i64 yk) ∧ w'.cell? ⟨g9, 1, none⟩ = some (.int .i64 yn) ∧ w'.cell? ⟨g10, 0, none⟩ = some (.int .i64 zk) ∧ w'.cell? ⟨g10, 1, none⟩ = some (.int .i64 zn) ∧ Below wc.heap.size wc w')
      (first
        | exact box222 H8.out H9.out H10.out (Below.refl _ _)
        | exact box222 H8.out H9.out H10.out (Below.refl _ _).drew
        | exact box222 H8.out H9.out H10.out (by assumption))
      (first
        | (go_at_call 20; refine (kindAnswers_calls _).mono ?_; rintro e w' ⟨rfl, hb⟩; have hbW : Below wc.heap.size wc w' := held6 (by assumption) hb)
        | (go_at_call 21; refine (join_any _ _ _ _ _).mono ?_; rintro e w' ⟨he, hb⟩
           first | obtain rfl := he.trans (agg2 E1.out) | obtain rfl := he.trans (agg2 E2.out) | obtain rfl := he.trans (agg2 E3.out) | obtain rfl := he.trans (agg2 E4.out.symm) | obtain rfl := he.trans (agg2 E5.out.symm)
           have hbW : Below wc.heap.size wc w' := held6 (by assumption) hb
           clear he))
    go_wp2
    go_ret
    exact ⟨rfl, hB2.out.trans (hbW.mono hB2.out.size)⟩
end Go.Proofs.Ytmadgnfnljnggaa
