/- kind.Get behind a type's bytes. -/
import Derived.Test.YtmadgnfnljnggaaKindLaws
import Derived.Test.YtmadgnfnljnggaaNumPure
import Derived.Test.YtmadgnfnljnggaaRdVar
import Derived.Laws.ResultCell
namespace Go.Proofs.Ytmadgnfnljnggaa
open Go.RowKit
set_option linter.unusedVariables false
theorem good_range {k n r : Int} (hr : r ≤ 255) (h : good ⟨k, n⟩ r = true) : 0 ≤ k ∧ k ≤ 8 ∧ 0 ≤ n ∧ n ≤ 255 := by
  unfold good at h
  simp only at h
  split at h
  · simp at h; omega
  · split at h
    · simp at h; omega
    · split at h
      · simp at h; omega
      · simp at h
theorem keeps2 {p R : Nat} {w w3 : World} (hk : Keeps (· = p) w w3) (hR : w.heap.size ≤ R) (x y : Value) : Keeps (· = p) w ((w3.setCell ⟨R, 0, none⟩ x).setCell ⟨R, 1, none⟩ y) :=
  (hk.setCell (p := ⟨R, 0, none⟩) (fun h => by have : R < w.heap.size := h; omega) _).setCell (p := ⟨R, 1, none⟩) (fun h => by have : R < w.heap.size := h; omega) _
theorem set2_keeps (R : Nat) (w : World) (x y : Value) : Keeps (· = R) w ((w.setCell ⟨R, 0, none⟩ x).setCell ⟨R, 1, none⟩ y) :=
  Keeps.setCell (F := (· = R)) (Keeps.setCell (F := (· = R)) (Keeps.refl _ _) (p := ⟨R, 0, none⟩) (fun _ => rfl) x) (p := ⟨R, 1, none⟩) (fun _ => rfl) y
def GetNo (w : World) (p : Nat) (e : Ending) (w' : World) : Prop := e = .returned (.tuple #[.agg #[.int .i64 0, .int .i64 0], .bool false]) ∧ Keeps (· = p) w w'
def GetYes (w : World) (p : Nat) (S : Nat → Prop) (a b : Nat) (r : List Int) (e : Ending) (w' : World) : Prop := e = .returned (.tuple #[.agg #[.int .i64 a, .int .i64 b], .bool true]) ∧ Rdr w' p S r false ∧ Keeps (· = p) w w'
theorem getNo_of {p R : Nat} {w w3 : World} {x y : Value} (hk : Keeps (· = p) w w3) (hR : w.heap.size ≤ R) : GetNo w p (.returned (.tuple #[.agg #[.int .i64 0, .int .i64 0], .bool false])) ((w3.setCell ⟨R, 0, none⟩ x).setCell ⟨R, 1, none⟩ y) := ⟨rfl, keeps2 hk hR _ _⟩
theorem getYes_of {p R a b : Nat} {S : Nat → Prop} {w w3 : World} {r : List Int} {x y : Value} (hk : Keeps (· = p) w w3) (hr : Rdr w3 p S r false) (hR : w.heap.size ≤ R) (hp : p < w.heap.size) (hS : ∀ b, S b → b < w.heap.size) : GetYes w p S a b r (.returned (.tuple #[.agg #[.int .i64 a, .int .i64 b], .bool true])) ((w3.setCell ⟨R, 0, none⟩ x).setCell ⟨R, 1, none⟩ y) :=
  ⟨rfl, hr.keeps (set2_keeps R w3 x y) (by omega) (fun b hb e => by have := hS b hb; omega), keeps2 hk hR _ _⟩
theorem two_var {a b : Nat} (ha : a < 18446744073709551616) (hb : b < 18446744073709551616) (w : World) (p : Nat) (S : Nat → Prop) (more : List Int) : (Rdr w p S (varB a ++ (varB b ++ more)) false → Calls Try.prog 49 #[.pointer (some ⟨p, 0, none⟩)] w fun e w' => e = .returned (.int .u64 a) ∧ Rdr w' p S (varB b ++ more) false ∧ Keeps (· = p) w w') := by
  intro h
  have hh := rdVar_calls w p S _ h
  rw [readV_back a _ ha] at hh
  exact hh
theorem one_var {b : Nat} (hb : b < 18446744073709551616) (w : World) (p : Nat) (S : Nat → Prop) (more : List Int) : (Rdr w p S (varB b ++ more) false → Calls Try.prog 49 #[.pointer (some ⟨p, 0, none⟩)] w fun e w' => e = .returned (.int .u64 b) ∧ Rdr w' p S more false ∧ Keeps (· = p) w w') := by
  intro h
  have hh := rdVar_calls w p S _ h
  rw [readV_back b _ hb] at hh
  exact hh
attribute [local irreducible] good
set_option maxRecDepth 100000 in
set_option maxHeartbeats 2000000 in
theorem kget_no (w : World) (p : Nat) (S : Nat → Prop) (a b : Nat) (recs : Int) (more : List Int) (ha : a < 18446744073709551616) (hb : b < 18446744073709551616) (h : Rdr w p S (varB a ++ (varB b ++ more)) false) (hno : 8 < a ∨ (a ≤ 8 ∧ 255 < b) ∨ (a ≤ 8 ∧ b ≤ 255 ∧ good ⟨a, b⟩ recs = false)) : Calls Try.prog 41 #[.pointer (some ⟨p, 0, none⟩), .int .i64 recs] w (GetNo w p) := by
  have HR1 := Lib.hid (h.below ((Below.refl _ w).alloc (Nat.le_refl _) (.cells #[.int .i64 0, .int .i64 0] 38)))
  have HX := Lib.hid (blk_new w (.cells #[.int .i64 0, .int .i64 0] 38))
  have hp := blk_lt (h.box.choose_spec.choose_spec.1)
  have HK0 := Lib.hid ((Keeps.refl (· = p) w).alloc (.cells #[.int .i64 0, .int .i64 0] 38))
  clear h
  have HTok := HX
  have hno2 : (decide ((8 : Int) < (a : Int)) = true) ∨ (decide ((8 : Int) < (a : Int)) = false ∧ decide ((255 : Int) < (b : Int)) = true) ∨ (decide ((8 : Int) < (a : Int)) = false ∧ decide ((255 : Int) < (b : Int)) = false ∧ a ≤ 8 ∧ b ≤ 255 ∧ Hid (good ⟨a, b⟩ recs = false)) := by
    rcases hno with h | ⟨h, h2⟩ | ⟨h, h2, h3⟩
    · exact .inl (decide_eq_true (by omega))
    · exact .inr (.inl ⟨decide_eq_false (by omega), decide_eq_true (by omega)⟩)
    · exact .inr (.inr ⟨decide_eq_false (by omega), decide_eq_false (by omega), h, h2, Lib.hid h3⟩)
  clear hno
  rcases hno2 with h8 | ⟨h8, h25⟩ | ⟨h8, h25, h9, h26, HG⟩
  · go_enter Try.func41, Try.ntmps41
    go_wp2_with (first
      | (go_at_call 49; have tok := HTok; refine (two_var ha hb _ _ _ _ HR1.out).mono ?_; rintro e w2 ⟨rfl, hR, hK⟩; have HR2 := Lib.hid hR; have HK2 := Lib.hid (HK0.out.trans hK); have HX2 := Lib.hid (blk_keeps HX.out hK (by omega)); clear hR hK tok; clear HTok)
      | (go_at_call 49; refine (one_var hb _ _ _ _ HR2.out).mono ?_; rintro e w3 ⟨rfl, hR, hK⟩; have HR3 := Lib.hid hR; have HK3 := Lib.hid (HK2.out.trans hK); have HX3 := Lib.hid (blk_keeps HX2.out hK (by omega)); have f0 := blk_frozen HX3.out 0; have f1 := blk_frozen HX3.out 1; have c0 := blk_cell HX3.out 0; have c1 := blk_cell HX3.out 1; clear hR hK)
      | (go_at_call 50; refine (bad_calls _ _ _ _ _ HR3.out).mono ?_; rintro e w4 ⟨rfl, rfl⟩))
    have hcell := blk_cell (blk_set (blk_set HX3.out 0 (.int .i64 0)) 1 (.int .i64 0))
    exact bodyPost_ret (v := .tuple #[.agg #[.int .i64 0, .int .i64 0], .bool false]) (by simp [results, Try.results41, go_sem, hcell]) rfl (getNo_of HK3.out (by omega))
  · go_enter Try.func41, Try.ntmps41
    go_wp2_with (first
      | (go_at_call 49; have tok := HTok; refine (two_var ha hb _ _ _ _ HR1.out).mono ?_; rintro e w2 ⟨rfl, hR, hK⟩; have HR2 := Lib.hid hR; have HK2 := Lib.hid (HK0.out.trans hK); have HX2 := Lib.hid (blk_keeps HX.out hK (by omega)); clear hR hK tok; clear HTok)
      | (go_at_call 49; refine (one_var hb _ _ _ _ HR2.out).mono ?_; rintro e w3 ⟨rfl, hR, hK⟩; have HR3 := Lib.hid hR; have HK3 := Lib.hid (HK2.out.trans hK); have HX3 := Lib.hid (blk_keeps HX2.out hK (by omega)); have f0 := blk_frozen HX3.out 0; have f1 := blk_frozen HX3.out 1; have c0 := blk_cell HX3.out 0; have c1 := blk_cell HX3.out 1; clear hR hK)
      | (go_at_call 50; refine (bad_calls _ _ _ _ _ HR3.out).mono ?_; rintro e w4 ⟨rfl, rfl⟩))
    have hcell := blk_cell (blk_set (blk_set HX3.out 0 (.int .i64 0)) 1 (.int .i64 0))
    exact bodyPost_ret (v := .tuple #[.agg #[.int .i64 0, .int .i64 0], .bool false]) (by simp [results, Try.results41, go_sem, hcell]) rfl (getNo_of HK3.out (by omega))
  · go_enter Try.func41, Try.ntmps41
    go_wp2_with (first
      | (go_at_call 49; have tok := HTok; refine (two_var ha hb _ _ _ _ HR1.out).mono ?_; rintro e w2 ⟨rfl, hR, hK⟩; have HR2 := Lib.hid hR; have HK2 := Lib.hid (HK0.out.trans hK); have HX2 := Lib.hid (blk_keeps HX.out hK (by omega)); clear hR hK tok; clear HTok)
      | (go_at_call 49; refine (one_var hb _ _ _ _ HR2.out).mono ?_; rintro e w3 ⟨rfl, hR, hK⟩; have HR3 := Lib.hid hR; have HK3 := Lib.hid ((HK2.out.trans hK).alloc (Obj.cells #[.int .i64 (a : Int), .int .i64 (b : Int)] 38)); have hX3 := blk_keeps HX2.out hK (by omega); have HX3 := Lib.hid (blk_alloc hX3 (Obj.cells #[.int .i64 (a : Int), .int .i64 (b : Int)] 38)); have f0 := blk_frozen hX3 0; have f1 := blk_frozen hX3 1; have c0 := blk_cell hX3 0; have c1 := blk_cell hX3 1; clear hR hK hX3)
      | (go_at_call 50; refine (bad_calls _ _ _ _ _ HR3.out).mono ?_; rintro e w4 ⟨rfl, rfl⟩)
      | (go_at_call 26; refine (good_calls _ _ _ _).mono ?_; rw [HG.out]; rintro e w5 ⟨rfl, hb5⟩; have HX5 := Lib.hid (blk_below HX3.out hb5 (blk_lt HX3.out)); have HK5 := Lib.hid (HK3.out.trans (Keeps.of_below hb5)); have f0 := blk_frozen HX5.out 0; have f1 := blk_frozen HX5.out 1; have c0 := blk_cell HX5.out 0; have c1 := blk_cell HX5.out 1; clear hb5))
    have hcell := blk_cell (blk_set (blk_set HX5.out 0 (.int .i64 0)) 1 (.int .i64 0))
    exact bodyPost_ret (v := .tuple #[.agg #[.int .i64 0, .int .i64 0], .bool false]) (by simp [results, Try.results41, go_sem, hcell]) rfl (getNo_of HK5.out (by omega))
set_option maxRecDepth 100000 in
set_option maxHeartbeats 2000000 in
theorem kget_ok (w : World) (p : Nat) (S : Nat → Prop) (a b : Nat) (recs : Int) (more : List Int) (ha : a < 18446744073709551616) (hb : b < 18446744073709551616) (h : Rdr w p S (varB a ++ (varB b ++ more)) false) (h9 : a ≤ 8) (h26 : b ≤ 255) (hg : good ⟨a, b⟩ recs = true) : Calls Try.prog 41 #[.pointer (some ⟨p, 0, none⟩), .int .i64 recs] w (GetYes w p S a b more) := by
  have HR1 := Lib.hid (h.below ((Below.refl _ w).alloc (Nat.le_refl _) (.cells #[.int .i64 0, .int .i64 0] 38)))
  have HX := Lib.hid (blk_new w (.cells #[.int .i64 0, .int .i64 0] 38))
  have hp := blk_lt (h.box.choose_spec.choose_spec.1)
  have HS := Lib.hid (fun b hb => (h.far b hb).1)
  have HK0 := Lib.hid ((Keeps.refl (· = p) w).alloc (.cells #[.int .i64 0, .int .i64 0] 38))
  have HG := Lib.hid hg
  have h8 : decide ((8 : Int) < (a : Int)) = false := decide_eq_false (by omega)
  have h25 : decide ((255 : Int) < (b : Int)) = false := decide_eq_false (by omega)
  clear h hg
  have HTok := HX
  go_enter Try.func41, Try.ntmps41
  go_wp2_with (first
    | (go_at_call 49; have tok := HTok; refine (two_var ha hb _ _ _ _ HR1.out).mono ?_; rintro e w2 ⟨rfl, hR, hK⟩; have HR2 := Lib.hid hR; have HK2 := Lib.hid (HK0.out.trans hK); have HX2 := Lib.hid (blk_keeps HX.out hK (by omega)); clear hR hK tok; clear HTok)
    | (go_at_call 49; refine (one_var hb _ _ _ _ HR2.out).mono ?_; rintro e w3 ⟨rfl, hR, hK⟩; have HR3 := Lib.hid hR; have HR4 := Lib.hid (hR.below ((Below.refl w3.heap.size w3).alloc (Nat.le_refl _) (Obj.cells #[.int .i64 (a : Int), .int .i64 (b : Int)] 38))); have HK3 := Lib.hid ((HK2.out.trans hK).alloc (Obj.cells #[.int .i64 (a : Int), .int .i64 (b : Int)] 38)); have hX3 := blk_keeps HX2.out hK (by omega); have HX3 := Lib.hid (blk_alloc hX3 (Obj.cells #[.int .i64 (a : Int), .int .i64 (b : Int)] 38)); have HY3 := Lib.hid (blk_new w3 (Obj.cells #[.int .i64 (a : Int), .int .i64 (b : Int)] 38)); clear hR hK hX3)
    | (go_at_call 50; refine (bad_calls _ _ _ _ _ HR3.out).mono ?_; rintro e w4 ⟨rfl, rfl⟩)
    | (go_at_call 26; refine (good_calls _ _ _ _).mono ?_; rw [HG.out]; rintro e w5 ⟨rfl, hb5⟩; have HX5 := Lib.hid (blk_below HX3.out hb5 (blk_lt HX3.out)); have HY5 := Lib.hid (blk_below HY3.out hb5 (blk_lt HY3.out)); have HK5 := Lib.hid (HK3.out.trans (Keeps.of_below hb5)); have HR5 := Lib.hid (HR4.out.below hb5); have f0 := blk_frozen HX5.out 0; have f1 := blk_frozen HX5.out 1; have c0 := blk_cell HX5.out 0; have c1 := blk_cell HX5.out 1; have d0 := blk_cell HY5.out 0; have d1 := blk_cell HY5.out 1; clear hb5))
  have hcell := blk_cell (blk_set (blk_set HX5.out 0 (.int .i64 (a : Int))) 1 (.int .i64 (b : Int)))
  exact bodyPost_ret (v := .tuple #[.agg #[.int .i64 (a : Int), .int .i64 (b : Int)], .bool true]) (by simp [results, Try.results41, go_sem, hcell]) rfl (getYes_of HK5.out HR5.out (by omega) hp HS.out)
end Go.Proofs.Ytmadgnfnljnggaa
