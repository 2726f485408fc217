/- heap.copied, heap.Copy. -/
import Derived.Test.YtmcjjikhdjoopaaMem
import Derived.Deep.RegionWith
namespace Go.Proofs.Ytmcjjikhdjoopaa
open Go.RowKit
set_option linter.unusedVariables false
theorem Mem.fresh {w : World} {e : TypeId} {v : Value} {n : Nat} {xs : List Value} {B : Nat} (h : Mem w e v n xs) (hB : ∀ g, v.ownBlock = some g → B ≤ g) (b x : Nat) (u : Value) (hb : b < B) : Mem (w.setCell ⟨b, x, none⟩ u) e v n xs :=
  h.keep (fun g hg => Below.heap_setCell w _ u g (fun e => by have := hB g hg; simp at e; omega))
theorem set4 {w : World} {N : Nat} {t : TypeId} {a0 a1 a2 a3 : Value} (h : w.heap[N + 1]? = some (.cells #[a0, a1, a2, a3] t (0, 0))) (u v x0 x1 x2 x3 : Value) :
    ((((((w.setCell ⟨N, 2, none⟩ u).setCell ⟨N, 3, none⟩ v).setCell ⟨N + 1, 0, none⟩ x0).setCell ⟨N + 1, 1, none⟩ x1).setCell ⟨N + 1, 2, none⟩ x2).setCell ⟨N + 1, 3, none⟩ x3).heap[N + 1]? = some (.cells #[x0, x1, x2, x3] t (0, 0)) :=
  blk_set (blk_set (blk_set (blk_set (blk_far (blk_far h (p := ⟨N, 2, none⟩) (Nat.succ_ne_self N) u) (p := ⟨N, 3, none⟩) (Nat.succ_ne_self N) v) 0 x0) 1 x1) 2 x2) 3 x3
theorem mem6 {w : World} {N n : Nat} {e : TypeId} {y : Value} {xs : List Value} (h : Mem w e y n xs) (hB : ∀ g, y.ownBlock = some g → N + 2 ≤ g) (u v x0 x1 x2 x3 : Value) :
    Mem ((((((w.setCell ⟨N, 2, none⟩ u).setCell ⟨N, 3, none⟩ v).setCell ⟨N + 1, 0, none⟩ x0).setCell ⟨N + 1, 1, none⟩ x1).setCell ⟨N + 1, 2, none⟩ x2).setCell ⟨N + 1, 3, none⟩ x3) e y n xs :=
  (((((h.fresh hB N 2 u (by omega)).fresh hB N 3 v (by omega)).fresh hB (N + 1) 0 x0 (by omega)).fresh hB (N + 1) 1 x1 (by omega)).fresh hB (N + 1) 2 x2 (by omega)).fresh hB (N + 1) 3 x3 (by omega)
theorem below6 {w0 w : World} {N : Nat} (h : Below N w0 w) (u v x0 x1 x2 x3 : Value) :
    Below N w0 ((((((w.setCell ⟨N, 2, none⟩ u).setCell ⟨N, 3, none⟩ v).setCell ⟨N + 1, 0, none⟩ x0).setCell ⟨N + 1, 1, none⟩ x1).setCell ⟨N + 1, 2, none⟩ x2).setCell ⟨N + 1, 3, none⟩ x3) :=
  (((((h.setCell (Nat.le_refl _) u).setCell (Nat.le_refl _) v).setCell (Nat.le_succ _) x0).setCell (Nat.le_succ _) x1).setCell (Nat.le_succ _) x2).setCell (Nat.le_succ _) x3
set_option maxRecDepth 100000 in
set_option maxHeartbeats 2000000 in
theorem copied_calls (w : World) (k n : Int) (A B : Option Addr) (a b c d : Nat) (ws bs : List Int) (hws : ws.length = a) (hbs : bs.length = b) (ha : a ≤ 1000000) (hb : b ≤ 1000000) (hlw : Lie w A a (wcells ws)) (hlb : Lie w B b (bcells bs)) :
    Calls Try.prog 36 #[.agg #[.int .i64 k, .int .i64 n, .slice A a c, .slice B b d]] w fun e w' => ∃ vw vb, e = .returned (.agg #[.int .i64 k, .int .i64 n, vw, vb]) ∧ Mem w' 25 vw a (wcells ws) ∧ Mem w' 5 vb b (bcells bs) ∧ (∀ g, vw.ownBlock = some g → w.heap.size ≤ g) ∧ (∀ g, vb.ownBlock = some g → w.heap.size ≤ g) ∧ Below w.heap.size w w' := by
  have HL := Lib.hid hlw
  have HL8 := Lib.hid hlb
  clear hlw hlb
  have HX0 := Lib.hid (blk_alloc (blk_new w (Obj.cells #[.int .i64 k, .int .i64 n, .slice A a c, .slice B b d] 31)) (Obj.cells #[.int .i64 0, .int .i64 0, .slice none 0 0, .slice none 0 0] 31))
  have HX1 := Lib.hid (blk_new2 w (Obj.cells #[.int .i64 k, .int .i64 n, .slice A a c, .slice B b d] 31) (Obj.cells #[.int .i64 0, .int .i64 0, .slice none 0 0, .slice none 0 0] 31))
  have HB0 := Lib.hid (((Below.refl w.heap.size w).alloc (Nat.le_refl _) (Obj.cells #[.int .i64 k, .int .i64 n, .slice A a c, .slice B b d] 31)).alloc (by simp) (Obj.cells #[.int .i64 0, .int .i64 0, .slice none 0 0, .slice none 0 0] 31))
  go_enter Try.func36, Try.ntmps36
  go_wp2_with fail
  have HL1 := Lib.hid (HL.out.below (HB0.out.mono (Nat.le_refl _)))
  have HL81 := Lib.hid (HL8.out.below (HB0.out.mono (Nat.le_refl _)))
  generalize hW0 : ((w.alloc (Obj.cells #[.int .i64 k, .int .i64 n, .slice A a c, .slice B b d] 31)).alloc (Obj.cells #[.int .i64 0, .int .i64 0, .slice none 0 0, .slice none 0 0] 31)) = W0 at *
  have hs0 : W0.heap.size = w.heap.size + 2 := by rw [← hW0]; simp
  have c0 := blk_cell HX0.out
  have f0 := blk_frozen HX0.out
  clear hW0 HL HL8
  go_region_with (first
    | (go_at_call 52; refine (clone64_calls _ _ _ _ ws hws ha (by exact HL1.out)).mono ?_; rintro e w2 ⟨vw, rfl, hm, hg, hb2⟩; have HM2 := Lib.hid hm; have HG2 := Lib.hid hg; have HB2 : Hid (Below W0.heap.size W0 w2) := Lib.hid ⟨hb2.os, hb2.tape, hb2.output, hb2.size, hb2.block⟩; have c2 := blk_cell (blk_below HX0.out HB2.out (by omega)); clear hm hg hb2)
    | (go_at_call 51; refine (clipM64_calls _ _ _ _ HM2.out ha).mono ?_; rintro e w3 ⟨A', rfl, hm, hv, rfl⟩; have HM3 := Lib.hid hm; have HG3 : Hid (∀ g, (Value.slice A' a a).ownBlock = some g → W0.heap.size ≤ g) := Lib.hid (by rw [hv]; exact HG2.out); clear hm hv)
    | (go_at_call 54; refine (clone8_calls _ _ _ _ bs hbs hb (by exact HL81.out.below HB2.out)).mono ?_; rintro e w4 ⟨vb, rfl, hm, hg, hb2⟩; have hs4 := HB2.out.size; have HM4 := Lib.hid hm; have HG4 := Lib.hid hg; have HM34 := Lib.hid (HM3.out.below hb2); have HB4 := Lib.hid (HB2.out.trans (hb2.mono HB2.out.size)); have X0 := blk_below HX0.out HB4.out (by omega); have X1 := blk_below HX1.out HB4.out (by omega); have HX04 := Lib.hid X0; have HX14 := Lib.hid X1; clear hm hg hb2)
    | (go_at_call 53; refine (clipM8_calls _ _ _ _ HM4.out hb).mono ?_; rintro e w5 ⟨B', rfl, hm, hv, rfl⟩; have HM5 := Lib.hid hm; have HG5 : Hid (∀ g, (Value.slice B' b b).ownBlock = some g → W0.heap.size ≤ g) := Lib.hid (by rw [hv]; intro g h; exact Nat.le_trans hs4 (HG4.out g h)); have c4 := blk_cell HX04.out; have f4 := blk_frozen HX04.out; have c5 := blk_cell HX14.out; have f5 := blk_frozen HX14.out; have HBW := Lib.hid (HB0.out.trans (HB4.out.mono (by omega))); have HM35 := HM34; clear hm hv))
  all_goals
    go_wp2
    have hcell := blk_cell (set4 HX14.out (.slice A' a a) (.slice B' b b) (.int .i64 k) (.int .i64 n) (.slice A' a a) (.slice B' b b))
    exact bodyPost_ret (v := .agg #[.int .i64 k, .int .i64 n, .slice A' a a, .slice B' b b]) (by simp [results, Try.results36, go_sem, hcell]) rfl ⟨_, _, rfl, mem6 HM35.out (fun g h => by have := HG3.out g h; omega) _ _ _ _ _ _, mem6 HM5.out (fun g h => by have := HG5.out g h; omega) _ _ _ _ _ _, (fun g h => by have := HG3.out g h; omega), (fun g h => by have := HG5.out g h; omega), below6 HBW.out _ _ _ _ _ _⟩
end Go.Proofs.Ytmcjjikhdjoopaa
