/- The walk of HeapQuota. -/
import Derived.Test.YtmcjjikhdjoopaaHeapLaws
namespace Go.Proofs.Ytmcjjikhdjoopaa
open Go.RowKit
set_option linter.unusedVariables false
theorem madeZeros (k : Nat) : madeCells #[.int .u64 0] k = (wcells (List.replicate k 0)).toArray := by
  apply Array.ext
  · simp [madeCells, wcells]
  · intro i h1 h2
    simp [madeCells, wcells, Nat.mod_one]
theorem lie_zeros (w : World) (k : Nat) : Lie (w.alloc (.cells (madeCells #[.int .u64 0] k) 25)) (some ⟨w.heap.size, 0, none⟩) k (wcells (List.replicate k 0)) := by
  rw [madeZeros]
  exact lie_new _ _ _ rfl
theorem zeros_wf (k : Nat) (hk : k ≤ 1000000) : Ob.wf ⟨3, 0, List.replicate k 0, []⟩ :=
  ⟨(by show (Lit.int .i64 3).wf = true; decide), (by show (Lit.int .i64 0).wf = true; decide), (fun x hx => by rw [(List.mem_replicate.1 hx).2]; omega), (fun x hx => by cases hx), by simp; omega, by simp⟩
set_option maxRecDepth 100000 in
set_option maxHeartbeats 4000000 in
theorem heapQuota_walk (w : World) (a0 : Int) (w0 : (Lit.int .u16 a0).wf = true) (a1 : Int) (w1 : (Lit.int .u8 a1).wf = true) :
    Calls Try.prog 3 #[.int .u16 a0, .int .u8 a1] w fun e w' => e = .returned (.bool true) ∧ Below w.heap.size w w' := by
  have h0 := bounds_u16 w0
  have h1 := bounds_u8 w1
  clear w0 w1
  obtain ⟨n0, rfl⟩ := Int.eq_ofNat_of_zero_le h0.1
  obtain ⟨n1, rfl⟩ := Int.eq_ofNat_of_zero_le h1.1
  obtain ⟨q, hq⟩ : ∃ q, n0 % 4000 = q := ⟨_, rfl⟩
  obtain ⟨n, hn⟩ : ∃ n, n1 % 20 = n := ⟨_, rfl⟩
  have hq2 : (n0 : Int) % 4000 = (q : Int) := by omega
  have hn2 : (n1 : Int) % 20 = (n : Int) := by omega
  have hq4 : q < 4000 := by omega
  have hn4 : n < 20 := by omega
  clear hq hn
  have hmk := fun w => run_make_row' (P := Try.prog) 28 25 (.int .u64 0) 8 Try.underlying28 word_info rfl .i64 .i64 n (by omega) (by omega) w
  have HWF := Lib.hid (zeros_wf n (by omega))
  go_enter Try.func3, Try.ntmps3
  go_wp2_with (go_at_call 13; refine (new0_calls _ _ _).mono ?_; rintro e w1 ⟨p, rfl, ⟨A, c, hH, hF⟩, hB⟩; have HB1 := Lib.hid hB; have HH1 := Lib.hid hH; have HF1 := Lib.hid hF; clear hH hF hB)
  go_loopw [8, 9] (fun kv iv wr => ∃ (i u : Nat) (A' : Option Addr) (c' : Nat) (L : List (Ob × OV)), kv = .int .i64 i ∧ iv = .int .i64 i ∧ Hid (L.length = i) ∧ Hid (u = i * (16 + 8 * n)) ∧ u ≤ q ∧ 16 * i ≤ u ∧ Hid (Hp wr p (.slice A' i c') L q u) ∧ Hid (∀ b, HF p (.slice A' i c') L b → w.heap.size ≤ b) ∧ Hid (Below w.heap.size w wr)) (fun _ iv _ => 300 - (intOf iv).toNat)
  case atStart => exact ⟨0, 0, A, c, [], rfl, rfl, Lib.hid rfl, Lib.hid (by simp), by omega, by omega, HH1, HF1, HB1⟩
  case round =>
    obtain ⟨i, u, A', c', L, rfl, rfl, HLi, HU, huq, hui, HH, HFo, HB⟩ := hrel
    have hi : i < 300 := by omega
    have hsz := HB.out.size
    have HHa := Lib.hid (HH.out.below ((Below.refl wr.heap.size wr).alloc (Nat.le_refl _) (Obj.cells (madeCells #[.int .u64 0] n) 25)))
    have HBa := Lib.hid (HB.out.alloc hsz (Obj.cells (madeCells #[.int .u64 0] n) 25))
    have HLz := Lib.hid (lie_zeros wr n)
    by_cases hfit : u + (16 + 8 * n) ≤ q
    · have hu2 : ((u : Int) + (16 + 8 * (n : Int) + ((0 : Nat) : Int))) = ((u + (16 + 8 * n) : Nat) : Int) := by omega
      go_wp2_with (first
        | (go_at_call 14; refine (add_ok _ p A' i c' L HLi.out q u HHa.out 3 0 _ none n 0 n 0 (List.replicate n 0) [] List.length_replicate rfl (by omega) (by decide) (by exact HLz.out) (fun h => absurd h (by decide)) HWF.out (by omega) (by omega) (by omega) (by omega)).mono ?_; rintro e w2 ⟨A1, c1, ov, rfl, hH, hf, hk⟩; rw [hu2] at hH; have HH2 := Lib.hid hH; have HF2 : Hid (∀ b, HF p (.slice A1 (i + 1) c1) (L ++ [((⟨3, 0, List.replicate n 0, []⟩ : Ob), ov)]) b → w.heap.size ≤ b) := Lib.hid (fun b hb => (hf b hb).elim (fun h => HFo.out b h) (fun h => Nat.le_trans HBa.out.size h)); have HB2 := Lib.hid (HBa.out.trans (hk.below (by exact HBa.out.size) (fun x hx hx2 => by have := HFo.out x hx2; omega))); clear hH hf hk))
      go_roundw
      case rel => exact ⟨i + 1, u + (16 + 8 * n), A1, c1, _, by go_num, by go_num, Lib.hid (by rw [List.length_append, HLi.out]; rfl), Lib.hid (by rw [HU.out, Nat.add_mul, Nat.one_mul]), hfit, by omega, HH2, HF2, HB2⟩
      case measure => simp [intOf]; omega
    · have hdiv : i = q / (16 + 8 * n) := by
        have h := HU.out
        have h2 : u + (16 + 8 * n) = (i + 1) * (16 + 8 * n) := by rw [h, Nat.add_mul, Nat.one_mul]
        exact (Nat.div_eq_of_lt_le (by rw [← h]; exact huq) (by rw [← h2]; omega)).symm
      have HD := Lib.hid hdiv
      have HLc : Hid ((i : Int) * (16 + 8 * (n : Int)) = (u : Int)) := Lib.hid (by have := HU.out; rw [this]; simp)
      have hbt : ((i : Int) == wrap64 ((q : Int) / (16 + 8 * (n : Int)))) = true := by
        have e : (q : Int) / (16 + 8 * (n : Int)) = (i : Int) := by
          rw [hdiv]
          simp
        rw [e]
        have e2 : wrap64 (i : Int) = (i : Int) := by unfold wrap64; omega
        rw [e2]
        exact beq_self_eq_true _
      have hbu : ((u : Int) == wrap64 ((i : Int) * (16 + 8 * (n : Int)))) = true := by
        rw [HLc.out]
        have e2 : wrap64 (u : Int) = (u : Int) := by unfold wrap64; omega
        rw [e2]
        exact beq_self_eq_true _
      clear hdiv
      go_wp2_with (first
        | (go_at_call 14; refine (add_no _ p _ L q u HHa.out 3 0 _ none n 0 n 0 (by omega) (by decide) (by omega) (by omega)).mono ?_; rintro e w2 ⟨rfl, hb⟩; have HH2 := Lib.hid (HHa.out.below hb); have HB2 := Lib.hid (HBa.out.trans (hb.mono HBa.out.size)); have hs2 := HB2.out.size; clear hb)
        | (go_at_call 15; refine (heapAnswers_calls _).mono ?_; rintro e w4 ⟨rfl, hb⟩; have HH4 := Lib.hid (HH2.out.below hb); have HB4 := Lib.hid (HB2.out.trans (hb.mono hs2)); have hs4 := HB4.out.size; clear hb)
        | (go_at_call 16; refine (used_calls _ _ _ _ _ _ HH4.out).mono ?_; rintro e w5 ⟨rfl, rfl⟩)
        | (go_at_call 17; refine (objs_calls _ _ _ _ _ L HLi.out _ _ HH4.out).mono ?_; rintro e w6 ⟨A6, c6, L6, rfl, hL6, hO6, hF6, hb⟩; have HB6 := Lib.hid (HB4.out.trans (hb.mono hs4)); clear hb hL6 hO6 hF6))
      go_ret
      exact ⟨rfl, HB6.out⟩
end Go.Proofs.Ytmcjjikhdjoopaa
