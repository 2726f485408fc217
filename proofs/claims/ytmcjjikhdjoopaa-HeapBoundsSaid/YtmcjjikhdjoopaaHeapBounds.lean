/- The walk of HeapBounds. -/
import Derived.Test.YtmcjjikhdjoopaaHeapQuota
import Derived.Test.YtmcjjikhdjoopaaHeapG
namespace Go.Proofs.Ytmcjjikhdjoopaa
open Go.RowKit
set_option linter.unusedVariables false
set_option linter.unusedSimpArgs false
theorem madeZeros8 (k : Nat) : madeCells #[.int .u8 0] k = (bcells (List.replicate k 0)).toArray := by
  apply Array.ext
  · simp [madeCells, bcells]
  · intro i h1 h2
    simp [madeCells, bcells, Nat.mod_one]
theorem bounds_row {w : World} {g1 g2 g3 k : Nat} (hk : k ≤ 1000000) (h1 : w.heap[g1]? = some (.cells (madeCells #[.int .u64 0] k) 25 (0, 0))) (h2 : w.heap[g2]? = some (.cells (madeCells #[.int .u8 0] k) 5 (0, 0))) (h3 : w.heap[g3]? = some (.cells #[.int .i64 3, .int .i64 0, .slice (some ⟨g1, 0, none⟩) k k, .slice none 0 0, .int .i64 2, .int .i64 0, .slice none 0 0, .slice (some ⟨g2, 0, none⟩) k k] 31 (0, 0))) :
    k_obj.Row (· < w.heap.size) w (some ⟨g3, 0, none⟩) [⟨3, 0, List.replicate k 0, []⟩, ⟨2, 0, [], List.replicate k 0⟩] := by
  have r1 : (Rd.int .u64).Row (· < w.heap.size) w (some ⟨g1, 0, none⟩) (List.replicate k 0) := Rd.Row.of_blk h1 (blk_lt h1) (word_flat.2 ⟨rfl, (fun x hx => by rw [(List.mem_replicate.1 hx).2]; omega)⟩) (fun j v hj => by rw [madeZeros, List.getElem?_toArray]; exact hj)
  have r2 : (Rd.int .u8).Row (· < w.heap.size) w (some ⟨g2, 0, none⟩) (List.replicate k 0) := Rd.Row.of_blk h2 (blk_lt h2) (byte_flat.2 ⟨rfl, (fun x hx => by rw [(List.mem_replicate.1 hx).2]; omega)⟩) (fun j v hj => by rw [madeZeros8, List.getElem?_toArray]; exact hj)
  have hl : (List.replicate k (0 : Int)).length = k := List.length_replicate
  refine Rd.Row.of_blk h3 (blk_lt h3) (Rd.Flat.cons (c := [.int .i64 3, .int .i64 0, .slice (some ⟨g1, 0, none⟩) k k, .slice none 0 0]) ?_ (Rd.Flat.one (d := k_obj) (c := [.int .i64 2, .int .i64 0, .slice none 0 0, .slice (some ⟨g2, 0, none⟩) k k]) ?_)) (fun j v hj => by simpa using hj)
  · have := k_obj_mk (S := (· < w.heap.size)) (w := w) ⟨3, 0, List.replicate k 0, []⟩ (by show (Lit.int .i64 3).wf = true; decide) (by show (Lit.int .i64 0).wf = true; decide) (A2 := some ⟨g1, 0, none⟩) (c2 := k) (by rw [hl]; exact Nat.le_refl _) (by rw [hl]; omega) r1 (A3 := none) (c3 := 0) (Nat.le_refl 0) (by show 0 ≤ _; omega) (Rd.Row.nil _ _ _ _)
    rw [hl] at this
    exact this
  · have := k_obj_mk (S := (· < w.heap.size)) (w := w) ⟨2, 0, [], List.replicate k 0⟩ (by show (Lit.int .i64 2).wf = true; decide) (by show (Lit.int .i64 0).wf = true; decide) (A2 := none) (c2 := 0) (Nat.le_refl 0) (by show 0 ≤ _; omega) (Rd.Row.nil _ _ _ _) (A3 := some ⟨g2, 0, none⟩) (c3 := k) (by rw [hl]; exact Nat.le_refl _) (by rw [hl]; omega) r2
    rw [hl] at this
    exact this
theorem below_drew' {B : Nat} {w W : World} (h : Below B w W) : Below B w W.drew := ⟨h.os, h.tape, h.output, h.size, h.block⟩
/-! what they come to -/
section
variable (j : Nat) (v : Int)
def bo1 : Ob := ⟨3, 0, List.replicate (j + 1) 0, []⟩
def bo2 : Ob := ⟨2, 0, [], List.replicate (j + 1) 0⟩
def bp1 : Ob := ⟨3, 0, (List.replicate (j + 1) 0).set j v, []⟩
def bp2 : Ob := ⟨2, 0, [], (List.replicate (j + 1) 0).set j (v % 256)⟩
theorem bs1 : (wordS [bo1 j, bo2 j] 1 j).2 = 0 := by simp [wordS, objAt, bo1, List.getElem?_replicate]
theorem bs2 : setAt (setWO · j v) [bo1 j, bo2 j] 1 = [bp1 j v, bo2 j] := by simp [setAt, objAt, bo1, bp1, setWO]
theorem bs3 : (wordS [bp1 j v, bo2 j] 1 ((j : Int) + 1)).2 = 3 := by
  have e : ((j : Int) + 1).toNat = j + 1 := by omega
  simp [wordS, objAt, bp1, e]
theorem bs4 : (byteS [bp1 j v, bo2 j] 2 j).2 = 0 := by simp [byteS, objAt, bo2, List.getElem?_replicate]
theorem bs5 : setAt (setBO · j v) [bp1 j v, bo2 j] 2 = [bp1 j v, bp2 j v] := by simp [setAt, objAt, bo2, bp2, setBO]
theorem bs6 : (byteS [bp1 j v, bp2 j v] 2 ((j : Int) + 1)).2 = 3 := by
  have e : ((j : Int) + 1).toNat = j + 1 := by omega
  simp [byteS, objAt, bp2, e]
theorem bs7 : wordS [bp1 j v, bp2 j v] 1 j = (v, 0) := by simp [wordS, objAt, bp1, List.getElem?_set]
theorem bs8 : byteS [bp1 j v, bp2 j v] 2 j = (v % 256, 0) := by simp [byteS, objAt, bp2, List.getElem?_set]
theorem bs9 : byteS [bp1 j v, bp2 j v] 1 0 = (0, 3) := by simp [byteS, objAt, bp1]
theorem bs10 : wordS [bp1 j v, bp2 j v] 2 0 = (0, 3) := by simp [wordS, objAt, bp2]
theorem bs11 : lenS [bp1 j v, bp2 j v] 2 = ((j : Int) + 1, 0) := by simp [lenS, objAt, bp2]
end
set_option maxRecDepth 100000 in
set_option maxHeartbeats 4000000 in
theorem heapBounds_walk (w : World) (a0 : Int) (w0 : (Lit.int .u8 a0).wf = true) (a1 : Int) (w1 : (Lit.int .u64 a1).wf = true) :
    Calls Try.prog 10 #[.int .u8 a0, .int .u64 a1] w fun e w' => e = .returned (.bool true) ∧ Below w.heap.size w w' := by
  have h0 := bounds_u8 w0
  have h1 := bounds_u64 w1
  clear w0 w1
  obtain ⟨n0, rfl⟩ := Int.eq_ofNat_of_zero_le h0.1
  obtain ⟨j, hj⟩ : ∃ j, n0 % 50 = j := ⟨_, rfl⟩
  have hj2 : (n0 : Int) % 50 = (j : Int) := by omega
  have hj50 : j < 50 := by omega
  clear hj
  have hmk : ∀ w, (Instr.makeSlice 28 (.int .u64 ((j : Int) + 1)) (.int .u64 ((j : Int) + 1))).run Try.prog w = .ok (.slice (some ⟨w.heap.size, 0, none⟩) (j + 1) (j + 1)) (w.alloc (.cells (madeCells #[.int .u64 0] (j + 1)) 25)) := fun w => run_make_row' (P := Try.prog) 28 25 (.int .u64 0) 8 Try.underlying28 word_info rfl .u64 .u64 (j + 1) (by omega) (by omega) w
  have hmk8 : ∀ w, (Instr.makeSlice 29 (.int .u64 ((j : Int) + 1)) (.int .u64 ((j : Int) + 1))).run Try.prog w = .ok (.slice (some ⟨w.heap.size, 0, none⟩) (j + 1) (j + 1)) (w.alloc (.cells (madeCells #[.int .u8 0] (j + 1)) 5)) := fun w => run_make_row' (P := Try.prog) 29 5 (.int .u8 0) 1 Try.underlying29 byte_info rfl .u64 .u64 (j + 1) (by omega) (by omega) w
  go_enter Try.func10, Try.ntmps10
  go_wp2_with fail
  have key : ∀ (W : World) (g1 g2 g3 c : Nat), Below w.heap.size w W → W.heap[g1]? = some (.cells (madeCells #[.int .u64 0] (j + 1)) 25 (0, 0)) → W.heap[g2]? = some (.cells (madeCells #[.int .u8 0] (j + 1)) 5 (0, 0)) → W.heap[g3]? = some (.cells #[.int .i64 3, .int .i64 0, .slice (some ⟨g1, 0, none⟩) (j + 1) (j + 1), .slice none 0 0, .int .i64 2, .int .i64 0, .slice none 0 0, .slice (some ⟨g2, 0, none⟩) (j + 1) (j + 1)] 31 (0, 0)) → Calls Try.prog 13 #[.slice (some ⟨g3, 0, none⟩) 2 c, .int .i64 0, .int .i64 0] W fun e w' => ∃ p A' c' L, e = .returned (.pointer (some ⟨p, 0, none⟩)) ∧ L.map (·.1) = [bo1 j, bo2 j] ∧ Hp w' p (.slice A' 2 c') L 0 0 ∧ (∀ b, HF p (.slice A' 2 c') L b → w.heap.size ≤ b) ∧ Below w.heap.size w w' := by
    intro W g1 g2 g3 c hb e1 e2 e3
    refine (heapNew_calls (S := (· < W.heap.size)) W _ 2 c 0 0 [bo1 j, bo2 j] rfl (by decide) (fun o ho => by simp at ho; rcases ho with rfl | rfl <;> simp [bo1, bo2] <;> omega) (fun b hb => hb) (bounds_row (by omega) e1 e2 e3)).mono ?_
    rintro e w' ⟨p, A', c', L, rfl, hL, hH, hF, hB⟩
    exact ⟨p, A', c', L, rfl, hL, hH, fun b hb2 => Nat.le_trans hb.size (hF b hb2), hb.trans (hB.mono hb.size)⟩
  have Key := Lib.hid key
  clear key
  go_region_law (first
    | (go_simp; go_at_call 13; refine (Key.out _ w.heap.size (w.heap.size + 1) (w.heap.size + 1 + 1) _ (below_drew' ((((Below.refl w.heap.size w).alloc (Nat.le_refl _) _).alloc (by simp) _).alloc (by simp; omega) _)) (by exact blk_drew (blk_alloc (blk_alloc (blk_new w _) _) _)) (by exact blk_drew (blk_alloc (blk_new2 w _ _) _)) (by exact blk_drew (blk_new3 w _ _ _))).mono ?_; rintro e w1 ⟨p, A', c', L, rfl, hL, hH, hF, hB⟩; have HM1 := Lib.hid hL; have HH1 := Lib.hid hH; have HFo := Lib.hid hF; have HB1 := Lib.hid hB; clear hL hH hF hB)
    | (go_simp; go_at_call 13; refine (Key.out _ (w.heap.size + 1) w.heap.size (w.heap.size + 1 + 1) _ (below_drew' ((((Below.refl w.heap.size w).alloc (Nat.le_refl _) _).alloc (by simp) _).alloc (by simp; omega) _)) (by exact blk_drew (blk_alloc (blk_new2 w _ _) _)) (by exact blk_drew (blk_alloc (blk_alloc (blk_new w _) _) _)) (by exact blk_drew (blk_new3 w _ _ _))).mono ?_; rintro e w1 ⟨p, A', c', L, rfl, hL, hH, hF, hB⟩; have HM1 := Lib.hid hL; have HH1 := Lib.hid hH; have HFo := Lib.hid hF; have HB1 := Lib.hid hB; clear hL hH hF hB))
  all_goals
    have HF1 := HFo
    clear HFo Key
    have HT1 : Hid True := Lib.hid trivial
    have HT2 : Hid True := Lib.hid trivial
    go_wp2_with (first
      | (go_at_call 26; refine (setwordG _ _ _ _ _ _ HH1.out _ HM1.out 1 (j) a1 (by decide) (by omega) h1).mono ?_; rw [bs1, if_pos rfl, bs2]; rintro e w2 ⟨rfl, ⟨L2, _, hH, hm, hf⟩, hk⟩; have HH2 := Lib.hid hH; have HM2 := Lib.hid hm; have HF2 : Hid (∀ b, HF p (.slice A' 2 c') L2 b → w.heap.size ≤ b) := Lib.hid (fun b hb => HF1.out b (hf b hb)); have HB2 := Lib.hid (HB1.out.trans (hk.below HB1.out.size (fun x hx hx2 => by have := HF1.out x hx2; omega))); clear hH hm hf hk HH1 HM1)
      | (go_at_call 26; refine (setwordG _ _ _ _ _ _ HH2.out _ HM2.out 1 ((j : Int) + 1) a1 (by decide) (by omega) h1).mono ?_; rw [bs3, if_neg (by decide)]; rintro e w3 ⟨rfl, ⟨L3, _, hH, hm, hf⟩, hk⟩; have HH3 := Lib.hid hH; have HM3 := Lib.hid hm; have HF3 : Hid (∀ b, HF p (.slice A' 2 c') L3 b → w.heap.size ≤ b) := Lib.hid (fun b hb => HF2.out b (hf b hb)); have HB3 := Lib.hid (HB2.out.trans (hk.below HB2.out.size (fun x hx hx2 => by have := HF2.out x hx2; omega))); clear hH hm hf hk HH2 HM2)
      | (go_at_call 27; refine (setbyteG _ _ _ _ _ _ HH3.out _ HM3.out 2 (j) a1 (by decide) (by omega) h1).mono ?_; rw [bs4, if_pos rfl, bs5]; rintro e w4 ⟨rfl, ⟨L4, _, hH, hm, hf⟩, hk⟩; have HH4 := Lib.hid hH; have HM4 := Lib.hid hm; have HF4 : Hid (∀ b, HF p (.slice A' 2 c') L4 b → w.heap.size ≤ b) := Lib.hid (fun b hb => HF3.out b (hf b hb)); have HB4 := Lib.hid (HB3.out.trans (hk.below HB3.out.size (fun x hx hx2 => by have := HF3.out x hx2; omega))); clear hH hm hf hk HH3 HM3)
      | (go_at_call 27; refine (setbyteG _ _ _ _ _ _ HH4.out _ HM4.out 2 ((j : Int) + 1) a1 (by decide) (by omega) h1).mono ?_; rw [bs6, if_neg (by decide)]; rintro e w5 ⟨rfl, ⟨L5, _, hH, hm, hf⟩, hk⟩; have HH5 := Lib.hid hH; have HM5 := Lib.hid hm; have HF5 : Hid (∀ b, HF p (.slice A' 2 c') L5 b → w.heap.size ≤ b) := Lib.hid (fun b hb => HF4.out b (hf b hb)); have HB5 := Lib.hid (HB4.out.trans (hk.below HB4.out.size (fun x hx hx2 => by have := HF4.out x hx2; omega))); clear hH hm hf hk HH4 HM4)
      | (go_at_call 28; clear HT1; refine (wordS_calls _ _ _ _ _ _ HH5.out 1 j (by decide) (by omega)).mono ?_; rw [HM5.out, bs7]; rintro e w6 ⟨rfl, rfl⟩)
      | (go_at_call 25; clear HT2; refine (byteS_calls _ _ _ _ _ _ HH5.out 2 j (by decide) (by omega)).mono ?_; rw [HM5.out, bs8]; rintro e w6 ⟨rfl, rfl⟩)
      | (go_at_call 25; refine (byteS_calls _ _ _ _ _ _ HH5.out 1 0 (by decide) (by decide)).mono ?_; rw [HM5.out, bs9]; rintro e w6 ⟨rfl, rfl⟩)
      | (go_at_call 28; refine (wordS_calls _ _ _ _ _ _ HH5.out 2 0 (by decide) (by decide)).mono ?_; rw [HM5.out, bs10]; rintro e w6 ⟨rfl, rfl⟩)
      | (go_at_call 29; refine (lenS_calls _ _ _ _ _ _ HH5.out 2 (by decide)).mono ?_; rw [HM5.out, bs11]; rintro e w6 ⟨rfl, rfl⟩)
      | (go_at_call 15; refine (heapAnswers_calls _).mono ?_; rintro e w7 ⟨rfl, hb⟩; have HB7 := Lib.hid (HB5.out.trans (hb.mono HB5.out.size)); clear hb))
    go_ret
    exact ⟨rfl, HB7.out⟩
end Go.Proofs.Ytmcjjikhdjoopaa
