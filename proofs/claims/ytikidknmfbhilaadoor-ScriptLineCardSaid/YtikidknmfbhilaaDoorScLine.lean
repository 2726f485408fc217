/- Script: the walk of ScriptLine. -/
import Derived.Test.YtikidknmfbhilaaDoorScBack
import Derived.Lib.QuietBelow
import Derived.BigQuiet
namespace Go.Proofs.YtikidknmfbhilaaDoor
open Go.RowKit Go.Sort
set_option linter.unusedVariables false
theorem itoa_1 : Lib.itoa 1 = [49] := by rw [Lib.itoa, if_neg (by decide)]; exact Lib.decDigits_one (by decide)
def tailsL : List (List UInt8) := [[], [49], [49, 32, 50, 32, 51], [49, 32, 50, 32, 51, 32, 52, 32, 53], [48, 49, 32, 50, 32, 51, 32, 52], [43, 49, 32, 50, 32, 51, 32, 52], [49, 32, 50, 32, 32, 51, 32, 52], [49, 32, 45, 48, 32, 51, 32, 52], [120, 32, 50, 32, 51, 32, 52], [49, 32, 50, 32, 51, 32, 52, 32], [57, 50, 50, 51, 51, 55, 50, 48, 51, 54, 56, 53, 52, 55, 55, 53, 56, 48, 56, 32, 48, 32, 48, 32, 48], [52, 54, 49, 49, 54, 56, 54, 48, 49, 56, 52, 50, 55, 51, 56, 55, 57, 48, 53, 32, 48, 32, 48, 32, 48]]
theorem numP_of {s : List UInt8} {v : Int} (h : Lib.atoiAll s = .ok v) (hv : Lib.itoa v ≠ s ∨ fitsB v = false) : numP s = none := by
  rw [numP_ok h, if_neg]
  rintro ⟨h1, h2⟩
  rcases hv with hv | hv
  · exact hv h1
  · rw [h2] at hv; cases hv
theorem tails_no10 : ∀ t ∈ tailsL, (10 : UInt8) ∉ t := by decide
theorem tails_bad : ∀ t ∈ tailsL, orderP t = none := by
  have b0 : numP [48, 49] = none := numP_of (v := 1) (by decide) (.inl (by rw [itoa_1]; decide))
  have b1 : numP [43, 49] = none := numP_of (v := 1) (by decide) (.inl (by rw [itoa_1]; decide))
  have b2 : numP [45, 48] = none := numP_of (v := 0) (by decide) (.inl (by rw [show Lib.itoa 0 = [48] by rw [Lib.itoa, if_neg (by decide)]; exact Lib.decDigits_one (by decide)]; decide))
  have b3 : numP [120] = none := numP_no (.inl (by decide))
  have b4 : numP [57, 50, 50, 51, 51, 55, 50, 48, 51, 54, 56, 53, 52, 55, 55, 53, 56, 48, 56] = none := numP_no (.inr (by decide))
  have b5 : numP [52, 54, 49, 49, 54, 56, 54, 48, 49, 56, 52, 50, 55, 51, 56, 55, 57, 48, 53] = none := numP_of (v := 4611686018427387905) (by decide) (.inr (by decide))
  intro t ht
  simp only [tailsL, List.mem_cons, List.not_mem_nil, or_false] at ht
  rcases ht with rfl | rfl | rfl | rfl | rfl | rfl | rfl | rfl | rfl | rfl | rfl | rfl
  · exact orderP_len (by decide)
  · exact orderP_len (by decide)
  · exact orderP_len (by decide)
  · exact orderP_len (by decide)
  · exact orderP_no (x := [48, 49]) (by decide) b0
  · exact orderP_no (x := [43, 49]) (by decide) b1
  · exact orderP_len (by decide)
  · exact orderP_no (x := [45, 48]) (by decide) b2
  · exact orderP_no (x := [120]) (by decide) b3
  · exact orderP_len (by decide)
  · exact orderP_no (x := [57, 50, 50, 51, 51, 55, 50, 48, 51, 54, 56, 53, 52, 55, 55, 53, 56, 48, 56]) (by decide) b4
  · exact orderP_no (x := [52, 54, 49, 49, 54, 56, 54, 48, 49, 56, 52, 50, 55, 51, 56, 55, 57, 48, 53]) (by decide) b5
def tailsV : List Value := tailsL.map (fun t => .string ⟨t.toArray⟩)
theorem map_add0 (A : Option Addr) : Option.map (fun a => Addr.add a 0) A = A := by cases A <;> simp [Addr.add]
theorem sl_to (W : World) (A : Option Addr) (n c k : Nat) (h : k ≤ c) : (Instr.slice 22 (.slice A n c) none (some (.int .i64 (k : Int))) none).run Tryd.prog W = .ok (.slice A k c) W := by
  have hu := Tryd.underlying22
  simp [Instr.slice, run_underlying hu, go_sem, h]
def fromA (A : Option Addr) (c k : Nat) : Option Addr := if c = k then A else A.map (fun a => a.add (k * 4))
theorem sl_from (W : World) (A : Option Addr) (n c k : Nat) (h : k ≤ n) : (Instr.slice 22 (.slice A n c) (some (.int .i64 (k : Int))) none none).run Tryd.prog W = .ok (.slice (fromA A c k) (n - k) (c - k)) W := by
  have hu := Tryd.underlying22
  have hz := Tryd.sizeOf36
  simp [Instr.slice, run_underlying hu, go_sem, h, hz, fromA]
theorem row_to {S : Nat → Prop} {w : World} {A : Option Addr} {xs : List Odr} (h : k_order.Row S w A xs) (k : Nat) : k_order.Row S w A (xs.take k) := fun hp => by
  have hl : 0 < xs.length := by rw [List.length_take] at hp; omega
  obtain ⟨b, o, e, hb, hc⟩ := h hl
  exact ⟨b, o, e, hb, fun i hi => by
    have hi2 : i < xs.length := by rw [List.length_take] at hi; omega
    obtain ⟨cs, hK, hcell⟩ := hc i hi2
    exact ⟨cs, by rw [List.getElem_take]; exact hK, hcell⟩⟩
theorem row_from {S : Nat → Prop} {w : World} {A : Option Addr} {xs : List Odr} {c : Nat} (h : k_order.Row S w A xs) (hc : xs.length ≤ c) (k : Nat) : k_order.Row S w (fromA A c k) (xs.drop k) := fun hp => by
  have hl : k < xs.length := by rw [List.length_drop] at hp; omega
  obtain ⟨b, o, e, hb, hcc⟩ := h (by omega)
  refine ⟨b, o + k * 4, by rw [fromA, if_neg (by omega), e]; simp [add_at], hb, fun i hi => ?_⟩
  have hi2 : k + i < xs.length := by rw [List.length_drop] at hi; omega
  obtain ⟨cs, hK, hcell⟩ := hcc (k + i) hi2
  refine ⟨cs, by rw [List.getElem_drop]; exact hK, fun j u hj => ?_⟩
  have h1 := hcell j u hj
  rw [show k_order.sz = 4 from rfl] at h1 ⊢
  rw [← h1]
  congr 3
  omega
theorem tails_cells : (#[.string ⟨#[]⟩, .string ⟨#[49]⟩, .string ⟨#[49, 32, 50, 32, 51]⟩, .string ⟨#[49, 32, 50, 32, 51, 32, 52, 32, 53]⟩, .string ⟨#[48, 49, 32, 50, 32, 51, 32, 52]⟩, .string ⟨#[43, 49, 32, 50, 32, 51, 32, 52]⟩, .string ⟨#[49, 32, 50, 32, 32, 51, 32, 52]⟩, .string ⟨#[49, 32, 45, 48, 32, 51, 32, 52]⟩, .string ⟨#[120, 32, 50, 32, 51, 32, 52]⟩, .string ⟨#[49, 32, 50, 32, 51, 32, 52, 32]⟩, .string ⟨#[57, 50, 50, 51, 51, 55, 50, 48, 51, 54, 56, 53, 52, 55, 55, 53, 56, 48, 56, 32, 48, 32, 48, 32, 48]⟩, .string ⟨#[52, 54, 49, 49, 54, 56, 54, 48, 49, 56, 52, 50, 55, 51, 56, 55, 57, 48, 53, 32, 48, 32, 48, 32, 48]⟩] : Array Value) = tailsV.toArray := rfl
theorem tails_at (j : Nat) (hj : j < 12) : ∃ t, t ∈ tailsL ∧ tailsV[j]? = some (.string ⟨t.toArray⟩) ∧ t.length ≤ 30 := by
  have hl : tailsL.length = 12 := rfl
  have h30 : ∀ t ∈ tailsL, t.length ≤ 30 := by decide
  have hm : tailsL[j]'(by omega) ∈ tailsL := List.getElem_mem _
  refine ⟨tailsL[j]'(by omega), hm, ?_, h30 _ hm⟩
  unfold tailsV
  rw [List.getElem?_map, List.getElem?_eq_getElem (by omega)]
  rfl
theorem u8_nat {x : Int} (h : (Lit.int .u8 x).wf = true) : ∃ a : Nat, x = a ∧ a < 256 := by
  simp only [Lit.wf, Bool.and_eq_true, decide_eq_true_eq] at h
  obtain ⟨h1, h2⟩ := h
  have e1 : IntKind.u8.min = 0 := by decide
  have e2 : IntKind.u8.max = 255 := by decide
  exact ⟨x.toNat, by omega, by omega⟩
set_option maxRecDepth 100000 in
set_option maxHeartbeats 8000000 in
theorem scriptLine_walk (w : World) (F : Facts w) (A0 : Option Addr) (c0 : Nat) (x0 : List Odr) (l0 : x0.length ≤ c0) (m0 : x0.length ≤ 140737488351232) (row0 : k_order.Row (· < w.heap.size) w A0 x0) (at1 : Int) (wf1 : (Lit.int .u8 at1).wf = true) (bad : Int) (wf2 : (Lit.int .u8 bad).wf = true) :
    Calls Tryd.prog 5 #[.slice A0 x0.length c0, .int .u8 at1, .int .u8 bad] w fun e w' => e = .returned (.bool true) ∧ RowKit.Below w.heap.size w w' := by
  have HF := Lib.hid F
  have hbig := F.big
  have HR := Lib.hid row0
  clear F row0
  obtain ⟨n, hn⟩ : ∃ n, x0.length = n := ⟨_, rfl⟩
  rw [hn] at l0 ⊢
  have HN := Lib.hid hn
  clear hn m0
  by_cases hl : 100 < n
  · have hz1 : (100 : Int) < (n : Int) := by omega
    go_enter Tryd.func5, Tryd.ntmps5
    go_wp2_with (go_at_call 7; refine (scAnswers_calls _ HF.out).mono ?_; rintro e w1 ⟨rfl, hb1⟩)
    go_ret
    exact ⟨rfl, hb1⟩
  · have hz1 : ¬ (100 : Int) < (n : Int) := by omega
    by_cases hg : x0.all goodO = true
    · have HG := Lib.hid (good_of_all hg)
      obtain ⟨a, rfl, ha⟩ := u8_nat wf1
      obtain ⟨b8, rfl, hb8⟩ := u8_nat wf2
      have hkv : IntKind.i64.wrap ((a : Int)) = (a : Int) := IntWalk.i64_in _ (by omega)
      have hk : ((a : Int)).tmod ((n : Int) + 1) = ((a % (n + 1) : Nat) : Int) := by
        rw [Int.tmod_eq_emod_of_nonneg (by omega)]; exact (Int.natCast_emod a (n + 1)).symm
      have hj : ((b8 : Int)).tmod 12 = ((b8 % 12 : Nat) : Int) := by
        rw [Int.tmod_eq_emod_of_nonneg (by omega)]; omega
      have hkn : a % (n + 1) ≤ n := by have := Nat.mod_lt a (show 0 < n + 1 by omega); omega
      have hj12 : b8 % 12 < 12 := Nat.mod_lt _ (by decide)
      generalize a % (n + 1) = k at *
      generalize b8 % 12 = j at *
      go_enter Tryd.func5, Tryd.ntmps5
      go_wp2_with (go_at_call 9; refine (refGood_calls (S := (· < w.heap.size)) w _ n _ x0 HN.out (by omega) (fun b hb => hb) HR.out).mono ?_; rw [hg]; rintro e w1 ⟨rfl, hb1⟩; have HB1 := Lib.hid hb1; have hs1 := hb1.size; clear hb1)
      rw [tails_cells]
      have hbt : (w1.alloc (.cells tailsV.toArray 9)).heap[w1.heap.size]? = some (.cells tailsV.toArray 9 (0, 0)) := blk_new _ _
      have hb2 : RowKit.Below w.heap.size w (w1.alloc (.cells tailsV.toArray 9)) := HB1.out.alloc hs1 _
      generalize w1.alloc (.cells tailsV.toArray 9) = w2 at *
      generalize w1.heap.size = g at *
      obtain ⟨t, ht, htv, htl⟩ := tails_at j hj12
      have et : w2.cell? ⟨g, j, none⟩ = some (.string ⟨t.toArray⟩) := (blk_cell hbt j).trans (by simpa using htv)
      have rt := cell_regrown et
      have hs2 := hb2.size
      have HB2 := Lib.hid hb2
      have HTt := Lib.hid ht
      clear et hbt htv hb2 ht
      have hq : ∀ d os, RowKit.Below w.heap.size w (grow (redrawn w2 d) os) := fun d os => HB2.out.trans ((below_regrown w2 d os).mono hs2)
      have hg1 : goodL (x0.take k) := fun o ho => HG.out o (List.mem_of_mem_take ho)
      have hg2 : goodL (x0.drop k) := fun o ho => HG.out o (List.mem_of_mem_drop ho)
      have hl1 : (x0.take k).length = k := by rw [List.length_take, HN.out]; omega
      have hl2 : (x0.drop k).length = n - k := by rw [List.length_drop, HN.out]
      have K0 := Lib.hid (fun d os => refPrint_calls (S := (· < w.heap.size)) (grow (redrawn w2 d) os) A0 k c0 (x0.take k) hl1 (by omega) (fun b hb => Nat.lt_of_lt_of_le hb (hq d os).size) ((row_to HR.out k).keep (hq d os).block))
      have K1 := Lib.hid (fun d os => refPrint_calls (S := (· < w.heap.size)) (grow (redrawn w2 d) os) (fromA A0 c0 k) (n - k) (c0 - k) (x0.drop k) hl2 (by omega) (fun b hb => Nat.lt_of_lt_of_le hb (hq d os).size) ((row_from HR.out (by rw [HN.out]; exact l0) k).keep (hq d os).block))
      have z1 : (⟨(textL (x0.take k)).toArray⟩ : ByteArray).size ≤ 10000 := by rw [arr_size]; have := text_size _ hg1; omega
      have z2 : (⟨(textL (x0.drop k)).toArray⟩ : ByteArray).size ≤ 10000 := by rw [arr_size]; have := text_size _ hg2; omega
      have zt : (⟨t.toArray⟩ : ByteArray).size ≤ 30 := by rw [arr_size]; exact htl
      have zu : (⟨#[10]⟩ : ByteArray).size = 1 := rfl
      have E : ((⟨(textL (x0.take k)).toArray⟩ : ByteArray) ++ ⟨t.toArray⟩ ++ ⟨#[10]⟩ ++ ⟨(textL (x0.drop k)).toArray⟩) = ⟨(textL (x0.take k) ++ (t ++ 10 :: textL (x0.drop k))).toArray⟩ := by
        rw [show (⟨#[10]⟩ : ByteArray) = ⟨[10].toArray⟩ from rfl]
        simp only [str_app]
        simp
      have K2 : Hid (∀ d os, Calls Tryd.prog 10 #[.string ((⟨(textL (x0.take k)).toArray⟩ : ByteArray) ++ ⟨t.toArray⟩ ++ ⟨#[10]⟩ ++ ⟨(textL (x0.drop k)).toArray⟩)] (grow (redrawn w2 d) os) fun e w' => e = .returned (.tuple #[.slice none 0 0, .int .i64 ((k : Int) + 1), .int .i64 9]) ∧ RowKit.Below (grow (redrawn w2 d) os).heap.size (grow (redrawn w2 d) os) w') := Lib.hid (fun d os => by
        rw [E]
        have hr : Stop (t ++ 10 :: textL (x0.drop k)) := stop_bad (tails_no10 t HTt.out) (tails_bad t HTt.out)
        have := parse_bad (grow (redrawn w2 d) os) ⟨(textL (x0.take k) ++ (t ++ 10 :: textL (x0.drop k))).toArray⟩ (by rw [arr_size] at *; simp only [List.length_append, List.length_cons]; omega) (HF.out.below (hq d os) hbig) (x0.take k) (t ++ 10 :: textL (x0.drop k)) hg1 hr (by simp) (by simp)
        rw [hl1] at this
        exact this)
      have hst := fun W => sl_to W A0 n c0 k (by omega)
      have hsf := fun W => sl_from W A0 n c0 k hkn
      clear E hg1 hg2 hl1 hl2
      generalize (⟨(textL (x0.take k)).toArray⟩ : ByteArray) = s1 at *
      generalize (⟨(textL (x0.drop k)).toArray⟩ : ByteArray) = s2 at *
      generalize (⟨t.toArray⟩ : ByteArray) = tl at *
      refine wp_region_quiet_below (by kernel_rfl) (by kernel_rfl) ?_
      repeat (first | go_big_quiet_step (first | with_reducible exact Calls.regrown_of (K0.out _ _) | with_reducible exact Calls.regrown_of (K1.out _ _) | with_reducible exact Calls.regrown_of (K2.out _ _)) | quiet_step (fail))
      refine wpQuiet_nil ?_
      intro _ hw'
      obtain ⟨⟨dq, osq⟩, hw''⟩ := hw'
      subst hw''
      have HBq := Lib.hid (hq dq osq)
      clear hq rt K0 K1 K2 hst hsf
      generalize grow (redrawn w2 dq) osq = wq at *
      have hsq := HBq.out.size
      go_wp2_with (go_at_call 7; refine (scAnswers_calls _ (HF.out.below HBq.out hbig)).mono ?_; rintro e w4 ⟨rfl, hb4⟩; have HB4 := Lib.hid (HBq.out.trans (hb4.mono hsq)); clear hb4)
      go_ret
      exact ⟨rfl, HB4.out⟩
    · have hg' : x0.all goodO = false := by simpa using hg
      go_enter Tryd.func5, Tryd.ntmps5
      go_wp2_with (first
        | (go_at_call 9; refine (refGood_calls (S := (· < w.heap.size)) w _ n _ x0 HN.out (by omega) (fun b hb => hb) HR.out).mono ?_; rw [hg']; rintro e w1 ⟨rfl, hb1⟩; have HB1 := Lib.hid hb1; have hs1 := hb1.size; clear hb1)
        | (go_at_call 7; refine (scAnswers_calls _ (HF.out.below HB1.out hbig)).mono ?_; rintro e w4 ⟨rfl, hb4⟩; have HB4 := Lib.hid (HB1.out.trans (hb4.mono hs1)); clear hb4))
      go_ret
      exact ⟨rfl, HB4.out⟩
end Go.Proofs.YtikidknmfbhilaaDoor
