/- Script: script.Print, the loops over the orders and their numbers. -/
import Derived.Test.YtikidknmfbhilaaDoorScOrder
namespace Go.Proofs.YtikidknmfbhilaaDoor
open Go.RowKit Go.Sort
set_option linter.unusedVariables false
theorem isB_below {T e : TypeId} {B b : Nat} {bs : List Value} {w w' : World} (h : Lib.IsBuilderF T e B b bs w) (hb : RowKit.Below w.heap.size w w') : Lib.IsBuilderF T e B b bs w' := by
  have key : ∀ p, Lib.BuilderAtF T e B b p bs w → Lib.BuilderAtF T e B b p bs w' := by
    rintro p ⟨hB, v, hk, hown, hne⟩
    refine ⟨hB, v, blk_below hk hb (blk_lt hk), ⟨hown.1, ?_⟩, hne⟩
    rcases hown.2 with hn | ⟨g, cap, cur, fz, hv, hbg, hg, rest⟩
    · exact .inl hn
    · exact .inr ⟨g, cap, cur, fz, hv, hbg, blk_below hg hb (blk_lt hg), rest⟩
  exact h.elim (fun x => .inl (key _ x)) (fun x => .inr (key _ x))
theorem isB_new (w : World) (T e : TypeId) : Lib.IsBuilderF T e w.heap.size w.heap.size [] (w.alloc (.cells #[.pointer none, .slice none 0 0] T (0, 0))) :=
  .inl ⟨Nat.le_refl _, .slice none 0 0, blk_new _ _, ⟨rfl, .inl ⟨rfl, rfl⟩⟩, by simp [Value.ownBlock]⟩
def numO (o : Odr) (j : Nat) : Int := [o.kind, o.a, o.b, o.c].getD j 0
def part (o : Odr) : Nat → List UInt8
  | 0 => []
  | 1 => Lib.itoa o.kind
  | 2 => Lib.itoa o.kind ++ 32 :: Lib.itoa o.a
  | 3 => Lib.itoa o.kind ++ 32 :: (Lib.itoa o.a ++ 32 :: Lib.itoa o.b)
  | _ => body o
theorem part_first (o : Odr) : part o 1 = Lib.itoa (numO o 0) := rfl
theorem part_next (o : Odr) : ∀ j, 0 < j → j < 4 → part o (j + 1) = part o j ++ 32 :: Lib.itoa (numO o j)
  | 0, h, _ => absurd h (by decide)
  | 1, _, _ => rfl
  | 2, _, _ => by simp [part, numO]
  | 3, _, _ => by simp [part, numO, body]
  | _ + 4, _, h => absurd h (by omega)
theorem numO_ok {o : Odr} (h0 : (Lit.int .i64 o.kind).wf = true) (h1 : (Lit.int .i64 o.a).wf = true) (h2 : (Lit.int .i64 o.b).wf = true) (h3 : (Lit.int .i64 o.c).wf = true) : ∀ j, j < 4 → -9223372036854775808 ≤ numO o j ∧ numO o j ≤ 9223372036854775807
  | 0, _ => in_i64 h0
  | 1, _ => in_i64 h1
  | 2, _ => in_i64 h2
  | 3, _ => in_i64 h3
  | _ + 4, h => absurd h (by omega)
def fitO (o : Odr) (j : Nat) : Prop := ∀ i, i < j → fitsB (numO o i) = true
theorem fitO_all {o : Odr} (h : fitO o 4) : goodO o = true := (goodO_iff o).2 ⟨h 0 (by decide), h 1 (by decide), h 2 (by decide), h 3 (by decide)⟩
theorem good_fit {o : Odr} (h : goodO o = true) : ∀ j, j < 4 → fitsB (numO o j) = true
  | 0, _ => ((goodO_iff o).1 h).1
  | 1, _ => ((goodO_iff o).1 h).2.1
  | 2, _ => ((goodO_iff o).1 h).2.2.1
  | 3, _ => ((goodO_iff o).1 h).2.2.2
  | _ + 4, h => absurd h (by omega)
def nums (o : Odr) : Array Value := #[.int .i64 o.kind, .int .i64 o.a, .int .i64 o.b, .int .i64 o.c]
theorem nums_at (o : Odr) : ∀ j, j < 4 → (nums o)[j]? = some (.int .i64 (numO o j))
  | 0, _ => rfl
  | 1, _ => rfl
  | 2, _ => rfl
  | 3, _ => rfl
  | _ + 4, h => absurd h (by omega)
theorem part_len (o : Odr) : ∀ j, (part o j).length ≤ (lineL o).length
  | 0 => by simp [part]
  | 1 => by simp [part, lineL]
  | 2 => by simp [part, lineL]
  | 3 => by simp [part, lineL]
  | _ + 4 => by rw [lineL_body]; simp [part]
theorem idx (x : Odr) (j : Nat) (hj : j < 4) (W : World) : (Instr.index 41 (.agg (nums x)) (.int .i64 j)).run Tryd.prog W = .ok (.int .i64 (numO x j)) W := by
  have : j = 0 ∨ j = 1 ∨ j = 2 ∨ j = 3 := by omega
  rcases this with rfl | rfl | rfl | rfl <;> simp [Instr.index, nums, numO, go_sem]
def printV (l : List Odr) : Value := if l.all goodO then .tuple #[.string ⟨(textL l).toArray⟩, .int .i64 0] else .tuple #[.string ⟨#[]⟩, .int .i64 2]
theorem printV_good {l : List Odr} (h : goodL l) : printV l = .tuple #[.string ⟨(textL l).toArray⟩, .int .i64 0] := by
  unfold printV; rw [if_pos]; exact List.all_eq_true.2 h
theorem printV_bad {l : List Odr} {k : Nat} {o : Odr} (h : l[k]? = some o) {j : Nat} (hj : j < 4) (hf : ¬ fitsB (numO o j) = true) : printV l = .tuple #[.string ⟨#[]⟩, .int .i64 2] := by
  unfold printV; rw [if_neg]
  intro ha
  exact hf (good_fit (List.all_eq_true.1 ha o (List.mem_of_getElem? h)) j hj)

set_option maxRecDepth 100000 in
set_option maxHeartbeats 8000000 in
theorem print_calls {S : Nat → Prop} (w : World) (A : Option Addr) (n c : Nat) (l : List Odr) (hn : l.length = n) (hm : n ≤ 1000) (F : Facts w) (hS : ∀ b, S b → b < w.heap.size) (hx : k_order.Row S w A l) :
    Calls Tryd.prog 8 #[.slice A n c] w fun e w' => e = .returned (printV l) ∧ RowKit.Below w.heap.size w w' := by
  have HF := Lib.hid F
  have hbig := F.big
  have HN := Lib.hid hn
  have HX := Lib.hid hx
  clear F hx hn
  go_enter Tryd.func8, Tryd.ntmps8
  go_wp2
  go_loopw [11] (fun i wr => ∃ k : Nat, k ≤ n ∧ i = .int .i64 k ∧ goodL (l.take k) ∧ (textL (l.take k)).length ≤ 88 * k ∧ Lib.IsBuilderF 40 5 w.heap.size w.heap.size (Lib.byteCells (textL (l.take k))) wr ∧ RowKit.Below w.heap.size w wr) (fun i _ => n - (intOf i).toNat)
  case atStart => exact ⟨0, Nat.zero_le _, rfl, fun o h => absurd h (by simp), by simp [textL], isB_new w 40 5, (RowKit.Below.refl _ _).alloc (Nat.le_refl _) _⟩
  case round =>
    obtain ⟨k, hk, rfl, hg, hlen, hB, hb⟩ := hrel
    have HG := Lib.hid hg
    have HBu := Lib.hid hB
    have HB := Lib.hid hb
    have hsz := hb.size
    by_cases hlt : k < n
    · obtain ⟨x, hx⟩ : ∃ x, l[k]? = some x := ⟨_, List.getElem?_eq_getElem (by have := HN.out; omega)⟩
      obtain ⟨b, o, rfl, hSb, e0, e1, e2, e3, f0, f1, f2, f3⟩ := k_order_at (HX.out.keep (fun b h => hb.block b (hS b h))) hx
      have HK := Lib.hid hx
      have HW := Lib.hid (numO_ok f0 f1 f2 f3)
      have HLL := Lib.hid (lineL_length x f0 f1 f2 f3)
      clear hg hB hb hx f0 f1 f2 f3
      go_wp2_with (go_at_call 13; refine (numbers_calls _ _ _ _ _).mono ?_; rw [show (#[.int .i64 x.kind, .int .i64 x.a, .int .i64 x.b, .int .i64 x.c] : Array Value) = nums x from rfl]; rintro e w1 ⟨rfl, hb1⟩; have HB1 := Lib.hid (((RowKit.Below.refl wr.heap.size wr).alloc (Nat.le_refl _) _).trans (hb1.mono (by simp))); clear hb1)
      go_loopw [17] (fun i wi => ∃ j : Nat, j ≤ 4 ∧ i = .int .i64 j ∧ fitO x j ∧ Lib.IsBuilderF 40 5 w.heap.size w.heap.size (Lib.byteCells (textL (l.take k) ++ part x j)) wi ∧ RowKit.Below w.heap.size w wi) (fun i _ => 4 - (intOf i).toNat)
      case atStart => exact ⟨0, Nat.zero_le _, rfl, fun i hi => absurd hi (by omega), by rw [part, List.append_nil]; exact isB_below HBu.out HB1.out, HB.out.trans (HB1.out.mono hsz)⟩
      case round =>
        obtain ⟨j, hj, rfl, hfit, hBi, hbi⟩ := hrel
        have HFi := Lib.hid hfit
        have HBi := Lib.hid hBi
        have HBb := Lib.hid hbi
        have hsi := hbi.size
        have hpl := part_len x j
        have hbl : (Lib.byteCells (textL (l.take k) ++ part x j)).length ≤ 100000 := by
          rw [Lib.byteCells_length, List.length_append]; have := HLL.out; omega
        clear hfit hBi hbi
        by_cases hj4 : j < 4
        · have hnj := fun W => idx x j hj4 W
          have hv := HW.out j hj4
          have HPN := Lib.hid (part_next x j)
          generalize hvv : numO x j = v at *
          have HV := Lib.hid hvv
          clear hvv
          have hz : (⟨(Lib.itoa v).toArray⟩ : ByteArray).size ≤ 21 := by have := itoa_length v hv.1 hv.2; simpa [ByteArray.size] using this
          by_cases hf : fitsB v = true
          · have HFn : Hid (fitO x (j + 1)) := Lib.hid (fun i hi => by
              by_cases e : i = j
              · subst e; rw [HV.out]; exact hf
              · exact HFi.out i (by omega))
            by_cases hj0 : 0 < j
            · go_wp2_with (first
                | (go_at_call 14; refine (fits_calls _ v).mono ?_; rw [hf]; rintro e w2 ⟨rfl, hb2⟩; have HBi2 := Lib.hid (isB_below HBi.out hb2); have HB2 := Lib.hid (HBb.out.trans (hb2.mono hsi)); have hs2 := HB2.out.size; clear hb2)
                | (go_at_call 15; refine (builder_WriteByte w.heap.size w.heap.size _ 32 _ HBi2.out (by omega) hs2).mono ?_; rintro e w3 ⟨rfl, hA, hb3, _⟩; have HBi3 := Lib.hid (show Lib.IsBuilderF 40 5 w.heap.size w.heap.size (Lib.byteCells (textL (l.take k) ++ part x j ++ [32])) w3 by rw [Lib.byteCells_append]; exact .inr hA); have HB3 := Lib.hid (HB2.out.trans hb3); have hs3 := HB3.out.size; clear hA hb3)
                | (go_at_call 17; refine (strconv_Itoa v hv.1 hv.2 _ (HF.out.below HB3.out hbig).tab).mono ?_; rintro e w4 ⟨rfl, kk, os, hw4⟩; have hb4 := below_growN w3 kk os; rw [← hw4] at hb4; clear hw4; have HBi4 := Lib.hid (isB_below HBi3.out hb4); have HB4 := Lib.hid (HB3.out.trans (hb4.mono hs3)); have hs4 := HB4.out.size; clear hb4)
                | (go_at_call 16; refine (builder_WriteString w.heap.size w.heap.size _ _ _ HBi4.out (by first | (rw [Lib.byteCells_length]; simp only [List.length_append, List.length_cons, List.length_nil]; rw [Lib.byteCells_length, List.length_append] at hbl; omega)) hs4).mono ?_; rw [Lib.strCells_eq]; rintro e w5 ⟨rfl, hA, hb5, _⟩; have HBi5 := Lib.hid (show Lib.IsBuilderF 40 5 w.heap.size w.heap.size (Lib.byteCells ((textL (l.take k) ++ part x j ++ [32]) ++ Lib.itoa v)) w5 by rw [Lib.byteCells_append]; exact .inr hA); have HB5 := Lib.hid (HB4.out.trans hb5); have hs5 := HB5.out.size; clear hA hb5))
              refine ⟨⟨j + 1, by omega, by go_num, HFn.out, ?_, HB5.out⟩, by simp [intOf]; omega⟩
              rw [HPN.out hj0 hj4]
              simpa using HBi5.out
            · obtain rfl : j = 0 := by omega
              have hnj0 : ∀ W, (Instr.index 41 (.agg (nums x)) (.int .i64 0)).run Tryd.prog W = .ok (.int .i64 v) W := hnj
              go_wp2_with (first
                | (go_at_call 14; refine (fits_calls _ v).mono ?_; rw [hf]; rintro e w2 ⟨rfl, hb2⟩; have HBi2 := Lib.hid (isB_below HBi.out hb2); have HB2 := Lib.hid (HBb.out.trans (hb2.mono hsi)); have hs2 := HB2.out.size; clear hb2)
                | (go_at_call 17; refine (strconv_Itoa v hv.1 hv.2 _ (HF.out.below HB2.out hbig).tab).mono ?_; rintro e w4 ⟨rfl, kk, os, hw4⟩; have hb4 := below_growN w2 kk os; rw [← hw4] at hb4; clear hw4; have HBi4 := Lib.hid (isB_below HBi2.out hb4); have HB4 := Lib.hid (HB2.out.trans (hb4.mono hs2)); have hs4 := HB4.out.size; clear hb4)
                | (go_at_call 16; refine (builder_WriteString w.heap.size w.heap.size _ _ _ HBi4.out (by first | (rw [Lib.byteCells_length]; rw [List.length_append]; rw [Lib.byteCells_length, List.length_append] at hbl; omega)) hs4).mono ?_; rw [Lib.strCells_eq]; rintro e w5 ⟨rfl, hA, hb5, _⟩; have HBi5 := Lib.hid (show Lib.IsBuilderF 40 5 w.heap.size w.heap.size (Lib.byteCells ((textL (l.take k) ++ part x 0) ++ Lib.itoa v)) w5 by rw [Lib.byteCells_append]; exact .inr hA); have HB5 := Lib.hid (HB4.out.trans hb5); have hs5 := HB5.out.size; clear hA hb5))
              refine ⟨⟨1, by omega, by go_num, HFn.out, ?_, HB5.out⟩, by simp [intOf]⟩
              rw [part_first, HV.out]
              simpa [part] using HBi5.out
          · have hf' : fitsB v = false := by simpa using hf
            go_wp2_with (first
              | (go_at_call 14; refine (fits_calls _ v).mono ?_; rw [hf']; rintro e w2 ⟨rfl, hb2⟩; have HBi2 := Lib.hid (isB_below HBi.out hb2); have HB2 := Lib.hid (HBb.out.trans (hb2.mono hsi)); have hs2 := HB2.out.size; clear hb2))

            refine bodyPost_ret (v := .tuple #[.string ⟨#[]⟩, .int .i64 2]) (by simp [results, Tryd.results8, go_sem]) rfl ?_
            exact ⟨by rw [printV_bad HK.out hj4 (by rw [HV.out]; exact hf)], HB2.out⟩
        · obtain rfl : j = 4 := by omega
          go_wp2_with (go_at_call 15; refine (builder_WriteByte w.heap.size w.heap.size _ 10 _ HBi.out (by omega) hsi).mono ?_; rintro e w3 ⟨rfl, hA, hb3, _⟩; have HBi3 := Lib.hid (show Lib.IsBuilderF 40 5 w.heap.size w.heap.size (Lib.byteCells (textL (l.take k) ++ part x 4 ++ [10])) w3 by rw [Lib.byteCells_append]; exact .inr hA); have HB3 := Lib.hid (HBb.out.trans hb3); clear hA hb3)
          have htk : l.take (k + 1) = l.take k ++ [x] := by
            obtain ⟨hk2, hx2⟩ := List.getElem?_eq_some_iff.1 HK.out
            rw [List.take_succ_eq_append_getElem hk2, hx2]
          have htx : textL (l.take (k + 1)) = textL (l.take k) ++ lineL x := by
            rw [htk, textL_append]; simp [textL]
          refine ⟨⟨k + 1, by omega, by go_num, ?_, ?_, ?_, HB3.out⟩, by simp [intOf]; omega⟩
          · rw [htk]
            intro y hy
            rcases List.mem_append.1 hy with hy | hy
            · exact HG.out y hy
            · rw [List.mem_singleton] at hy; subst hy; exact fitO_all HFi.out
          · rw [htx, List.length_append]; have := HLL.out; omega
          · rw [htx, lineL_body]
            simpa [part] using HBi3.out
    · obtain rfl : k = n := by omega
      have El : l.take k = l := List.take_of_length_le (by have := HN.out; omega)
      rw [El] at hg hlen hB HG HBu
      go_wp2_with (go_at_call 18; refine (builder_String w.heap.size w.heap.size _ _ HBu.out hsz).mono ?_; rintro e w3 ⟨rfl, hA, hb3, _⟩)
      refine bodyPost_ret (v := .tuple #[.string ⟨(textL l).toArray⟩, .int .i64 0]) (by simp [results, Tryd.results8, go_sem]) rfl ?_
      exact ⟨by rw [printV_good HG.out], HB.out.trans hb3⟩
end Go.Proofs.YtikidknmfbhilaaDoor
