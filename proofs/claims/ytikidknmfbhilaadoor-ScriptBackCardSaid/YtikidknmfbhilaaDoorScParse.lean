/- Script: script.Parse, the loop over the lines. -/
import Derived.Test.YtikidknmfbhilaaDoorScOrder
namespace Go.Proofs.YtikidknmfbhilaaDoor
open Go.RowKit Go.Sort
set_option linter.unusedVariables false
theorem order_info : (Tryd.prog.info? 36).map (fun i => (i.zero, i.size, i.bytes)) = some (some (.agg #[.int .i64 0, .int .i64 0, .int .i64 0, .int .i64 0]), 4, 32) := by kernel_rfl
theorem orderV_some (o : Odr) : orderV (some o) = .tuple #[.agg #[.int .i64 o.kind, .int .i64 o.a, .int .i64 o.b, .int .i64 o.c], .bool true] := rfl
def ocell (o : Odr) : List Value := [.int .i64 o.kind, .int .i64 o.a, .int .i64 o.b, .int .i64 o.c]
def ocells (l : List Odr) : List Value := l.flatMap ocell
theorem ocells_snoc (l : List Odr) (o : Odr) : ocells (l ++ [o]) = ocells l ++ ocell o := by simp [ocells]
theorem ocells_length (l : List Odr) : (ocells l).length = l.length * 4 := by
  induction l with
  | nil => rfl
  | cons o l ih => rw [show ocells (o :: l) = ocell o ++ ocells l from rfl, List.length_append, ih, List.length_cons]; simp [ocell]; omega
theorem ocell_one (o : Odr) : ∀ u ∈ ocell o, u.oneCell' = true := by
  intro u hu
  simp only [ocell, List.mem_cons, List.not_mem_nil, or_false] at hu
  rcases hu with rfl | rfl | rfl | rfl <;> rfl
theorem fits_wf {v : Int} (h : fitsB v = true) : (Lit.int .i64 v).wf = true := by
  have := fits_in h
  exact WalkArith.wf_i64 ⟨by omega, by omega⟩
theorem order_flat {S : Nat → Prop} {w : World} : ∀ {l : List Odr}, goodL l → k_order.Flat S w l (ocells l)
  | [], _ => rfl
  | o :: l, h => by
    obtain ⟨g0, g1, g2, g3⟩ := (goodO_iff o).1 (h o (by simp))
    exact Rd.Flat.cons (k_order_mk o (fits_wf g0) (fits_wf g1) (fits_wf g2) (fits_wf g3)) (order_flat (fun x hx => h x (by simp [hx])))
/-- What Parse hands back: the orders; or the first bad line. -/
def Parsed (B : Nat) (w' : World) (l : List Odr) (r : List UInt8) (e : Ending) : Prop :=
  (r = [] ∧ ∃ v, e = .returned (.tuple #[v, .int .i64 0, .int .i64 0]) ∧ w'.ownsRow B 36 4 v l.length (ocells l)) ∨
  (r ≠ [] ∧ e = .returned (.tuple #[.slice none 0 0, .int .i64 ((l.length : Int) + 1), .int .i64 9]))
theorem line_count (l : List Odr) : l.length ≤ (textL l).length := by
  rw [← count_text l]; exact List.count_le_length
theorem ne_empty {s : ByteArray} : s.data.toList = [] ↔ s = ⟨#[]⟩ := by
  constructor
  · intro h; rw [← byte_eta s, h]
  · rintro rfl; rfl

set_option maxRecDepth 100000 in
set_option maxHeartbeats 8000000 in
theorem parse_calls (w : World) (s : ByteArray) (hs : s.size ≤ 1000000) (F : Facts w) :
    Calls Tryd.prog 10 #[.string s] w fun e w' => ∃ l r, s.data.toList = textL l ++ r ∧ goodL l ∧ Stop r ∧ Parsed w.heap.size w' l r e ∧ RowKit.Below w.heap.size w w' := by
  have HF := Lib.hid F
  have hbig := F.big
  clear F
  go_enter Tryd.func10, Tryd.ntmps10
  go_wp2
  go_loopw [0, 5, 6] (fun t v i wr => ∃ (l : List Odr) (q : ByteArray), t = .string q ∧ i = .int .i64 ((l.length : Int) + 1) ∧ s.data.toList = textL l ++ q.data.toList ∧ goodL l ∧ wr.ownsRow w.heap.size 36 4 v l.length (ocells l) ∧ RowKit.Below w.heap.size w wr) (fun t _ _ _ => match t with | .string q => q.size | _ => 0)
  case atStart => exact ⟨[], s, rfl, rfl, rfl, fun o h => absurd h (by simp), ⟨rfl, .inl ⟨rfl, rfl⟩⟩, RowKit.Below.refl _ _⟩
  case round =>
    obtain ⟨l, q, rfl, rfl, ht, hg, ho, hb⟩ := hrel
    have HT := Lib.hid ht
    have HG := Lib.hid hg
    have HO := Lib.hid ho
    have HB := Lib.hid hb
    have hsz := hb.size
    have hll : l.length + q.size ≤ 1000000 := by
      have h1 := line_count l
      have h2 := congrArg List.length ht
      rw [List.length_append, ← Lib.size_eq, ← Lib.size_eq] at h2
      omega
    have HF1 := Lib.hid (HF.out.below hb hbig)
    obtain ⟨m, hm⟩ := HF1.out.len
    clear ht hg ho hb
    by_cases hq : q = ⟨#[]⟩
    · subst hq
      go_wp2
      refine bodyPost_ret (v := .tuple #[u5, .int .i64 0, .int .i64 0]) (by simp [results, Tryd.results10, go_sem]) rfl ?_
      exact ⟨l, [], by rw [HT.out], HG.out, Stop.nil, .inl ⟨rfl, u5, rfl, HO.out⟩, HB.out⟩
    · have hqb : q.toList.isEmpty = false := by rw [Lib.toList_data]; exact List.isEmpty_eq_false_iff.2 (fun e => hq (ne_empty.1 e))
      rcases cut_cases q.data.toList 10 with ⟨h10, hcut⟩ | ⟨a, b, hab, h10, hcut⟩
      · have HC := Lib.hid hcut
        clear hcut
        have HN := Lib.hid h10
        clear h10
        cases hO : orderP q.data.toList with
        | none =>
          go_wp2_with (first
            | (go_at_call 19; refine (strings_Cut q ⟨#[10]⟩ m _ (by omega) hm).mono ?_; rw [show (⟨#[10]⟩ : ByteArray).data.toList = [10] from rfl, HC.out]; rw [byte_eta]; rintro e w1 ⟨rfl, n, rfl⟩)
            | (go_at_call 20; refine (order_calls _ _ (by omega) (HF1.out.below (below_drewN (RowKit.Below.refl _ _) n) (Nat.le_trans hbig hsz))).mono ?_; rw [hO, orderV]; rintro e w2 ⟨rfl, hb2⟩; have HB2 := Lib.hid ((below_drewN HB.out n).trans (hb2.mono hsz)); have hs2 := HB2.out.size; clear hb2))
          refine bodyPost_ret (v := .tuple #[.slice none 0 0, .int .i64 ((l.length : Int) + 1), .int .i64 9]) (by simp [results, Tryd.results10, go_sem]) rfl ?_
          exact ⟨l, q.data.toList, HT.out, HG.out, stop_no10 HN.out, .inr ⟨fun e => hq (ne_empty.1 e), rfl⟩, HB2.out.alloc hs2 _⟩
        | some o =>
          go_wp2_with (first
            | (go_at_call 19; refine (strings_Cut q ⟨#[10]⟩ m _ (by omega) hm).mono ?_; rw [show (⟨#[10]⟩ : ByteArray).data.toList = [10] from rfl, HC.out]; rw [byte_eta]; rintro e w1 ⟨rfl, n, rfl⟩)
            | (go_at_call 20; refine (order_calls _ _ (by omega) (HF1.out.below (below_drewN (RowKit.Below.refl _ _) n) (Nat.le_trans hbig hsz))).mono ?_; rw [hO, orderV_some]; rintro e w2 ⟨rfl, hb2⟩; have HB2 := Lib.hid ((below_drewN HB.out n).trans (hb2.mono hsz)); have hs2 := HB2.out.size; clear hb2))
          refine bodyPost_ret (v := .tuple #[.slice none 0 0, .int .i64 ((l.length : Int) + 1), .int .i64 9]) (by simp [results, Tryd.results10, go_sem]) rfl ?_
          exact ⟨l, q.data.toList, HT.out, HG.out, stop_no10 HN.out, .inr ⟨fun e => hq (ne_empty.1 e), rfl⟩, HB2.out.alloc hs2 _⟩
      · have HC := Lib.hid hcut
        have HN := Lib.hid h10
        have HAB := Lib.hid hab
        have hal : a.length + b.length + 1 = q.size := by rw [Lib.size_eq, hab]; simp; omega
        have hsa : (⟨a.toArray⟩ : ByteArray).size = a.length := by rw [Lib.size_eq]
        have hsb : (⟨b.toArray⟩ : ByteArray).size = b.length := by rw [Lib.size_eq]
        clear hcut h10 hab
        cases hO : orderP a with
        | none =>
          go_wp2_with (first
            | (go_at_call 19; refine (strings_Cut q ⟨#[10]⟩ m _ (by omega) hm).mono ?_; rw [show (⟨#[10]⟩ : ByteArray).data.toList = [10] from rfl, HC.out]; rintro e w1 ⟨rfl, n, rfl⟩)
            | (go_at_call 20; refine (order_calls _ _ (by omega) (HF1.out.below (below_drewN (RowKit.Below.refl _ _) n) (Nat.le_trans hbig hsz))).mono ?_; rw [show (⟨a.toArray⟩ : ByteArray).data.toList = a from rfl, hO, orderV]; rintro e w2 ⟨rfl, hb2⟩; have HB2 := Lib.hid ((below_drewN HB.out n).trans (hb2.mono hsz)); have hs2 := HB2.out.size; clear hb2))
          refine bodyPost_ret (v := .tuple #[.slice none 0 0, .int .i64 ((l.length : Int) + 1), .int .i64 9]) (by simp [results, Tryd.results10, go_sem]) rfl ?_
          exact ⟨l, a ++ 10 :: b, by rw [HT.out, HAB.out], HG.out, stop_bad HN.out hO, .inr ⟨by simp, rfl⟩, HB2.out.alloc hs2 _⟩
        | some o =>
          go_wp2_with (first
            | (go_at_call 19; refine (strings_Cut q ⟨#[10]⟩ m _ (by omega) hm).mono ?_; rw [show (⟨#[10]⟩ : ByteArray).data.toList = [10] from rfl, HC.out]; rintro e w1 ⟨rfl, n, rfl⟩)
            | (go_at_call 20; refine (order_calls _ _ (by omega) (HF1.out.below (below_drewN (RowKit.Below.refl _ _) n) (Nat.le_trans hbig hsz))).mono ?_; rw [show (⟨a.toArray⟩ : ByteArray).data.toList = a from rfl, hO, orderV_some]; rintro e w2 ⟨rfl, hb2⟩; have HO2 := Lib.hid (own_below HO.out ((below_drewN (RowKit.Below.refl wr.heap.size wr) n).trans hb2)); have HB2 := Lib.hid ((below_drewN HB.out n).trans (hb2.mono hsz)); have hs2 := HB2.out.size; clear hb2)
            | (at_builtin; refine list_app _ rfl (.tmp 34) (.tmp 36) _ rfl 36 Tryd.underlying22 order_info rfl (by decide) (by decide) w.heap.size (n := l.length) (xs := ocells l) rfl (by exact (HO2.out.alloc _).alloc _) (news := ocell o) (by rfl) (by rfl) (by exact lie_new _ _ _ (by simp)) (ocell_one o) (by omega) (by simp; omega) ?_; intro v' w3 hown hg hat; have HB3 := Lib.hid (grown_below ((HB2.out.alloc hs2 (Go.Obj.cells (ocell o).toArray 36 (0, 0))).alloc (by simp; omega) (Go.Obj.cells (ocell o).toArray 36 (0, 0))) hg (by simp; omega) (own_ge HO2.out)); have HO3 := Lib.hid hown; clear hown hg hat))
          obtain ⟨rfl, hgo⟩ := (orderP_iff a o).1 hO
          refine ⟨⟨l ++ [o], ⟨b.toArray⟩, rfl, by simp, ?_, ?_, ?_, HB3.out⟩, ?_⟩
          · rw [HT.out, HAB.out, textL_append, textL_cons, lineL_body]; simp [textL]
          · intro x hx
            rcases List.mem_append.1 hx with hx | hx
            · exact HG.out x hx
            · rw [List.mem_singleton] at hx; subst hx; exact hgo
          · rw [ocells_snoc, List.length_append]; exact HO3.out
          · show (⟨b.toArray⟩ : ByteArray).size < q.size
            rw [hsb]; omega
end Go.Proofs.YtikidknmfbhilaaDoor
