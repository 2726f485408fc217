/- host.Wants and the reference's. -/
import Derived.Test.YtmadgnfnljnggaaHostMore
namespace Go.Proofs.Ytmadgnfnljnggaa
open Go.RowKit
set_option linter.unusedVariables false

theorem wants_calls {S : Nat → Prop} (w : World) (R F : Value) (A : Option Addr) (c : Nat) (I T : Value) (l : List Imp) (hm : l.length ≤ 1000000) (hS : ∀ b, S b → b < w.heap.size) (hr : k_imp.Row S w A l) :
   Calls Try.prog 24 #[.agg #[R, F, .slice A l.length c, I, T]] w fun e w' => e = .returned (.int .i64 (wants l).val) ∧ Below w.heap.size w w' := by
  go_enter Try.func24, Try.ntmps24
  go_wp2
  go_loopw [3, 9] (fun nn i wr => ∃ k : Nat, k ≤ l.length ∧ i = .int .i64 k ∧ nn = .int .i64 ((l.take k).foldl want1 B4.none).val ∧ Below w.heap.size w wr) (fun _ i _ => l.length - (intOf i).toNat)
  case atStart => exact ⟨0, Nat.zero_le _, rfl, rfl, (Below.refl _ _).alloc (Nat.le_refl _) _⟩
  case round =>
    obtain ⟨k, hk, rfl, rfl, hb⟩ := hrel
    by_cases hlt : k < l.length
    · obtain ⟨x, hx⟩ : ∃ x, l[k]? = some x := ⟨_, List.getElem?_eq_getElem hlt⟩
      have hn := Lib.hid (foldl_take want1 B4.none l k x hx)
      obtain ⟨b, o, A0, c0, rfl, hSb, c0, c1, c2, _⟩ := k_imp_at (hr.keep (fun b hb' => hb.block b (hS b hb'))) hx
      clear hx
      obtain ⟨args, ⟨kd, nn⟩⟩ := x
      simp only at c0 c1 c2
      by_cases h5 : kd = 5
      · subst h5
        by_cases h0 : 0 ≤ nn
        · by_cases h1 : nn < 4
          · have hor := Lib.hid (B4.or_set ((l.take k).foldl want1 B4.none) nn h0 h1)
            go_wp2
            go_roundw
            case rel => exact ⟨k + 1, by omega, by go_num, by rw [hor.out, hn.out]; simp [want1], hb.alloc hb.size _⟩
            case measure => simp [intOf]; omega
          · have hfar := Lib.hid (B4.set_far (s := (l.take k).foldl want1 B4.none) (k := nn) (by omega))
            go_wp2
            go_roundw
            case rel => exact ⟨k + 1, by omega, by go_num, by rw [hn.out]; simp only [want1, if_true]; rw [hfar.out], hb.alloc hb.size _⟩
            case measure => simp [intOf]; omega
        · have hfar := Lib.hid (B4.set_far (s := (l.take k).foldl want1 B4.none) (k := nn) (by omega))
          go_wp2
          go_roundw
          case rel => exact ⟨k + 1, by omega, by go_num, by rw [hn.out]; simp only [want1, if_true]; rw [hfar.out], hb.alloc hb.size _⟩
          case measure => simp [intOf]; omega
      · have h5b : (kd == 5) = false := by simpa using h5
        have h5' := Lib.hid h5
        clear h5
        go_wp2
        go_roundw
        case rel => exact ⟨k + 1, by omega, by go_num, by rw [hn.out]; simp only [want1]; rw [if_neg h5'.out], hb.alloc hb.size _⟩
        case measure => simp [intOf]; omega
    · have hall := Lib.hid (foldl_all want1 B4.none l k hk hlt)
      go_wp2
      go_ret
      exact ⟨by rw [hall.out]; rfl, hb⟩

theorem wantHans_take (l : List Imp) (k : Nat) (x : Imp) (hx : l[k]? = some x) : wantHans (l.take (k + 1)) = wantHans (l.take k) ++ (if x.ret.kind = 5 then [⟨x.ret.n, 0, true⟩] else []) := by
  obtain ⟨hk, rfl⟩ := List.getElem?_eq_some_iff.1 hx
  unfold wantHans
  rw [List.take_succ_eq_append_getElem hk, List.flatMap_append]; simp
theorem wantHans_len (l : List Imp) : (wantHans l).length ≤ l.length := by
  unfold wantHans
  induction l with
  | nil => simp
  | cons x l ih =>
    rw [List.flatMap_cons, List.length_append, List.length_cons]
    have : (if x.ret.kind = 5 then [(⟨x.ret.n, 0, true⟩ : Han)] else []).length ≤ 1 := by split <;> simp
    omega

theorem refWants_calls {S : Nat → Prop} (w : World) (R F : Value) (A : Option Addr) (c : Nat) (I T : Value) (l : List Imp) (hm : l.length ≤ 1000000) (hS : ∀ b, S b → b < w.heap.size) (hr : k_imp.Row S w A l) :
   Calls Try.prog 25 #[.agg #[R, F, .slice A l.length c, I, T]] w fun e w' => e = .returned (.int .i64 (wants l).val) ∧ Below w.heap.size w w' := by
  go_enter Try.func25, Try.ntmps25
  go_wp2
  go_loopw [4] (fun i wr => ∃ (k : Nat) (v : Value), k ≤ l.length ∧ i = .int .i64 k ∧ Below w.heap.size w wr ∧ Hid (wr.heap[w.heap.size]? = some (.cells #[R, F, .slice A l.length c, I, T] 50 (0, 0))) ∧
      Hid (wr.heap[w.heap.size + 1]? = some (.cells #[.slice none 0 0, .slice none 0 0, v, .int .i64 0, .int .i64 0, .int .i64 0, .int .u64 0] 27 (0, 0))) ∧ Hid (wr.ownsRow w.heap.size 35 3 v (wantHans (l.take k)).length (hcells (wantHans (l.take k)))) ∧ Hid (∀ h ∈ wantHans (l.take k), h.wf)) (fun i _ => l.length - (intOf i).toNat)
  case atStart => exact ⟨0, _, Nat.zero_le _, rfl, ((Below.refl _ _).alloc (Nat.le_refl _) _).alloc (by simp) _, blk_alloc (blk_new w _) _, blk_new2 w _ _, World.ownsRow_nil _ _ _ _, Lib.hid (by simp [wantHans])⟩
  case round =>
    obtain ⟨k, v, hk, rfl, hb, hbox, hst, hown, hwf⟩ := hrel
    have hc1 := blk_cell hbox.out 2
    have hc2 := blk_cell hst.out 2
    simp only [List.getElem?_toArray, List.getElem?_cons_zero, List.getElem?_cons_succ] at hc1 hc2
    by_cases hlt : k < l.length
    · obtain ⟨x, hx⟩ : ∃ x, l[k]? = some x := ⟨_, List.getElem?_eq_getElem hlt⟩
      have hn := Lib.hid (wantHans_take l k x hx)
      obtain ⟨b, o, A0, c0, rfl, hSb, c0, c1, c2, _, _, _, _, wfn⟩ := k_imp_at (hr.keep (fun b hb' => hb.block b (hS b hb'))) hx
      clear hx
      obtain ⟨args, ⟨kd, nn⟩⟩ := x
      simp only at c0 c1 c2 wfn
      by_cases h5 : kd = 5
      · subst h5
        have hlen := wantHans_len (l.take k)
        have hs1 : w.heap.size + 1 < wr.heap.size := blk_lt hst.out
        have hs2 : wr.heap.size ≠ w.heap.size + 1 := by omega
        have hs3 : wr.heap.size ≠ w.heap.size := by omega
        rw [List.length_take, Nat.min_eq_left hk] at hlen
        have hne := Lib.hid (own_ne_blk hown.out hst.out (by decide))
        go_wp2
        go_region_law (refine step_app _ rfl (.tmp 21) (.tmp 30) _ rfl 35 Try.underlying24 han_info rfl (by decide) (by decide) w.heap.size (n := (wantHans (l.take k)).length) (xs := hcells (wantHans (l.take k))) rfl (by exact own_drew (World.ownsRow.alloc hown.out _)) (news := [.int .i64 nn, .int .u64 0, .bool true]) rfl rfl (by exact lie_drew (lie_new _ _ _ rfl)) (by intro u hu; simp at hu; rcases hu with rfl | rfl | rfl <;> rfl) (by omega) (by have := hb.size; simp; omega) ?_; intro v' w3 hown' hg hat; have hHB := Lib.hid (grown_below (w' := w3) (Below.drew (hb.alloc hb.size _)) hg (by have := hb.size; simp; omega) (own_ge hown.out)); obtain ⟨A3, c3, rfl, h3, h4, h5⟩ := own_shape hown'; have hst3 := blk_grown (blk_drew (blk_alloc hst.out _)) hg (Ne.symm hne.out); have hcc := blk_cell hst3 2; have hff := blk_frozen hst3 2; have HST := Lib.hid hst3; have HOWN := Lib.hid hown'; have HG := Lib.hid hg; clear hst3 hown' hg hat; simp only [List.getElem?_toArray, List.getElem?_cons_zero, List.getElem?_cons_succ] at hcc)
        all_goals
          have hnb := own_ne_blk hown.out hbox.out (by decide)
          have HBX := Lib.hid (blk_grown (blk_drew (blk_alloc hbox.out _)) HG.out (Ne.symm hnb))
          have hn2 := own_ne_blk HOWN.out HST.out (by decide)
          have HO2 := Lib.hid (own_set_far (p := ⟨w.heap.size + 1, 2, none⟩) HOWN.out hn2 (.slice A3 ((wantHans (l.take k)).length + 1) c3))
          have hn3 : wantHans (l.take (k + 1)) = wantHans (l.take k) ++ [⟨nn, 0, true⟩] := by rw [hn.out]; simp
          have HN := Lib.hid hn3
          clear hn hn3 hn2 hnb
          go_wp2
          go_roundw
          case rel => exact ⟨k + 1, _, by omega, by go_num, hHB.out.setCell (by simp) _, blk_far HBX.out (by simp) _, blk_set HST.out _ _, by rw [HN.out, hcells_append, List.length_append]; exact HO2, Lib.hid (by
            rw [HN.out]
            intro h hh
            rcases List.mem_append.1 hh with hh | hh
            · exact hwf.out h hh
            · obtain rfl := List.mem_singleton.1 hh
              exact ⟨wfn, rfl⟩)⟩
          case measure => simp [intOf]; omega
      · have h5b : (kd == 5) = false := by simpa using h5
        have h5' := Lib.hid h5
        clear h5
        have he := Lib.hid (show wantHans (l.take (k + 1)) = wantHans (l.take k) by rw [hn.out]; simp only; rw [if_neg h5'.out, List.append_nil])
        go_wp2
        go_roundw
        case rel => exact ⟨k + 1, v, by omega, by go_num, hb, hbox, hst, Lib.hid (by rw [he.out]; exact hown.out), Lib.hid (by rw [he.out]; exact hwf.out)⟩
        case measure => simp [intOf]; omega
    · have he : l.take k = l := by rw [List.take_of_length_le (by omega)]
      rw [he] at hown hwf
      have hlen := wantHans_len l
      obtain ⟨A3, c3, rfl, h3, h4, h5⟩ := own_shape hown.out
      obtain ⟨_, _, e, _, _, hrow⟩ := Rd.Sl.of_own (d := k_han) (S := (· < wr.heap.size)) hown.out (fun g hg => (hown.out.lt g hg).2) (han_flat.2 ⟨rfl, hwf.out⟩) (by omega)
      cases e
      have hc := blk_cell hst.out
      have hw := Lib.hid (wants_hans l)
      clear he hc2
      go_wp2_with (go_at_call 17; refine (refNeeds_calls (S := (· < wr.heap.size)) _ _ _ _ _ _ _ _ _ (wantHans l) (by omega) (by intro b hb; exact hb) (by exact hrow)).mono ?_; rintro e w4 ⟨he, hb4⟩; obtain rfl := he.trans (ret_int (congrArg B4.val hw.out)); clear he)
      go_ret
      exact ⟨rfl, hb.trans (hb4.mono hb.size)⟩
end Go.Proofs.Ytmadgnfnljnggaa
