/- verify.Check, of modules whose code goes straight on. -/
import Derived.Test.YtdmmjckhpagibaaGreatDoorMcFn
namespace Go.Proofs.YtdmmjckhpagibaaGreatDoor
open Go.RowKit Go.Sort
set_option linter.unusedVariables false
theorem OfC.up {w0 w1 : World} {m : Md} {B0 B1 B2 B3 B4 : Option Addr} {m0 m1 m2 m3 m4 d0 d1 d2 d3 d4 : Nat} {f : Fn} {i : Ins} {st : List Ty} {r : List Ty × List Ty} {ok : Bool} (h : OfC w0 m B0 B1 B2 B3 B4 m0 m1 m2 m3 m4 d0 d1 d2 d3 d4 f i st r ok) (hb : Below w0.heap.size w0 w1) : OfC w1 m B0 B1 B2 B3 B4 m0 m1 m2 m3 m4 d0 d1 d2 d3 d4 f i st r ok :=
  fun S W hW => h S W (hb.trans (hW.mono hb.size))
theorem Straight.up {w0 w1 : World} {m : Md} {B0 B1 B2 B3 B4 : Option Addr} {m0 m1 m2 m3 m4 d0 d1 d2 d3 d4 : Nat} {f : Fn} {sts : List (List Ty)} (h : Straight w0 m B0 B1 B2 B3 B4 m0 m1 m2 m3 m4 d0 d1 d2 d3 d4 f sts) (hb : Below w0.heap.size w0 w1) : Straight w1 m B0 B1 B2 B3 B4 m0 m1 m2 m3 m4 d0 d1 d2 d3 d4 f sts :=
  ⟨h.len, h.pos, h.big, h.zero, fun k i st h1 h2 => by
    obtain ⟨r, h3, h4⟩ := h.step k i st h1 h2
    exact ⟨r, h3.up hb, h4⟩⟩
/-- Blocks of shapes, and of types. -/
def ShT (w : World) : Nat → Prop := fun b => (∃ cs, w.heap[b]? = some (.cells cs 142 (0, 0))) ∨ TyB w b
theorem ShT.lt {w : World} {b : Nat} (h : ShT w b) : b < w.heap.size := by
  rcases h with ⟨cs, h⟩ | h
  · exact blk_lt h
  · exact h.lt
theorem ShT.ne {w : World} {b g : Nat} {t : TypeId} {cs : Array Value} (h : ShT w b) (hg : w.heap[g]? = some (.cells cs t (0, 0))) (ht : 23 ≠ t) (hs : 142 ≠ t) : b ≠ g := by
  rcases h with ⟨c, h⟩ | h
  · exact blk_ne h hg hs
  · exact h.ne hg ht
theorem ShT.move {w w' : World} {b : Nat} (h : ShT w b) (hk : w'.heap[b]? = w.heap[b]?) : ShT w' b := by
  rcases h with ⟨c, h⟩ | ⟨c, h⟩
  · exact .inl ⟨c, hk.trans h⟩
  · exact .inr ⟨c, hk.trans h⟩
theorem flat_move {w w' : World} {xs : List (List Shp)} {vs : List Value} (h : (Rd.slice k_shape).Flat (ShT w) w xs vs) (hk : ∀ b, ShT w b → w'.heap[b]? = w.heap[b]?) : (Rd.slice k_shape).Flat (ShT w') w' xs vs :=
  (h.keep hk).mono (fun b hb => hb.move (hk b hb))
theorem ShB.row {w : World} {B : Nat} {shs : List Shp} (h : ShB w B shs) : k_shape.Row (ShT w) w (some ⟨B, 0, none⟩) shs := by
  obtain ⟨cs, h1, h2, h3⟩ := h
  intro hp
  refine ⟨B, 0, rfl, .inl ⟨cs, h1⟩, fun i hi => ?_⟩
  obtain ⟨A, c, h4, h5, h6, h7, h8⟩ := h3 i _ (List.getElem?_eq_getElem hi)
  refine ⟨_, k_shape_mk (shs[i]) h6 (by omega) (h8.mono (fun b hT => .inr hT)), fun j v hj => ?_⟩
  rw [k_shape_sz]
  rw [blk_cell h1]
  match j with
  | 0 => injection hj with hj; subst hj; simpa using h4
  | 1 => injection hj with hj; subst hj; simpa [Nat.add_comm] using h5
  | j + 2 => cases hj
theorem shapes_info : (Tryz.prog.info? 117).map (fun i => (i.zero, i.size, i.bytes)) = some (some (.slice none 0 0), 1, 24) := by kernel_rfl
/-- Every function's code goes straight on. -/
structure AllStr (w0 : World) (m : Md) (B0 B1 B2 B3 B4 : Option Addr) (m0 m1 m2 m3 m4 d0 d1 d2 d3 d4 : Nat) (stss : List (List (List Ty))) : Prop where
  len : stss.length = m.funcs.length
  each : ∀ (n : Nat) (f : Fn) (sts : List (List Ty)), m.funcs[n]? = some f → stss[n]? = some sts → Straight w0 m B0 B1 B2 B3 B4 m0 m1 m2 m3 m4 d0 d1 d2 d3 d4 f sts ∧ f.args.length ≤ 1000 ∧ f.locals.length ≤ 1000
  many : m.funcs.length ≤ 1000
def seenL (sts : List (List Ty)) : List Shp := sts.map fun s => ⟨true, s⟩
def CheckOut (w : World) (stss : List (List (List Ty))) (e : Ending) (w' : World) : Prop := ∃ A c, e = .returned (.tuple #[.slice A stss.length c, .int .i64 0, .int .i64 0, .int .i64 0]) ∧ (Rd.slice k_shape).Row (fun b => b < w'.heap.size) w' A (stss.map seenL) ∧ stss.length ≤ c ∧ Below w.heap.size w w'
set_option maxRecDepth 100000 in
set_option maxHeartbeats 8000000 in
theorem check_calls {S : Nat → Prop} (w : World) (m : Md) (B0 B1 B2 B3 B4 : Option Addr) (m0 m1 m2 m3 m4 d0 d1 d2 d3 d4 : Nat) (h : MRow S w m B0 B1 B2 B3 B4 m0 m1 m2 m3 m4) (hm : mainL m = true) (stss : List (List (List Ty))) (hA : AllStr w m B0 B1 B2 B3 B4 m0 m1 m2 m3 m4 d0 d1 d2 d3 d4 stss) :
    Calls Tryz.prog 25 #[.agg #[.slice B0 m0 d0, .slice B1 m1 d1, .slice B2 m2 d2, .slice B3 m3 d3, .slice B4 m4 d4]] w fun e w' => CheckOut w stss e w' := by
  have hs0 : saneL m = 0 := by
    simp only [mainL, Bool.and_eq_true, decide_eq_true_eq] at hm
    exact hm.1
  have hV := below_a1 w (Obj.cells #[.slice B0 m0 d0, .slice B1 m1 d1, .slice B2 m2 d2, .slice B3 m3 d3, .slice B4 m4 d4] 34)
  have HV := Lib.hid hV
  have HX := Lib.hid (blk_new w (Obj.cells #[.slice B0 m0 d0, .slice B1 m1 d1, .slice B2 m2 d2, .slice B3 m3 d3, .slice B4 m4 d4] 34))
  have HM := Lib.hid h
  have HA := Lib.hid hA
  have HMn := Lib.hid hm
  have HSn := Lib.hid hs0
  have hm1 : m1 ≤ 1000 := by have := hA.many; have := h.e1; omega
  have HE1 := Lib.hid h.e1
  clear h hA hm hs0 hV
  go_enter Tryz.func25, Tryz.ntmps25
  go_wp2_with (first
    | (go_at_call 48; refine (sane_calls _ m B0 B1 B2 B3 B4 m0 m1 m2 m3 m4 d0 d1 d2 d3 d4 (HM.out.below HV.out)).mono ?_; rintro e w1 ⟨he, hb1⟩; rw [HSn.out] at he; subst he; have HX1 := Lib.hid (blk_below HX.out hb1 (blk_lt HX.out)); obtain ⟨x0, x1, x2, x3, x4⟩ := cells5 HX1.out; have HB1 := Lib.hid (HV.out.trans (hb1.mono HV.out.size)); clear hb1)
    | (go_at_call 49; refine (main_calls _ m B0 B1 B2 B3 B4 m0 m1 m2 m3 m4 d0 d1 d2 d3 d4 (HM.out.below HB1.out)).mono ?_; rintro e w2 ⟨he, hb2⟩; rw [HMn.out] at he; subst he; have HX2 := Lib.hid (blk_below HX1.out hb2 (blk_lt HX1.out)); obtain ⟨y0, y1, y2, y3, y4⟩ := cells5 HX2.out; have HB2 := Lib.hid (HB1.out.trans (hb2.mono HB1.out.size)); clear hb2))
  go_loopw [2, 24] (fun mp ix wr => ∃ (k : Nat) (A : Option Addr) (c : Nat) (vs : List Value), k ≤ m1 ∧ ix = .int .i64 k ∧ mp = .slice A k c ∧ Hid (wr.ownsRow w.heap.size 117 1 (.slice A k c) k vs) ∧ Hid ((Rd.slice k_shape).Flat (ShT wr) wr ((stss.take k).map seenL) vs) ∧ Hid (∀ u ∈ vs, u.oneCell' = true) ∧ Hid (Below w.heap.size w wr) ∧ Hid (wr.heap[w.heap.size]? = some (.cells #[.slice B0 m0 d0, .slice B1 m1 d1, .slice B2 m2 d2, .slice B3 m3 d3, .slice B4 m4 d4] 34 (0, 0)))) (fun _ ix _ => m1 - (intOf ix).toNat)
  case atStart => exact ⟨0, none, 0, [], Nat.zero_le _, rfl, rfl, Lib.hid ⟨rfl, .inl ⟨rfl, rfl⟩⟩, Lib.hid (Rd.Flat.nil _ _ _), Lib.hid (fun u hu => by cases hu), HB2, HX2⟩
  case round =>
    obtain ⟨k, A, c, vs, hk, rfl, rfl, HO, HFl, HOne, HB, HXr⟩ := hrel
    by_cases hlt : k < m1
    · obtain ⟨f, hf⟩ : ∃ f, m.funcs[k]? = some f := ⟨_, List.getElem?_eq_getElem (by rw [HE1.out]; exact hlt)⟩
      obtain ⟨sts, hst⟩ : ∃ sts, stss[k]? = some sts := ⟨_, List.getElem?_eq_getElem (by rw [HA.out.len, HE1.out]; exact hlt)⟩
      obtain ⟨hstr, hl0, hl3⟩ := HA.out.each k f sts hf hst
      obtain ⟨z0, z1, z2, z3, z4⟩ := cells5 HXr.out
      have hbx := blk_new wr (Obj.cells #[.slice B0 m0 d0, .slice B1 m1 d1, .slice B2 m2 d2, .slice B3 m3 d3, .slice B4 m4 d4, .int .i64 (k : Int), .slice none 0 0, .slice none 0 0] 120)
      have KF := Lib.hid (function_calls (fi := k) (below_a1 wr (Obj.cells #[.slice B0 m0 d0, .slice B1 m1 d1, .slice B2 m2 d2, .slice B3 m3 d3, .slice B4 m4 d4, .int .i64 (k : Int), .slice none 0 0, .slice none 0 0] 120)) (Nat.le_refl _) hbx (HM.out.below HB.out) f hf (by omega) hl0 hl3 sts (hstr.up HB.out))
      have HSt := Lib.hid hst
      clear hf hst hstr hl0 hl3 hbx x0 x1 x2 x3 x4 y0 y1 y2 y3 y4
      go_wp2_with (first
        | (go_at_call 50; go_must (refine KF.out.mono ?_; rintro e w5 ⟨rfl, B5, TA5, tc5, hck⟩; have HCk := Lib.hid hck; have HBk := Lib.hid hck.below; have s6 : w5.cell? ⟨wr.heap.size, 6, none⟩ = some (.slice (some ⟨B5, 0, none⟩) (seenL sts).length (seenL sts).length) := blk_cell hck.box 6; clear hck))
        | (at_builtin; go_must (refine list_app _ rfl (.tmp 41) (.tmp 46) _ rfl 117 Tryz.underlying70 shapes_info rfl (by decide) (by decide) w.heap.size (n := k) (xs := vs) rfl (by exact (own_below HO.out HBk.out).alloc _) (news := [.slice (some ⟨B5, 0, none⟩) (seenL sts).length (seenL sts).length]) rfl rfl (by exact lie_new [.slice (some ⟨B5, 0, none⟩) (seenL sts).length (seenL sts).length] _ _ rfl) (by intro u hu; rw [List.mem_singleton.1 hu]; rfl) (by omega) (Nat.le_trans HB.out.size (Nat.le_trans HBk.out.size (below_a1 w5 _).size)) ?_; intro v' w6 hown hg hat; obtain ⟨A6, c6, rfl, _, _, _⟩ := own_shape hown; have HO6 := Lib.hid hown; have HG6 := Lib.hid hg; clear hown hg hat)))
      have hbw5 := HB.out.trans (HBk.out.mono HB.out.size)
      have hmov : ∀ b, ShT wr b → w6.heap[b]? = wr.heap[b]? := fun b hT => (HG6.out.block b (Nat.lt_of_lt_of_le hT.lt (Nat.le_trans HBk.out.size (below_a1 w5 _).size)) (fun e => by
          rcases hT with ⟨cs, hc⟩ | ⟨cs, hc⟩
          · exact own_ne_blk HO.out hc (by decide) e.symm
          · exact own_ne_blk HO.out hc (by decide) e.symm)).trans ((Below.heap_alloc _ _ b (Nat.lt_of_lt_of_le hT.lt HBk.out.size)).trans (HBk.out.block b hT.lt))
      have hmov5 : ∀ b, ShT w5 b → w6.heap[b]? = w5.heap[b]? := fun b hT => (HG6.out.block b (Nat.lt_of_lt_of_le hT.lt (below_a1 w5 _).size) (fun e => by
          have ho := own_below HO.out HBk.out
          rcases hT with ⟨cs, hc⟩ | ⟨cs, hc⟩
          · exact own_ne_blk ho hc (by decide) e.symm
          · exact own_ne_blk ho hc (by decide) e.symm)).trans (Below.heap_alloc _ _ b hT.lt)
      have hnew : (Rd.slice k_shape).Flat (ShT w5) w5 [seenL sts] [.slice (some ⟨B5, 0, none⟩) (seenL sts).length (seenL sts).length] := Rd.Flat.one ⟨_, rfl, some ⟨B5, 0, none⟩, (seenL sts).length, rfl, Nat.le_refl _, by have := HCk.out.sl; simp only [seenL]; omega, HCk.out.sh.row⟩
      have htake : (stss.take (k + 1)).map seenL = (stss.take k).map seenL ++ [seenL sts] := by rw [List.take_add_one, HSt.out, List.map_append]; rfl
      have HF6 := Lib.hid ((flat_move hnew hmov5).append (flat_move HFl.out hmov))
      rw [← htake] at HF6
      have HB6 := Lib.hid (grown_below (hbw5.alloc hbw5.size _) HG6.out (Nat.le_trans HB.out.size (Nat.le_trans HBk.out.size (below_a1 w5 _).size)) (own_row_ge HO.out))
      have HX6 : Hid (w6.heap[w.heap.size]? = some (.cells #[.slice B0 m0 d0, .slice B1 m1 d1, .slice B2 m2 d2, .slice B3 m3 d3, .slice B4 m4 d4] 34 (0, 0))) := Lib.hid ((HG6.out.block _ (Nat.lt_of_lt_of_le (blk_lt HXr.out) (Nat.le_trans HBk.out.size (below_a1 w5 _).size)) (fun e => own_ne_blk HO.out HXr.out (by decide) e.symm)).trans ((Below.heap_alloc _ _ _ (Nat.lt_of_lt_of_le (blk_lt HXr.out) HBk.out.size)).trans (blk_below HXr.out HBk.out (blk_lt HXr.out))))
      clear hbw5 hmov hmov5 hnew htake
      go_roundw
      case rel => exact ⟨k + 1, A6, c6, _, by omega, by go_num, rfl, HO6, HF6, Lib.hid (fun u hu => (List.mem_append.1 hu).elim (HOne.out u) (fun hu => by rw [List.mem_singleton.1 hu]; rfl)), HB6, HX6⟩
      case measure => simp [intOf]; omega
    · obtain rfl : m1 = k := by omega
      have hall : (stss.take m1).map seenL = stss.map seenL := by rw [List.take_of_length_le (by rw [HA.out.len, HE1.out]; exact Nat.le_refl _)]
      have hf := HFl.out
      rw [hall] at hf
      have HF := Lib.hid hf
      have hl : stss.length = m1 := by rw [HA.out.len, HE1.out]
      have HLn := Lib.hid hl
      clear hf hall hl
      go_wp2
      refine bodyPost_ret (v := .tuple #[.slice A m1 c, .int .i64 0, .int .i64 0, .int .i64 0]) (by simp [results, Tryz.results25, go_sem]) rfl ?_
      obtain ⟨A', c', e, h1, h2, h3⟩ := Rd.Sl.of_own (d := Rd.slice k_shape) (S := fun b => b < wr.heap.size) (xs := stss.map seenL) (by rw [List.length_map, HLn.out]; exact HO.out) (fun g hg => (HO.out.lt g hg).2) (HF.out.mono (fun b hT => hT.lt)) (by rw [List.length_map, HLn.out]; omega)
      cases e
      refine ⟨A, c, by rw [HLn.out], h3, ?_, HB.out⟩
      rw [List.length_map] at h1
      exact h1
end Go.Proofs.YtdmmjckhpagibaaGreatDoor
