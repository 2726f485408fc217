/- module.functions. Printed by gen_mcwr.py of this repo. -/
import Derived.Test.YtdmmjckhpagibaaGreatDoorMcRec
import Derived.Lib.AppendStr
namespace Go.Proofs.YtdmmjckhpagibaaGreatDoor
open Go.RowKit Go.Sort
set_option linter.unusedVariables false
def funcB (f : Fn) : List Int := ((typesB f.args ++ kindB f.ret) ++ typesB f.locals) ++ (varB f.code.length ++ f.code.flatMap instB)
def funcsB (xs : List Fn) : List Int := varB xs.length ++ xs.flatMap funcB
set_option maxRecDepth 100000 in
set_option maxHeartbeats 4000000 in
theorem functions_calls {S : Nat → Prop} (w : World) (B0 B1 B2 B3 B4 : Option Addr) (m0 m1 m2 m3 m4 d0 d1 d2 d3 d4 : Nat) (xs : List Fn) (hm : xs.length = m1) (hm2 : m1 ≤ 100000) (hT0 : ∀ x ∈ xs, x.args.length ≤ 1000 ∧ x.locals.length ≤ 1000 ∧ x.code.length ≤ 1000) (hT : (funcsB xs).length ≤ 1000000) (hS : ∀ b, S b → b < w.heap.size) (row : k_func.Row S w B1 xs) :
    Calls Tryz.prog 100 #[.agg #[.slice B0 m0 d0, .slice B1 m1 d1, .slice B2 m2 d2, .slice B3 m3 d3, .slice B4 m4 d4]] w fun e w' => Part w (funcsB xs) e w' := by
  have HN := Lib.hid hm
  have HT := Lib.hid hT
  have HS := Lib.hid (start_far w hS (Obj.cells #[.slice B0 m0 d0, .slice B1 m1 d1, .slice B2 m2 d2, .slice B3 m3 d3, .slice B4 m4 d4] 34) (Obj.cells #[.slice none 0 0] 233))
  have hV : Below w.heap.size w ((w.alloc (Obj.cells #[.slice B0 m0 d0, .slice B1 m1 d1, .slice B2 m2 d2, .slice B3 m3 d3, .slice B4 m4 d4] 34)).alloc (Obj.cells #[.slice none 0 0] 233)) := below_al2 (Below.refl _ _)
  have HR := Lib.hid (row.keep (fun b h => hV.block b (hS b h)))
  have HV := Lib.hid hV
  have HX := Lib.hid (blk_alloc (blk_new w (Obj.cells #[.slice B0 m0 d0, .slice B1 m1 d1, .slice B2 m2 d2, .slice B3 m3 d3, .slice B4 m4 d4] 34)) (Obj.cells #[.slice none 0 0] 233))
  have HW0 := Lib.hid (Wr.start w (Obj.cells #[.slice B0 m0 d0, .slice B1 m1 d1, .slice B2 m2 d2, .slice B3 m3 d3, .slice B4 m4 d4] 34))
  have b1 : ((w.alloc (Obj.cells #[.slice B0 m0 d0, .slice B1 m1 d1, .slice B2 m2 d2, .slice B3 m3 d3, .slice B4 m4 d4] 34)).alloc (Obj.cells #[.slice none 0 0] 233)).cell? ⟨w.heap.size, 1, none⟩ = some (.slice B1 m1 d1) := blk_cell HX.out 1
  have hpx : w.heap.size < ((w.alloc (Obj.cells #[.slice B0 m0 d0, .slice B1 m1 d1, .slice B2 m2 d2, .slice B3 m3 d3, .slice B4 m4 d4] 34)).alloc (Obj.cells #[.slice none 0 0] 233)).heap.size := by simp; omega
  clear hm hT hS row hV
  go_enter Tryz.func100, Tryz.ntmps100
  go_wp2_with fail
  generalize ((w.alloc (Obj.cells #[.slice B0 m0 d0, .slice B1 m1 d1, .slice B2 m2 d2, .slice B3 m3 d3, .slice B4 m4 d4] 34)).alloc (Obj.cells #[.slice none 0 0] 233)) = V at *
  go_wp2_with (go_at_call 146; refine (wcount_calls V _ 0 0 none [] HW0.out m1 (by omega) (by omega)).mono ?_; rintro e w1 ⟨A1, n1, c1, rfl, hW⟩; have HW1 := Lib.hid hW; have q1 : w1.cell? ⟨w.heap.size, 1, none⟩ = some (.slice B1 m1 d1) := blk_cell (hW.box HX.out (by omega) (fun h => by cases h)) 1; clear hW)
  go_loopw [5, 18] (fun _ ix wr => ∃ (k n' c' : Nat) (A' : Option Addr), k ≤ m1 ∧ ix = .int .i64 k ∧ Hid (Wrs V (w.heap.size + 1) (.slice none 0 0) wr A' n' c' (varB m1 ++ (xs.take k).flatMap funcB))) (fun _ ix _ => m1 - (intOf ix).toNat)
  case atStart => exact ⟨0, _, _, _, Nat.zero_le _, rfl, Lib.hid (by simpa using HW1.out)⟩
  case round =>
    obtain ⟨k, n2, c2, A2, hk, rfl, HW⟩ := hrel
    by_cases hlt : k < m1
    · obtain ⟨x, hx⟩ : ∃ x, xs[k]? = some x := ⟨_, List.getElem?_eq_getElem (by have := HN.out; omega)⟩
      have hlen : n2 + (funcB x).length ≤ 1000000 := by
        have h1 := HW.out.wr.len
        have h2 := flat_le funcB xs (k + 1)
        have h3 := HT.out
        rw [flat_take funcB hx] at h2
        simp only [funcsB, List.length_append, HN.out] at h1 h2 h3
        omega
      have HX2 := Lib.hid (flat_take funcB hx)
      obtain ⟨b, o, G0, g0, G3, g3, G4, g4, rfl, hSb, e0, e1, e2, e3, e4, l0, m00, r0, f1, f2, l3, m3', r3, l4, m4', r4⟩ := k_func_at (HW.out.row HS.out HR.out) hx
      obtain ⟨hx3, hx4, hx5⟩ := hT0 x (List.mem_of_getElem? hx)
      have hbA := (Below.refl wr.heap.size wr).alloc (Nat.le_refl _) (Obj.cells #[.slice G0 x.args.length g0, .int .i64 x.ret.kind, .int .i64 x.ret.n, .slice G3 x.locals.length g3, .slice G4 x.code.length g4] 54)
      have HWA := Lib.hid (HW.out.below hbA)
      have HF := Lib.hid (HWA.out.far HS.out)
      have HXA := Lib.hid (blk_new wr (Obj.cells #[.slice G0 x.args.length g0, .int .i64 x.ret.kind, .int .i64 x.ret.n, .slice G3 x.locals.length g3, .slice G4 x.code.length g4] 54))
      have HL : Hid (n2 + ((typesB x.args).length + (kindB x.ret).length + (typesB x.locals).length + (varB x.code.length).length + (x.code.flatMap instB).length) ≤ 1000000) := Lib.hid (by simp only [funcB, List.length_append] at hlen; omega)
      have HR0 := Lib.hid (r0.keep (fun b h => hbA.block b (HW.out.far HS.out b h).1))
      have HR3 := Lib.hid (r3.keep (fun b h => hbA.block b (HW.out.far HS.out b h).1))
      have HR4 := Lib.hid (r4.keep (fun b h => hbA.block b (HW.out.far HS.out b h).1))
      have KP := Lib.hid (fun W => put_any W x.ret f1 f2)
      have hpl := blk_lt HW.out.wr.box
      have ba0 := (blk_cell HXA.out 0 : _ = some (Value.slice G0 x.args.length g0))
      have hwl : wr.heap.size < (wr.alloc (Obj.cells #[.slice G0 x.args.length g0, .int .i64 x.ret.kind, .int .i64 x.ret.n, .slice G3 x.locals.length g3, .slice G4 x.code.length g4] 54)).heap.size := by simp
      obtain ⟨pre, hpre⟩ : ∃ pre, pre = varB m1 ++ (xs.take k).flatMap funcB := ⟨_, rfl⟩
      rw [← hpre] at HWA
      have HPre := Lib.hid hpre
      clear hx hSb r0 r3 r4 hlen f1 f2 hbA hpre
      go_wp2_with fail
      generalize wr.alloc (Obj.cells #[.slice G0 x.args.length g0, .int .i64 x.ret.kind, .int .i64 x.ret.n, .slice G3 x.locals.length g3, .slice G4 x.code.length g4] 54) = WA at *
      go_wp2_with (go_at_call 147; refine (wtypes_calls WA _ n2 c2 A2 _ HWA.out.wr G0 _ g0 x.args rfl (by omega) (by have := HL.out; have := HWA.out.wr.len; omega) HF.out HR0.out).mono ?_; rintro e w3 ⟨A3, n3, c3, rfl, hW⟩; have HX3 := Lib.hid (hW.box HXA.out (by omega) (by exact HWA.out.wr.ne HXA.out (by decide))); have HW3 := Lib.hid (HWA.out.step hW); clear hW)
      have b1 := (blk_cell HX3.out 1 : _ = some (Value.int .i64 x.ret.kind))
      have b2 := (blk_cell HX3.out 2 : _ = some (Value.int .i64 x.ret.n))
      have b3 := (blk_cell HW3.out.wr.box 0 : _ = some (Value.slice A3 n3 c3))
      have hlen : n3 + (kindB x.ret).length ≤ 1000000 := by
        have h1 := HW3.out.wr.len
        have h2 := HWA.out.wr.len
        have h3 := HL.out
        simp only [List.length_append] at h1 h2
        omega
      have HIB : Hid (funcB x = ((typesB x.args ++ kindB x.ret) ++ typesB x.locals) ++ (varB x.code.length ++ x.code.flatMap instB)) := Lib.hid rfl
      have HXL : Hid (wr.heap.size ≠ w.heap.size + 1) := Lib.hid (by omega)
      clear hpl hwl ba0
      generalize kindB x.ret = ys at *
      go_region_law (
        first
          | (go_simp; go_at_call 148; refine (KP.out _).mono ?_; rintro e w9 ⟨C, d9, rfl, ho, hb9⟩; have hB9 : Below w3.heap.size w3 w9 := ⟨hb9.os, hb9.tape, hb9.output, hb9.size, hb9.block⟩; have H9 := Lib.hid (HW3.out.wr.below hB9); have c9 : w9.cell? ⟨w.heap.size + 1, 0, none⟩ = some (.slice A3 n3 c3) := blk_cell H9.out.box 0; have HL := Lib.hid (own_lie ho); have HB9 := Lib.hid hB9; clear ho hb9 hB9)
          | (refine step_app _ (by rfl) (.tmp 30) (.tmp 33) _ (by rfl) 5 Tryz.underlying134 byte_info rfl (by decide) (by decide) 0 (n := n3) (by rfl) (by exact H9.out.own) (news := bcells ys) (by rfl) (bcells_length _) (by exact HL.out) (bcells_one _) (by omega) (Nat.zero_le _) ?_; intro v' w11 hown hg hat; obtain ⟨A6, c6, rfl, _, _, _⟩ := own_shape hown; have HQ := Lib.hid (HW3.out.step (HW3.out.wr.put HB9.out hown (by first | rfl | exact bcells_one_len _) rfl hg hat)); have hx11 := blk_grown H9.out.box hg (fun e => own_ne_blk H9.out.own H9.out.box (by decide) e.symm); have c11 := blk_cell hx11 0; have f11 := blk_frozen hx11 0; have HX5 := Lib.hid (blk_far (blk_grown (blk_below HX3.out HB9.out (blk_lt HX3.out)) hg (fun e => own_ne_blk H9.out.own (blk_below HX3.out HB9.out (blk_lt HX3.out)) (by decide) e.symm)) (p := ⟨w.heap.size + 1, 0, none⟩) HXL.out (.slice A6 (n3 + ys.length) c6)); clear hown hg hat hx11))
      all_goals
        clear c9 c11 f11 b1 b2 b3 H9 HL HB9
        generalize w11.setCell ⟨w.heap.size + 1, 0, none⟩ (.slice A6 (n3 + ys.length) c6) = w5 at *
        have b4 := (blk_cell HX5.out 3 : _ = some (Value.slice G3 x.locals.length g3))
        have hw5 := blk_lt HQ.out.wr.box
        have HR5 := Lib.hid (HWA.out.row2 HQ.out HS.out HR3.out)
        have HF5 := Lib.hid (HQ.out.far HS.out)
        have hl5 : (pre ++ typesB x.args ++ ys).length + (typesB x.locals).length ≤ 1000000 := by
          have h2 := HWA.out.wr.len
          have h3 := HL.out
          simp only [List.length_append]
          omega
        go_wp2_with (go_at_call 147; refine (wtypes_calls w5 _ _ c6 A6 _ HQ.out.wr G3 _ g3 x.locals rfl (by omega) hl5 HF5.out HR5.out).mono ?_; rintro e w7 ⟨A7, n7, c7, rfl, hW⟩; have HX7 := Lib.hid (hW.box HX5.out HXL.out (by exact HQ.out.wr.ne HX5.out (by decide))); have HW7 := Lib.hid (HQ.out.step hW); have b5 := (blk_cell (hW.box HX5.out HXL.out (by exact HQ.out.wr.ne HX5.out (by decide))) 4 : _ = some (Value.slice G4 x.code.length g4)); clear hW)
        have hl7 : n7 + (varB x.code.length).length + (x.code.flatMap instB).length ≤ 1000000 := by
          have h1 := HW7.out.wr.len
          have h2 := HWA.out.wr.len
          have h3 := HL.out
          simp only [List.length_append] at h1 h2
          omega
        obtain ⟨P7, hP7⟩ : ∃ P7, P7 = pre ++ typesB x.args ++ ys ++ typesB x.locals := ⟨_, rfl⟩
        rw [← hP7] at HW7
        have HP7 := Lib.hid hP7
        have HNC : Hid (x.code.length = x.code.length) := Lib.hid rfl
        have HR7 := Lib.hid (HWA.out.row2 HW7.out HS.out HR4.out)
        clear hP7 b4 hl5 HR5 HF5
        go_wp2_with (go_at_call 146; refine (wcount_calls w7 _ n7 c7 A7 _ HW7.out.wr x.code.length (by omega) (by omega)).mono ?_; rintro e w8 ⟨A8, n8, c8, rfl, hW⟩; have HX8 := Lib.hid (hW.box HX7.out HXL.out (by exact HW7.out.wr.ne HX7.out (by decide))); have HW8 := Lib.hid (HW7.out.step hW); have b6 := (blk_cell (hW.box HX7.out HXL.out (by exact HW7.out.wr.ne HX7.out (by decide))) 4 : _ = some (Value.slice G4 x.code.length g4)); clear hW)
        go_loopw [7, 49] (fun _ jx wi => ∃ (j n' c' : Nat) (A' : Option Addr), j ≤ x.code.length ∧ jx = .int .i64 j ∧ Hid (Wrs V (w.heap.size + 1) (.slice none 0 0) wi A' n' c' ((P7 ++ varB x.code.length) ++ (x.code.take j).flatMap instB))) (fun _ jx _ => x.code.length - (intOf jx).toNat)
        case atStart => exact ⟨0, _, _, _, Nat.zero_le _, rfl, Lib.hid (by simpa using HW8.out)⟩
        case round =>
          obtain ⟨j, n9, c9, A9, hj, rfl, HWi⟩ := hrel
          have HRi := Lib.hid (HW7.out.row2 HWi.out HS.out HR7.out)
          by_cases hlj : j < x.code.length
          · obtain ⟨y, hy⟩ : ∃ y, x.code[j]? = some y := ⟨_, List.getElem?_eq_getElem (by have := HNC.out; omega)⟩
            obtain ⟨bi, oi, rfl, hSi, i0, i1, i2, j0, j1, j2⟩ := k_instr_at HRi.out hy
            have hli : n9 + (instB y).length ≤ 1000000 := by
              have h1 := HWi.out.wr.len
              have h2 := flat_le instB x.code (j + 1)
              have h4 := HW7.out.wr.len
              rw [flat_take instB hy] at h2
              simp only [List.length_append] at h1 h2
              omega
            have HY2 := Lib.hid (flat_take instB hy)
            have KP2 := Lib.hid (fun W => put_calls W y.op y.a y.b)
            have HAi := Lib.hid (HWi.out.below ((Below.refl _ _).alloc (Nat.le_refl _) (Obj.cells #[.int .i64 y.op, .int .i64 y.a, .int .i64 y.b] 27)))
            have hpi := blk_lt HWi.out.wr.box
            have bi3 := (blk_cell HAi.out.wr.box 0 : _ = some (Value.slice A9 n9 c9))
            have hni := blk_new wr (Obj.cells #[.int .i64 y.op, .int .i64 y.a, .int .i64 y.b] 27)
            have bi0 := (blk_cell hni 0 : _ = some (Value.int .i64 y.op))
            have bi1 := (blk_cell hni 1 : _ = some (Value.int .i64 y.a))
            have bi2 := (blk_cell hni 2 : _ = some (Value.int .i64 y.b))
            clear hy hSi j0 j1 j2 hni HRi hl7 b5 b6 hw5
            go_wp2_with fail
            generalize wr.alloc (Obj.cells #[.int .i64 y.op, .int .i64 y.a, .int .i64 y.b] 27) = WI at *
            generalize instB y = zs at *
            go_region_law (
              first
                | (go_simp; go_at_call 149; refine (KP2.out _).mono ?_; rintro e w9 ⟨C, d9, rfl, ho, hb9⟩; have hB9 : Below WI.heap.size WI w9 := ⟨hb9.os, hb9.tape, hb9.output, hb9.size, hb9.block⟩; have H9 := Lib.hid (HAi.out.wr.below hB9); have c9 : w9.cell? ⟨w.heap.size + 1, 0, none⟩ = some (.slice A9 n9 c9) := blk_cell H9.out.box 0; have HL := Lib.hid (own_lie ho); have HB9 := Lib.hid hB9; clear ho hb9 hB9)
                | (refine step_app _ (by rfl) (.tmp 57) (.tmp 59) _ (by rfl) 5 Tryz.underlying134 byte_info rfl (by decide) (by decide) 0 (n := n9) (by rfl) (by exact H9.out.own) (news := bcells zs) (by rfl) (bcells_length _) (by exact HL.out) (bcells_one _) (by omega) (Nat.zero_le _) ?_; intro v' w11 hown hg hat; obtain ⟨A6, c6, rfl, _, _, _⟩ := own_shape hown; have HQi := Lib.hid (HAi.out.step (HAi.out.wr.put HB9.out hown (by first | rfl | exact bcells_one_len _) rfl hg hat)); have hx11 := blk_grown H9.out.box hg (fun e => own_ne_blk H9.out.own H9.out.box (by decide) e.symm); have c11 := blk_cell hx11 0; have f11 := blk_frozen hx11 0; clear hown hg hat hx11))
            all_goals
              clear c11 f11 bi3 bi0 bi1 bi2
              generalize w11.setCell ⟨w.heap.size + 1, 0, none⟩ (.slice A6 (n9 + zs.length) c6) = wS at *
              go_wp2
              go_roundw
              case rel => exact ⟨j + 1, _, _, _, by omega, by go_num, Lib.hid (by rw [HY2.out, ← List.append_assoc]; exact HQi.out)⟩
              case measure => simp [intOf]; omega
          · have HE : Hid (varB m1 ++ (xs.take (k + 1)).flatMap funcB = (P7 ++ varB x.code.length) ++ (x.code.take j).flatMap instB) := Lib.hid (by rw [HX2.out, HIB.out, flat_all instB (by have := HNC.out; omega), HP7.out, HPre.out]; simp only [List.append_assoc])
            clear hl7 b5 b6 hw5
            go_wp2
            go_roundw
            case rel => exact ⟨k + 1, _, _, _, by omega, by go_num, Lib.hid (by rw [HE.out]; exact HWi.out)⟩
            case measure => simp [intOf]; omega
    · have hcb := blk_cell HW.out.wr.box 0
      go_wp2
      go_ret
      exact Wrs.done (by have := HW.out; rw [flat_all funcB (by have := HN.out; omega)] at this; unfold funcsB; rw [HN.out]; exact this) HV.out (by omega)
end Go.Proofs.YtdmmjckhpagibaaGreatDoor
