/- module.records, module.imports, module.numbers, module.texts. Printed by gen_mcwr.py of this repo. -/
import Derived.Test.YtdmmjckhpagibaaGreatDoorMcWr
import Derived.Lib.AppendStr
namespace Go.Proofs.YtdmmjckhpagibaaGreatDoor
open Go.RowKit Go.Sort
set_option linter.unusedVariables false

theorem own_up {w : World} {base base' : Nat} {e : TypeId} {size : Nat} {v : Value} {n : Nat} {xs : List Value} (h : w.ownsRow base e size v n xs) (hg : ∀ g, v.ownBlock = some g → base' ≤ g) : w.ownsRow base' e size v n xs := by
  refine ⟨h.1, ?_⟩
  rcases h.2 with h2 | ⟨g, cap, cur, h1, h2, h3⟩
  · exact .inl h2
  · exact .inr ⟨g, cap, cur, h1, hg g (by rw [h1]; rfl), h3⟩
/-- What a part of a module comes to. -/
def Part (w : World) (L : List Int) (e : Ending) (w' : World) : Prop := ∃ A c, e = .returned (.slice A L.length c) ∧ w'.ownsRow w.heap.size 5 1 (.slice A L.length c) L.length (bcells L) ∧ Below w.heap.size w w'
theorem Wrs.done {w W1 w' : World} {p n c : Nat} {A : Option Addr} {L : List Int} (h : Wrs W1 p (.slice none 0 0) w' A n c L) (hb : Below w.heap.size w W1) (hp : w.heap.size ≤ p) : Part w L (.returned (.slice A n c)) w' := by
  have hn := h.wr.len
  subst hn
  refine ⟨A, c, rfl, own_up h.wr.own (fun g hg => ?_), hb.trans (h.keep.below hb.size (fun x hx hf => ?_))⟩
  · rcases h.src g hg with h2 | h2
    · cases h2
    · exact Nat.le_trans hb.size h2
  · rcases hf with rfl | hf
    · omega
    · cases hf
theorem Wr.start (w : World) (o : Go.Obj) : Wr ((w.alloc o).alloc (Obj.cells #[.slice none 0 0] 233)) (w.heap.size + 1) none 0 0 [] := ⟨blk_new2 w o _, ⟨by simp [bcells], .inl ⟨rfl, rfl⟩⟩, rfl⟩
theorem start_far (w : World) {S : Nat → Prop} (hS : ∀ b, S b → b < w.heap.size) (o o' : Go.Obj) : ∀ b, S b → b < ((w.alloc o).alloc o').heap.size ∧ ¬ WF (w.heap.size + 1) (.slice none 0 0) b := fun b h => ⟨Nat.lt_of_lt_of_le (hS b h) (by simp; omega), fun hf => by
  have := hS b h
  rcases hf with hf | hf
  · omega
  · cases hf⟩
theorem Wrs.far {S : Nat → Prop} {w w1 : World} {p n c : Nat} {A : Option Addr} {bs : List Int} {v0 : Value} (h : Wrs w p v0 w1 A n c bs) (hS : ∀ b, S b → b < w.heap.size ∧ ¬ WF p v0 b) : ∀ b, S b → b < w1.heap.size ∧ ¬ WF p (.slice A n c) b := fun b hb => ⟨Nat.lt_of_lt_of_le (hS b hb).1 h.keep.size, fun hf => by
  rcases hf with hf | hf
  · exact (hS b hb).2 (.inl hf)
  · rcases h.src b hf with h2 | h2
    · exact (hS b hb).2 (.inr h2)
    · have := (hS b hb).1; omega⟩
theorem Wrs.row2 {α : Type} {d : Rd α} {S : Nat → Prop} {w wa wb : World} {p na ca nb cb : Nat} {v0 : Value} {A A' B : Option Addr} {bs bs' : List Int} {xs : List α} (h : Wrs w p v0 wa A na ca bs) (k : Wrs w p v0 wb A' nb cb bs') (hS : ∀ b, S b → b < w.heap.size ∧ ¬ WF p v0 b) (row : d.Row S wa B xs) : d.Row S wb B xs := row.keep (fun b hb => (k.keep.block b (hS b hb).1 (hS b hb).2).trans (h.keep.block b (hS b hb).1 (hS b hb).2).symm)
def recsB (xs : List (List Ty)) : List Int := varB xs.length ++ xs.flatMap typesB
def impB (i : Imp) : List Int := typesB i.args ++ kindB i.ret
def impsB (xs : List Imp) : List Int := varB xs.length ++ xs.flatMap impB
def numB (v : Int) : List Int := fixB v.toNat 8
def numsB (xs : List Int) : List Int := varB xs.length ++ xs.flatMap numB
def strB (s : ByteArray) : List Int := s.data.toList.map fun b => (b.toNat : Int)
def textB (s : ByteArray) : List Int := varB s.size ++ strB s
def textsB (xs : List ByteArray) : List Int := varB xs.length ++ xs.flatMap textB
set_option maxRecDepth 100000 in
set_option maxHeartbeats 4000000 in
theorem records_calls {S : Nat → Prop} (w : World) (B0 B1 B2 B3 B4 : Option Addr) (m0 m1 m2 m3 m4 d0 d1 d2 d3 d4 : Nat) (xs : List (List Ty)) (hm : xs.length = m0) (hm2 : m0 ≤ 100000) (hT0 : ∀ x ∈ xs, x.length ≤ 1000) (hT : (recsB xs).length ≤ 1000000) (hS : ∀ b, S b → b < w.heap.size) (row : (Rd.slice k_ty).Row S w B0 xs) :
    Calls Tryz.prog 99 #[.agg #[.slice B0 m0 d0, .slice B1 m1 d1, .slice B2 m2 d2, .slice B3 m3 d3, .slice B4 m4 d4]] w fun e w' => Part w (recsB xs) e w' := by
  have HN := Lib.hid hm
  have HT := Lib.hid hT
  have HS := Lib.hid (start_far w hS (Obj.cells #[.slice B0 m0 d0, .slice B1 m1 d1, .slice B2 m2 d2, .slice B3 m3 d3, .slice B4 m4 d4] 34) (Obj.cells #[.slice none 0 0] 233))
  have hV : Below w.heap.size w ((w.alloc (Obj.cells #[.slice B0 m0 d0, .slice B1 m1 d1, .slice B2 m2 d2, .slice B3 m3 d3, .slice B4 m4 d4] 34)).alloc (Obj.cells #[.slice none 0 0] 233)) := below_al2 (Below.refl _ _)
  have HR := Lib.hid (row.keep (fun b h => hV.block b (hS b h)))
  have HV := Lib.hid hV
  have HX := Lib.hid (blk_alloc (blk_new w (Obj.cells #[.slice B0 m0 d0, .slice B1 m1 d1, .slice B2 m2 d2, .slice B3 m3 d3, .slice B4 m4 d4] 34)) (Obj.cells #[.slice none 0 0] 233))
  have HW0 := Lib.hid (Wr.start w (Obj.cells #[.slice B0 m0 d0, .slice B1 m1 d1, .slice B2 m2 d2, .slice B3 m3 d3, .slice B4 m4 d4] 34))
  have b0 : ((w.alloc (Obj.cells #[.slice B0 m0 d0, .slice B1 m1 d1, .slice B2 m2 d2, .slice B3 m3 d3, .slice B4 m4 d4] 34)).alloc (Obj.cells #[.slice none 0 0] 233)).cell? ⟨w.heap.size, 0, none⟩ = some (.slice B0 m0 d0) := blk_cell HX.out 0
  have hpx : w.heap.size < ((w.alloc (Obj.cells #[.slice B0 m0 d0, .slice B1 m1 d1, .slice B2 m2 d2, .slice B3 m3 d3, .slice B4 m4 d4] 34)).alloc (Obj.cells #[.slice none 0 0] 233)).heap.size := by simp; omega
  clear hm hT hS row hV
  go_enter Tryz.func99, Tryz.ntmps99
  go_wp2_with fail
  generalize ((w.alloc (Obj.cells #[.slice B0 m0 d0, .slice B1 m1 d1, .slice B2 m2 d2, .slice B3 m3 d3, .slice B4 m4 d4] 34)).alloc (Obj.cells #[.slice none 0 0] 233)) = V at *
  go_wp2_with (go_at_call 146; refine (wcount_calls V _ 0 0 none [] HW0.out m0 (by omega) (by omega)).mono ?_; rintro e w1 ⟨A1, n1, c1, rfl, hW⟩; have HW1 := Lib.hid hW; have q0 : w1.cell? ⟨w.heap.size, 0, none⟩ = some (.slice B0 m0 d0) := blk_cell (hW.box HX.out (by omega) (fun h => by cases h)) 0; clear hW)
  go_loopw [5, 16] (fun _ ix wr => ∃ (k n' c' : Nat) (A' : Option Addr), k ≤ m0 ∧ ix = .int .i64 k ∧ Hid (Wrs V (w.heap.size + 1) (.slice none 0 0) wr A' n' c' (varB m0 ++ (xs.take k).flatMap typesB))) (fun _ ix _ => m0 - (intOf ix).toNat)
  case atStart => exact ⟨0, _, _, _, Nat.zero_le _, rfl, Lib.hid (by simpa using HW1.out)⟩
  case round =>
    obtain ⟨k, n2, c2, A2, hk, rfl, HW⟩ := hrel
    by_cases hlt : k < m0
    · obtain ⟨x, hx⟩ : ∃ x, xs[k]? = some x := ⟨_, List.getElem?_eq_getElem (by have := HN.out; omega)⟩
      have hlen : n2 + (typesB x).length ≤ 1000000 := by
        have h1 := HW.out.wr.len
        have h2 := flat_le typesB xs (k + 1)
        have h3 := HT.out
        rw [flat_take typesB hx] at h2
        simp only [recsB, List.length_append, HN.out] at h1 h2 h3
        omega
      have HX2 := Lib.hid (flat_take typesB hx)
      obtain ⟨b, o, B', c', rfl, hSb, e0, l0, m00, r0⟩ := row_slice_at (HW.out.row HS.out HR.out) hx
      have hx3 := hT0 x (List.mem_of_getElem? hx)
      have HF := Lib.hid (HW.out.far HS.out)
      have HL : Hid (n2 + (typesB x).length ≤ 1000000) := Lib.hid hlen
      have HR0 := Lib.hid r0
      clear hx hSb r0 hlen
      go_wp2_with (go_at_call 147; refine (wtypes_calls wr _ n2 c2 A2 _ HW.out.wr B' _ c' x rfl (by omega) (by have := HL.out; have := HW.out.wr.len; omega) HF.out HR0.out).mono ?_; rintro e w3 ⟨A3, n3, c3, rfl, hW⟩; have HW3 := Lib.hid (HW.out.step hW); clear hW)
      go_roundw
      case rel => exact ⟨k + 1, _, _, _, by omega, by go_num, Lib.hid (by rw [HX2.out, ← List.append_assoc]; exact HW3.out)⟩
      case measure => simp [intOf]; omega
    · have hcb := blk_cell HW.out.wr.box 0
      go_wp2
      go_ret
      exact Wrs.done (by have := HW.out; rw [flat_all typesB (by have := HN.out; omega)] at this; unfold recsB; rw [HN.out]; exact this) HV.out (by omega)
set_option maxRecDepth 100000 in
set_option maxHeartbeats 4000000 in
theorem imports_calls {S : Nat → Prop} (w : World) (B0 B1 B2 B3 B4 : Option Addr) (m0 m1 m2 m3 m4 d0 d1 d2 d3 d4 : Nat) (xs : List Imp) (hm : xs.length = m2) (hm2 : m2 ≤ 100000) (hT0 : ∀ x ∈ xs, x.args.length ≤ 1000) (hT : (impsB xs).length ≤ 1000000) (hS : ∀ b, S b → b < w.heap.size) (row : k_imp.Row S w B2 xs) :
    Calls Tryz.prog 101 #[.agg #[.slice B0 m0 d0, .slice B1 m1 d1, .slice B2 m2 d2, .slice B3 m3 d3, .slice B4 m4 d4]] w fun e w' => Part w (impsB xs) e w' := by
  have HN := Lib.hid hm
  have HT := Lib.hid hT
  have HS := Lib.hid (start_far w hS (Obj.cells #[.slice B0 m0 d0, .slice B1 m1 d1, .slice B2 m2 d2, .slice B3 m3 d3, .slice B4 m4 d4] 34) (Obj.cells #[.slice none 0 0] 233))
  have hV : Below w.heap.size w ((w.alloc (Obj.cells #[.slice B0 m0 d0, .slice B1 m1 d1, .slice B2 m2 d2, .slice B3 m3 d3, .slice B4 m4 d4] 34)).alloc (Obj.cells #[.slice none 0 0] 233)) := below_al2 (Below.refl _ _)
  have HR := Lib.hid (row.keep (fun b h => hV.block b (hS b h)))
  have HV := Lib.hid hV
  have HX := Lib.hid (blk_alloc (blk_new w (Obj.cells #[.slice B0 m0 d0, .slice B1 m1 d1, .slice B2 m2 d2, .slice B3 m3 d3, .slice B4 m4 d4] 34)) (Obj.cells #[.slice none 0 0] 233))
  have HW0 := Lib.hid (Wr.start w (Obj.cells #[.slice B0 m0 d0, .slice B1 m1 d1, .slice B2 m2 d2, .slice B3 m3 d3, .slice B4 m4 d4] 34))
  have b2 : ((w.alloc (Obj.cells #[.slice B0 m0 d0, .slice B1 m1 d1, .slice B2 m2 d2, .slice B3 m3 d3, .slice B4 m4 d4] 34)).alloc (Obj.cells #[.slice none 0 0] 233)).cell? ⟨w.heap.size, 2, none⟩ = some (.slice B2 m2 d2) := blk_cell HX.out 2
  have hpx : w.heap.size < ((w.alloc (Obj.cells #[.slice B0 m0 d0, .slice B1 m1 d1, .slice B2 m2 d2, .slice B3 m3 d3, .slice B4 m4 d4] 34)).alloc (Obj.cells #[.slice none 0 0] 233)).heap.size := by simp; omega
  clear hm hT hS row hV
  go_enter Tryz.func101, Tryz.ntmps101
  go_wp2_with fail
  generalize ((w.alloc (Obj.cells #[.slice B0 m0 d0, .slice B1 m1 d1, .slice B2 m2 d2, .slice B3 m3 d3, .slice B4 m4 d4] 34)).alloc (Obj.cells #[.slice none 0 0] 233)) = V at *
  go_wp2_with (go_at_call 146; refine (wcount_calls V _ 0 0 none [] HW0.out m2 (by omega) (by omega)).mono ?_; rintro e w1 ⟨A1, n1, c1, rfl, hW⟩; have HW1 := Lib.hid hW; have q2 : w1.cell? ⟨w.heap.size, 2, none⟩ = some (.slice B2 m2 d2) := blk_cell (hW.box HX.out (by omega) (fun h => by cases h)) 2; clear hW)
  go_loopw [5, 16] (fun _ ix wr => ∃ (k n' c' : Nat) (A' : Option Addr), k ≤ m2 ∧ ix = .int .i64 k ∧ Hid (Wrs V (w.heap.size + 1) (.slice none 0 0) wr A' n' c' (varB m2 ++ (xs.take k).flatMap impB))) (fun _ ix _ => m2 - (intOf ix).toNat)
  case atStart => exact ⟨0, _, _, _, Nat.zero_le _, rfl, Lib.hid (by simpa using HW1.out)⟩
  case round =>
    obtain ⟨k, n2, c2, A2, hk, rfl, HW⟩ := hrel
    by_cases hlt : k < m2
    · obtain ⟨x, hx⟩ : ∃ x, xs[k]? = some x := ⟨_, List.getElem?_eq_getElem (by have := HN.out; omega)⟩
      have hlen : n2 + (impB x).length ≤ 1000000 := by
        have h1 := HW.out.wr.len
        have h2 := flat_le impB xs (k + 1)
        have h3 := HT.out
        rw [flat_take impB hx] at h2
        simp only [impsB, List.length_append, HN.out] at h1 h2 h3
        omega
      have HX2 := Lib.hid (flat_take impB hx)
      obtain ⟨b, o, B', c', rfl, hSb, e0, e1, e2, l0, m00, r0, f1, f2⟩ := k_imp_at (HW.out.row HS.out HR.out) hx
      have hx3 := hT0 x (List.mem_of_getElem? hx)
      have hbA := (Below.refl wr.heap.size wr).alloc (Nat.le_refl _) (Obj.cells #[.slice B' x.args.length c', .int .i64 x.ret.kind, .int .i64 x.ret.n] 68)
      have HWA := Lib.hid (HW.out.below hbA)
      have HF := Lib.hid (HWA.out.far HS.out)
      have HXA := Lib.hid (blk_new wr (Obj.cells #[.slice B' x.args.length c', .int .i64 x.ret.kind, .int .i64 x.ret.n] 68))
      have hlen2 : n2 + (typesB x.args).length + (kindB x.ret).length ≤ 1000000 := by simp only [impB, List.length_append] at hlen; omega
      have HL : Hid (n2 + (typesB x.args).length + (kindB x.ret).length ≤ 1000000) := Lib.hid hlen2
      have HR0 := Lib.hid (r0.keep (fun b h => hbA.block b (HW.out.far HS.out b h).1))
      have KP := Lib.hid (fun W => put_any W x.ret f1 f2)
      have hpl := blk_lt HW.out.wr.box
      have ba0 := (blk_cell HXA.out 0 : _ = some (Value.slice B' x.args.length c'))
      have hwl : wr.heap.size < (wr.alloc (Obj.cells #[.slice B' x.args.length c', .int .i64 x.ret.kind, .int .i64 x.ret.n] 68)).heap.size := by simp
      clear hx hSb r0 hlen hlen2 f1 f2 hbA
      go_wp2_with fail
      generalize wr.alloc (Obj.cells #[.slice B' x.args.length c', .int .i64 x.ret.kind, .int .i64 x.ret.n] 68) = WA at *
      go_wp2_with (go_at_call 147; refine (wtypes_calls WA _ n2 c2 A2 _ HWA.out.wr B' _ c' x.args rfl (by omega) (by have := HL.out; have := HWA.out.wr.len; omega) HF.out HR0.out).mono ?_; rintro e w3 ⟨A3, n3, c3, rfl, hW⟩; have HX3 := Lib.hid (hW.box HXA.out (by omega) (by exact HWA.out.wr.ne HXA.out (by decide))); have HW3 := Lib.hid (HWA.out.step hW); clear hW)
      have b1 := (blk_cell HX3.out 1 : _ = some (Value.int .i64 x.ret.kind))
      have b2 := (blk_cell HX3.out 2 : _ = some (Value.int .i64 x.ret.n))
      have b3 := (blk_cell HW3.out.wr.box 0 : _ = some (Value.slice A3 n3 c3))
      have hlen : n3 + (kindB x.ret).length ≤ 1000000 := by
        have h1 := HW3.out.wr.len
        have h2 := HWA.out.wr.len
        have h3 := HL.out
        simp only [List.length_append] at h1 h2
        omega
      have HIB : Hid (impB x = typesB x.args ++ kindB x.ret) := Lib.hid rfl
      clear hpl hwl ba0
      generalize kindB x.ret = ys at *
      go_region_law (
        first
          | (go_simp; go_at_call 148; refine (KP.out _).mono ?_; rintro e w9 ⟨C, d9, rfl, ho, hb9⟩; have hB9 : Below w3.heap.size w3 w9 := ⟨hb9.os, hb9.tape, hb9.output, hb9.size, hb9.block⟩; have H9 := Lib.hid (HW3.out.wr.below hB9); have c9 : w9.cell? ⟨w.heap.size + 1, 0, none⟩ = some (.slice A3 n3 c3) := blk_cell H9.out.box 0; have HL := Lib.hid (own_lie ho); have HB9 := Lib.hid hB9; clear ho hb9 hB9)
          | (refine step_app _ (by rfl) (.tmp 28) (.tmp 31) _ (by rfl) 5 Tryz.underlying134 byte_info rfl (by decide) (by decide) 0 (n := n3) (by rfl) (by exact H9.out.own) (news := bcells ys) (by rfl) (bcells_length _) (by exact HL.out) (bcells_one _) (by omega) (Nat.zero_le _) ?_; intro v' w11 hown hg hat; obtain ⟨A6, c6, rfl, _, _, _⟩ := own_shape hown; have HQ := Lib.hid (HW3.out.step (HW3.out.wr.put HB9.out hown (by first | rfl | exact bcells_one_len _) rfl hg hat)); have hx11 := blk_grown H9.out.box hg (fun e => own_ne_blk H9.out.own H9.out.box (by decide) e.symm); have c11 := blk_cell hx11 0; have f11 := blk_frozen hx11 0; clear hown hg hat hx11))
      all_goals
        clear c9 c11 f11 b1 b2 b3
        generalize w11.setCell ⟨w.heap.size + 1, 0, none⟩ (.slice A6 (n3 + ys.length) c6) = wS at *
        go_wp2
        go_roundw
        case rel => exact ⟨k + 1, _, _, _, by omega, by go_num, Lib.hid (by rw [HX2.out, ← List.append_assoc]; exact by rw [HIB.out, ← List.append_assoc]; exact HQ.out)⟩
        case measure => simp [intOf]; omega
    · have hcb := blk_cell HW.out.wr.box 0
      go_wp2
      go_ret
      exact Wrs.done (by have := HW.out; rw [flat_all impB (by have := HN.out; omega)] at this; unfold impsB; rw [HN.out]; exact this) HV.out (by omega)
set_option maxRecDepth 100000 in
set_option maxHeartbeats 4000000 in
theorem numbers_calls {S : Nat → Prop} (w : World) (B0 B1 B2 B3 B4 : Option Addr) (m0 m1 m2 m3 m4 d0 d1 d2 d3 d4 : Nat) (xs : List Int) (hm : xs.length = m3) (hm2 : m3 ≤ 100000) (hT : (numsB xs).length ≤ 1000000) (hS : ∀ b, S b → b < w.heap.size) (row : (Rd.int .u64).Row S w B3 xs) :
    Calls Tryz.prog 102 #[.agg #[.slice B0 m0 d0, .slice B1 m1 d1, .slice B2 m2 d2, .slice B3 m3 d3, .slice B4 m4 d4]] w fun e w' => Part w (numsB xs) e w' := by
  have HN := Lib.hid hm
  have HT := Lib.hid hT
  have HS := Lib.hid (start_far w hS (Obj.cells #[.slice B0 m0 d0, .slice B1 m1 d1, .slice B2 m2 d2, .slice B3 m3 d3, .slice B4 m4 d4] 34) (Obj.cells #[.slice none 0 0] 233))
  have hV : Below w.heap.size w ((w.alloc (Obj.cells #[.slice B0 m0 d0, .slice B1 m1 d1, .slice B2 m2 d2, .slice B3 m3 d3, .slice B4 m4 d4] 34)).alloc (Obj.cells #[.slice none 0 0] 233)) := below_al2 (Below.refl _ _)
  have HR := Lib.hid (row.keep (fun b h => hV.block b (hS b h)))
  have HV := Lib.hid hV
  have HX := Lib.hid (blk_alloc (blk_new w (Obj.cells #[.slice B0 m0 d0, .slice B1 m1 d1, .slice B2 m2 d2, .slice B3 m3 d3, .slice B4 m4 d4] 34)) (Obj.cells #[.slice none 0 0] 233))
  have HW0 := Lib.hid (Wr.start w (Obj.cells #[.slice B0 m0 d0, .slice B1 m1 d1, .slice B2 m2 d2, .slice B3 m3 d3, .slice B4 m4 d4] 34))
  have b3 : ((w.alloc (Obj.cells #[.slice B0 m0 d0, .slice B1 m1 d1, .slice B2 m2 d2, .slice B3 m3 d3, .slice B4 m4 d4] 34)).alloc (Obj.cells #[.slice none 0 0] 233)).cell? ⟨w.heap.size, 3, none⟩ = some (.slice B3 m3 d3) := blk_cell HX.out 3
  have hpx : w.heap.size < ((w.alloc (Obj.cells #[.slice B0 m0 d0, .slice B1 m1 d1, .slice B2 m2 d2, .slice B3 m3 d3, .slice B4 m4 d4] 34)).alloc (Obj.cells #[.slice none 0 0] 233)).heap.size := by simp; omega
  clear hm hT hS row hV
  go_enter Tryz.func102, Tryz.ntmps102
  go_wp2_with fail
  generalize ((w.alloc (Obj.cells #[.slice B0 m0 d0, .slice B1 m1 d1, .slice B2 m2 d2, .slice B3 m3 d3, .slice B4 m4 d4] 34)).alloc (Obj.cells #[.slice none 0 0] 233)) = V at *
  go_wp2_with (go_at_call 146; refine (wcount_calls V _ 0 0 none [] HW0.out m3 (by omega) (by omega)).mono ?_; rintro e w1 ⟨A1, n1, c1, rfl, hW⟩; have HW1 := Lib.hid hW; have q3 : w1.cell? ⟨w.heap.size, 3, none⟩ = some (.slice B3 m3 d3) := blk_cell (hW.box HX.out (by omega) (fun h => by cases h)) 3; clear hW)
  go_loopw [5, 16] (fun _ ix wr => ∃ (k n' c' : Nat) (A' : Option Addr), k ≤ m3 ∧ ix = .int .i64 k ∧ Hid (Wrs V (w.heap.size + 1) (.slice none 0 0) wr A' n' c' (varB m3 ++ (xs.take k).flatMap numB))) (fun _ ix _ => m3 - (intOf ix).toNat)
  case atStart => exact ⟨0, _, _, _, Nat.zero_le _, rfl, Lib.hid (by simpa using HW1.out)⟩
  case round =>
    obtain ⟨k, n2, c2, A2, hk, rfl, HW⟩ := hrel
    by_cases hlt : k < m3
    · obtain ⟨x, hx⟩ : ∃ x, xs[k]? = some x := ⟨_, List.getElem?_eq_getElem (by have := HN.out; omega)⟩
      have hlen : n2 + (numB x).length ≤ 1000000 := by
        have h1 := HW.out.wr.len
        have h2 := flat_le numB xs (k + 1)
        have h3 := HT.out
        rw [flat_take numB hx] at h2
        simp only [numsB, List.length_append, HN.out] at h1 h2 h3
        omega
      have HX2 := Lib.hid (flat_take numB hx)
      obtain ⟨b, o, rfl, hSb, e0, f0⟩ := row_u64_at (HW.out.row HS.out HR.out) hx
      have hu := bounds_u64 f0
      obtain ⟨v, rfl⟩ := Int.eq_ofNat_of_zero_le hu.1
      have hv : v < 18446744073709551616 := by omega
      have KP : Hid (∀ W, Calls Tryz.prog 150 #[.int .u64 (v : Int), .int .i64 8] W fun e w' => ∃ A c, e = .returned (.slice A (numB (v : Int)).length c) ∧ w'.ownsRow W.heap.size 5 1 (.slice A (numB (v : Int)).length c) (numB (v : Int)).length (bcells (numB (v : Int))) ∧ Below W.heap.size W w') := Lib.hid (fun W => by have h := fixed_calls W v 8 hv; simpa [numB, fixB_len, cnt] using h)
      have b3 := (blk_cell HW.out.wr.box 0 : _ = some (Value.slice A2 n2 c2))
      clear hx hSb f0 hu hv
      generalize numB (v : Int) = ys at *
      go_wp2_with fail
      go_region_law (
        first
          | (go_simp; go_at_call 150; refine (KP.out _).mono ?_; rintro e w9 ⟨C, d9, rfl, ho, hb9⟩; have hB9 : Below wr.heap.size wr w9 := ⟨hb9.os, hb9.tape, hb9.output, hb9.size, hb9.block⟩; have H9 := Lib.hid (HW.out.wr.below hB9); have c9 : w9.cell? ⟨w.heap.size + 1, 0, none⟩ = some (.slice A2 n2 c2) := blk_cell H9.out.box 0; have HL := Lib.hid (own_lie ho); have HB9 := Lib.hid hB9; clear ho hb9 hB9)
          | (refine step_app _ (by rfl) (.tmp 24) (.tmp 26) _ (by rfl) 5 Tryz.underlying134 byte_info rfl (by decide) (by decide) 0 (n := n2) (by rfl) (by exact H9.out.own) (news := bcells ys) (by rfl) (bcells_length _) (by exact HL.out) (bcells_one _) (by omega) (Nat.zero_le _) ?_; intro v' w11 hown hg hat; obtain ⟨A6, c6, rfl, _, _, _⟩ := own_shape hown; have HQ := Lib.hid (HW.out.step (HW.out.wr.put HB9.out hown (by first | rfl | exact bcells_one_len _) rfl hg hat)); have hx11 := blk_grown H9.out.box hg (fun e => own_ne_blk H9.out.own H9.out.box (by decide) e.symm); have c11 := blk_cell hx11 0; have f11 := blk_frozen hx11 0; clear hown hg hat hx11))
      all_goals
        clear c9 c11 f11 b3
        generalize w11.setCell ⟨w.heap.size + 1, 0, none⟩ (.slice A6 (n2 + ys.length) c6) = wS at *
        go_wp2
        go_roundw
        case rel => exact ⟨k + 1, _, _, _, by omega, by go_num, Lib.hid (by rw [HX2.out, ← List.append_assoc]; exact HQ.out)⟩
        case measure => simp [intOf]; omega
    · have hcb := blk_cell HW.out.wr.box 0
      go_wp2
      go_ret
      exact Wrs.done (by have := HW.out; rw [flat_all numB (by have := HN.out; omega)] at this; unfold numsB; rw [HN.out]; exact this) HV.out (by omega)
theorem strB_cells (s : ByteArray) : Lib.strCells s = bcells (strB s) := by simp [Lib.strCells, bcells, strB]
theorem strB_len (s : ByteArray) : (strB s).length = s.size := by rw [strB, List.length_map, Array.length_toList]; rfl
/-- Behind an append of which the row is no older than the writer, and the store into the box. -/
theorem Wr.putS {w w1 : World} {p n c n' c' m : Nat} {A A' : Option Addr} {bs xs : List Int} (h : Wr w p A n c bs) (B : Nat) (hown : w1.ownsRow B 5 1 (.slice A' n' c') (n + m) (bcells bs ++ bcells xs)) (hm : xs.length = m) (hn : n' = n + m)
    (hg : w.grownBy w1 (Value.slice A n c).ownBlock) : Wr (w1.setCell ⟨p, 0, none⟩ (.slice A' n' c')) p A' n' c' (bs ++ xs) ∧ Keeps (WF p (.slice A n c)) w (w1.setCell ⟨p, 0, none⟩ (.slice A' n' c')) ∧ ∀ g, (Value.slice A' n' c').ownBlock = some g → B ≤ g := by
  subst hn
  have hbox1 : w1.heap[p]? = some (.cells #[.slice A n c] 233 (0, 0)) := blk_grown h.box hg (fun e => own_ne_blk h.own h.box (by decide) e.symm)
  have hne : ∀ g, (Value.slice A' (n + m) c').ownBlock = some g → g ≠ p := fun g hg' e => own_ne_blk hown hbox1 (by decide) (e ▸ hg')
  have hk : Keeps (WF p (.slice A n c)) w w1 := (Keeps.refl _ w).grown hg (fun g hg' _ => .inr hg')
  exact ⟨⟨blk_set hbox1 0 _, own_keep (own_down (bcells_append bs xs ▸ hown) (Nat.zero_le _)) (fun g hg' => Below.heap_setCell _ _ _ g (hne g hg')), by rw [List.length_append, h.len, hm]⟩, hk.setCell (fun _ => .inl rfl) _, fun g hg' => (hown.lt g hg').1⟩
/-- A step of which what comes behind is no older than the first world. -/
theorem Wrs.stepS {w0 w1 w2 : World} {p n c n' c' : Nat} {v0 : Value} {A A' : Option Addr} {bs bs' : List Int} (h : Wrs w0 p v0 w1 A n c bs) (k : Wr w2 p A' n' c' bs' ∧ Keeps (WF p (.slice A n c)) w1 w2 ∧ ∀ g, (Value.slice A' n' c').ownBlock = some g → w0.heap.size ≤ g) : Wrs w0 p v0 w2 A' n' c' bs' :=
  ⟨k.1, h.keep.step k.2.1 (fun x hx hf => by
    rcases hf with rfl | hf
    · exact .inl rfl
    · rcases h.src x hf with h2 | h2
      · exact .inr h2
      · omega),
   fun g hg => .inr (k.2.2 g hg)⟩
theorem Wrs.ownS {w0 w1 : World} {p n c : Nat} {A : Option Addr} {bs : List Int} (h : Wrs w0 p (.slice none 0 0) w1 A n c bs) (B : Nat) (hB : B ≤ w0.heap.size) : w1.ownsRow B 5 1 (.slice A n c) n (bcells bs) := own_up h.wr.own (fun g hg => by
  rcases h.src g hg with h2 | h2
  · cases h2
  · omega)
set_option maxRecDepth 100000 in
set_option maxHeartbeats 4000000 in
theorem texts_calls {S : Nat → Prop} (w : World) (B0 B1 B2 B3 B4 : Option Addr) (m0 m1 m2 m3 m4 d0 d1 d2 d3 d4 : Nat) (xs : List ByteArray) (hm : xs.length = m4) (hm2 : m4 ≤ 100000) (hT : (textsB xs).length ≤ 1000000) (hS : ∀ b, S b → b < w.heap.size) (row : Rd.str.Row S w B4 xs) :
    Calls Tryz.prog 103 #[.agg #[.slice B0 m0 d0, .slice B1 m1 d1, .slice B2 m2 d2, .slice B3 m3 d3, .slice B4 m4 d4]] w fun e w' => Part w (textsB xs) e w' := by
  have HN := Lib.hid hm
  have HT := Lib.hid hT
  have HS := Lib.hid (start_far w hS (Obj.cells #[.slice B0 m0 d0, .slice B1 m1 d1, .slice B2 m2 d2, .slice B3 m3 d3, .slice B4 m4 d4] 34) (Obj.cells #[.slice none 0 0] 233))
  have hV : Below w.heap.size w ((w.alloc (Obj.cells #[.slice B0 m0 d0, .slice B1 m1 d1, .slice B2 m2 d2, .slice B3 m3 d3, .slice B4 m4 d4] 34)).alloc (Obj.cells #[.slice none 0 0] 233)) := below_al2 (Below.refl _ _)
  have HR := Lib.hid (row.keep (fun b h => hV.block b (hS b h)))
  have HV := Lib.hid hV
  have HX := Lib.hid (blk_alloc (blk_new w (Obj.cells #[.slice B0 m0 d0, .slice B1 m1 d1, .slice B2 m2 d2, .slice B3 m3 d3, .slice B4 m4 d4] 34)) (Obj.cells #[.slice none 0 0] 233))
  have HW0 := Lib.hid (Wr.start w (Obj.cells #[.slice B0 m0 d0, .slice B1 m1 d1, .slice B2 m2 d2, .slice B3 m3 d3, .slice B4 m4 d4] 34))
  have b4 : ((w.alloc (Obj.cells #[.slice B0 m0 d0, .slice B1 m1 d1, .slice B2 m2 d2, .slice B3 m3 d3, .slice B4 m4 d4] 34)).alloc (Obj.cells #[.slice none 0 0] 233)).cell? ⟨w.heap.size, 4, none⟩ = some (.slice B4 m4 d4) := blk_cell HX.out 4
  have hpx : w.heap.size < ((w.alloc (Obj.cells #[.slice B0 m0 d0, .slice B1 m1 d1, .slice B2 m2 d2, .slice B3 m3 d3, .slice B4 m4 d4] 34)).alloc (Obj.cells #[.slice none 0 0] 233)).heap.size := by simp; omega
  clear hm hT hS row hV
  go_enter Tryz.func103, Tryz.ntmps103
  go_wp2_with fail
  generalize ((w.alloc (Obj.cells #[.slice B0 m0 d0, .slice B1 m1 d1, .slice B2 m2 d2, .slice B3 m3 d3, .slice B4 m4 d4] 34)).alloc (Obj.cells #[.slice none 0 0] 233)) = V at *
  go_wp2_with (go_at_call 146; refine (wcount_calls V _ 0 0 none [] HW0.out m4 (by omega) (by omega)).mono ?_; rintro e w1 ⟨A1, n1, c1, rfl, hW⟩; have HW1 := Lib.hid hW; have q4 : w1.cell? ⟨w.heap.size, 4, none⟩ = some (.slice B4 m4 d4) := blk_cell (hW.box HX.out (by omega) (fun h => by cases h)) 4; clear hW)
  go_loopw [5, 16] (fun _ ix wr => ∃ (k n' c' : Nat) (A' : Option Addr), k ≤ m4 ∧ ix = .int .i64 k ∧ Hid (Wrs V (w.heap.size + 1) (.slice none 0 0) wr A' n' c' (varB m4 ++ (xs.take k).flatMap textB))) (fun _ ix _ => m4 - (intOf ix).toNat)
  case atStart => exact ⟨0, _, _, _, Nat.zero_le _, rfl, Lib.hid (by simpa using HW1.out)⟩
  case round =>
    obtain ⟨k, n2, c2, A2, hk, rfl, HW⟩ := hrel
    by_cases hlt : k < m4
    · obtain ⟨x, hx⟩ : ∃ x, xs[k]? = some x := ⟨_, List.getElem?_eq_getElem (by have := HN.out; omega)⟩
      have hlen : n2 + (textB x).length ≤ 1000000 := by
        have h1 := HW.out.wr.len
        have h2 := flat_le textB xs (k + 1)
        have h3 := HT.out
        rw [flat_take textB hx] at h2
        simp only [textsB, List.length_append, HN.out] at h1 h2 h3
        omega
      have HX2 := Lib.hid (flat_take textB hx)
      obtain ⟨b, o, rfl, hSb, e0, f0⟩ := row_str_at (HW.out.row HS.out HR.out) hx
      have hlen2 : n2 + (varB x.size).length + x.size ≤ 1000000 := by simp only [textB, List.length_append, strB_len] at hlen; omega
      have hpl := blk_lt HW.out.wr.box
      obtain ⟨i, hi, hz, hs1, hby⟩ := info_parts byte_info
      have HIB : Hid (textB x = varB x.size ++ strB x) := Lib.hid rfl
      clear hx hSb f0 hlen
      go_wp2_with (first
        | (go_at_call 146; refine (wcount_calls wr _ n2 c2 A2 _ HW.out.wr x.size (by omega) (by omega)).mono ?_; rintro e w3 ⟨A3, n3, c3, rfl, hW⟩; have HW3 := Lib.hid (HW.out.step hW); have b3 := (blk_cell HW3.out.wr.box 0 : _ = some (Value.slice A3 n3 c3)); have HL3 : Hid (n3 + x.size ≤ 1000000) := Lib.hid (by have h1 := HW3.out.wr.len; have h2 := HW.out.wr.len; simp only [List.length_append] at h1 h2; omega); clear hW)
        | (at_builtin; refine Lib.wpList_append_own_string _ rfl (.tmp 28) (.tmp 29) _ _ rfl V.heap.size 5 i Tryz.underlying134 Tryz.underlying9 hi hz hs1 hby _ n3 _ rfl (HW3.out.ownS _ (Nat.le_refl _)) x rfl (by have := HL3.out; simp only [maxLen]; omega) (by have := HL3.out; omega) HW3.out.keep.size ?_; intro v' w5 hown hg _; obtain ⟨A6, c6, rfl, _, _, _⟩ := own_shape hown; have hx11 := blk_grown HW3.out.wr.box hg (fun e => own_ne_blk HW3.out.wr.own HW3.out.wr.box (by decide) e.symm); have c11 := blk_cell hx11 0; have f11 := blk_frozen hx11 0; rw [strB_cells] at hown; have HQ := Lib.hid (HW3.out.stepS (HW3.out.wr.putS V.heap.size hown (strB_len x) rfl hg)); clear hown hg hx11))
      go_roundw
      case rel => exact ⟨k + 1, _, _, _, by omega, by go_num, Lib.hid (by rw [HX2.out, ← List.append_assoc]; exact by rw [HIB.out, ← List.append_assoc]; exact HQ.out)⟩
      case measure => simp [intOf]; omega
    · have hcb := blk_cell HW.out.wr.box 0
      go_wp2
      go_ret
      exact Wrs.done (by have := HW.out; rw [flat_all textB (by have := HN.out; omega)] at this; unfold textsB; rw [HN.out]; exact this) HV.out (by omega)
end Go.Proofs.YtdmmjckhpagibaaGreatDoor
