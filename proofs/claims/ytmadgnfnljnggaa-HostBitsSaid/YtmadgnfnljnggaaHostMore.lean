/- The walk of HostMore. -/
import Derived.Test.YtmadgnfnljnggaaHostLaws
import Derived.Test.YtmadgnfnljnggaaHan
import Derived.Deep.RegionHeld3
namespace Go.Proofs.Ytmadgnfnljnggaa
open Go.RowKit
set_option linter.unusedVariables false
theorem or_bit (a b : Int) (ha : 0 ≤ a) (ha2 : a < 256) (hb : 0 ≤ b) (hb2 : b < 256) (k : Nat) (h : (a / 2 ^ k) % 2 = 1) : (Go.bits .or .u8 a b / 2 ^ k) % 2 = 1 := by
  rw [u8_or a b ha ha2 hb hb2]
  obtain ⟨x, rfl⟩ := Int.eq_ofNat_of_zero_le ha
  obtain ⟨y, rfl⟩ := Int.eq_ofNat_of_zero_le hb
  have h1 : x / 2 ^ k % 2 = 1 := by exact_mod_cast h
  have h2 : (x ||| y) / 2 ^ k % 2 = 1 := by
    have e1 : Nat.testBit x k = true := by rw [Nat.testBit_eq_decide_div_mod_eq, h1]; rfl
    have e2 : Nat.testBit (x ||| y) k = true := by rw [Nat.testBit_or, e1]; rfl
    rw [Nat.testBit_eq_decide_div_mod_eq] at e2
    simpa using e2
  simp only [Int.toNat_natCast] at *
  exact_mod_cast h2
theorem wantK_more (v a b : Int) (ha : 0 ≤ a) (ha2 : a < 256) (hb : 0 ≤ b) (hb2 : b < 256) (k : Nat) (h : wantK v a k = 0) : wantK v (Go.bits .or .u8 a b) k = 0 := by
  induction k with
  | zero => rfl
  | succ k ih =>
    simp only [wantK] at h ⊢
    split at h
    · omega
    · rename_i hn
      rw [if_neg (fun hc => hn ⟨hc.1, by
        have := or_bit a b ha ha2 hb hb2 k
        have := Int.emod_two_eq (a / 2 ^ k)
        omega⟩)]
      exact ih h
theorem bind_more (s : B4) (a b : Int) (ha : 0 ≤ a) (ha2 : a < 256) (hb : 0 ≤ b) (hb2 : b < 256) : bindOf s a ≠ 0 ∨ bindOf s (Go.bits .or .u8 a b) = 0 := by
  rw [bind_want, bind_want]
  by_cases h : wantK s.val a 4 = 0
  · exact .inr (wantK_more _ _ _ ha ha2 hb hb2 4 h)
  · exact .inl h
def shut (h : Han) : Han := { h with opn := false }
theorem needs_shut (hs : List Han) : needs (hs.map shut) = B4.none := by
  unfold needs
  induction hs with
  | nil => rfl
  | cons h hs ih => exact ih

theorem needs_calls' {S : Nat → Prop} (w : World) (F H : Value) (A : Option Addr) (n c : Nat) (q u e v : Int) (hs : List Han) (hn : hs.length = n) (hm : n ≤ 1000000) (hS : ∀ b, S b → b < w.heap.size) (hr : k_han.Row S w A hs) :
   Calls Try.prog 19 #[.agg #[F, H, .slice A n c, .int .i64 q, .int .i64 u, .int .i64 e, .int .u64 v]] w fun e w' => e = .returned (.int .i64 (needs hs).val) ∧ Below w.heap.size w w' := by
  subst hn; exact needs_calls w F H A c q u e v hs hm hS hr
theorem bind_calls' {S : Nat → Prop} (w : World) (F H : Value) (A : Option Addr) (n c : Nat) (q u e v has : Int) (hs : List Han) (hn : hs.length = n) (hm : n ≤ 1000000) (hS : ∀ b, S b → b < w.heap.size) (hr : k_han.Row S w A hs) :
   Calls Try.prog 18 #[.agg #[F, H, .slice A n c, .int .i64 q, .int .i64 u, .int .i64 e, .int .u64 v], .int .i64 has] w fun e w' => e = .returned (.int .i64 (bindOf (needs hs) has)) ∧ Below w.heap.size w w' := by
  subst hn; exact bind_calls w F H A c q u e v has hs hm hS hr
theorem hostMore_walk (w : World) (A0 : Option Addr) (c0 : Nat) (x0 : (List Han)) (l0 : x0.length ≤ c0) (m0 : x0.length ≤ 140737488351232) (row0 : k_han.Row (· < w.heap.size) w A0 x0) (a1 : Int) (w1 : (Lit.int .u8 a1).wf = true) (a2 : Int) (w2 : (Lit.int .u8 a2).wf = true) :
    Calls Try.prog 4 #[.slice A0 x0.length c0, .int .u8 a1, .int .u8 a2] w fun e w' => e = .returned (.bool true) ∧ Below w.heap.size w w' := by
  have ha1 := bounds_u8 w1
  have ha2 := bounds_u8 w2
  by_cases hbig : 50 < x0.length
  · go_enter Try.func4, Try.ntmps4
    go_wp2_with (go_at_call 16; refine (hostAnswers_calls _).mono ?_; rintro e w2 ⟨rfl, hb⟩)
    go_ret
    exact ⟨rfl, hb⟩
  · obtain ⟨cells, hfl, hlie⟩ := row0.flat
    obtain ⟨rfl, hwf⟩ := han_flat.1 hfl
    go_enter Try.func4, Try.ntmps4
    go_wp2_with (at_builtin; refine list_app _ rfl (.tmp 15) (.tmp 16) _ rfl 35 Try.underlying24 han_info rfl (by decide) (by decide) w.heap.size rfl (World.ownsRow_made w #[] 0 (Nat.le_refl _) (Nat.zero_le _) rfl) rfl (hcells_length _) (by exact hlie.below ((Below.refl _ _).alloc (Nat.le_refl _) _)) (hcells_one _) (by omega) (by simp) ?_; intro v' w3 hown hg hat; have hB := Lib.hid (grown_below ((Below.refl _ _).alloc (Nat.le_refl _) _) hg (by simp) (.inr ⟨_, rfl, Nat.le_refl _⟩)); obtain ⟨A3, c3, rfl, h3, h4, h5⟩ := own_shape hown; simp only [Nat.zero_add, List.nil_append] at hown; have HO := Lib.hid hown; clear hown hg hat)
    have hbx := blk_new w3 (Obj.cells #[.slice none 0 0, .slice none 0 0, .slice A3 x0.length c3, .int .i64 0, .int .i64 0, .int .i64 0, .int .u64 0] 27)
    have HO2 := Lib.hid (HO.out.alloc (Obj.cells #[.slice none 0 0, .slice none 0 0, .slice A3 x0.length c3, .int .i64 0, .int .i64 0, .int .i64 0, .int .u64 0] 27))
    have HB2 := Lib.hid (hB.out.alloc hB.out.size (Obj.cells #[.slice none 0 0, .slice none 0 0, .slice A3 x0.length c3, .int .i64 0, .int .i64 0, .int .i64 0, .int .u64 0] 27))
    have hlt := blk_lt hbx
    generalize w3.alloc (Obj.cells #[.slice none 0 0, .slice none 0 0, .slice A3 x0.length c3, .int .i64 0, .int .i64 0, .int .i64 0, .int .u64 0] 27) = W at hbx HO2 HB2 hlt ⊢
    generalize w3.heap.size = g7 at hbx hlt ⊢
    clear HO hB
    have hsl := Lib.hid (Rd.Sl.of_own (d := k_han) (S := (· < W.heap.size)) HO2.out (fun g hg => (HO2.out.lt g hg).2) (han_flat.2 ⟨rfl, hwf⟩) m0)
    obtain ⟨_, _, e, hle, _, hrow⟩ := hsl.out
    cases e
    clear hsl
    have HR := Lib.hid hrow
    clear hrow hlie hfl row0
    have hc := blk_cell hbx
    have HBX := Lib.hid hbx
    clear hbx
    go_region_held3 (fun w' => w'.cell? ⟨g7, 0, none⟩ = some (.slice none 0 0) ∧ w'.cell? ⟨g7, 1, none⟩ = some (.slice none 0 0) ∧ w'.cell? ⟨g7, 2, none⟩ = some (.slice A3 x0.length c3) ∧ w'.cell? ⟨g7, 3, none⟩ = some (.int .i64 0) ∧ w'.cell? ⟨g7, 4, none⟩ = some (.int .i64 0) ∧ w'.cell? ⟨g7, 5, none⟩ = some (.int .i64 0) ∧ w'.cell? ⟨g7, 6, none⟩ = some (.int .u64 0) ∧ Below W.heap.size W w')
      (first
        | exact box7 HBX.out (Below.refl _ _)
        | exact box7 HBX.out (Below.refl _ _).drew
        | exact box7 HBX.out (by assumption))
      (first | (go_at_call 18; refine (bind_calls (S := (· < W.heap.size)) _ _ _ _ _ _ _ _ _ _ x0 (by omega) ?_ ?_).mono ?_; (exact fun b hb => Nat.lt_of_lt_of_le hb (held_below (by assumption) (Below.refl _ _)).size); (exact HR.out.keep (held_below (by assumption) (Below.refl _ _)).block); rintro e w' ⟨rfl, hb⟩; have hbW : Below W.heap.size W w' := held_below (by assumption) hb))
    have hmore := bind_more (needs x0) a1 a2 (by omega) (by omega) (by omega) (by omega)
    have hor : 0 ≤ Go.bits .or .u8 a1 a2 ∧ Go.bits .or .u8 a1 a2 ≤ 255 := bounds_u8 (wf_bits _ _ _ _)
    rw [show a1 = IntKind.i64.wrap a1 by rw [IntKind.wrap_i64]; omega] at hmore
    rw [show Go.bits .or .u8 (IntKind.i64.wrap a1) a2 = IntKind.i64.wrap (Go.bits .or .u8 a1 a2) by rw [show IntKind.i64.wrap a1 = a1 by rw [IntKind.wrap_i64]; omega, IntKind.wrap_i64]; omega] at hmore
    generalize bindOf (needs x0) (IntKind.i64.wrap a1) = bx at hmore ⊢
    generalize bindOf (needs x0) (IntKind.i64.wrap (Go.bits .or .u8 a1 a2)) = by' at hmore ⊢
    have HM := Lib.hid hmore
    have hO := Lib.hid (own_below HO2.out hbW)
    have hX := Lib.hid (blk_below HBX.out hbW hlt)
    have hbw := Lib.hid (HB2.out.trans (hbW.mono HB2.out.size))
    clear hmore hor hc HR HO2 HBX HB2 hbW hb hlt
    go_wp2_with fail
    go_loopw [10] (fun i wr => ∃ k : Nat, k ≤ x0.length ∧ i = .int .i64 k ∧ Below w.heap.size w wr ∧ Hid (wr.ownsRow w.heap.size 35 3 (.slice A3 x0.length c3) x0.length (hcells ((x0.take k).map shut ++ x0.drop k))) ∧ Hid (wr.heap[g7]? = some (.cells #[.slice none 0 0, .slice none 0 0, .slice A3 x0.length c3, .int .i64 0, .int .i64 0, .int .i64 0, .int .u64 0] 27 (0, 0)))) (fun i _ => x0.length - (intOf i).toNat)
    case atStart => exact ⟨0, Nat.zero_le _, rfl, hbw.out, by simpa using hO, hX⟩
    case round =>
      obtain ⟨k, hk, rfl, hB, HO, HX⟩ := hrel
      have hc := blk_cell HX.out
      by_cases hlt : k < x0.length
      · obtain ⟨g, rfl, hg1, hg2⟩ := h5 (by omega)
        obtain ⟨x, hx⟩ : ∃ x, x0[k]? = some x := ⟨_, List.getElem?_eq_getElem hlt⟩
        have hy := mix_get shut x0 k x hx
        have hset := Lib.hid (hcells_set _ k x hy false)
        have hnext := Lib.hid (mix_set shut x0 k x hx)
        have hcell := (HO.out.cellAt (k * 3 + 2) (by omega)).trans (hcells_at _ k x hy).2.2
        have hfr := HO.out.frozenAt (k * 3 + 2)
        have hne : g7 ≠ g := fun e => own_ne_blk HO.out HX.out (by decide) (by rw [e]; rfl)
        clear hx hy
        go_wp2
        go_roundw
        case rel => exact ⟨k + 1, by omega, by go_num, hB.setCell hg1 _, by have q := (HO.out.stored (k * 3 + 2) (.bool false)).1; rw [hset.out] at q; exact Lib.hid (hnext.out ▸ q), blk_far HX.out hne _⟩
        case measure => simp [intOf]; omega
      · have he : k = x0.length := by omega
        subst he
        have hsl : k_han.Row (· < wr.heap.size) wr A3 (x0.map shut) := by
          have q := HO.out
          rw [show (x0.take x0.length).map shut ++ x0.drop x0.length = x0.map shut by simp] at q
          have hl : x0.length = (x0.map shut).length := by simp
          rw [hl] at q
          obtain ⟨_, _, e, _, _, hrow⟩ := Rd.Sl.of_own (d := k_han) (S := (· < wr.heap.size)) q (fun g hg => (q.lt g hg).2) (han_flat.2 ⟨rfl, fun h hh => by
            obtain ⟨y, hy, rfl⟩ := List.mem_map.1 hh
            exact hwf y hy⟩) (by simp; omega)
          cases e
          exact hrow
        have HS := Lib.hid hsl
        have hn := Lib.hid (needs_shut x0)
        have hl := Lib.hid (show (x0.map shut).length = x0.length by simp)
        have hgt := blk_lt HX.out
        clear hsl HO hO hX hbw hb hbW
        have hz : (bx = 0 ∧ by' = 0) ∨ bx ≠ 0 := by have := HM.out; omega
        clear HM
        rcases hz with ⟨rfl, rfl⟩ | hz
        · go_wp2_with (first
            | (go_at_call 16; refine (hostAnswers_calls _).mono ?_; rintro e w2 ⟨rfl, hb2⟩; obtain ⟨hc2, hf2⟩ := bcell hb2; have hs2 := hb2.size; have hg2 : g7 < w2.heap.size := by omega)
            | (go_at_call 19; refine (needs_calls' (S := (· < wr.heap.size)) _ _ _ _ _ _ _ _ _ _ (x0.map shut) hl.out (by omega) (by intro b h; omega) (by exact HS.out.keep hb2.block)).mono ?_
               rintro e w3 ⟨he, hb3⟩
               obtain rfl := he.trans (ret_int (by rw [hn.out]; rfl : _ = (0 : Int)))
               obtain ⟨hc3, hf3⟩ := bcell hb3
               have hs3 := hb3.size
               have hg3 : g7 < w3.heap.size := by omega
               clear he)
            | (go_at_call 18; refine (bind_calls' (S := (· < wr.heap.size)) _ _ _ _ _ _ _ _ _ _ 0 (x0.map shut) hl.out (by omega) (by intro b h; omega) (by exact (HS.out.keep hb2.block).keep (fun b h => hb3.block b (by omega)))).mono ?_
               rintro e w4 ⟨he, hb4⟩
               obtain rfl := he.trans (ret_int (by rw [hn.out]; decide +kernel : _ = (0 : Int)))
               clear he))
          go_ret
          exact ⟨rfl, (((hB.trans (hb2.mono hB.size)).trans (hb3.mono (by have := hB.size; omega))).trans (hb4.mono (by have := hB.size; omega)))⟩
        · go_wp2_with (first
            | (go_at_call 16; refine (hostAnswers_calls _).mono ?_; rintro e w2 ⟨rfl, hb2⟩; obtain ⟨hc2, hf2⟩ := bcell hb2; have hs2 := hb2.size; have hg2 : g7 < w2.heap.size := by omega)
            | (go_at_call 19; refine (needs_calls' (S := (· < wr.heap.size)) _ _ _ _ _ _ _ _ _ _ (x0.map shut) hl.out (by omega) (by intro b h; omega) (by exact HS.out.keep hb2.block)).mono ?_
               rintro e w3 ⟨he, hb3⟩
               obtain rfl := he.trans (ret_int (by rw [hn.out]; rfl : _ = (0 : Int)))
               obtain ⟨hc3, hf3⟩ := bcell hb3
               have hs3 := hb3.size
               have hg3 : g7 < w3.heap.size := by omega
               clear he)
            | (go_at_call 18; refine (bind_calls' (S := (· < wr.heap.size)) _ _ _ _ _ _ _ _ _ _ 0 (x0.map shut) hl.out (by omega) (by intro b h; omega) (by exact (HS.out.keep hb2.block).keep (fun b h => hb3.block b (by omega)))).mono ?_
               rintro e w4 ⟨he, hb4⟩
               obtain rfl := he.trans (ret_int (by rw [hn.out]; decide +kernel : _ = (0 : Int)))
               clear he))
          go_ret
          exact ⟨rfl, (((hB.trans (hb2.mono hB.size)).trans (hb3.mono (by have := hB.size; omega))).trans (hb4.mono (by have := hB.size; omega)))⟩
end Go.Proofs.Ytmadgnfnljnggaa
