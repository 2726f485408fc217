/- The walk of NumOwn. -/
import Derived.Test.YtdgeofeijgflcaaNumLaws
namespace Go.Proofs.Ytdgeofeijgflcaa
open Go.RowKit
set_option linter.unusedVariables false
theorem bcells_set (ys : List Int) (k : Nat) (z : Int) : (bcells ys).set k (.int .u8 z) = bcells (ys.set k z) := by simp [bcells, List.map_set]
/-- A row of so many bytes that is owned. -/
def OwnB (w : World) (A : Option Addr) (n c : Nat) : Prop := ∃ ys : List Int, ys.length = n ∧ w.ownsRow 0 5 1 (.slice A n c) n (bcells ys)
theorem OwnB.at {w : World} {A : Option Addr} {n c k : Nat} (h : OwnB w A n c) (hk : k < n) : ∃ g y, A = some ⟨g, 0, none⟩ ∧ g < w.heap.size ∧ w.cell? ⟨g, k, none⟩ = some (.int .u8 y) ∧ w.frozen? ⟨g, k, none⟩ = false ∧ ∀ z, OwnB (w.setCell ⟨g, k, none⟩ (.int .u8 z)) A n c := by
  obtain ⟨ys, hl, ho⟩ := h
  obtain ⟨g, rfl, _, hg⟩ := own_addr ho (by omega)
  obtain ⟨y, hy⟩ : ∃ y, ys[k]? = some y := ⟨_, List.getElem?_eq_getElem (by omega)⟩
  refine ⟨g, y, rfl, hg, (ho.cellAt k (by omega)).trans (bcells_at hy), ho.frozenAt k, fun z => ⟨ys.set k z, by simp [hl], ?_⟩⟩
  have h := (ho.stored k (.int .u8 z)).1
  rwa [bcells_set] at h
theorem OwnB.keeps {F : Nat → Prop} {w w' : World} {A : Option Addr} {n c : Nat} (h : OwnB w A n c) (hk : Keeps F w w') (hF : ∀ g, (Value.slice A n c).ownBlock = some g → ¬ F g) : OwnB w' A n c := by
  obtain ⟨ys, hl, ho⟩ := h
  exact ⟨ys, hl, own_keeps ho hk hF⟩
set_option maxRecDepth 100000 in
set_option maxHeartbeats 4000000 in
theorem numOwn_walk (w : World) (A0 : Option Addr) (c0 : Nat) (x0 : (List Int)) (l0 : x0.length ≤ c0) (m0 : x0.length ≤ 140737488351232) (row0 : (Rd.int .u8).Row (· < w.heap.size) w A0 x0) :
    Calls Try.prog 13 #[.slice A0 x0.length c0] w fun e w' => e = .returned (.bool true) ∧ Below w.heap.size w w' := by
  obtain ⟨cells, hfl, hlie⟩ := row0.flat
  obtain ⟨rfl, hB⟩ := byte_flat.1 hfl
  have HL := Lib.hid hlie
  have HB := Lib.hid hB
  have HR0 := Lib.hid row0
  clear hfl hlie row0 hB
  by_cases hbig : 100 < x0.length
  · go_enter Try.func13, Try.ntmps13
    go_wp2_with (go_at_call 18; refine (numAnswers_calls _).mono ?_; rintro e w5 ⟨rfl, hb5⟩)
    go_ret
    exact ⟨rfl, hb5⟩
  · obtain ⟨h, hh⟩ : ∃ h, h = x0.length / 2 := ⟨_, rfl⟩
    obtain ⟨h2, hh2⟩ : ∃ h2, h2 = x0.length - h := ⟨_, rfl⟩
    have r1 : (x0.length : Int) / 2 = (h : Int) := by omega
    have r2 : (x0.length : Int) - (h : Int) = (h2 : Int) := by omega
    have hhl : h ≤ x0.length := by omega
    have htl : (x0.take h).length = h := by rw [List.length_take]; omega
    have hdl : (x0.drop h).length = h2 := by rw [List.length_drop]; omega
    have HTL := Lib.hid htl
    have HDL := Lib.hid hdl
    have hsm : h ≤ 100 := by omega
    have hsm2 : h2 ≤ 100 := by omega
    have hBt := Lib.hid (show isB (x0.take h) from fun x hx => HB.out x (List.mem_of_mem_take hx))
    clear hh hh2 htl hdl
    go_enter Try.func13, Try.ntmps13
    go_wp2_with (first
      | (at_builtin; refine list_app _ rfl (.tmp 14) (.tmp 15) _ rfl 5 Try.underlying35 byte_info rfl (by decide) (by decide) w.heap.size rfl (World.ownsRow_made w #[] 0 (Nat.le_refl _) (Nat.zero_le _) rfl) rfl (bcells_length _) (by exact HL.out.below ((Below.refl _ _).alloc (Nat.le_refl _) _)) (bcells_one _) (by omega) (by simp) ?_; intro v' w3 hown hg hat; have hB := grown_below ((Below.refl _ _).alloc (Nat.le_refl _) _) hg (by simp) (.inr ⟨_, rfl, Nat.le_refl _⟩); simp only [Nat.zero_add, List.nil_append] at hown; obtain ⟨A3, c3, rfl, hn3, _, _⟩ := own_shape hown; have HO := Lib.hid hown; have HB3 := Lib.hid hB; clear hown hg hat hB)
      | (go_at_call 19; refine (newReader_calls _ _ _ _ x0 rfl (by omega) (own_lie HO.out) HB.out).mono ?_; rintro e w1 ⟨p, S, rfl, hR, hp, hS, hb1⟩; have HR := Lib.hid hR; have HS := Lib.hid hS; have HB1 := Lib.hid hb1; clear hR hS hb1))
    have hs3 := HB3.out.size
    have hs1 := HB1.out.size
    have hBW := Lib.hid (HB3.out.trans (HB1.out.mono hs3))
    have hOB := Lib.hid (show OwnB w1 A3 x0.length c3 from ⟨x0, rfl, own_zero (own_below HO.out HB1.out)⟩)
    have hlt3 := Lib.hid (fun g hg => (HO.out.lt g hg))
    have hpl := blk_lt (HR.out.box.choose_spec.choose_spec.1)
    clear HO HB3 HB1
    go_wp2_with fail
    go_loopw [5] (fun i wr => ∃ k : Nat, k ≤ x0.length ∧ i = .int .i64 k ∧ Hid (OwnB wr A3 x0.length c3) ∧ Hid (Rdr wr p S x0 false) ∧ Hid (Below w.heap.size w wr) ∧ w1.heap.size ≤ wr.heap.size) (fun i _ => x0.length - (intOf i).toNat)
    case atStart => exact ⟨0, Nat.zero_le _, rfl, hOB, HR, hBW, Nat.le_refl _⟩
    case round =>
      obtain ⟨k, hk, rfl, HO, HR, HBW, hsz⟩ := hrel
      by_cases hlt : k < x0.length
      · obtain ⟨g, y, rfl, hg, hcell, hfr, hset⟩ := HO.out.at hlt
        have HSet := Lib.hid hset
        have hlg := hlt3.out g rfl
        have hlg1 := hlg.1
        have hlg2 := hlg.2
        clear hset hlg
        go_wp2
        go_roundw
        case rel =>
          refine ⟨k + 1, by omega, by go_num, Lib.hid (HSet.out _), Lib.hid ?_, Lib.hid (HBW.out.setCell (p := ⟨g, k, none⟩) hlg1 _), by simpa using hsz⟩
          exact HR.out.keeps ((Keeps.refl (· = g) wr).setCell (p := ⟨g, k, none⟩) (fun _ => rfl) _) (by omega) (fun b hb e => by have := HS.out b hb; omega)
        case measure => simp [intOf]; omega
      · clear HO hOB hBW hlt3
        have hpr := blk_lt (HR.out.box.choose_spec.choose_spec.1)
        go_wp2_with (first
          | (go_at_call 23; refine (take_ok wr p S x0 HR.out h hhl).mono ?_; rintro e w4 ⟨A4, c4, rfl, ho, hR4, hK4⟩; have HO4 := Lib.hid ho; have HR4 := Lib.hid hR4; have HK4 := Lib.hid hK4; clear ho hR4 hK4; clear HR)
          | (at_builtin; refine list_app _ rfl (.tmp 36) (.tmp 37) _ rfl 5 Try.underlying35 byte_info rfl (by decide) (by decide) w4.heap.size rfl (World.ownsRow_made w4 #[] 0 (Nat.le_refl _) (Nat.zero_le _) rfl) rfl (by rw [bcells_length, HTL.out]) (by exact (own_lie HO4.out).below ((Below.refl _ _).alloc (Nat.le_refl _) _)) (bcells_one _) (by omega) (by simp) ?_; intro v' w6 hown hg hat; have hB := grown_below ((Below.refl w4.heap.size w4).alloc (Nat.le_refl _) _) hg (by simp) (.inr ⟨_, rfl, Nat.le_refl _⟩); simp only [Nat.zero_add, List.nil_append] at hown; obtain ⟨A6, c6, rfl, hn6, _, _⟩ := own_shape hown; have HO6 := Lib.hid hown; have HB6 := Lib.hid hB; have HR6 := Lib.hid (HR4.out.below hB); have HX6 := Lib.hid (own_below HO4.out hB); clear hown hg hat hB)
          | (go_at_call 23; refine (take_ok w6 p S (x0.drop h) HR6.out h2 (by rw [HDL.out]; exact Nat.le_refl _)).mono ?_; rintro e w7 ⟨A7, c7, rfl, ho, hR7, hK7⟩; have HO7 := Lib.hid ho; have HR7 := Lib.hid hR7; have HK7 := Lib.hid hK7; clear ho hR7 hK7))
        have hs4 := HK4.out.size
        have hs6 := HB6.out.size
        have hs7 := HK7.out.size
        have hHX := Lib.hid (fun g hg => (HX6.out.lt g hg))
        have hHO := Lib.hid (fun g hg => (HO6.out.lt g hg))
        have hHZ := Lib.hid (fun g hg => (HO7.out.lt g hg))
        have HX7 := Lib.hid (own_keeps HX6.out HK7.out (fun g hg e => (own_ne_blk HX6.out (HR6.out.box.choose_spec.choose_spec.1) (by decide)) (by rw [hg, e])))
        have HY7 := Lib.hid (own_keeps HO6.out HK7.out (fun g hg e => (own_ne_blk HO6.out (HR6.out.box.choose_spec.choose_spec.1) (by decide)) (by rw [hg, e])))
        have hp1 : w.heap.size ≤ p := by omega
        have HBW7 := Lib.hid (((HBW.out.trans (HK4.out.below (B := w.heap.size) (by omega) (fun x hx e => by omega))).trans (HB6.out.mono (by omega))).trans (HK7.out.below (B := w.heap.size) (by omega) (fun x hx e => by omega)))
        have hOZ := Lib.hid (show OwnB w7 A7 h2 c7 from ⟨(x0.drop h).take h2, by rw [List.length_take, HDL.out]; omega, own_zero HO7.out⟩)
        have hpw4 : p < w4.heap.size := by omega
        have hF6 := Lib.hid HR6.out.far
        clear HR4 HR6 HX6 HO6 HO4 HO7 HK4 HB6 HK7 HBW
        go_wp2_with fail
        go_loopw [9] (fun i w8 => ∃ j : Nat, j ≤ h2 ∧ i = .int .i64 j ∧ Hid (OwnB w8 A7 h2 c7) ∧ Hid (Keeps (fun b => (Value.slice A7 h2 c7).ownBlock = some b) w7 w8)) (fun i _ => h2 - (intOf i).toNat)
        case atStart => exact ⟨0, Nat.zero_le _, rfl, hOZ, Lib.hid (Keeps.refl _ _)⟩
        case round =>
          obtain ⟨j, hj, rfl, HO, HK8⟩ := hrel
          by_cases hjl : j < h2
          · obtain ⟨g, y, rfl, hg, hcell, hfr, hset⟩ := HO.out.at hjl
            have HSet := Lib.hid hset
            clear hset
            go_wp2
            go_roundw
            case rel => exact ⟨j + 1, by omega, by go_num, Lib.hid (HSet.out _), Lib.hid (HK8.out.setCell (p := ⟨g, j, none⟩) (fun _ => rfl) _)⟩
            case measure => simp [intOf]; omega
          · have hz := fun g hg => hHZ.out g hg
            have HX8 := Lib.hid (own_keeps HX7.out HK8.out (fun g hg e => by have h1 := hHX.out g hg; have h2 := hHZ.out g e; omega))
            have HY8 := Lib.hid (own_keeps HY7.out HK8.out (fun g hg e => by have h1 := hHO.out g hg; have h2 := hHZ.out g e; omega))
            have HR8 := Lib.hid (HR7.out.keeps HK8.out (fun e => by have h2 := hHZ.out p e; omega) (fun b hb e => by have h3 := (hF6.out b hb).1; have h2 := hHZ.out b e; omega))
            have hsl := HK8.out.size
            have HBW8 := Lib.hid (HBW7.out.trans (HK8.out.below (B := w.heap.size) (by omega) (fun x hx e => by have h2 := hHZ.out x e; omega)))
            have hm1 : h ≤ 1000000 := by omega
            have hml := Lib.hid (show h ≤ x0.length from hhl)
            clear HX7 HY7 HK8 HBW7 hOZ HO hz
            go_wp2_with (first
              | (go_at_call 18; refine (numAnswers_calls _).mono ?_; rintro e w9 ⟨rfl, hb9⟩; have HB9 := Lib.hid (HBW8.out.trans (hb9.mono (by omega))); have HX9 := Lib.hid (own_below HX8.out hb9); have HY9 := Lib.hid (own_below HY8.out hb9); have HR9 := Lib.hid (HR8.out.below hb9); clear hb9)
              | (go_at_call 24; have tok := HL; refine (same_calls (S := fun b => (Value.slice A4 h c4).ownBlock = some b) (T := (· < w.heap.size)) _ _ _ _ _ _ _ (x0.take h) (x0.take h) HTL.out HTL.out hm1 hm1 (fun b hb => (HX9.out.lt b hb).2) (fun b hb => Nat.lt_of_lt_of_le hb HB9.out.size) (own_brow HX9.out HTL.out hBt.out hm1) ((row_take HR0.out h).keep HB9.out.block)).mono ?_; rintro e w10 ⟨he, hb10⟩; obtain rfl := he.trans (ret_bool (decide_eq_true rfl)); have HB10 := Lib.hid (HB9.out.trans (hb10.mono HB9.out.size)); have HX10 := Lib.hid (own_below HX9.out hb10); have HY10 := Lib.hid (own_below HY9.out hb10); have HR10 := Lib.hid (HR9.out.below hb10); clear he hb10; clear HL tok)
              | (go_at_call 24; refine (same_calls (S := fun b => (Value.slice A4 h c4).ownBlock = some b) (T := fun b => (Value.slice A6 h c6).ownBlock = some b) _ _ _ _ _ _ _ (x0.take h) (x0.take h) HTL.out HTL.out hm1 hm1 (fun b hb => (HX10.out.lt b hb).2) (fun b hb => (HY10.out.lt b hb).2) (own_brow HX10.out HTL.out hBt.out hm1) (own_brow HY10.out HTL.out hBt.out hm1)).mono ?_; rintro e w11 ⟨he, hb11⟩; obtain rfl := he.trans (ret_bool (decide_eq_true rfl)); have HB11 := Lib.hid (HB10.out.trans (hb11.mono HB10.out.size)); have HR11 := Lib.hid (HR10.out.below hb11); clear he hb11)
              | (go_at_call 25; refine (bad_calls _ _ _ _ _ HR11.out).mono ?_; rintro e w12 ⟨rfl, rfl⟩))
            go_ret
            exact ⟨rfl, HB11.out⟩
end Go.Proofs.Ytdgeofeijgflcaa
