/- pack.Split. -/
import Derived.Test.YtmcjjikhdjoopaaPackJoin
import Derived.Test.YtmcjjikhdjoopaaTake
namespace Go.Proofs.Ytmcjjikhdjoopaa
open Go.RowKit
set_option linter.unusedVariables false
theorem slb_info : (Try.prog.info? 29).map (fun i => (i.zero, i.size, i.bytes)) = some (some (.slice none 0 0), 1, 24) := by kernel_rfl
theorem slb_one (A : Option Addr) (n c : Nat) : ∀ u ∈ ([.slice A n c] : List Value), u.oneCell' = true := by
  intro u hu
  rw [List.mem_singleton.1 hu]
  rfl
/-- Blocks of bytes from base on. -/
def Byt (base : Nat) (w : World) (b : Nat) : Prop := base ≤ b ∧ ∃ cs fr, w.heap[b]? = some (.cells cs 5 fr)
abbrev kB : Rd (List Int) := Rd.slice (Rd.int .u8)
theorem own_base {w : World} {base base' : Nat} {e : TypeId} {size : Nat} {v : Value} {n : Nat} {xs : List Value} (h : w.ownsRow base e size v n xs) (hb : base' ≤ base) : w.ownsRow base' e size v n xs := by
  refine ⟨h.1, ?_⟩
  rcases h.2 with h2 | ⟨g, cap, cur, h1, h2, h3⟩
  · exact .inl h2
  · exact .inr ⟨g, cap, cur, h1, Nat.le_trans hb h2, h3⟩
theorem byt_ne_rdr {base : Nat} {w : World} {b p : Nat} {S : Nat → Prop} {bs : List Int} {bad : Bool} (hb : Byt base w b) (hr : Rdr w p S bs bad) : b ≠ p := by
  obtain ⟨_, cs, fr, h⟩ := hb
  obtain ⟨A, c, h2, _⟩ := hr.box
  exact blk_ne h h2 (by decide)
theorem own_ne_rdr {w : World} {base p : Nat} {e : TypeId} {size n : Nat} {v : Value} {xs : List Value} {S : Nat → Prop} {bs : List Int} {bad : Bool} (h : w.ownsRow base e size v n xs) (hr : Rdr w p S bs bad) (hne : e ≠ 93) : v.ownBlock ≠ some p := by
  obtain ⟨A, c, h2, _⟩ := hr.box
  exact own_ne_blk h h2 hne
theorem own_ne_byt {w : World} {base base' b : Nat} {e : TypeId} {size n : Nat} {v : Value} {xs : List Value} (h : w.ownsRow base e size v n xs) (hb : Byt base' w b) (hne : e ≠ 5) : v.ownBlock ≠ some b := by
  obtain ⟨_, cs, fr, h2⟩ := hb
  exact own_ne_blk h h2 hne
theorem Byt.lt {base : Nat} {w : World} {b : Nat} (h : Byt base w b) : b < w.heap.size := by
  obtain ⟨_, _, _, h⟩ := h
  exact blk_lt h
theorem Byt.keeps {F : Nat → Prop} {base : Nat} {w w' : World} (hk : Keeps F w w') (hF : ∀ b, Byt base w b → ¬ F b) {b : Nat} (h : Byt base w b) : Byt base w' b := by
  have h2 := hF b h
  obtain ⟨h1, cs, fr, hb⟩ := h
  exact ⟨h1, cs, fr, blk_keeps hb hk h2⟩
theorem flatB_keeps {F : Nat → Prop} {base : Nat} {w w' : World} {l : List (List Int)} {cells : List Value} (hk : Keeps F w w') (hF : ∀ b, Byt base w b → ¬ F b) (h : kB.Flat (Byt base w) w l cells) : kB.Flat (Byt base w') w' l cells :=
  (h.keep (fun b hb => hk.block b hb.lt (hF b hb))).mono (fun b hb => hb.keeps hk hF)
theorem flatB_below {base : Nat} {w w' : World} {l : List (List Int)} {cells : List Value} (hb : Below w.heap.size w w') (h : kB.Flat (Byt base w) w l cells) : kB.Flat (Byt base w') w' l cells :=
  flatB_keeps (F := fun _ => False) (Keeps.of_below hb) (fun _ _ h => h) h
theorem flatB_snoc {base : Nat} {w : World} {l : List (List Int)} {cells : List Value} {A : Option Addr} {n c : Nat} {p : List Int} (h : kB.Flat (Byt base w) w l cells) (ho : w.ownsRow base 5 1 (.slice A n c) n (bcells p)) (hn : p.length = n) (hB : isB p) (hm : n ≤ 1000000) : kB.Flat (Byt base w) w (l ++ [p]) (cells ++ [.slice A n c]) := by
  refine Rd.Flat.append (Rd.Flat.one ?_) h
  subst hn
  refine ⟨_, rfl, ?_⟩
  refine Rd.Sl.of_own (d := Rd.int .u8) ho (fun g hg => ?_) (byte_flat.2 ⟨rfl, hB⟩) (by omega)
  rcases ho.2 with ⟨h1, _⟩ | ⟨g', cap, cur, h1, h2, h3, _⟩
  · rw [h1] at hg; cases hg
  · rw [h1] at hg
    have : g' = g := by simpa [Value.ownBlock] using hg
    subst this
    exact ⟨h2, cur, _, h3⟩
theorem readV_lt {bs : List Int} (h : isB bs) : (readV 0 0 bs).val < 18446744073709551616 := by
  cases hb : (readV 0 0 bs).bad with
  | true => rw [readV_bad bs 0 0 hb]; decide
  | false => exact (readV_good h hb).choose_spec.2.2.2
theorem readV_less {bs : List Int} (h : isB bs) (hb : (readV 0 0 bs).bad = false) : (readV 0 0 bs).rest.length < bs.length := by
  obtain ⟨n, h1, _, h2, _⟩ := readV_good h hb
  rw [h2, List.length_drop]
  omega
theorem splitP_go {n k : Nat} {r0 r : List Int} {ps : List (List Int)} (h : splitP n r0 = (splitP (n - k) r).map fun x => (ps ++ x.1, x.2)) (hk : k < n) (hb : (readV 0 0 r).bad = false) (hv : (readV 0 0 r).val ≤ (readV 0 0 r).rest.length) :
    splitP n r0 = (splitP (n - (k + 1)) ((readV 0 0 r).rest.drop (readV 0 0 r).val)).map fun x => ((ps ++ [(readV 0 0 r).rest.take (readV 0 0 r).val]) ++ x.1, x.2) := by
  rw [h, show n - k = (n - (k + 1)) + 1 by omega, splitP, if_neg (by simp [hb]; omega), Option.map_map]
  congr 1
  funext x
  simp
theorem splitP_stop {n k : Nat} {r0 r : List Int} {ps : List (List Int)} (h : splitP n r0 = (splitP (n - k) r).map fun x => (ps ++ x.1, x.2)) (hk : k < n) (hb : (readV 0 0 r).bad = true ∨ (readV 0 0 r).rest.length < (readV 0 0 r).val) : splitP n r0 = none := by
  rw [h, show n - k = (n - (k + 1)) + 1 by omega, splitP, if_pos hb]
  rfl
theorem left_ok (w : World) (p : Nat) (S : Nat → Prop) (bs : List Int) (n : Nat) (hn : bs.length = n) (h : Rdr w p S bs false) : Calls Try.prog 41 #[.pointer (some ⟨p, 0, none⟩)] w fun e w' => e = .returned (.int .i64 n) ∧ w' = w := by
  refine (left_calls w p S bs false h).mono ?_
  rintro e w' ⟨rfl, rfl⟩
  subst hn
  exact ⟨rfl, rfl⟩
/-- What Split answers. -/
def SplitPost (w : World) (bs : List Int) (most : Int) (e : Ending) (w' : World) : Prop :=
  (splitB bs most = none ∧ e = .returned (.tuple #[.slice none 0 0, .int .i64 2])) ∨ ∃ l A c, splitB bs most = some l ∧ e = .returned (.tuple #[.slice A l.length c, .int .i64 0]) ∧ l.length ≤ c ∧ l.length ≤ bs.length ∧ kB.Row (fun b => w.heap.size ≤ b ∧ b < w'.heap.size) w' A l
set_option maxRecDepth 100000 in
set_option maxHeartbeats 4000000 in
theorem split_calls (w : World) (A : Option Addr) (n c : Nat) (bs : List Int) (hn : bs.length = n) (hm : n ≤ 1000000) (hl : Lie w A n (bcells bs)) (hB : isB bs) (most : Int) (hmo : -9223372036854775808 ≤ most ∧ most ≤ 9223372036854775807) :
    Calls Try.prog 20 #[.slice A n c, .int .i64 most] w fun e w' => SplitPost w bs most e w' ∧ Below w.heap.size w w' := by
  have HN := Lib.hid hn
  have HL := Lib.hid hl
  have HB := Lib.hid hB
  have HV64 := Lib.hid (readV_lt hB)
  clear hn hl hB
  have hways : Hid ((readV 0 0 bs).bad = true ∨ most < 0 ∨ most < (readV 0 0 bs).val) ∨ (∃ t v : Nat, most = (t : Int) ∧ v ≤ t ∧ t < 9223372036854775808 ∧ Hid ((readV 0 0 bs).bad = false) ∧ Hid ((readV 0 0 bs).val = v)) := by
    by_cases h : (readV 0 0 bs).bad = true ∨ most < 0 ∨ most < (readV 0 0 bs).val
    · exact .inl (Lib.hid h)
    · refine .inr ⟨most.toNat, _, by omega, ?_, by omega, Lib.hid ?_, Lib.hid rfl⟩
      · omega
      · cases hb : (readV 0 0 bs).bad with
        | false => rfl
        | true => exact absurd (.inl hb) h
  rcases hways with HNO | ⟨t, v, rfl, hvt, ht, HOK, HVV⟩
  · have hz := Lib.hid (show splitB bs most = none by unfold splitB; rw [if_pos HNO.out])
    go_enter Try.func20, Try.ntmps20
    go_wp2_with (first
      | (go_at_call 39; refine (newReader_calls _ _ _ _ bs HN.out (by omega) HL.out HB.out).mono ?_; rintro e w6 ⟨p, S, rfl, hR, hp, hS, hb6⟩; have HR6 := Lib.hid hR; have HB6 := Lib.hid hb6; have hs6 := hb6.size; clear hR hS hb6)
      | (go_at_call 40; refine (count_no _ _ _ _ HR6.out most hmo HNO.out HV64.out).mono ?_; rintro e w7 ⟨⟨x, rfl⟩, hK⟩; have HB7 := Lib.hid (HB6.out.trans (hK.below hs6 (fun x hx e => by omega))); clear hK))
    go_ret2
    exact ⟨.inl ⟨hz.out, rfl⟩, HB7.out⟩
  · obtain ⟨r0, hr0⟩ : ∃ r0, (readV 0 0 bs).rest = r0 := ⟨_, rfl⟩
    have hs0 : splitB bs t = match splitP v r0 with | some (l, []) => some l | _ => none := by
      unfold splitB
      rw [if_neg (by rw [HOK.out, HVV.out]; simp; omega), HVV.out, hr0]
      rfl
    have hlen0 : r0.length < n := by have := readV_less HB.out HOK.out; rw [hr0, HN.out] at this; exact this
    have HS0 := Lib.hid hs0
    have HR0 := Lib.hid hr0
    clear hs0 hr0
    go_enter Try.func20, Try.ntmps20
    go_wp2_with (first
      | (go_at_call 39; refine (newReader_calls _ _ _ _ bs HN.out (by omega) HL.out HB.out).mono ?_; rintro e w6 ⟨p, S, rfl, hR, hp, hS, hb6⟩; have HR6 := Lib.hid hR; have HB6 := Lib.hid hb6; have hs6 := hb6.size; clear hR hS hb6)
      | (go_at_call 40; refine (count_ok _ _ _ _ HR6.out t v ht HOK.out HVV.out hvt).mono ?_; rintro e w7 ⟨rfl, hR, hK⟩; rw [HR0.out] at hR; have hfar := HR6.out.far; have hlt7 := hK.size; have HR7 := Lib.hid hR; have HF := Lib.hid hfar; have hp6 := blk_lt HR6.out.box.choose_spec.choose_spec.1; have HB7 := Lib.hid (HB6.out.trans (hK.below hs6 (fun x hx e => by omega))); clear hK hR hfar))
    obtain ⟨W6, hW6⟩ : ∃ W6, W6 = w6.heap.size := ⟨_, rfl⟩
    have HFar : Hid (∀ b, S b → b < W6 ∧ b ≠ p) := Lib.hid (by rw [hW6]; exact HF.out)
    rw [← hW6] at hp6 hlt7 hs6
    clear hW6 HF
    go_loopw [9, 23] (fun out ix wr => ∃ (k : Nat) (ps : List (List Int)) (r : List Int) (A' : Option Addr) (c' : Nat) (cells : List Value), k ≤ v ∧ ix = .int .i64 k ∧ out = .slice A' k c' ∧ Hid (ps.length = k) ∧ k + r.length < n ∧ Hid (splitP v r0 = (splitP (v - k) r).map fun x => (ps ++ x.1, x.2)) ∧ Hid (Rdr wr p S r false) ∧ Hid (wr.ownsRow W6 29 1 (.slice A' k c') k cells) ∧ Hid (kB.Flat (Byt w.heap.size wr) wr ps cells) ∧ Hid (Below w.heap.size w wr) ∧ W6 ≤ wr.heap.size) (fun _ ix _ => v - (intOf ix).toNat)
    case atStart => exact ⟨0, [], r0, none, 0, [], Nat.zero_le _, rfl, rfl, Lib.hid rfl, by omega, Lib.hid (by simp), HR7, Lib.hid ⟨rfl, .inl ⟨rfl, rfl⟩⟩, Lib.hid rfl, HB7, hlt7⟩
    case round =>
      obtain ⟨k, ps, r, A', c', cells, hk, rfl, rfl, HPL, hkr, HE, HR, HO, HFl, HB8, hs8⟩ := hrel
      have hs8w : w.heap.size ≤ wr.heap.size := by omega
      by_cases hlt : k < v
      · obtain ⟨u, hu⟩ : ∃ u, (readV 0 0 r).val = u := ⟨_, rfl⟩
        obtain ⟨r1, hr1⟩ : ∃ r1, (readV 0 0 r).rest = r1 := ⟨_, rfl⟩
        obtain ⟨q, hq⟩ : ∃ q, r.length = q := ⟨_, rfl⟩
        rw [hq] at hkr
        have HQ := Lib.hid hq
        have hrw : Hid ((readV 0 0 r).bad = true ∨ ((q : Nat) : Int) < 0 ∨ ((q : Nat) : Int) < (readV 0 0 r).val) ∨ (Hid ((readV 0 0 r).bad = false) ∧ u ≤ q) := by
          by_cases h : (readV 0 0 r).bad = true ∨ ((q : Nat) : Int) < 0 ∨ ((q : Nat) : Int) < (readV 0 0 r).val
          · exact .inl (Lib.hid h)
          · refine .inr ⟨Lib.hid ?_, by omega⟩
            cases hb : (readV 0 0 r).bad with
            | false => rfl
            | true => exact absurd (.inl hb) h
        have HU := Lib.hid hu
        have HR1 := Lib.hid hr1
        clear hq hu hr1
        rcases hrw with HNO | ⟨HOKr, huq⟩
        · have hz : splitB bs t = none := by
            rw [HS0.out, splitP_stop HE.out hlt (by
              rcases HNO.out with h | h | h
              · exact .inl h
              · omega
              · right
                have : (readV 0 0 r).rest.length ≤ r.length := by
                  cases hb : (readV 0 0 r).bad with
                  | false => exact Nat.le_of_lt (readV_less HR.out.isb hb)
                  | true => rw [readV_bad r 0 0 hb] at h; omega
                rw [HQ.out] at this
                omega)]
          have HZ := Lib.hid hz
          have HV2 := Lib.hid (readV_lt HR.out.isb)
          clear hz
          go_wp2_with (first
            | (go_at_call 41; refine (left_ok _ _ _ _ q HQ.out HR.out).mono ?_; rintro e w9 ⟨rfl, rfl⟩)
            | (go_at_call 40; refine (count_no _ _ _ _ HR.out q (by omega) HNO.out HV2.out).mono ?_; rintro e w9 ⟨⟨x, rfl⟩, hK⟩; have HB9 := Lib.hid (HB8.out.trans (hK.below hs8w (fun x hx e => by omega))); clear hK))
          go_ret2
          exact ⟨.inl ⟨HZ.out, rfl⟩, HB9.out⟩
        · have hlr := readV_less HR.out.isb HOKr.out
          rw [HR1.out, HQ.out] at hlr
          obtain ⟨q1, hq1⟩ : ∃ q1, r1.length = q1 := ⟨_, rfl⟩
          rw [hq1] at hlr
          have HQ1 := Lib.hid hq1
          clear hq1
          by_cases hur : u ≤ q1
          · have hstep := splitP_go HE.out hlt HOKr.out (by rw [HU.out, HR1.out, HQ1.out]; exact hur)
            rw [HU.out, HR1.out] at hstep
            have HST := Lib.hid hstep
            have htl : (r1.take u).length = u := by rw [List.length_take, HQ1.out]; omega
            have hdl : (r1.drop u).length = q1 - u := by rw [List.length_drop, HQ1.out]
            have HTL := Lib.hid htl
            have HDL := Lib.hid hdl
            clear hstep htl hdl
            go_wp2_with (first
              | (go_at_call 41; refine (left_ok _ _ _ _ q HQ.out HR.out).mono ?_; rintro e w9 ⟨rfl, rfl⟩)
              | (go_at_call 40; go_loud (refine (count_ok _ _ _ _ HR.out q u (by omega) HOKr.out HU.out huq).mono ?_; rintro e w9 ⟨rfl, hR9, hK⟩; rw [HR1.out] at hR9; have HR9 := Lib.hid hR9; have HO9 := Lib.hid (own_keeps HO.out hK (fun g hg e => own_ne_rdr HO.out HR.out (by decide) (by rw [hg, e]))); have HFl9 := Lib.hid (flatB_keeps hK (fun b hb e => byt_ne_rdr hb HR.out e) HFl.out); have HB9 := Lib.hid (HB8.out.trans (hK.below hs8w (fun x hx e => by omega))); have hs9 : W6 ≤ w9.heap.size := Nat.le_trans hs8 hK.size; clear hK hR9))
              | (go_at_call 42; refine (take_ok _ _ _ _ HR9.out u (by rw [HQ1.out]; exact hur)).mono ?_; rintro e w10 ⟨A2, c2, rfl, hown2, hR10, hK⟩; have hne9 : ∀ x, Byt w.heap.size w9 x → ¬ x = p := (fun b hb e => byt_ne_rdr hb HR9.out e); have HFl10 := Lib.hid (flatB_snoc (flatB_keeps hK hne9 HFl9.out) (own_base hown2 (by omega)) HTL.out (fun x hx => HR9.out.isb x (List.mem_of_mem_take hx)) (by omega)); have HO10 := Lib.hid (own_keeps HO9.out hK (fun g hg e => own_ne_rdr HO9.out HR9.out (by decide) (by rw [hg, e]))); have HR10 := Lib.hid hR10; have HB10 := Lib.hid (HB9.out.trans (hK.below (by omega) (fun x hx e => by omega))); have hs10 : W6 ≤ w10.heap.size := Nat.le_trans hs9 hK.size; clear hK hR10 hown2 hne9)
              | (at_builtin; refine list_app _ rfl (.tmp 34) (.tmp 38) _ rfl 29 Try.underlying37 slb_info rfl (by decide) (by decide) W6 rfl (HO10.out.alloc _) (news := [.slice A2 u c2]) rfl rfl (by exact lie_new _ _ _ rfl) (by exact slb_one _ _ _) (by omega) (by simp; omega) ?_; intro v' w11 hown hg hat; have hK11 := ((Keeps.refl (fun b => (Value.slice A' k c').ownBlock = some b) w10).alloc _).grown hg (fun g hg _ => hg); have HR11 := Lib.hid (HR10.out.keeps hK11 (fun e => own_ne_rdr HO10.out HR10.out (by decide) e) (fun b hb e => by have h1 := (HO10.out.lt b e).1; have h2 := (HFar.out b hb).1; omega)); have HFl11 := Lib.hid (flatB_keeps hK11 (fun b hb e => own_ne_byt HO10.out hb (by decide) e) HFl10.out); have HB11 := Lib.hid (HB10.out.trans (hK11.below (by omega) (fun x hx e => by have h1 := (HO10.out.lt x e).1; omega))); have hs11 : W6 ≤ w11.heap.size := Nat.le_trans hs10 hK11.size; obtain ⟨A3, c3, rfl, hn3, _, _⟩ := own_shape hown; have HO11 := Lib.hid hown; clear hown hg hat hK11)
              | (go_at_call 43; refine (bad_calls _ _ _ _ _ HR11.out).mono ?_; rintro e w12 ⟨rfl, rfl⟩))
            go_roundw
            case rel => exact ⟨k + 1, _, r1.drop u, A3, c3, _, by omega, by go_num, rfl, Lib.hid (by rw [List.length_append, HPL.out]; rfl), by rw [HDL.out]; omega, HST, HR11, HO11, HFl11, HB11, hs11⟩
            case measure => simp [intOf]; omega
          · have hz : splitB bs t = none := by
              rw [HS0.out, splitP_stop HE.out hlt (.inr (by rw [HU.out, HR1.out, HQ1.out]; omega))]
            have HZ := Lib.hid hz
            clear hz
            go_wp2_with (first
              | (go_at_call 41; refine (left_ok _ _ _ _ q HQ.out HR.out).mono ?_; rintro e w9 ⟨rfl, rfl⟩)
              | (go_at_call 40; refine (count_ok _ _ _ _ HR.out q u (by omega) HOKr.out HU.out huq).mono ?_; rintro e w9 ⟨rfl, hR9, hK⟩; rw [HR1.out] at hR9; have HR9 := Lib.hid hR9; have HO9 := Lib.hid (own_keeps HO.out hK (fun g hg e => own_ne_rdr HO.out HR.out (by decide) (by rw [hg, e]))); have HB9 := Lib.hid (HB8.out.trans (hK.below hs8w (fun x hx e => by omega))); have hs9 : W6 ≤ w9.heap.size := Nat.le_trans hs8 hK.size; clear hK hR9)
              | (go_at_call 42; refine (take_no _ _ _ _ _ HR9.out u (.inr (.inr (by rw [HQ1.out]; omega)))).mono ?_; rintro e w10 ⟨rfl, hR10, hK⟩; have HO10 := Lib.hid (own_keeps HO9.out hK (fun g hg e => own_ne_rdr HO9.out HR9.out (by decide) (by rw [hg, e]))); have HR10 := Lib.hid hR10; have HB10 := Lib.hid (HB9.out.trans (hK.below (by omega) (fun x hx e => by omega))); have hs10 : W6 ≤ w10.heap.size := Nat.le_trans hs9 hK.size; clear hK hR10)
              | (at_builtin; refine list_app _ rfl (.tmp 34) (.tmp 38) _ rfl 29 Try.underlying37 slb_info rfl (by decide) (by decide) W6 rfl (HO10.out.alloc _) (news := [.slice none 0 0]) rfl rfl (by exact lie_new _ _ _ rfl) (by exact slb_one _ _ _) (by omega) (by simp; omega) ?_; intro v' w11 hown hg hat; have hK11 := ((Keeps.refl (fun b => (Value.slice A' k c').ownBlock = some b) w10).alloc _).grown hg (fun g hg _ => hg); have HR11 := Lib.hid (HR10.out.keeps hK11 (fun e => own_ne_rdr HO10.out HR10.out (by decide) e) (fun b hb e => by have h1 := (HO10.out.lt b e).1; have h2 := (HFar.out b hb).1; omega)); have HB11 := Lib.hid (HB10.out.trans (hK11.below (by omega) (fun x hx e => by have h1 := (HO10.out.lt x e).1; omega))); clear hown hg hat hK11)
              | (go_at_call 43; refine (bad_calls _ _ _ _ _ HR11.out).mono ?_; rintro e w12 ⟨rfl, rfl⟩))
            go_ret2
            exact ⟨.inl ⟨HZ.out, rfl⟩, HB11.out⟩
      · obtain rfl : k = v := by omega
        have hs1 : splitP k r0 = some (ps, r) := by
          rw [HE.out, Nat.sub_self]
          simp [splitP]
        obtain ⟨q, hq⟩ : ∃ q, r.length = q := ⟨_, rfl⟩
        have HQ := Lib.hid hq
        have hs2 : splitB bs t = if q = 0 then some ps else none := by
          rw [HS0.out, hs1, ← hq]
          cases r with
          | nil => rfl
          | cons a r => simp
        have HS2 := Lib.hid hs2
        have hlw : wr.heap.size = wr.heap.size := rfl
        rw [hq] at hkr
        clear hs1 hs2 hq
        by_cases hq0 : q = 0
        · go_wp2_with (go_at_call 41; refine (left_ok _ _ _ _ q HQ.out HR.out).mono ?_; rintro e w9 ⟨rfl, rfl⟩)
          go_ret2
          refine ⟨.inr ⟨ps, A', c', ?_, ?_, ?_, ?_, ?_⟩, HB8.out⟩
          · rw [HS2.out, if_pos hq0]
          · rw [HPL.out]; rfl
          · rw [HPL.out]
            obtain ⟨A3, c3, e, h1, _⟩ := own_shape HO.out
            cases e
            exact h1
          · rw [HPL.out, HN.out]; omega
          · have hp := HPL.out
            subst hp
            obtain ⟨A3, c3, e, _, _, hr⟩ := Rd.Sl.of_own (d := kB) (S := fun b => w.heap.size ≤ b ∧ b < w9.heap.size) HO.out (fun g hg => ⟨by have := (HO.out.lt g hg).1; omega, (HO.out.lt g hg).2⟩) (HFl.out.mono (fun b hb => ⟨hb.1, hb.lt⟩)) (by omega)
            cases e
            exact hr
        · go_wp2_with (go_at_call 41; refine (left_ok _ _ _ _ q HQ.out HR.out).mono ?_; rintro e w9 ⟨rfl, rfl⟩)
          go_ret2
          refine ⟨.inl ⟨?_, rfl⟩, HB8.out⟩
          rw [HS2.out, if_neg hq0]
end Go.Proofs.Ytmcjjikhdjoopaa
