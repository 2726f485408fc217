/- The reference's Split. -/
import Derived.Test.YtmcjjikhdjoopaaPackSplit
import Derived.Test.YtmcjjikhdjoopaaRefRead
import Derived.Deep.RegionHeld3
namespace Go.Proofs.Ytmcjjikhdjoopaa
open Go.RowKit
set_option linter.unusedVariables false
set_option linter.unusedSimpArgs false
theorem refV_read {bs : List Int} (h : isB bs) : ((refV bs 0 0 bs).2 = 0 ∧ (readV 0 0 bs).bad = true) ∨ (∃ n, (refV bs 0 0 bs).2 = n ∧ 0 < n ∧ (readV 0 0 bs).val = (refV bs 0 0 bs).1 ∧ (readV 0 0 bs).bad = false ∧ (readV 0 0 bs).rest = bs.drop n ∧ n ≤ bs.length) := by
  rcases read_ref bs [] (by simp) (by simp) h with ⟨h1, _, h3⟩ | ⟨n, h1, h2, h3, h4, h5⟩
  · exact .inl ⟨h1, h3⟩
  · exact .inr ⟨n + 1, h1, Nat.succ_pos _, h2, h3, h4, h5⟩
/-- A slice of bytes that are read. -/
theorem slice_row {S : Nat → Prop} {w : World} {A : Option Addr} {n c : Nat} {bs : List Int} (hn : bs.length = n) (hnc : n ≤ c) (hr : (Rd.int .u8).Row S w A bs) (l h : Nat) (hl : l ≤ h) (hh : h ≤ n) :
    ∃ A', (∀ w', (Instr.slice 29 (.slice A n c) (some (.int .i64 (l : Int))) (some (.int .i64 (h : Int))) none).run Try.prog w' = .ok (.slice A' (h - l) (c - l)) w') ∧ (h = n → ∀ w', (Instr.slice 29 (.slice A n c) (some (.int .i64 (l : Int))) none none).run Try.prog w' = .ok (.slice A' (h - l) (c - l)) w') ∧ (Rd.int .u8).Row S w A' ((bs.take h).drop l) := by
  have hu := Try.underlying29
  have hsz : ∀ w', (sizeOf 5).run Try.prog w' = .ok 1 w' := fun w' => by
    obtain ⟨i, hi, hz, hs, hb⟩ := info_parts byte_info
    simp [sizeOf, typeInfo, hi, hs, go_sem]
  refine ⟨if c = l then A else A.map (·.add (l * 1)), fun w' => ?_, fun e w' => ?_, ?_⟩
  · have h1 : ((h : Int)) ≤ (c : Int) := by omega
    have h2 : ((l : Int)) ≤ (h : Int) := by omega
    simp [Instr.slice, Instr.sliceBounds, Instr.sliceBound, run_underlying hu, go_sem, h1, h2, hsz, Nat.le_trans hh hnc, hl]
  · subst e
    have h2 : ((l : Int)) ≤ (h : Int) := by omega
    simp [Instr.slice, Instr.sliceBounds, Instr.sliceBound, run_underlying hu, go_sem, h2, hsz, hl]
  · intro hp
    have hlt : l < h := by
      rw [List.length_drop, List.length_take] at hp
      omega
    obtain ⟨b, o, rfl, hb, hc⟩ := hr (by omega)
    rw [if_neg (by omega)]
    refine ⟨b, o + l, by simp [add_at], hb, fun i hi => ?_⟩
    rw [List.length_drop, List.length_take] at hi
    obtain ⟨cs, hK, hcell⟩ := hc (l + i) (by omega)
    refine ⟨cs, by rw [List.getElem_drop, List.getElem_take]; exact hK, fun j u hj => ?_⟩
    have := hcell j u hj
    rw [show o + l + i * (Rd.int .u8).sz + j = o + (l + i) * (Rd.int .u8).sz + j by rw [Nat.add_mul, show (Rd.int .u8).sz = 1 from rfl]; omega]
    exact this
theorem flatS_snoc {S : Nat → Prop} {w : World} {l : List (List Int)} {cells : List Value} {A : Option Addr} {n c : Nat} {p : List Int} (h : kB.Flat S w l cells) (hp : p.length = n) (hnc : n ≤ c) (hm : n ≤ 1000000) (hr : (Rd.int .u8).Row S w A p) : kB.Flat S w (l ++ [p]) (cells ++ [.slice A n c]) := by
  subst hp
  exact Rd.Flat.append (Rd.Flat.one (d := kB) (x := p) (c := [.slice A p.length c]) ⟨_, rfl, A, c, rfl, hnc, by omega, hr⟩) h
/-- What the reference's Split answers. -/
def RefSplitPost (bs : List Int) (most : Int) (e : Ending) (w' : World) : Prop :=
  (splitB bs most = none ∧ ∃ v, e = .returned (.tuple #[v, .bool false])) ∨ ∃ l A c, splitB bs most = some l ∧ e = .returned (.tuple #[.slice A l.length c, .bool true]) ∧ l.length ≤ c ∧ l.length ≤ bs.length ∧ kB.Row (fun b => b < w'.heap.size) w' A l
set_option maxRecDepth 100000 in
set_option maxHeartbeats 4000000 in
theorem refSplit_calls {S : Nat → Prop} (w : World) (A : Option Addr) (n c : Nat) (bs : List Int) (hn : bs.length = n) (hm : n ≤ 1000000) (hnc : n ≤ c) (hS : ∀ b, S b → b < w.heap.size) (hr : (Rd.int .u8).Row S w A bs) (hB : isB bs) (most : Int) (hmo : -9223372036854775808 ≤ most ∧ most ≤ 9223372036854775807) :
    Calls Try.prog 24 #[.slice A n c, .int .i64 most] w fun e w' => RefSplitPost bs most e w' ∧ Below w.heap.size w w' := by
  have HN := Lib.hid hn
  have HR := Lib.hid hr
  have HB := Lib.hid hB
  have HS := Lib.hid hS
  have HV64 := Lib.hid (readV_lt hB)
  obtain ⟨v, hv⟩ : ∃ v, (refV bs 0 0 bs).1 = v := ⟨_, rfl⟩
  have hrd := refV_read hB
  clear hn hr hS
  rcases hrd with ⟨h0, hbad⟩ | ⟨j, hj, hj0, hval, hok, hrest, hjl⟩
  · have hz := Lib.hid (show splitB bs most = none by unfold splitB; rw [if_pos (.inl hbad)])
    have HV := Lib.hid hv
    have H0 := Lib.hid h0
    clear hB hv h0 hbad
    go_enter Try.func24, Try.ntmps24
    go_wp2_with (go_at_call 45; refine (refRead_calls w A n c bs HN.out hm hnc HS.out HR.out).mono ?_; rw [HV.out, H0.out]; rintro e w1 ⟨rfl, hb⟩; have HB1 := Lib.hid hb; clear hb)
    go_ret2
    exact ⟨.inl ⟨hz.out, _, rfl⟩, HB1.out⟩
  · rw [hv] at hval
    rw [HN.out] at hjl
    have HV := Lib.hid hv
    have HJ := Lib.hid hj
    rw [hval] at HV64
    have hv64 := HV64.out
    have hways : (most < 0 ∧ Hid (splitB bs most = none)) ∨ (∃ t : Nat, most = (t : Int) ∧ t < v ∧ Hid (splitB bs most = none)) ∨ (∃ t : Nat, most = (t : Int) ∧ v ≤ t ∧ Hid (splitB bs most = match splitP v (bs.drop (j)) with | some (l, []) => some l | _ => none)) := by
      by_cases h1 : most < 0
      · exact .inl ⟨h1, Lib.hid (by unfold splitB; rw [if_pos (.inr (.inl h1))])⟩
      · by_cases h2 : most < (v : Int)
        · exact .inr (.inl ⟨most.toNat, by omega, by omega, Lib.hid (by unfold splitB; rw [if_pos (.inr (.inr (by rw [hval]; exact h2)))])⟩)
        · refine .inr (.inr ⟨most.toNat, by omega, by omega, Lib.hid ?_⟩)
          unfold splitB
          rw [if_neg (by rw [hok, hval]; simp; omega), hval, hrest]
          rfl
    have hj1 : ((j : Int) == 0) = false := beq_eq_false_iff_ne.2 (by omega)
    clear hB hv hval hok hrest hj HV64
    rcases hways with ⟨h1, HZ⟩ | ⟨t, rfl, htv, HZ⟩ | ⟨t, rfl, hvt, HS0⟩
    · go_enter Try.func24, Try.ntmps24
      go_wp2_with (go_at_call 45; refine (refRead_calls w A n c bs HN.out hm hnc HS.out HR.out).mono ?_; rw [HV.out, HJ.out]; rintro e w1 ⟨rfl, hb⟩; have HB1 := Lib.hid hb; clear hb)
      go_ret2
      exact ⟨.inl ⟨HZ.out, _, rfl⟩, HB1.out⟩
    · go_enter Try.func24, Try.ntmps24
      go_wp2_with (go_at_call 45; refine (refRead_calls w A n c bs HN.out hm hnc HS.out HR.out).mono ?_; rw [HV.out, HJ.out]; rintro e w1 ⟨rfl, hb⟩; have HB1 := Lib.hid hb; clear hb)
      go_ret2
      exact ⟨.inl ⟨HZ.out, _, rfl⟩, HB1.out⟩
    · obtain ⟨A1, hsl1, hsl2, hrow1⟩ := slice_row HN.out hnc HR.out (j) n (by omega) (Nat.le_refl n)
      have hs2 := hsl2 rfl
      have htk : bs.take n = bs := by rw [← HN.out]; exact List.take_length
      rw [htk] at hrow1
      have HR1 := Lib.hid hrow1
      have hd1 : (bs.drop (j)).length = n - (j) := by rw [List.length_drop, HN.out]
      have hB1 : isB (bs.drop (j)) := fun x hx => HB.out x (List.mem_of_mem_drop hx)
      have hd3 : decide ((t : Int) < 0) = false := decide_eq_false (by omega)
      have hd4 : decide (t < v) = false := decide_eq_false (by omega)
      clear hsl1 hsl2 hrow1 htk
      go_enter Try.func24, Try.ntmps24
      go_wp2_with (go_at_call 45; refine (refRead_calls w A n c bs HN.out hm hnc HS.out HR.out).mono ?_; rw [HV.out, HJ.out]; rintro e w1 ⟨rfl, hb⟩; have HB1 := Lib.hid hb; clear hb)
      have hsW := HB1.out.size
      go_loopw [0, 8, 9] (fun bv out ix wr => ∃ (k m d : Nat) (ps : List (List Int)) (r : List Int) (A' A2 : Option Addr) (c' : Nat) (cells : List Value), k ≤ v ∧ ix = .int .u64 k ∧ out = .slice A' k c' ∧ bv = .slice A2 m d ∧ m ≤ d ∧ k + m ≤ n ∧ d ≤ c ∧ Hid (ps.length = k) ∧ Hid (r.length = m) ∧ Hid (isB r) ∧ Hid (splitP v (bs.drop j) = (splitP (v - k) r).map fun x => (ps ++ x.1, x.2)) ∧ Hid ((Rd.int .u8).Row S w A2 r) ∧ Hid (wr.ownsRow w.heap.size 29 1 (.slice A' k c') k cells) ∧ Hid (kB.Flat S w ps cells) ∧ Hid (Below w.heap.size w wr) ∧ w.heap.size ≤ wr.heap.size) (fun _ _ ix _ => v - (intOf ix).toNat)
      case atStart => exact ⟨0, n - j, c - j, [], bs.drop j, none, A1, 0, [], Nat.zero_le _, rfl, rfl, rfl, by omega, by omega, by omega, Lib.hid rfl, Lib.hid hd1, Lib.hid hB1, Lib.hid (by simp), HR1, Lib.hid ⟨rfl, .inl ⟨rfl, rfl⟩⟩, Lib.hid rfl, HB1, hsW⟩
      case round =>
        obtain ⟨k, m, d, ps, r, A', A2, c', cells, hk, rfl, rfl, rfl, hmd, hkm, hdc, HPL, HRL, HBr, HE, HRr, HO, HFl, HB8, hs8⟩ := hrel
        have HRw := Lib.hid (HRr.out.keep (fun b hb => HB8.out.block b (HS.out b hb)))
        have HSw : Hid (∀ b, S b → b < wr.heap.size) := Lib.hid (fun b hb => Nat.lt_of_lt_of_le (HS.out b hb) hs8)
        by_cases hlt : k < v
        · obtain ⟨u, hu⟩ : ∃ u, (refV r 0 0 r).1 = u := ⟨_, rfl⟩
          have HU := Lib.hid hu
          rcases refV_read HBr.out with ⟨h0, hbad⟩ | ⟨q, hq, hq0, hval, hok, hrest, hql⟩
          · have hz := Lib.hid (show splitB bs t = none by rw [HS0.out, splitP_stop HE.out hlt (.inl hbad)])
            have H0 := Lib.hid h0
            clear h0 hbad hu
            go_wp2_with (go_at_call 45; refine (refRead_calls wr A2 m d r HRL.out (by omega) hmd HSw.out HRw.out).mono ?_; rw [HU.out, H0.out]; rintro e w9 ⟨rfl, hb⟩; have HB9 := Lib.hid (HB8.out.trans (hb.mono hs8)); clear hb)
            go_ret2
            exact ⟨.inl ⟨hz.out, _, rfl⟩, HB9.out⟩
          · rw [hu] at hval
            rw [HRL.out] at hql
            have hu64 : u < 18446744073709551616 := by have := readV_lt HBr.out; rw [hval] at this; exact this
            have hrl : (readV 0 0 r).rest.length = m - q := by rw [hrest, List.length_drop, HRL.out]
            have HQ := Lib.hid hq
            have hq1 : ((q : Int) == 0) = false := beq_eq_false_iff_ne.2 (by omega)
            by_cases hum : u ≤ m - q
            · obtain ⟨A3, hs3a, hs3b, hrow3⟩ := slice_row HRL.out hmd HRr.out q (q + u) (by omega) (by omega)
              obtain ⟨A4, hs4a, hs4b, hrow4⟩ := slice_row HRL.out hmd HRr.out (q + u) m (by omega) (Nat.le_refl m)
              have htk : r.take m = r := by rw [← HRL.out]; exact List.take_length
              rw [htk] at hrow4
              have hs4 := hs4b rfl
              rw [show q + u - q = u by omega] at hs3a
              have hstep := splitP_go HE.out hlt hok (by rw [hval, hrl]; exact hum)
              rw [hval, hrest] at hstep
              have e1 : (r.drop q).take u = (r.take (q + u)).drop q := by rw [List.drop_take, show q + u - q = u by omega]
              have e2 : (r.drop q).drop u = r.drop (q + u) := by rw [List.drop_drop]
              rw [e1, e2] at hstep
              have hpl : ((r.take (q + u)).drop q).length = u := by rw [List.length_drop, List.length_take, HRL.out]; omega
              have hdl : (r.drop (q + u)).length = m - (q + u) := by rw [List.length_drop, HRL.out]
              rw [Int.natCast_add] at hs3a hs4
              have HST := Lib.hid hstep
              have HR3 := Lib.hid hrow3
              have HR4 := Lib.hid hrow4
              have HPl := Lib.hid hpl
              have HDl := Lib.hid hdl
              have hcv : IntKind.i64.wrap (u : Int) = (u : Int) := by rw [IntKind.wrap_i64]; omega
              have hci : IntKind.i64.wrap ((q : Int) + (u : Int)) = (q : Int) + (u : Int) := by rw [IntKind.wrap_i64]; omega
              have hcs : IntKind.u64.wrap (IntKind.i64.wrap ((m : Int) - (q : Int))) = ((m - q : Nat) : Int) := by rw [IntKind.wrap_u64, IntKind.wrap_i64]; omega
              clear hs3b hs4a hs4b hrow3 hrow4 htk hstep e1 e2 hpl hdl hval hok hrest hu hq hrl
              go_wp2_with (first
                | (go_at_call 45; refine (refRead_calls wr A2 m d r HRL.out (by omega) hmd HSw.out HRw.out).mono ?_; rw [HU.out, HQ.out]; rintro e w9 ⟨rfl, hb⟩; have HO9 := Lib.hid (own_below HO.out hb); have HB9 := Lib.hid (HB8.out.trans (hb.mono hs8)); have hs9 := HB9.out.size; clear hb)
                | (at_builtin; refine list_app _ rfl (.tmp 53) (.tmp 61) _ rfl 29 Try.underlying37 slb_info rfl (by decide) (by decide) w.heap.size rfl (HO9.out.alloc _) (news := [.slice A3 u (d - q)]) rfl rfl (by exact lie_new _ _ _ rfl) (by exact slb_one _ _ _) (by omega) (by simp; omega) ?_; intro v' w11 hown hg hat; have hB11 := grown_below (HB9.out.alloc hs9 _) hg (by simp; omega) (own_ge HO9.out); obtain ⟨A5, c5, rfl, hn5, _, _⟩ := own_shape hown; have HO11 := Lib.hid hown; have HB11 := Lib.hid hB11; have hs11 := hB11.size; clear hown hg hat hB11))
              have hfl1 := flatS_snoc HFl.out HPl.out (c := d - q) (by omega) (by omega) HR3.out
              go_roundw
              case rel => exact ⟨k + 1, m - (q + u), d - (q + u), _, r.drop (q + u), A5, A4, c5, _, by omega, by go_num, rfl, rfl, by omega, by omega, by omega, Lib.hid (by rw [List.length_append, HPL.out]; rfl), HDl, Lib.hid (fun x hx => HBr.out x (List.mem_of_mem_drop hx)), HST, HR4, HO11, Lib.hid hfl1, HB11, hs11⟩
              case measure => simp [intOf]; omega
            · have hz := Lib.hid (show splitB bs t = none by rw [HS0.out, splitP_stop HE.out hlt (.inr (by rw [hval, hrl]; omega))])
              have hcs : IntKind.u64.wrap (IntKind.i64.wrap ((m : Int) - (q : Int))) = ((m - q : Nat) : Int) := by rw [IntKind.wrap_u64, IntKind.wrap_i64]; omega
              have hgt : m - q < u := by omega
              clear hval hok hrest hu hq hrl hum
              go_wp2_with (go_at_call 45; refine (refRead_calls wr A2 m d r HRL.out (by omega) hmd HSw.out HRw.out).mono ?_; rw [HU.out, HQ.out]; rintro e w9 ⟨rfl, hb⟩; have HB9 := Lib.hid (HB8.out.trans (hb.mono hs8)); clear hb)
              go_ret2
              exact ⟨.inl ⟨hz.out, _, rfl⟩, HB9.out⟩
        · obtain rfl : k = v := by omega
          have hs1 : splitP k (bs.drop j) = some (ps, r) := by
            rw [HE.out, Nat.sub_self]
            simp [splitP]
          have hs2 : splitB bs t = if m = 0 then some ps else none := by
            rw [HS0.out, hs1, ← HRL.out]
            cases r with
            | nil => rfl
            | cons a r => simp
          have HS2 := Lib.hid hs2
          have hways : (m = 0 ∧ ((m : Int) == 0) = true) ∨ (¬ m = 0 ∧ ((m : Int) == 0) = false) := by
            by_cases h : m = 0
            · exact .inl ⟨h, by rw [h]; rfl⟩
            · exact .inr ⟨h, beq_eq_false_iff_ne.2 (by omega)⟩
          clear hs1 hs2
          rcases hways with ⟨hm0, hmb⟩ | ⟨hm0, hmb⟩
          · go_wp2
            go_ret2
            refine ⟨.inr ⟨ps, A', c', ?_, ?_, ?_, ?_, ?_⟩, HB8.out⟩
            · rw [HS2.out, if_pos hm0]
            · rw [HPL.out]; rfl
            · rw [HPL.out]
              obtain ⟨A3, c3, e, h1, _⟩ := own_shape HO.out
              cases e
              exact h1
            · rw [HPL.out, HN.out]; omega
            · have hp := HPL.out
              subst hp
              obtain ⟨A3, c3, e, _, _, hr⟩ := Rd.Sl.of_own (d := kB) (S := fun b => b < wr.heap.size) HO.out (fun g hg => (HO.out.lt g hg).2) ((HFl.out.keep (fun b hb => HB8.out.block b (HS.out b hb))).mono (fun b hb => HSw.out b hb)) (by omega)
              cases e
              exact hr
          · go_wp2
            go_ret2
            exact ⟨.inl ⟨HS2.out.trans (if_neg hm0), _, rfl⟩, HB8.out⟩
end Go.Proofs.Ytmcjjikhdjoopaa
