/- verify's checker: one, function, of code that goes straight on. -/
import Derived.Test.YtdmmjckhpagibaaGreatDoorMcCk
namespace Go.Proofs.YtdmmjckhpagibaaGreatDoor
open Go.RowKit Go.Sort
set_option linter.unusedVariables false
theorem TD.pop {base : Nat} {w : World} {A : Option Addr} {c : Nat} {x : Int} (h : TD base w A 1 c [x]) : ∃ g o, A = some ⟨g, o, none⟩ ∧ w.cell? ⟨g, o, none⟩ = some (.int .i64 x) ∧ (∃ cur, w.heap[g]? = some (.cells cur 3 (0, 0))) ∧ 1 ≤ c ∧ c ≤ maxLen ∧
    TD base w (if c = 1 then some ⟨g, o, none⟩ else some ⟨g, o + 1, none⟩) 0 (c - 1) [] := by
  obtain ⟨h1, h2, h3, h4⟩ := h
  rcases h4 with h4 | ⟨g, o, cur, rfl, hb, hg, hs, hc⟩
  · omega
  · refine ⟨g, o, rfl, (blk_cell hg _).trans (by have := hc 0 x rfl; simpa using this), ⟨cur, hg⟩, h2, h3, rfl, Nat.zero_le _, by omega, ?_⟩
    by_cases hc1 : c = 1
    · left; omega
    · right
      rw [if_neg hc1]
      exact ⟨g, o + 1, cur, rfl, hb, hg, by omega, fun j x hj => by cases hj⟩
theorem slice_rest (w : World) (g o c : Nat) (h : 1 ≤ c) : (Instr.slice 118 (.slice (some ⟨g, o, none⟩) 1 c) (some (.int .i64 1)) none none).run Tryz.prog w = .ok (.slice (if c = 1 then some ⟨g, o, none⟩ else some ⟨g, o + 1, none⟩) 0 (c - 1)) w := by
  have hu := Tryz.underlying118
  by_cases hc : c = 1
  · subst hc; simp [Instr.slice, run_underlying hu, go_sem]
  · simp [Instr.slice, run_underlying hu, go_sem, hc, add_at]
theorem MRow.mono {S S' : Nat → Prop} {w : World} {m : Md} {B0 B1 B2 B3 B4 : Option Addr} {m0 m1 m2 m3 m4 : Nat} (h : MRow S w m B0 B1 B2 B3 B4 m0 m1 m2 m3 m4) (hS : ∀ b, S b → S' b) (lt : ∀ b, S' b → b < w.heap.size) : MRow S' w m B0 B1 B2 B3 B4 m0 m1 m2 m3 m4 :=
  ⟨h.e0, h.e1, h.e2, h.e3, h.e4, h.r0.mono hS, h.r1.mono hS, h.r2.mono hS, h.r3.mono hS, h.r4.mono hS, lt⟩
/-- What an instruction's rule is, in whatever world lies behind w0. -/
def OfC (w0 : World) (m : Md) (B0 B1 B2 B3 B4 : Option Addr) (m0 m1 m2 m3 m4 d0 d1 d2 d3 d4 : Nat) (f : Fn) (i : Ins) (st : List Ty) (r : List Ty × List Ty) (ok : Bool) : Prop :=
  ∀ (S : Nat → Prop) (W : World), Below w0.heap.size w0 W → MRow S W m B0 B1 B2 B3 B4 m0 m1 m2 m3 m4 → ∀ A0 c0 A3 c3 A4 c4 A c, FRow S W f A0 A3 A4 f.args.length f.locals.length f.code.length → k_ty.Row S W A st →
    Calls Tryz.prog 96 #[.agg #[.slice B0 m0 d0, .slice B1 m1 d1, .slice B2 m2 d2, .slice B3 m3 d3, .slice B4 m4 d4], .agg #[.slice A0 f.args.length c0, .int .i64 f.ret.kind, .int .i64 f.ret.n, .slice A3 f.locals.length c3, .slice A4 f.code.length c4], .agg #[.int .i64 i.op, .int .i64 i.a, .int .i64 i.b], .slice A st.length c] W fun e w' => RuleOut S W r ok e w'
theorem hold9 {V w' : World} {p g o : Nat} {t : TypeId} {a0 a1 a2 a3 a4 a5 a6 a7 c0 : Value} (hp : V.heap[p]? = some (.cells #[a0, a1, a2, a3, a4, a5, a6, a7] t (0, 0))) (h0 : V.cell? ⟨g, o, none⟩ = some c0) (hb : Below V.heap.size V w') :
    w'.cell? ⟨p, 0, none⟩ = some a0 ∧ w'.cell? ⟨p, 1, none⟩ = some a1 ∧ w'.cell? ⟨p, 2, none⟩ = some a2 ∧ w'.cell? ⟨p, 3, none⟩ = some a3 ∧ w'.cell? ⟨p, 4, none⟩ = some a4 ∧ w'.cell? ⟨p, 5, none⟩ = some a5 ∧ w'.cell? ⟨p, 6, none⟩ = some a6 ∧ w'.cell? ⟨p, 7, none⟩ = some a7 ∧ w'.cell? ⟨g, o, none⟩ = some c0 ∧ Below V.heap.size V w' := by
  have h := blk_below hp hb (blk_lt hp)
  exact ⟨blk_cell h 0, blk_cell h 1, blk_cell h 2, blk_cell h 3, blk_cell h 4, blk_cell h 5, blk_cell h 6, blk_cell h 7, below_cell h0 hb, hb⟩
theorem held9 {a b c d e f g h i : Prop} {V w' : World} (hh : a ∧ b ∧ c ∧ d ∧ e ∧ f ∧ g ∧ h ∧ i ∧ Below V.heap.size V w') : Below V.heap.size V w' := hh.2.2.2.2.2.2.2.2.2
/-- The shapes behind a step. -/
def nextS (shs : List Shp) (tq : List Int) (after : List Ty) : List Shp := match tq with | [q] => shs.set q.toNat ⟨true, after⟩ | _ => shs
set_option maxRecDepth 100000 in
set_option maxHeartbeats 8000000 in
theorem one_calls {S : Nat → Prop} {w0 w : World} {p B : Nat} {m : Md} {B0 B1 B2 B3 B4 : Option Addr} {m0 m1 m2 m3 m4 d0 d1 d2 d3 d4 : Nat} {fi : Nat} {shs : List Shp} {TA : Option Addr} {tc : Nat} {pc : Nat} (h : Ck w0 w p B (.slice B0 m0 d0) (.slice B1 m1 d1) (.slice B2 m2 d2) (.slice B3 m3 d3) (.slice B4 m4 d4) fi shs TA 1 tc [(pc : Int)])
    (hM : MRow S w0 m B0 B1 B2 B3 B4 m0 m1 m2 m3 m4) (f : Fn) (hfi : m.funcs[fi]? = some f) (hfi2 : fi ≤ 1000) (hl0 : f.args.length ≤ 1000) (hl3 : f.locals.length ≤ 1000) (hl4 : f.code.length ≤ 1000) (i : Ins) (hpc : f.code[pc]? = some i) (st : List Ty) (hsh : shs[pc]? = some ⟨true, st⟩) (r : List Ty × List Ty) (hof : OfC w0 m B0 B1 B2 B3 B4 m0 m1 m2 m3 m4 d0 d1 d2 d3 d4 f i st r true)
    (after : List Ty) (tq : List Int) (hstep : stepL f.code.length i pc st r true = (after, tq, 0)) (hto : tq = [] ∨ ∃ q : Nat, tq = [(q : Int)] ∧ shs[q]? = some ⟨false, []⟩) (haf : after.length ≤ 1000) :
    Calls Tryz.prog 77 #[.pointer (some ⟨p, 0, none⟩)] w fun e w' => e = .returned (.tuple #[.int .i64 0, .int .i64 0]) ∧ ∃ TA' tc', Ck w0 w' p B (.slice B0 m0 d0) (.slice B1 m1 d1) (.slice B2 m2 d2) (.slice B3 m3 d3) (.slice B4 m4 d4) fi (nextS shs tq after) TA' tq.length tc' tq := by
  obtain ⟨g, o, rfl, t0, ⟨cur, hg⟩, hc1, hcm, hTD⟩ := h.td.pop
  obtain ⟨N, hN⟩ : ∃ N, shs.length = N := ⟨_, rfl⟩
  have hpl : pc < N := by have := (List.getElem?_eq_some_iff.1 hsh).1; omega
  have hsl := h.sl
  rw [hN] at hsl
  have hbox := h.box
  rw [hN] at hbox
  have c7 : w.cell? ⟨p, 7, none⟩ = some (.slice (some ⟨g, o, none⟩) 1 tc) := blk_cell hbox 7
  have f7 := blk_frozen hbox 7
  have hslr := fun W => slice_rest W g o tc hc1
  obtain ⟨TA2, hTA2⟩ : ∃ A, (if tc = 1 then some ⟨g, o, none⟩ else some ⟨g, o + 1, none⟩ : Option Addr) = A := ⟨_, rfl⟩
  rw [hTA2] at hTD
  simp only [hTA2] at hslr
  have hpB := h.pB
  have hV : Ck w0 (w.setCell ⟨p, 7, none⟩ (.slice TA2 0 (tc - 1))) p B (.slice B0 m0 d0) (.slice B1 m1 d1) (.slice B2 m2 d2) (.slice B3 m3 d3) (.slice B4 m4 d4) fi shs TA2 0 (tc - 1) [] :=
    ⟨h.below.setCell (p := ⟨p, 7, none⟩) h.gp _, h.gp, h.gB, by have := blk_set h.box 7 (.slice TA2 0 (tc - 1)); simpa using this, h.sh.keep (Below.heap_setCell _ _ _ B (Ne.symm hpB)) (fun b hT => Below.heap_setCell _ _ _ b (hT.ne h.box (by decide))), hTD.keep (fun g o e ⟨cur, hg⟩ => Below.heap_setCell _ _ _ g (blk_ne hg h.box (by decide))), h.sl⟩
  have HV := Lib.hid hV
  have HH := Lib.hid h.gp
  have HM := Lib.hid hM
  have HOf := Lib.hid hof
  have HN := Lib.hid hN
  have HStep := Lib.hid hstep
  have HTo := Lib.hid hto
  have HSh := Lib.hid hsh
  have HFi := Lib.hid hfi
  have HPc := Lib.hid hpc
  clear h hTD hbox hM hof hN hstep hto hsh hfi hpc hTA2 hg hV
  go_enter Tryz.func77, Tryz.ntmps77
  go_upto_region 3 with fail
  generalize w.setCell ⟨p, 7, none⟩ (.slice TA2 0 (tc - 1)) = V at *
  clear c7 f7 t0 hslr
  obtain ⟨cs, hB, hcs, hget⟩ := HV.out.sh
  obtain ⟨A1, c1, -, s1, l1, m1', row1⟩ := hget pc _ HSh.out
  simp only at s1 l1 m1' row1
  have hB1 : V.cell? ⟨B, pc * 2 + 1, none⟩ = some (.slice A1 st.length c1) := (blk_cell hB _).trans s1
  have HBx := Lib.hid hB1
  have hbox2 := HV.out.box
  rw [HN.out] at hbox2
  have HP := Lib.hid hbox2
  have hks : ∀ W, Below V.heap.size V W → Calls Tryz.prog 111 #[.agg #[.slice B0 m0 d0, .slice B1 m1 d1, .slice B2 m2 d2, .slice B3 m3 d3, .slice B4 m4 d4], .int .i64 fi, .int .i64 pc, .slice A1 st.length c1] W fun e w' => StepOut W (after, tq, 0) e w' := by
    intro W hb
    have hbW : Below w0.heap.size w0 W := HV.out.below.trans (hb.mono HV.out.below.size)
    have hM' : MRow (fun b => S b ∨ TyB V b) W m B0 B1 B2 B3 B4 m0 m1 m2 m3 m4 := (HM.out.below hbW).mono (fun b h => .inl h) (fun b h => h.elim (fun h => Nat.lt_of_lt_of_le (HM.out.lt b h) hbW.size) (fun h => Nat.lt_of_lt_of_le h.lt hb.size))
    have row' : k_ty.Row (fun b => S b ∨ TyB V b) W A1 st := (row1.keep (fun b hT => hb.block b hT.lt)).mono (fun b h => .inr h)
    refine (step_calls W m B0 B1 B2 B3 B4 m0 m1 m2 m3 m4 d0 d1 d2 d3 d4 hM' fi f HFi.out hfi2 hl0 hl3 hl4 pc i HPc.out A1 st.length c1 st rfl m1' l1 row' r true (fun W' hb' A0 c0 A3 c3 A4 c4 hF => HOf.out _ W' (hbW.trans (hb'.mono hbW.size)) (hM'.below hb') A0 c0 A3 c3 A4 c4 A1 c1 hF (row'.keep (fun b h => hb'.block b (hM'.lt b h))))).mono ?_
    rw [HStep.out]
    exact fun e w' h => h
  have KS := Lib.hid hks
  clear hB hcs hget s1 row1 hB1 hbox2 hks
  go_region_held3 (fun w' => w'.cell? ⟨p, 0, none⟩ = some (.slice B0 m0 d0) ∧ w'.cell? ⟨p, 1, none⟩ = some (.slice B1 m1 d1) ∧ w'.cell? ⟨p, 2, none⟩ = some (.slice B2 m2 d2) ∧ w'.cell? ⟨p, 3, none⟩ = some (.slice B3 m3 d3) ∧ w'.cell? ⟨p, 4, none⟩ = some (.slice B4 m4 d4) ∧ w'.cell? ⟨p, 5, none⟩ = some (.int .i64 fi) ∧ w'.cell? ⟨p, 6, none⟩ = some (.slice (some ⟨B, 0, none⟩) N N) ∧ w'.cell? ⟨p, 7, none⟩ = some (.slice TA2 0 (tc - 1)) ∧ w'.cell? ⟨B, pc * 2 + 1, none⟩ = some (.slice A1 st.length c1) ∧ Below V.heap.size V w')
    (first | (refine hold9 HP.out HBx.out ?_; repeat (first | assumption | exact Below.refl _ _ | exact held9 (by assumption) | refine Below.drew ?_)))
    (first | (go_at_call 111; go_must (refine (KS.out _ (held9 (by assumption))).mono ?_; rintro e w3 ⟨A8, c8, B8, e8, rfl, hle8, hsp8, hr8, ht8, hb8⟩; have hbV3 : Below V.heap.size V w3 := Below.trans (held9 (by assumption)) (hb8.mono (held9 (by assumption)).size))))
  all_goals
    have HCk3 := Lib.hid (HV.out.under hbV3)
    have HR8 := Lib.hid hr8
    have HT8 := Lib.hid ht8
    clear hr8 ht8 hb8 hbV3
    rcases HTo.out with hq | ⟨q, hq, hqs⟩
    · obtain ⟨L0, hL0⟩ : ∃ L0, tq.length = L0 := ⟨_, rfl⟩
      rw [hL0]
      obtain rfl : L0 = 0 := by rw [← hL0, hq]; rfl
      have HQ := Lib.hid hq
      clear hq hL0
      go_wp2_with fail
      go_loopw [51] (fun ix wr => ix = .int .i64 0 ∧ Hid (w3 = wr)) (fun _ _ => 0)
      case atStart => exact ⟨rfl, Lib.hid rfl⟩
      case round =>
        obtain ⟨rfl, hw⟩ := hrel
        have e := hw.out
        subst e
        go_wp2
        go_ret2
        obtain rfl := HQ.out
        exact ⟨rfl, TA2, tc - 1, HCk3.out⟩
    · obtain ⟨L0, hL0⟩ : ∃ L0, tq.length = L0 := ⟨_, rfl⟩
      rw [hL0]
      obtain rfl : L0 = 1 := by rw [← hL0, hq]; rfl
      have HQ := Lib.hid hq
      obtain ⟨b8, o8, rfl, -, hc⟩ := HT8.out (by rw [hq]; exact Nat.one_pos)
      obtain ⟨cs8, hK, hcell⟩ := hc 0 (by rw [hq]; exact Nat.one_pos)
      have hK2 : cs8 = [.int .i64 (q : Int)] := by
        have h1 := hK.1
        simpa [hq] using h1
      have v8 : w3.cell? ⟨b8, o8, none⟩ = some (.int .i64 (q : Int)) := by
        have := hcell 0 _ (by rw [hK2]; rfl)
        simpa using this
      have HQs := Lib.hid hqs
      clear hq hL0 hK hcell hK2 hc hqs
      go_wp2_with fail
      go_loopw [51] (fun ix wr => (ix = .int .i64 0 ∧ Hid (w3 = wr)) ∨ (ix = .int .i64 1 ∧ Hid (∃ TA' tc', Ck w0 wr p B (.slice B0 m0 d0) (.slice B1 m1 d1) (.slice B2 m2 d2) (.slice B3 m3 d3) (.slice B4 m4 d4) fi (shs.set q ⟨true, after⟩) TA' 1 tc' [(q : Int)]))) (fun ix _ => 1 - (intOf ix).toNat)
      case atStart => exact .inl ⟨rfl, Lib.hid rfl⟩
      case round =>
        rcases hrel with ⟨rfl, hw⟩ | ⟨rfl, hw⟩
        · have e := hw.out
          subst e
          go_wp2_with (go_at_call 76; go_must (refine (meet_new HCk3.out q HQs.out (by omega) A8 after.length c8 after rfl haf hle8 HR8.out).mono ?_; rintro e w9 ⟨rfl, TA9, tc9, hck⟩; have HCk9 := Lib.hid hck; clear hck))
          go_roundw
          case rel => exact .inr ⟨rfl, Lib.hid ⟨TA9, tc9, HCk9.out⟩⟩
          case measure => simp [intOf]
        · have HCk9 := hw
          go_wp2
          go_ret2
          obtain ⟨TA9, tc9, hck⟩ := HCk9.out
          obtain rfl := HQ.out
          exact ⟨rfl, TA9, tc9, by simpa [nextS] using hck⟩
end Go.Proofs.YtdmmjckhpagibaaGreatDoor
