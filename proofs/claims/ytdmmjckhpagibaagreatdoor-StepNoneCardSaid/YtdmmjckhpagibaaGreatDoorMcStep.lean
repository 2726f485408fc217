/- flow.Step: what an instruction does to a stack's types. -/
import Derived.Test.YtdmmjckhpagibaaGreatDoorMcTy
import Derived.Deep.DeepCutAuto
import Derived.Lib.QuietBelow
import Derived.BigQuiet
import Derived.Deep.DeepMust
namespace Go.Proofs.YtdmmjckhpagibaaGreatDoor
open Go.RowKit Go.Sort
set_option linter.unusedVariables false
def subs (st i : List Ty) : Bool := (List.range i.length).all fun k => match st[st.length - i.length + k]?, i[k]? with | some x, some t => sub x t | _, _ => true
def far (cl : Nat) (l : List Int) : Bool := match l with | x :: _ => decide ((cl : Int) ≤ x) | [] => false
/-- What an instruction makes of a stack's types, by its rule; where it leads; the error. -/
def stepL (cl : Nat) (i : Ins) (pc : Nat) (st : List Ty) (r : List Ty × List Ty) (ok : Bool) : List Ty × List Int × Int :=
  if ok = false ∨ st.length < r.1.length ∨ 8 < st.length - r.1.length + r.2.length ∨ subs st r.1 = false then ([], [], 4)
  else if far cl (nextL i pc) = true then ([], [], 1) else (st.take (st.length - r.1.length) ++ r.2, nextL i pc, 0)
theorem subs_no {st i : List Ty} {k : Nat} {x t : Ty} (h : st[st.length - i.length + k]? = some x) (h1 : i[k]? = some t) (h2 : sub x t = false) : subs st i = false := by
  rw [subs, Bool.eq_false_iff]
  intro h3
  have h4 := List.all_eq_true.1 h3 k (List.mem_range.2 (List.getElem?_eq_some_iff.1 h1).1)
  rw [h, h1] at h4
  exact absurd (h2.symm.trans h4) (by decide)
theorem subs_yes {st i : List Ty} (h : ∀ k x t, st[st.length - i.length + k]? = some x → i[k]? = some t → sub x t = true) : subs st i = true := by
  refine List.all_eq_true.2 fun k _ => ?_
  cases h1 : st[st.length - i.length + k]? with
  | none => rfl
  | some x =>
    cases h2 : i[k]? with
    | none => rfl
    | some t => exact h k x t h1 h2
theorem stepL_no {cl : Nat} {i : Ins} {pc : Nat} {st : List Ty} {r : List Ty × List Ty} {ok : Bool} {L : List Ty × List Int × Int} (hL : stepL cl i pc st r ok = L) (h : ok = false ∨ st.length < r.1.length ∨ 8 < st.length - r.1.length + r.2.length ∨ subs st r.1 = false) : ([], [], 4) = L := by
  rw [← hL, stepL, if_pos h]
theorem stepL_far {cl : Nat} {i : Ins} {pc : Nat} {st : List Ty} {r : List Ty × List Ty} {L : List Ty × List Int × Int} (hL : stepL cl i pc st r true = L) (h1 : r.1.length ≤ st.length) (h2 : st.length - r.1.length + r.2.length ≤ 8) (h3 : subs st r.1 = true) (h4 : far cl (nextL i pc) = true) : ([], [], 1) = L := by
  rw [← hL, stepL, if_neg (by rw [h3]; simp; omega), if_pos h4]
theorem stepL_ok {cl : Nat} {i : Ins} {pc : Nat} {st : List Ty} {r : List Ty × List Ty} {L : List Ty × List Int × Int} (hL : stepL cl i pc st r true = L) (h1 : r.1.length ≤ st.length) (h2 : st.length - r.1.length + r.2.length ≤ 8) (h3 : subs st r.1 = true) (h4 : far cl (nextL i pc) = false) : (st.take (st.length - r.1.length) ++ r.2, nextL i pc, 0) = L := by
  rw [← hL, stepL, if_neg (by rw [h3]; simp; omega), if_neg (by rw [h4]; decide)]
def StepOut (w : World) (L : List Ty × List Int × Int) (e : Ending) (w' : World) : Prop := ∃ A1 c1 B5 e1, e = .returned (.tuple #[.slice A1 L.1.length c1, .slice B5 L.2.1.length e1, .int .i64 L.2.2]) ∧ L.1.length ≤ c1 ∧ (∀ a, A1 = some a → a.spot = none) ∧ k_ty.Row (New w w') w' A1 L.1 ∧ (Rd.int .i64).Row (New w w') w' B5 L.2.1 ∧ Below w.heap.size w w'
theorem StepOut.none {w w' : World} {k : Int} (h : Below w.heap.size w w') : StepOut w ([], [], k) (.returned (.tuple #[.slice .none 0 0, .slice .none 0 0, .int .i64 k])) w' :=
  ⟨_, _, _, _, rfl, Nat.zero_le _, fun _ h => (by cases h), Rd.Row.nil _ _ _ _, Rd.Row.nil _ _ _ _, h⟩
theorem step_arith {n n1 n2 : Nat} (h1 : n ≤ 1000) (h2 : ¬ n < n1) (h3 : n2 ≤ 1000) (h4 : ¬ 8 < n - n1 + n2) : ∃ j : Nat, j + n1 = n ∧ ¬ ((n : Int) - n1 + n2 > 8) := ⟨n - n1, by omega, by omega⟩
theorem step_arith2 {j k n n1 : Nat} (h1 : j + n1 = n) (h2 : k < n1) : n - n1 + k < n ∧ (0 : Int) ≤ (n : Int) - n1 := ⟨by omega, by omega⟩
theorem hold13 {V w' : World} {p q cb co : Nat} {t t' : TypeId} {a0 a1 a2 a3 a4 b0 b1 b2 b3 b4 c0 c1 c2 : Value} (hp : V.heap[p]? = some (.cells #[a0, a1, a2, a3, a4] t (0, 0))) (hq : V.heap[q]? = some (.cells #[b0, b1, b2, b3, b4] t' (0, 0)))
    (h0 : V.cell? ⟨cb, co, none⟩ = some c0) (h1 : V.cell? ⟨cb, co + 1, none⟩ = some c1) (h2 : V.cell? ⟨cb, co + 2, none⟩ = some c2) (hb : Below V.heap.size V w') :
    w'.cell? ⟨p, 0, none⟩ = some a0 ∧ w'.cell? ⟨p, 1, none⟩ = some a1 ∧ w'.cell? ⟨p, 2, none⟩ = some a2 ∧ w'.cell? ⟨p, 3, none⟩ = some a3 ∧ w'.cell? ⟨p, 4, none⟩ = some a4 ∧
    w'.cell? ⟨q, 0, none⟩ = some b0 ∧ w'.cell? ⟨q, 1, none⟩ = some b1 ∧ w'.cell? ⟨q, 2, none⟩ = some b2 ∧ w'.cell? ⟨q, 3, none⟩ = some b3 ∧ w'.cell? ⟨q, 4, none⟩ = some b4 ∧
    w'.cell? ⟨cb, co, none⟩ = some c0 ∧ w'.cell? ⟨cb, co + 1, none⟩ = some c1 ∧ w'.cell? ⟨cb, co + 2, none⟩ = some c2 ∧ Below V.heap.size V w' := by
  obtain ⟨x0, x1, x2, x3, x4⟩ := cells5 (blk_below hp hb (blk_lt hp))
  obtain ⟨y0, y1, y2, y3, y4⟩ := cells5 (blk_below hq hb (blk_lt hq))
  exact ⟨x0, x1, x2, x3, x4, y0, y1, y2, y3, y4, below_cell h0 hb, below_cell h1 hb, below_cell h2 hb, hb⟩
theorem held13 {a b c d e f g h i j k l m : Prop} {V w' : World} (hh : a ∧ b ∧ c ∧ d ∧ e ∧ f ∧ g ∧ h ∧ i ∧ j ∧ k ∧ l ∧ m ∧ Below V.heap.size V w') : Below V.heap.size V w' := hh.2.2.2.2.2.2.2.2.2.2.2.2.2
theorem rowT_take {S : Nat → Prop} {w : World} {A : Option Addr} {bs : List Ty} (h : k_ty.Row S w A bs) (k : Nat) : k_ty.Row S w A (bs.take k) := fun hp => by
  have hl : 0 < bs.length := by rw [List.length_take] at hp; omega
  obtain ⟨b, o, e, hb, hc⟩ := h hl
  exact ⟨b, o, e, hb, fun i hi => by
    have hi2 : i < bs.length := by rw [List.length_take] at hi; omega
    obtain ⟨cs, hK, hcell⟩ := hc i hi2
    exact ⟨cs, by rw [List.getElem_take]; exact hK, hcell⟩⟩
theorem slice_toT (w : World) (A : Option Addr) (n c k : Nat) (z : Int) (hz : z = (k : Int)) (h : k ≤ c) : (Instr.slice 24 (.slice A n c) none (some (.int .i64 z)) none).run Tryz.prog w = .ok (.slice A k c) w := by
  subst hz
  have hu := Tryz.underlying24
  simp [Instr.slice, run_underlying hu, go_sem, h]
theorem New.mono {w W w' w'' : World} (h1 : w.heap.size ≤ W.heap.size) (h2 : w'.heap.size ≤ w''.heap.size) : ∀ b, New W w' b → New w w'' b := fun b h => ⟨Nat.le_trans h1 h.1, Nat.lt_of_lt_of_le h.2 h2⟩
theorem concat2_calls {S : Nat → Prop} (w : World) (g : Nat) (t : TypeId) (A1 A2 : Option Addr) (n1 c1 n2 c2 : Nat) (xs ys : List Ty) (hx : xs.length = n1) (hy : ys.length = n2) (l1 : n1 ≤ c1) (l2 : n2 ≤ c2) (m1 : n1 ≤ 1000) (m2 : n2 ≤ 1000) (hS : ∀ b, S b → b < w.heap.size)
    (hg : w.heap[g]? = some (.cells #[.slice A1 n1 c1, .slice A2 n2 c2] t (0, 0))) (r1 : k_ty.Row S w A1 xs) (r2 : k_ty.Row S w A2 ys) :
    Calls Tryz.prog 114 #[.slice (some ⟨g, 0, none⟩) 2 2] w fun e w' => ∃ A' c', e = .returned (.slice A' (n1 + n2) c') ∧ n1 + n2 ≤ c' ∧ (∀ a, A' = some a → a.spot = none) ∧ k_ty.Row (New w w') w' A' (xs ++ ys) ∧ Below w.heap.size w w' := by
  subst hx hy
  have hrow : (Rd.slice k_ty).Row (fun b => b < w.heap.size) w (some ⟨g, 0, none⟩) [xs, ys] := by
    refine Rd.Row.of_blk hg (blk_lt hg) (cells := [.slice A1 xs.length c1, .slice A2 ys.length c2]) ?_ (fun j v hj => by simpa using hj)
    exact Rd.Flat.cons (c := [.slice A1 xs.length c1]) ⟨_, rfl, A1, c1, rfl, l1, by omega, r1.mono hS⟩ (Rd.Flat.cons (c := [.slice A2 ys.length c2]) ⟨_, rfl, A2, c2, rfl, l2, by omega, r2.mono hS⟩ (Rd.Flat.nil _ _ _))
  have he : ([xs, ys] : List (List Ty)).flatten = xs ++ ys := by simp
  refine (concat_calls w (some ⟨g, 0, none⟩) 2 2 [xs, ys] rfl (by decide) (by rw [he, List.length_append]; omega) (fun b h => h) hrow).mono ?_
  rintro e w' ⟨A', c', rfl, h1, h2, h3, h4⟩
  rw [he] at h1 h3 ⊢
  rw [List.length_append] at h1 ⊢
  exact ⟨A', c', rfl, h1, h2, h3, h4⟩
set_option maxRecDepth 100000 in
set_option maxHeartbeats 8000000 in
theorem step_calls {S : Nat → Prop} (w : World) (m : Md) (B0 B1 B2 B3 B4 : Option Addr) (m0 m1 m2 m3 m4 d0 d1 d2 d3 d4 : Nat) (h : MRow S w m B0 B1 B2 B3 B4 m0 m1 m2 m3 m4) (fi : Nat) (f : Fn) (hfi : m.funcs[fi]? = some f) (hfi2 : fi ≤ 1000) (hl0 : f.args.length ≤ 1000) (hl3 : f.locals.length ≤ 1000) (hl4 : f.code.length ≤ 1000) (pc : Nat) (i : Ins) (hpc : f.code[pc]? = some i)
    (A : Option Addr) (n c : Nat) (st : List Ty) (hn : st.length = n) (hn8 : n ≤ 1000) (hnc : n ≤ c) (row : k_ty.Row S w A st) (r : List Ty × List Ty) (ok : Bool)
    (hof : ∀ W, Below w.heap.size w W → ∀ A0 c0 A3 c3 A4 c4, FRow S W f A0 A3 A4 f.args.length f.locals.length f.code.length → Calls Tryz.prog 96 #[.agg #[.slice B0 m0 d0, .slice B1 m1 d1, .slice B2 m2 d2, .slice B3 m3 d3, .slice B4 m4 d4], .agg #[.slice A0 f.args.length c0, .int .i64 f.ret.kind, .int .i64 f.ret.n, .slice A3 f.locals.length c3, .slice A4 f.code.length c4], .agg #[.int .i64 i.op, .int .i64 i.a, .int .i64 i.b], .slice A n c] W fun e w' => RuleOut S W r ok e w') :
    Calls Tryz.prog 111 #[.agg #[.slice B0 m0 d0, .slice B1 m1 d1, .slice B2 m2 d2, .slice B3 m3 d3, .slice B4 m4 d4], .int .i64 fi, .int .i64 pc, .slice A n c] w fun e w' => StepOut w (stepL f.code.length i pc st r ok) e w' := by
  obtain ⟨L, hL⟩ : ∃ L, stepL f.code.length i pc st r ok = L := ⟨_, rfl⟩
  rw [hL]
  have hfl : fi < m1 := by have := (List.getElem?_eq_some_iff.1 hfi).1; have := h.e1; omega
  have hpl : pc < f.code.length := (List.getElem?_eq_some_iff.1 hpc).1
  have hV1 := below_a1 w (Obj.cells #[.slice B0 m0 d0, .slice B1 m1 d1, .slice B2 m2 d2, .slice B3 m3 d3, .slice B4 m4 d4] 34)
  obtain ⟨b, o, A0, c0, A3, c3, A4, c4, rfl, hSb, f0, f1, f2, f3, f4, l0, -, r0, wk, wn, l3, -, r3, l4, -, r4⟩ := k_func_at (h.below hV1).r1 hfi
  obtain ⟨cb, co, rfl, hScb, i0, i1, i2, wi0, wi1, wi2⟩ := k_instr_at r4 hpc
  have hf : FRow S (w.alloc (Obj.cells #[.slice B0 m0 d0, .slice (some ⟨b, o, none⟩) m1 d1, .slice B2 m2 d2, .slice B3 m3 d3, .slice B4 m4 d4] 34)) f A0 A3 (some ⟨cb, co, none⟩) f.args.length f.locals.length f.code.length := ⟨rfl, rfl, rfl, r0, r3, r4, wk, wn, hl0, hl3, hl4⟩
  have hV := below_up hV1 (Obj.cells #[.slice A0 f.args.length c0, .int .i64 f.ret.kind, .int .i64 f.ret.n, .slice A3 f.locals.length c3, .slice (some ⟨cb, co, none⟩) f.code.length c4] 54)
  have hVV := below_a1 (w.alloc (Obj.cells #[.slice B0 m0 d0, .slice (some ⟨b, o, none⟩) m1 d1, .slice B2 m2 d2, .slice B3 m3 d3, .slice B4 m4 d4] 34)) (Obj.cells #[.slice A0 f.args.length c0, .int .i64 f.ret.kind, .int .i64 f.ret.n, .slice A3 f.locals.length c3, .slice (some ⟨cb, co, none⟩) f.code.length c4] 54)
  have HM := Lib.hid h
  have HL := Lib.hid hL
  clear hL
  have HP := Lib.hid (blk_alloc (blk_new w (Obj.cells #[.slice B0 m0 d0, .slice (some ⟨b, o, none⟩) m1 d1, .slice B2 m2 d2, .slice B3 m3 d3, .slice B4 m4 d4] 34)) (Obj.cells #[.slice A0 f.args.length c0, .int .i64 f.ret.kind, .int .i64 f.ret.n, .slice A3 f.locals.length c3, .slice (some ⟨cb, co, none⟩) f.code.length c4] 54))
  have HQ := Lib.hid (blk_new2 w (Obj.cells #[.slice B0 m0 d0, .slice (some ⟨b, o, none⟩) m1 d1, .slice B2 m2 d2, .slice B3 m3 d3, .slice B4 m4 d4] 34) (Obj.cells #[.slice A0 f.args.length c0, .int .i64 f.ret.kind, .int .i64 f.ret.n, .slice A3 f.locals.length c3, .slice (some ⟨cb, co, none⟩) f.code.length c4] 54))
  have HFR := Lib.hid (hf.keep (fun b hb => hVV.block b (Nat.lt_of_lt_of_le (h.lt b hb) hV1.size)))
  have HR := Lib.hid (row.keep (fun b hb => hV.block b (h.lt b hb)))
  have HN := Lib.hid hn
  have HS := Lib.hid h.lt
  have KO := Lib.hid hof
  have HC0 := Lib.hid (below_cell i0 hVV)
  have HC1 := Lib.hid (below_cell i1 hVV)
  have HC2 := Lib.hid (below_cell i2 hVV)
  have WI := Lib.hid wi1
  have HV := Lib.hid hV
  have hlt : w.heap.size + 1 < ((w.alloc (Obj.cells #[.slice B0 m0 d0, .slice (some ⟨b, o, none⟩) m1 d1, .slice B2 m2 d2, .slice B3 m3 d3, .slice B4 m4 d4] 34)).alloc (Obj.cells #[.slice A0 f.args.length c0, .int .i64 f.ret.kind, .int .i64 f.ret.n, .slice A3 f.locals.length c3, .slice (some ⟨cb, co, none⟩) f.code.length c4] 54)).heap.size := by simp
  clear h hf row hn hof hV hV1 hVV r0 r3 r4 i0 i1 i2 wi0 wi1 wi2 wk wn hfi hpc
  go_enter Tryz.func111, Tryz.ntmps111
  go_upto_region 2 with fail
  generalize hVV : (w.alloc (Obj.cells #[.slice B0 m0 d0, .slice (some ⟨b, o, none⟩) m1 d1, .slice B2 m2 d2, .slice B3 m3 d3, .slice B4 m4 d4] 34)).alloc (Obj.cells #[.slice A0 f.args.length c0, .int .i64 f.ret.kind, .int .i64 f.ret.n, .slice A3 f.locals.length c3, .slice (some ⟨cb, co, none⟩) f.code.length c4] 54) = V at *
  clear hVV f0 f1 f2 f3 f4
  go_cut [12, 13] (fun s12 s13 wx => ∃ g A1 n1 c1 B5 n2 c2, s12 = .pointer (some ⟨g, 0, none⟩) ∧ s13 = .bool ok ∧ Hid (wx.heap[g]? = some (.cells #[.slice A1 n1 c1, .slice B5 n2 c2] 179 (0, 0))) ∧ Hid (RuleR S V wx A1 n1 c1 B5 n2 c2 r) ∧ V.heap.size ≤ g ∧ Hid (Below V.heap.size V wx))
  case first =>
    go_region_held3 (fun w' => w'.cell? ⟨w.heap.size, 0, none⟩ = some (.slice B0 m0 d0) ∧ w'.cell? ⟨w.heap.size, 1, none⟩ = some (.slice (some ⟨b, o, none⟩) m1 d1) ∧ w'.cell? ⟨w.heap.size, 2, none⟩ = some (.slice B2 m2 d2) ∧ w'.cell? ⟨w.heap.size, 3, none⟩ = some (.slice B3 m3 d3) ∧ w'.cell? ⟨w.heap.size, 4, none⟩ = some (.slice B4 m4 d4) ∧
      w'.cell? ⟨w.heap.size + 1, 0, none⟩ = some (.slice A0 f.args.length c0) ∧ w'.cell? ⟨w.heap.size + 1, 1, none⟩ = some (.int .i64 f.ret.kind) ∧ w'.cell? ⟨w.heap.size + 1, 2, none⟩ = some (.int .i64 f.ret.n) ∧ w'.cell? ⟨w.heap.size + 1, 3, none⟩ = some (.slice A3 f.locals.length c3) ∧ w'.cell? ⟨w.heap.size + 1, 4, none⟩ = some (.slice (some ⟨cb, co, none⟩) f.code.length c4) ∧
      w'.cell? ⟨cb, co + pc * 3, none⟩ = some (.int .i64 i.op) ∧ w'.cell? ⟨cb, co + pc * 3 + 1, none⟩ = some (.int .i64 i.a) ∧ w'.cell? ⟨cb, co + pc * 3 + 2, none⟩ = some (.int .i64 i.b) ∧ Below V.heap.size V w')
      (first | (refine hold13 HP.out HQ.out HC0.out HC1.out HC2.out ?_; repeat (first | assumption | exact Below.refl _ _ | exact held13 (by assumption) | refine Below.drew ?_ | refine below_up ?_ _ | refine Below.setCell (p := ⟨_, _, none⟩) ?_ (by first | exact Nat.le_refl _ | (simp; done) | omega) _)))
      (first | (go_at_call 96; refine (KO.out _ (HV.out.trans ((held13 (by assumption)).mono HV.out.size)) A0 c0 A3 c3 _ c4 (HFR.out.keep (fun b hb => (held13 (by assumption)).block b (Nat.lt_of_lt_of_le (HS.out b hb) HV.out.size)))).mono ?_; rintro e w1 ⟨A1, n1, c1, B5, n2, c2, rfl, HRR, hb1⟩; have hbV : Below V.heap.size V w1 := Below.trans (held13 (by assumption)) (hb1.mono (held13 (by assumption)).size); try (have hx : w1.heap[V.heap.size]? = some (.cells #[.slice none 0 0, .slice none 0 0] 179 (0, 0)) := blk_below (blk_new V.drew (Obj.cells #[.slice none 0 0, .slice none 0 0] 179)) hb1 (blk_lt (blk_new V.drew (Obj.cells #[.slice none 0 0, .slice none 0 0] 179))); have q0 := (cells2 hx).1; have q1 := (cells2 hx).2; have q2 := blk_frozen hx 0; have q3 := blk_frozen hx 1)))
    · go_wp2
      go_meet
      exact ⟨_, A1, n1, c1, B5, n2, c2, rfl, rfl, Lib.hid (blk_new _ _), Lib.hid (HRR.out (fun b hb => hb) (fun b hb => Nat.lt_of_lt_of_le (HS.out b hb) HV.out.size) (by simp) (by simp) (fun b hb _ => Below.heap_alloc _ _ b hb)), hbV.size, Lib.hid (hbV.alloc hbV.size _)⟩
    · go_wp2
      go_meet
      exact ⟨_, A1, n1, c1, B5, n2, c2, rfl, rfl, Lib.hid (blk_set (blk_set hx 0 (.slice A1 n1 c1)) 1 (.slice B5 n2 c2)), Lib.hid (HRR.out (fun b hb => hb) (fun b hb => Nat.lt_of_lt_of_le (HS.out b hb) HV.out.size) (by simp) (by simp) (fun b hb hb' => (Below.heap_setCell _ _ _ b (by simp at hb' ⊢; omega)).trans (Below.heap_setCell _ _ _ b (by simp at hb' ⊢; omega)))), Nat.le_refl _, Lib.hid ((hbV.setCell (p := ⟨_, 0, none⟩) (Nat.le_refl _) _).setCell (p := ⟨_, 1, none⟩) (Nat.le_refl _) _)⟩
  case rest =>
    obtain ⟨g, A1, n1, c1, B5, n2, c2, rfl, rfl, HG, HRR, hgV, HB⟩ := hcut
    have hrn1 := HRR.out.si
    have hrn2 := HRR.out.so
    have hri := HRR.out.i
    have hro := HRR.out.o
    obtain ⟨g0, g1⟩ := cells2 HG.out
    have HBw := Lib.hid (HV.out.trans (HB.out.mono HV.out.size))
    have hw1 : wrap64 ((n : Int) - n1) = n - n1 := by unfold wrap64; omega
    have hw2 : wrap64 ((n : Int) - n1 + n2) = n - n1 + n2 := by unfold wrap64; omega
    cases ok
    · go_wp2
      go_ret3
      obtain rfl := stepL_no HL.out (.inl rfl)
      exact StepOut.none HBw.out
    by_cases hneg : n < n1
    · have hneg' : (n : Int) - n1 < 0 := by omega
      go_wp2
      go_ret3
      obtain rfl := stepL_no HL.out (.inr (.inl (by rw [HN.out, hri]; exact hneg)))
      exact StepOut.none HBw.out
    have hneg' : ¬ ((n : Int) - n1 < 0) := by omega
    by_cases hbig : 8 < n - n1 + n2
    · have hbig' : (n : Int) - n1 + n2 > 8 := by omega
      go_wp2
      go_ret3
      obtain rfl := stepL_no HL.out (.inr (.inr (.inl (by rw [HN.out, hri, hro]; exact hbig))))
      exact StepOut.none HBw.out
    obtain ⟨j, hj, hbig'⟩ := step_arith hn8 hneg hrn2 hbig
    clear hneg
    have HJ := Lib.hid hj
    have HBG := Lib.hid hbig
    clear hj hbig
    go_wp2_with fail
    go_loopw [57] (fun ix wr => ∃ k : Nat, k ≤ n1 ∧ ix = .int .i64 k ∧ Hid (∀ k' x t, k' < k → st[n - n1 + k']? = some x → r.1[k']? = some t → sub x t = true) ∧ Hid (Below wc.heap.size wc wr)) (fun ix _ => n1 - (intOf ix).toNat)
    case atStart => exact ⟨0, Nat.zero_le _, rfl, Lib.hid (fun k' x t h => absurd h (Nat.not_lt_zero _)), Lib.hid (Below.refl _ _)⟩
    case round =>
      obtain ⟨k, hk, rfl, HK, HBr⟩ := hrel
      by_cases hlt : k < n1
      · obtain ⟨t, ht⟩ : ∃ t, r.1[k]? = some t := ⟨_, List.getElem?_eq_getElem (hri.symm ▸ hlt)⟩
        have hqn := step_arith2 HJ.out hlt
        obtain ⟨x, hx⟩ : ∃ x, st[n - n1 + k]? = some x := ⟨_, List.getElem?_eq_getElem (HN.out.symm ▸ hqn.1)⟩
        have hw3 := hqn.2
        clear hqn
        obtain ⟨tb, tq, rfl, hSt, t0, t1, -, -⟩ := k_ty_at (HRR.out.ri.keep (fun b hb => HBr.out.block b hb.1)) ht
        obtain ⟨xb, xo, rfl, hSx, x0, x1, -, -⟩ := k_ty_at (HR.out.keep (fun b hb => (HB.out.trans (HBr.out.mono HB.out.size)).block b (Nat.lt_of_lt_of_le (HS.out b hb) HV.out.size))) hx
        have hy := blk_new wr (Obj.cells #[.int .i64 t.kind, .int .i64 t.n] 23)
        have y0 := cell_regrown (cells2 hy).1
        have y1 := cell_regrown (cells2 hy).2
        have z0 := cell_regrown (below_cell x0 (below_a1 wr (Obj.cells #[.int .i64 t.kind, .int .i64 t.n] 23)))
        have z1 := cell_regrown (below_cell x1 (below_a1 wr (Obj.cells #[.int .i64 t.kind, .int .i64 t.n] 23)))
        have HBx := Lib.hid (below_a1 wr (Obj.cells #[.int .i64 t.kind, .int .i64 t.n] 23))
        have KS : ∀ v, sub x t = v → Hid (∀ W, Calls Tryz.prog 151 #[.agg #[.int .i64 x.kind, .int .i64 x.n], .agg #[.int .i64 t.kind, .int .i64 t.n]] W fun e w' => e = .returned (.bool v) ∧ Below W.heap.size W w') := fun v hv => Lib.hid (fun W => hv ▸ sub_calls W x t)
        have HX := Lib.hid hx
        have HT := Lib.hid ht
        have HSz := Lib.hid HBr.out.size
        clear hx ht hy x0 x1
        cases hsub : sub x t
        all_goals
          replace KS := KS _ hsub
          have HSub := Lib.hid hsub
          clear hsub
          go_wp2_with fail
          refine wp_region_quiet_below (by kernel_rfl) (by kernel_rfl) ?_
          repeat (first | go_big_quiet_step (with_reducible exact calls_regrown KS.out _ _) | quiet_step (with_reducible exact calls_regrown KS.out _ _))
          refine wpQuiet_nil ?_
          intro _ hw'
          obtain ⟨⟨dq, osq⟩, hw''⟩ := hw'
          subst hw''
          clear y0 y1 z0 z1
          have HBq := Lib.hid (HBr.out.trans ((HBx.out.trans ((below_regrown (wr.alloc (Obj.cells #[.int .i64 t.kind, .int .i64 t.n] 23)) dq osq).mono HBx.out.size)).mono HSz.out))
          generalize grow (redrawn (wr.alloc (Obj.cells #[.int .i64 t.kind, .int .i64 t.n] 23)) dq) osq = wq at *
          go_wp2_with fail
        · go_ret3
          obtain rfl := stepL_no HL.out (.inr (.inr (.inr (subs_no (by rw [HN.out, hri]; exact HX.out) HT.out HSub.out))))
          exact StepOut.none (HBw.out.trans (HBq.out.mono HBw.out.size))
        · go_roundw
          case rel => exact ⟨k + 1, by omega, by go_num, Lib.hid (fun k' x' t' h1 h2 h3 => by
            rcases Nat.lt_or_ge k' k with h4 | h4
            · exact HK.out k' x' t' h4 h2 h3
            · obtain rfl : k' = k := by omega
              rw [HX.out] at h2
              rw [HT.out] at h3
              cases h2; cases h3
              exact HSub.out), HBq⟩
          case measure => simp [intOf]; omega
      · obtain rfl : n1 = k := by omega
        have HSY : Hid (subs st r.1 = true) := Lib.hid (subs_yes fun k' x' t' h2 h3 => by
          rw [HN.out, hri] at h2
          exact HK.out k' x' t' (by have := (List.getElem?_eq_some_iff.1 h3).1; omega) h2 h3)
        have HBV := Lib.hid (HB.out.trans (HBr.out.mono HB.out.size))
        obtain ⟨-, -, -, -, qc⟩ := cells5 (blk_below HQ.out HBV.out (blk_lt HQ.out))
        have ic0 := below_cell HC0.out HBV.out
        have ic1 := below_cell HC1.out HBV.out
        have ic2 := below_cell HC2.out HBV.out
        obtain ⟨iop, ia, ib⟩ := i
        simp only at ic0 ic1 ic2 KO HC0 HC1 HC2 HL WI
        obtain ⟨T, hT⟩ : ∃ T, nextL ⟨iop, ia, ib⟩ pc = T := ⟨_, rfl⟩
        have HT := Lib.hid hT
        go_upto_region 13 with (go_at_call 153; refine (next_calls _ iop ia ib pc WI.out (by omega)).mono ?_; rw [HT.out]; rintro e w4 ⟨A7, c7, rfl, hrow, hb4⟩; have HN4 := Lib.hid hrow; have HB4 := Lib.hid hb4; clear hrow hb4)
        have HB5 := Lib.hid (HBw.out.trans ((HBr.out.trans (HB4.out.mono HBr.out.size)).mono HBw.out.size))
        have HBV4 := Lib.hid (HBV.out.trans (HB4.out.mono HBV.out.size))
        obtain ⟨-, -, -, -, qc4⟩ := cells5 (blk_below HQ.out HBV4.out (blk_lt HQ.out))
        have rc4 := cell_regrown qc4
        have HG4 := Lib.hid (blk_below HG.out (HBr.out.trans (HB4.out.mono HBr.out.size)) (blk_lt HG.out))
        have HSz := Lib.hid HB5.out.size
        have HBwr := Lib.hid (HBw.out.trans (HBr.out.mono HBw.out.size))
        clear qc ic0 ic1 ic2 qc4 g0 g1
        cases T with
        | nil =>
          refine wp_region_quiet_below (by kernel_rfl) (by kernel_rfl) ?_
          repeat (first | go_big_quiet_step (fail) | quiet_step (fail))
          refine wpQuiet_nil ?_
          intro _ hw'
          obtain ⟨⟨dq, osq⟩, hw''⟩ := hw'
          subst hw''
          clear rc4
          have HBq := Lib.hid (below_regrown w4 dq osq)
          generalize grow (redrawn w4 dq) osq = wq at *
          have HGq := Lib.hid (blk_below HG4.out HBq.out (blk_lt HG4.out))
          have HVq := Lib.hid (HBV4.out.trans (HBq.out.mono HBV4.out.size))
          have HRq := Lib.hid ((HR.out.keep (fun b hb => HVq.out.block b (Nat.lt_of_lt_of_le (HS.out b hb) HV.out.size))).mono (S' := fun b => b < wq.heap.size) (fun b hb => Nat.lt_of_lt_of_le (HS.out b hb) (Nat.le_trans HV.out.size HVq.out.size)))
          have HOq := Lib.hid ((HRR.out.ro.keep (fun b hb => (HBr.out.trans ((HB4.out.trans (HBq.out.mono HB4.out.size)).mono HBr.out.size)).block b hb.1)).mono (S' := fun b => b < wq.heap.size) (fun b hb => Nat.lt_of_lt_of_le hb.1 (Nat.le_trans HBr.out.size (Nat.le_trans HB4.out.size HBq.out.size))))
          have HBGo := HBG.out
          have HLn : Hid ((st.take (n - n1)).length = n - n1) := Lib.hid (by rw [List.length_take, HN.out]; omega)
          have HCO := HRR.out.co
          have hsl0 : (0 : Int) ≤ (n : Int) - n1 := by have := HJ.out; omega
          have hsl1 : (n : Int) - n1 ≤ (c : Int) := by omega
          have hslT := fun W => slice_toT W A n c (n - n1) ((n : Int) - n1) (by have := HJ.out; omega) (by omega)
          go_upto_region 15 with fail
          go_region_held3 (fun w' => w'.cell? ⟨g, 0, none⟩ = some (.slice A1 n1 c1) ∧ w'.cell? ⟨g, 1, none⟩ = some (.slice B5 n2 c2) ∧ Below wq.heap.size wq w')
            (first | (refine hold2 HGq.out ?_; repeat (first | assumption | exact Below.refl _ _ | refine Below.drew ?_ | refine below_up ?_ _)))
            (first
              | (go_at_call 114; go_must (refine (concat2_calls (S := fun b => b < wq.heap.size) (wq.alloc (Obj.cells #[.slice A (n - n1) c, .slice B5 n2 c2] 24)).drew wq.heap.size 24 A B5 (n - n1) c n2 c2 (st.take (n - n1)) r.2 HLn.out hro (by omega) HCO (by omega) hrn2 (fun b hb => Nat.lt_of_lt_of_le hb (below_a1 wq _).size) (blk_new wq _) (rowT_take (HRq.out.keep (fun b hb => Below.heap_alloc _ _ b hb)) _) (HOq.out.keep (fun b hb => Below.heap_alloc _ _ b hb))).mono ?_; rintro e w8 ⟨A8, c8, rfl, hc8, hsp8, hrow8, hb8⟩; have hbq8 : Below wq.heap.size wq w8 := ((below_a1 wq (Obj.cells #[.slice A (n - n1) c, .slice B5 n2 c2] 24)).drew).trans (hb8.mono (below_a1 wq _).size)))
              | (go_at_call 108; refine (clipT_calls _ A8 (n - n1 + n2) c8 hc8 (by omega) hsp8).mono ?_; rintro e w' ⟨rfl, rfl⟩))
          all_goals
            go_wp2
            go_ret3
            have hT := HT.out
            have hTl : ([] : List Int).length = 0 := rfl
            have hLn := HLn.out
            obtain rfl := stepL_ok HL.out (by rw [HN.out, hri]; have := HJ.out; omega) (by rw [HN.out, hri, hro]; omega) HSY.out (by rw [hT]; exact rfl)
            have hst : st.length - r.1.length = n - n1 := by rw [HN.out, hri]
            have hln : (st.take (st.length - r.1.length) ++ r.2).length = n - n1 + n2 := by rw [hst, List.length_append, hLn, hro]
            refine ⟨A8, n - n1 + n2, A7, c7, ?_, ?_, hsp8, ?_, ?_, ?_⟩
            · show _ = Ending.returned (.tuple #[.slice A8 (st.take (st.length - r.1.length) ++ r.2).length (n - n1 + n2), .slice _ (nextL ⟨iop, ia, ib⟩ pc).length c7, .int .i64 0])
              rw [hln, hT, hTl]
              rfl
            · simp only [hln]; omega
            · simp only [hst]; exact hrow8.mono (New.mono (by have := HBq.out.size; have := HB5.out.size; simp; omega) (Nat.le_refl _))
            · simp only [hT]; exact (HN4.out.keep (fun b hb => (HBq.out.trans (hbq8.mono HBq.out.size)).block b hb.2)).mono (New.mono HBwr.out.size (Nat.le_trans HBq.out.size hbq8.size))
            · exact HB5.out.trans ((HBq.out.trans (hbq8.mono HBq.out.size)).mono HB5.out.size)
        | cons x l =>
          obtain ⟨b7, o7, rfl, hb7, hc⟩ := HN4.out (by simp)
          obtain ⟨cs, ⟨rfl, hwf⟩, hcell⟩ := hc 0 (by simp)
          have v0 : w4.cell? ⟨b7, o7, none⟩ = some (.int .i64 x) := by simpa using hcell 0 _ rfl
          have rv0 := cell_regrown v0
          have hpos : (0 : Int) < ((x :: l).length : Nat) := by simp
          obtain ⟨n7, hn7⟩ : ∃ n7, (x :: l).length = n7 := ⟨_, rfl⟩
          rw [hn7] at hpos ⊢
          have hposd : decide ((n7 : Int) > 0) = true := decide_eq_true hpos
          have hposd2 : decide ((0 : Int) < n7) = true := decide_eq_true hpos
          have hposd3 : decide (0 < n7) = true := decide_eq_true (by omega)
          have HN7 := Lib.hid hn7
          clear hcell hc hb7 hwf v0 hn7
          by_cases hfar : (f.code.length : Int) ≤ x
          all_goals
            first
            | (have hfd : decide (x ≥ (f.code.length : Int)) = true := decide_eq_true hfar; have hfd2 : decide ((f.code.length : Int) ≤ x) = true := decide_eq_true hfar)
            | (have hfd : decide (x ≥ (f.code.length : Int)) = false := decide_eq_false hfar; have hfd2 : decide ((f.code.length : Int) ≤ x) = false := decide_eq_false hfar)
            have HFar := Lib.hid hfar
            clear hfar
            refine wp_region_quiet_below (by kernel_rfl) (by kernel_rfl) ?_
            repeat (first | go_big_quiet_step (fail) | quiet_step (fail))
            refine wpQuiet_nil ?_
            intro _ hw'
            obtain ⟨⟨dq, osq⟩, hw''⟩ := hw'
            subst hw''
            clear rc4 rv0
            have HBq := Lib.hid (below_regrown w4 dq osq)
            generalize grow (redrawn w4 dq) osq = wq at *
          · go_wp2_with fail
            go_ret3
            obtain rfl := stepL_far HL.out (by rw [HN.out, hri]; have := HJ.out; omega) (by rw [HN.out, hri, hro]; have := HBG.out; omega) HSY.out (by rw [HT.out]; exact decide_eq_true HFar.out)
            exact StepOut.none (HB5.out.trans (HBq.out.mono HB5.out.size))
          · skip
            have HGq := Lib.hid (blk_below HG4.out HBq.out (blk_lt HG4.out))
            have HVq := Lib.hid (HBV4.out.trans (HBq.out.mono HBV4.out.size))
            have HRq := Lib.hid ((HR.out.keep (fun b hb => HVq.out.block b (Nat.lt_of_lt_of_le (HS.out b hb) HV.out.size))).mono (S' := fun b => b < wq.heap.size) (fun b hb => Nat.lt_of_lt_of_le (HS.out b hb) (Nat.le_trans HV.out.size HVq.out.size)))
            have HOq := Lib.hid ((HRR.out.ro.keep (fun b hb => (HBr.out.trans ((HB4.out.trans (HBq.out.mono HB4.out.size)).mono HBr.out.size)).block b hb.1)).mono (S' := fun b => b < wq.heap.size) (fun b hb => Nat.lt_of_lt_of_le hb.1 (Nat.le_trans HBr.out.size (Nat.le_trans HB4.out.size HBq.out.size))))
            have HBGo := HBG.out
            have HLn : Hid ((st.take (n - n1)).length = n - n1) := Lib.hid (by rw [List.length_take, HN.out]; omega)
            have HCO := HRR.out.co
            have hsl0 : (0 : Int) ≤ (n : Int) - n1 := by have := HJ.out; omega
            have hsl1 : (n : Int) - n1 ≤ (c : Int) := by omega
            have hslT := fun W => slice_toT W A n c (n - n1) ((n : Int) - n1) (by have := HJ.out; omega) (by omega)
            go_upto_region 15 with fail
            go_region_held3 (fun w' => w'.cell? ⟨g, 0, none⟩ = some (.slice A1 n1 c1) ∧ w'.cell? ⟨g, 1, none⟩ = some (.slice B5 n2 c2) ∧ Below wq.heap.size wq w')
              (first | (refine hold2 HGq.out ?_; repeat (first | assumption | exact Below.refl _ _ | refine Below.drew ?_ | refine below_up ?_ _)))
              (first
                | (go_at_call 114; go_must (refine (concat2_calls (S := fun b => b < wq.heap.size) (wq.alloc (Obj.cells #[.slice A (n - n1) c, .slice B5 n2 c2] 24)).drew wq.heap.size 24 A B5 (n - n1) c n2 c2 (st.take (n - n1)) r.2 HLn.out hro (by omega) HCO (by omega) hrn2 (fun b hb => Nat.lt_of_lt_of_le hb (below_a1 wq _).size) (blk_new wq _) (rowT_take (HRq.out.keep (fun b hb => Below.heap_alloc _ _ b hb)) _) (HOq.out.keep (fun b hb => Below.heap_alloc _ _ b hb))).mono ?_; rintro e w8 ⟨A8, c8, rfl, hc8, hsp8, hrow8, hb8⟩; have hbq8 : Below wq.heap.size wq w8 := ((below_a1 wq (Obj.cells #[.slice A (n - n1) c, .slice B5 n2 c2] 24)).drew).trans (hb8.mono (below_a1 wq _).size)))
                | (go_at_call 108; refine (clipT_calls _ A8 (n - n1 + n2) c8 hc8 (by omega) hsp8).mono ?_; rintro e w' ⟨rfl, rfl⟩))
            all_goals
              go_wp2
              go_ret3
              have hT := HT.out
              have hTl : (x :: l).length = n7 := HN7.out
              have hLn := HLn.out
              obtain rfl := stepL_ok HL.out (by rw [HN.out, hri]; have := HJ.out; omega) (by rw [HN.out, hri, hro]; omega) HSY.out (by rw [hT]; exact decide_eq_false (by have := HFar.out; omega))
              have hst : st.length - r.1.length = n - n1 := by rw [HN.out, hri]
              have hln : (st.take (st.length - r.1.length) ++ r.2).length = n - n1 + n2 := by rw [hst, List.length_append, hLn, hro]
              refine ⟨A8, n - n1 + n2, some ⟨b7, o7, none⟩, c7, ?_, ?_, hsp8, ?_, ?_, ?_⟩
              · show _ = Ending.returned (.tuple #[.slice A8 (st.take (st.length - r.1.length) ++ r.2).length (n - n1 + n2), .slice _ (nextL ⟨iop, ia, ib⟩ pc).length c7, .int .i64 0])
                rw [hln, hT, hTl]
                rfl
              · simp only [hln]; omega
              · simp only [hst]; exact hrow8.mono (New.mono (by have := HBq.out.size; have := HB5.out.size; simp; omega) (Nat.le_refl _))
              · simp only [hT]; exact (HN4.out.keep (fun b hb => (HBq.out.trans (hbq8.mono HBq.out.size)).block b hb.2)).mono (New.mono HBwr.out.size (Nat.le_trans HBq.out.size hbq8.size))
              · exact HB5.out.trans ((HBq.out.trans (hbq8.mono HBq.out.size)).mono HB5.out.size)
end Go.Proofs.YtdmmjckhpagibaaGreatDoor
