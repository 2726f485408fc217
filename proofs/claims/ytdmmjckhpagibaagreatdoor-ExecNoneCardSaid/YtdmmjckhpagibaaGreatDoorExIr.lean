/- ir.Of: instructions over registers, of modules whose code goes straight on. -/
import Derived.Test.YtdmmjckhpagibaaGreatDoorExCnt
import Derived.Test.YtdmmjckhpagibaaGreatDoorZF
namespace Go.Proofs.YtdmmjckhpagibaaGreatDoor
open Go.RowKit Go.Sort
set_option linter.unusedVariables false
structure Ir where
  op : Int
  a : Int
  b : Int
  at_ : Int
  inn : Int
  out : Int
def irC (x : Ir) : List Value := [.int .i64 x.op, .int .i64 x.a, .int .i64 x.b, .int .i64 x.at_, .int .i64 x.inn, .int .i64 x.out]
def irL (f : Fn) (i : Ins) (st : List Ty) (r : List Ty × List Ty) : Ir := ⟨i.op, i.a, i.b, ((f.args.length + f.locals.length + st.length - r.1.length : Nat) : Int), r.1.length, r.2.length⟩
def IrAt (cs : Array Value) (k : Nat) (x : Ir) : Prop := ∀ (j : Nat) (v : Value), (irC x)[j]? = some v → cs[k * 6 + j]? = some v
def IrTo (cs : Array Value) (irs : List Ir) (k : Nat) : Prop := ∀ (j : Nat) (x : Ir), j < k → irs[j]? = some x → IrAt cs j x
theorem IrTo.zero (cs : Array Value) (irs : List Ir) : IrTo cs irs 0 := fun j x h => absurd h (Nat.not_lt_zero _)
theorem irTo_set {cs : Array Value} {irs : List Ir} {k n : Nat} (hs : cs.size = n * 6) (hk : k < n) (h : IrTo cs irs k) {x : Ir} (hx : irs[k]? = some x) :
    IrTo ((((((cs.setIfInBounds (k * 6) (.int .i64 x.op)).setIfInBounds (k * 6 + 1) (.int .i64 x.a)).setIfInBounds (k * 6 + 2) (.int .i64 x.b)).setIfInBounds (k * 6 + 3) (.int .i64 x.at_)).setIfInBounds (k * 6 + 4) (.int .i64 x.inn)).setIfInBounds (k * 6 + 5) (.int .i64 x.out)) irs (k + 1) := by
  intro j y hj hy i v hv
  have hi : i < 6 := by have := (List.getElem?_eq_some_iff.1 hv).1; simpa [irC] using this
  by_cases e : j = k
  · subst e
    obtain rfl : x = y := Option.some.inj (hx.symm.trans hy)
    have h6 : i = 0 ∨ i = 1 ∨ i = 2 ∨ i = 3 ∨ i = 4 ∨ i = 5 := by omega
    rcases h6 with rfl | rfl | rfl | rfl | rfl | rfl
    · simp only [irC, List.getElem?_cons_zero, Option.some.injEq] at hv
      subst hv
      have e0 : j * 6 + 0 = j * 6 := rfl
      rw [e0, Array.getElem?_setIfInBounds_ne (by omega), Array.getElem?_setIfInBounds_ne (by omega), Array.getElem?_setIfInBounds_ne (by omega), Array.getElem?_setIfInBounds_ne (by omega), Array.getElem?_setIfInBounds_ne (by omega), Array.getElem?_setIfInBounds_self_of_lt (by omega)]
    · simp only [irC, List.getElem?_cons_zero, List.getElem?_cons_succ, Option.some.injEq] at hv
      subst hv
      rw [Array.getElem?_setIfInBounds_ne (by omega), Array.getElem?_setIfInBounds_ne (by omega), Array.getElem?_setIfInBounds_ne (by omega), Array.getElem?_setIfInBounds_ne (by omega), Array.getElem?_setIfInBounds_self_of_lt (by simp only [Array.size_setIfInBounds]; omega)]
    · simp only [irC, List.getElem?_cons_zero, List.getElem?_cons_succ, Option.some.injEq] at hv
      subst hv
      rw [Array.getElem?_setIfInBounds_ne (by omega), Array.getElem?_setIfInBounds_ne (by omega), Array.getElem?_setIfInBounds_ne (by omega), Array.getElem?_setIfInBounds_self_of_lt (by simp only [Array.size_setIfInBounds]; omega)]
    · simp only [irC, List.getElem?_cons_zero, List.getElem?_cons_succ, Option.some.injEq] at hv
      subst hv
      rw [Array.getElem?_setIfInBounds_ne (by omega), Array.getElem?_setIfInBounds_ne (by omega), Array.getElem?_setIfInBounds_self_of_lt (by simp only [Array.size_setIfInBounds]; omega)]
    · simp only [irC, List.getElem?_cons_zero, List.getElem?_cons_succ, Option.some.injEq] at hv
      subst hv
      rw [Array.getElem?_setIfInBounds_ne (by omega), Array.getElem?_setIfInBounds_self_of_lt (by simp only [Array.size_setIfInBounds]; omega)]
    · simp only [irC, List.getElem?_cons_zero, List.getElem?_cons_succ, Option.some.injEq] at hv
      subst hv
      rw [Array.getElem?_setIfInBounds_self_of_lt (by simp only [Array.size_setIfInBounds]; omega)]
  · have h1 := h j y (by omega) hy i v hv
    rw [Array.getElem?_setIfInBounds_ne (by omega), Array.getElem?_setIfInBounds_ne (by omega), Array.getElem?_setIfInBounds_ne (by omega), Array.getElem?_setIfInBounds_ne (by omega), Array.getElem?_setIfInBounds_ne (by omega), Array.getElem?_setIfInBounds_ne (by omega)]
    exact h1
def IrB (w : World) (g : Nat) (irs : List Ir) : Prop := ∃ cs, w.heap[g]? = some (.cells cs 106 (0, 0)) ∧ IrTo cs irs irs.length
theorem IrB.move {w w' : World} {g : Nat} {irs : List Ir} (h : IrB w g irs) (hk : w'.heap[g]? = w.heap[g]?) : IrB w' g irs := by
  obtain ⟨cs, h1, h2⟩ := h
  exact ⟨cs, hk.trans h1, h2⟩
def CodeV (w : World) (irss : List (List Ir)) (vs : List Value) : Prop := ∀ (n : Nat) (irs : List Ir), irss[n]? = some irs → ∃ g, vs[n]? = some (.slice (some ⟨g, 0, none⟩) irs.length irs.length) ∧ IrB w g irs
theorem CodeV.keep {w w' : World} {irss : List (List Ir)} {vs : List Value} (h : CodeV w irss vs) (hk : ∀ (g : Nat) (cs : Array Value), w.heap[g]? = some (Go.Obj.cells cs 106 (0, 0)) → w'.heap[g]? = w.heap[g]?) : CodeV w' irss vs := fun n irs hn => by
  obtain ⟨g, h1, cs, h2, h3⟩ := h n irs hn
  exact ⟨g, h1, cs, (hk g cs h2).trans h2, h3⟩
theorem CodeV.snoc {w : World} {irss : List (List Ir)} {vs : List Value} {irs : List Ir} {g : Nat} (h : CodeV w irss vs) (hl : vs.length = irss.length) (hb : IrB w g irs) : CodeV w (irss ++ [irs]) (vs ++ [.slice (some ⟨g, 0, none⟩) irs.length irs.length]) := fun n is hn => by
  by_cases e : n < irss.length
  · rw [List.getElem?_append_left e] at hn
    obtain ⟨g', h1, h2⟩ := h n is hn
    exact ⟨g', by rw [List.getElem?_append_left (by omega)]; exact h1, h2⟩
  · have hn' : n = irss.length := by have := (List.getElem?_eq_some_iff.1 hn).1; simp at this; omega
    subst hn'
    rw [List.getElem?_append_right (Nat.le_refl _)] at hn
    simp at hn
    subst hn
    exact ⟨g, by rw [List.getElem?_append_right (by omega), hl]; simp, hb⟩
/-- The code as an engine holds it. -/
def CodeR (w : World) (C : Nat) (irss : List (List Ir)) : Prop := ∃ cs vs, w.heap[C]? = some (.cells cs 140 (0, 0)) ∧ (∀ (n : Nat) (v : Value), vs[n]? = some v → cs[n]? = some v) ∧ CodeV w irss vs
theorem CodeR.keep {w w' : World} {C : Nat} {irss : List (List Ir)} (h : CodeR w C irss) (h1 : ∀ (g : Nat) (cs : Array Value), w.heap[g]? = some (Go.Obj.cells cs 106 (0, 0)) → w'.heap[g]? = w.heap[g]?) (h2 : ∀ (g : Nat) (cs : Array Value), w.heap[g]? = some (Go.Obj.cells cs 140 (0, 0)) → w'.heap[g]? = w.heap[g]?) : CodeR w' C irss := by
  obtain ⟨cs, vs, a, b, c⟩ := h
  exact ⟨cs, vs, (h2 _ _ a).trans a, b, c.keep h1⟩
theorem CodeR.below {w w' : World} {C : Nat} {irss : List (List Ir)} (h : CodeR w C irss) (hb : Below w.heap.size w w') : CodeR w' C irss := h.keep (fun g cs e => hb.block g (blk_lt e)) (fun g cs e => hb.block g (blk_lt e))
theorem CodeR.at_ {w : World} {C : Nat} {irss : List (List Ir)} (h : CodeR w C irss) {n k : Nat} {irs : List Ir} {x : Ir} (h1 : irss[n]? = some irs) (h2 : irs[k]? = some x) : ∃ g, w.cell? ⟨C, n, none⟩ = some (.slice (some ⟨g, 0, none⟩) irs.length irs.length) ∧ w.cell? ⟨g, k * 6, none⟩ = some (.int .i64 x.op) ∧ w.cell? ⟨g, k * 6 + 1, none⟩ = some (.int .i64 x.a) ∧ w.cell? ⟨g, k * 6 + 2, none⟩ = some (.int .i64 x.b) ∧ w.cell? ⟨g, k * 6 + 3, none⟩ = some (.int .i64 x.at_) ∧ w.cell? ⟨g, k * 6 + 4, none⟩ = some (.int .i64 x.inn) ∧ w.cell? ⟨g, k * 6 + 5, none⟩ = some (.int .i64 x.out) := by
  obtain ⟨cs, vs, a, b, c⟩ := h
  obtain ⟨g, h3, cg, h4, h5⟩ := c n irs h1
  have hk := (List.getElem?_eq_some_iff.1 h2).1
  have h6 := h5 k x hk h2
  exact ⟨g, (blk_cell a n).trans (b _ _ h3), (blk_cell h4 _).trans (h6 0 _ rfl), (blk_cell h4 _).trans (h6 1 _ rfl), (blk_cell h4 _).trans (h6 2 _ rfl), (blk_cell h4 _).trans (h6 3 _ rfl), (blk_cell h4 _).trans (h6 4 _ rfl), (blk_cell h4 _).trans (h6 5 _ rfl)⟩
theorem inss_info : (Tryz.prog.info? 140).map (fun i => (i.zero, i.size, i.bytes)) = some (some (.slice none 0 0), 1, 24) := by kernel_rfl
theorem ins_info : (Tryz.prog.info? 106).map (fun i => (i.zero, i.size, i.bytes)) = some (some (.agg #[.int .i64 0, .int .i64 0, .int .i64 0, .int .i64 0, .int .i64 0, .int .i64 0]), 6, 48) := by kernel_rfl
theorem make_ins (n : Nat) (hn : n ≤ 1000) (W : World) : (Instr.makeSlice 140 (.int .i64 n) (.int .i64 n)).run Tryz.prog W = .ok (.slice (some ⟨W.heap.size, 0, none⟩) n n) (W.alloc (.cells (madeCells #[.int .i64 0, .int .i64 0, .int .i64 0, .int .i64 0, .int .i64 0, .int .i64 0] (n * 6)) 106)) := by
  have h := ins_info
  cases hh : Tryz.prog.info? 106 with
  | none => rw [hh] at h; cases h
  | some i =>
    rw [hh] at h
    simp only [Option.map_some, Option.some.injEq, Prod.mk.injEq] at h
    have hb := h.2.2
    have := run_make W 140 106 i _ Tryz.underlying140 hh h.1 .i64 .i64 n n (by first | omega | (rw [hb]; omega)) (by first | omega | (rw [hb]; omega)) (by first | omega | (rw [hb]; omega)) (by first | omega | (rw [hb]; omega))
    rw [h.2.1] at this
    simpa [Value.cells] using this
theorem made_size (z : Array Value) (n : Nat) : (madeCells z n).size = n := by simp [madeCells]
theorem wrap_two (a b c : Nat) (ha : a ≤ 2000) (hb : b ≤ 1000) (hc : c ≤ b) : IntKind.i64.wrap ((a : Int) + b) = a + b ∧ IntKind.i64.wrap ((a : Int) + b - c) = a + b - c := by
  constructor
  · rw [IntKind.wrap_i64]; omega
  · rw [IntKind.wrap_i64]; omega
theorem keeps6 {F : Nat → Prop} {w w' : World} {g : Nat} (h : Keeps F w w') (hF : F g) {a0 a1 a2 a3 a4 a5 : Nat} {v0 v1 v2 v3 v4 v5 : Value} : Keeps F w ((((((w'.setCell ⟨g, a0, none⟩ v0).setCell ⟨g, a1, none⟩ v1).setCell ⟨g, a2, none⟩ v2).setCell ⟨g, a3, none⟩ v3).setCell ⟨g, a4, none⟩ v4).setCell ⟨g, a5, none⟩ v5) :=
  (((((h.setCell (p := ⟨g, a0, none⟩) (fun _ => hF) _).setCell (p := ⟨g, a1, none⟩) (fun _ => hF) _).setCell (p := ⟨g, a2, none⟩) (fun _ => hF) _).setCell (p := ⟨g, a3, none⟩) (fun _ => hF) _).setCell (p := ⟨g, a4, none⟩) (fun _ => hF) _).setCell (p := ⟨g, a5, none⟩) (fun _ => hF) _
theorem six {w : World} {g n j : Nat} {cs : Array Value} {t : TypeId} (h : w.heap[g]? = some (.cells cs t (0, 0))) (hs : cs.size = n * 6) (hj : j < n) (i : Nat) (hi : i < 6) : ∃ u, w.cell? ⟨g, j * 6 + i, none⟩ = some u :=
  ⟨_, (blk_cell h _).trans (Array.getElem?_eq_getElem (by omega))⟩
theorem holdI {V w' : World} {p q r g : Nat} {t t' t'' : TypeId} {a0 a1 a2 a3 a4 b0 b1 b2 c0 c1 : Value} (hp : V.heap[p]? = some (.cells #[a0, a1, a2, a3, a4] t (0, 0))) (hq : V.heap[q]? = some (.cells #[b0, b1, b2] t' (0, 0))) (hr : V.heap[r]? = some (.cells #[c0, c1] t'' (0, 0))) (np : p ≠ g) (nq : q ≠ g) (nr : r ≠ g) (hk : Keeps (fun x => x = g) V w') :
    w'.cell? ⟨p, 0, none⟩ = some a0 ∧ w'.cell? ⟨p, 1, none⟩ = some a1 ∧ w'.cell? ⟨p, 2, none⟩ = some a2 ∧ w'.cell? ⟨p, 3, none⟩ = some a3 ∧ w'.cell? ⟨p, 4, none⟩ = some a4 ∧ w'.cell? ⟨q, 0, none⟩ = some b0 ∧ w'.cell? ⟨q, 1, none⟩ = some b1 ∧ w'.cell? ⟨q, 2, none⟩ = some b2 ∧ w'.cell? ⟨r, 1, none⟩ = some c1 ∧ Keeps (fun x => x = g) V w' :=
  have x := blk_keeps hp hk np
  have y := blk_keeps hq hk nq
  have z := blk_keeps hr hk nr
  ⟨blk_cell x 0, blk_cell x 1, blk_cell x 2, blk_cell x 3, blk_cell x 4, blk_cell y 0, blk_cell y 1, blk_cell y 2, blk_cell z 1, hk⟩
theorem heldI {a b c d e f g h i : Prop} {V w' : World} {F : Nat → Prop} (hh : a ∧ b ∧ c ∧ d ∧ e ∧ f ∧ g ∧ h ∧ i ∧ Keeps F V w') : Keeps F V w' := hh.2.2.2.2.2.2.2.2.2
/-- Each instruction's rule, and what it is over registers. -/
def IrOK (w : World) (m : Md) (B0 B1 B2 B3 B4 : Option Addr) (m0 m1 m2 m3 m4 d0 d1 d2 d3 d4 : Nat) (stss : List (List (List Ty))) (irss : List (List Ir)) : Prop :=
  ∀ (n : Nat) (f : Fn), m.funcs[n]? = some f → ∃ (sts : List (List Ty)) (irs : List Ir), stss[n]? = some sts ∧ irss[n]? = some irs ∧ sts.length = f.code.length ∧ irs.length = f.code.length ∧ f.code.length ≤ 1000 ∧ f.args.length ≤ 1000 ∧ f.locals.length ≤ 1000 ∧ ∀ (k : Nat) (i : Ins), f.code[k]? = some i → ∃ (st : List Ty) (r : List Ty × List Ty) (ok : Bool), sts[k]? = some st ∧ st.length ≤ 1000 ∧ OfC w m B0 B1 B2 B3 B4 m0 m1 m2 m3 m4 d0 d1 d2 d3 d4 f i st r ok ∧ r.1.length ≤ st.length ∧ irs[k]? = some (irL f i st r)
theorem IrOK.up {w w1 : World} {m : Md} {B0 B1 B2 B3 B4 : Option Addr} {m0 m1 m2 m3 m4 d0 d1 d2 d3 d4 : Nat} {stss : List (List (List Ty))} {irss : List (List Ir)} (h : IrOK w m B0 B1 B2 B3 B4 m0 m1 m2 m3 m4 d0 d1 d2 d3 d4 stss irss) (hb : Below w.heap.size w w1) : IrOK w1 m B0 B1 B2 B3 B4 m0 m1 m2 m3 m4 d0 d1 d2 d3 d4 stss irss := fun n f hf => by
  obtain ⟨sts, irs, h1, h2, h3, h4, h5, h6, h7, h8⟩ := h n f hf
  refine ⟨sts, irs, h1, h2, h3, h4, h5, h6, h7, fun k i hi => ?_⟩
  obtain ⟨st, r, ok, g1, g2, g3, g4, g5⟩ := h8 k i hi
  exact ⟨st, r, ok, g1, g2, g3.up hb, g4, g5⟩
set_option maxRecDepth 100000 in
set_option maxHeartbeats 8000000 in
theorem irOf_calls {S : Nat → Prop} (w : World) (m : Md) (B0 B1 B2 B3 B4 : Option Addr) (m0 m1 m2 m3 m4 d0 d1 d2 d3 d4 : Nat) (h : MRow S w m B0 B1 B2 B3 B4 m0 m1 m2 m3 m4) (hm1 : m1 ≤ 1000) (hm0 : 0 < m1) (stss : List (List (List Ty))) (MA : Option Addr) (mn mc : Nat) (hmp : (Rd.slice k_shape).Row S w MA (stss.map seenL)) (hmn : mn = stss.length) (irss : List (List Ir)) (hln : irss.length = m1)
    (hI : IrOK w m B0 B1 B2 B3 B4 m0 m1 m2 m3 m4 d0 d1 d2 d3 d4 stss irss) :
    Calls Tryz.prog 39 #[.agg #[.slice B0 m0 d0, .slice B1 m1 d1, .slice B2 m2 d2, .slice B3 m3 d3, .slice B4 m4 d4], .slice MA mn mc] w fun e w' => ∃ C cc, e = .returned (.slice (some ⟨C, 0, none⟩) m1 cc) ∧ CodeR w' C irss ∧ w.heap.size ≤ C ∧ Below w.heap.size w w' := by
  have hV := below_a1 w (Obj.cells #[.slice B0 m0 d0, .slice B1 m1 d1, .slice B2 m2 d2, .slice B3 m3 d3, .slice B4 m4 d4] 34)
  have HX := Lib.hid (blk_new w (Obj.cells #[.slice B0 m0 d0, .slice B1 m1 d1, .slice B2 m2 d2, .slice B3 m3 d3, .slice B4 m4 d4] 34))
  have HV := Lib.hid hV
  have HM := Lib.hid h
  have HMp := Lib.hid hmp
  have HI := Lib.hid hI
  have HE1 := Lib.hid h.e1
  have HMn := Lib.hid hmn
  have HLn := Lib.hid hln
  clear h hmp hI hV hmn hln
  go_enter Tryz.func39, Tryz.ntmps39
  go_wp2_with fail
  generalize (w.alloc (Obj.cells #[.slice B0 m0 d0, .slice B1 m1 d1, .slice B2 m2 d2, .slice B3 m3 d3, .slice B4 m4 d4] 34)) = V at *
  go_loopw [5, 17] (fun sv ix wr => ∃ (k : Nat) (A : Option Addr) (c : Nat) (vs : List Value), k ≤ m1 ∧ ix = .int .i64 k ∧ sv = .slice A k c ∧ Hid (wr.ownsRow w.heap.size 140 1 (.slice A k c) k vs) ∧ Hid (CodeV wr (irss.take k) vs) ∧ Hid (∀ u ∈ vs, u.oneCell' = true) ∧ Hid (Below w.heap.size w wr) ∧ Hid (wr.heap[w.heap.size]? = some (.cells #[.slice B0 m0 d0, .slice B1 m1 d1, .slice B2 m2 d2, .slice B3 m3 d3, .slice B4 m4 d4] 34 (0, 0)))) (fun _ ix _ => m1 - (intOf ix).toNat)
  case atStart => exact ⟨0, none, 0, [], Nat.zero_le _, rfl, rfl, Lib.hid ⟨rfl, .inl ⟨rfl, rfl⟩⟩, Lib.hid (fun n irs hn => by simp at hn), Lib.hid (fun u hu => by cases hu), HV, HX⟩
  case round =>
    obtain ⟨wo, hwo⟩ : ∃ x, x = wr := ⟨wr, rfl⟩
    subst hwo
    obtain ⟨k, A, c, vs, hk, rfl, rfl, HO, HCv, HOne, HB, HXr⟩ := hrel
    by_cases hlt : k < m1
    · obtain ⟨f, hf⟩ : ∃ f, m.funcs[k]? = some f := ⟨_, List.getElem?_eq_getElem (by rw [HE1.out]; exact hlt)⟩
      obtain ⟨sts, irs, hst, hir, hl1, hl2, hl3, hl4, hl5, hstep⟩ := HI.out k f hf
      have HSt := Lib.hid hst
      have HIr := Lib.hid hir
      have HL1 := Lib.hid hl1
      have HL2 := Lib.hid hl2
      have HStep := Lib.hid hstep
      have hMr := HM.out.below HB.out
      obtain ⟨b, o, A0, c0, A3, c3, A4, c4, rfl, hSb, f0, f1, f2, f3, f4, l0, -, r0, wk, wn, l3, -, r3, l4, -, r4⟩ := k_func_at hMr.r1 hf
      have HR4 := Lib.hid r4
      have HF := Lib.hid hf
      obtain ⟨z0, z1, z2, z3, z4⟩ := cells5 HXr.out
      have hmk := make_ins f.code.length hl3
      clear hst hir hl1 hl2 hstep hMr r0 r3 r4 wk wn hf z0 z2 z3 z4
      go_wp2_with fail
      have hWI : Below wo.heap.size wo ((wo.alloc (Obj.cells #[.slice A0 f.args.length c0, .int .i64 f.ret.kind, .int .i64 f.ret.n, .slice A3 f.locals.length c3, .slice A4 f.code.length c4] 54)).alloc (Obj.cells (madeCells #[.int .i64 0, .int .i64 0, .int .i64 0, .int .i64 0, .int .i64 0, .int .i64 0] (f.code.length * 6)) 106)) := below_up (below_a1 wo _) _
      have hFb := blk_alloc (blk_new wo (Obj.cells #[.slice A0 f.args.length c0, .int .i64 f.ret.kind, .int .i64 f.ret.n, .slice A3 f.locals.length c3, .slice A4 f.code.length c4] 54)) (Obj.cells (madeCells #[.int .i64 0, .int .i64 0, .int .i64 0, .int .i64 0, .int .i64 0, .int .i64 0] (f.code.length * 6)) 106)
      have hGb := blk_new2 wo (Obj.cells #[.slice A0 f.args.length c0, .int .i64 f.ret.kind, .int .i64 f.ret.n, .slice A3 f.locals.length c3, .slice A4 f.code.length c4] 54) (Obj.cells (madeCells #[.int .i64 0, .int .i64 0, .int .i64 0, .int .i64 0, .int .i64 0, .int .i64 0] (f.code.length * 6)) 106)
      have hsz := made_size #[.int .i64 0, .int .i64 0, .int .i64 0, .int .i64 0, .int .i64 0, .int .i64 0] (f.code.length * 6)
      generalize (madeCells #[.int .i64 0, .int .i64 0, .int .i64 0, .int .i64 0, .int .i64 0, .int .i64 0] (f.code.length * 6)) = mcs at *
      generalize hWI2 : (wo.alloc (Obj.cells #[.slice A0 f.args.length c0, .int .i64 f.ret.kind, .int .i64 f.ret.n, .slice A3 f.locals.length c3, .slice A4 f.code.length c4] 54)).alloc (Obj.cells mcs 106) = WI at *
      clear hWI2 f0 f1 f2 f3 f4 hmk
      have HWI := Lib.hid hWI
      have HFb := Lib.hid hFb
      have HGb := Lib.hid hGb
      have HSz := Lib.hid hsz
      have hws : w.heap.size ≤ wo.heap.size := HB.out.size
      clear hWI hFb hGb hsz
      go_loopw [29] (fun ix wx => ∃ (j : Nat) (cs : Array Value), j ≤ f.code.length ∧ ix = .int .i64 j ∧ Hid (wx.heap[wo.heap.size + 1]? = some (.cells cs 106 (0, 0))) ∧ Hid (cs.size = f.code.length * 6) ∧ Hid (IrTo cs irs j) ∧ Hid (Keeps (fun x => x = wo.heap.size + 1) WI wx)) (fun ix _ => f.code.length - (intOf ix).toNat)
      case atStart => exact ⟨0, mcs, Nat.zero_le _, rfl, HGb, HSz, Lib.hid (IrTo.zero _ _), Lib.hid (Keeps.refl _ _)⟩
      case round =>
        obtain ⟨j, cs, hj, rfl, HGx, HSx, HTo, HKx⟩ := hrel
        by_cases hjl : j < f.code.length
        · obtain ⟨i, hi⟩ : ∃ i, f.code[j]? = some i := ⟨_, List.getElem?_eq_getElem hjl⟩
          obtain ⟨st, r, ok, hs, hs8, hof, hrl, hir⟩ := HStep.out j i hi
          have HIrj := Lib.hid hir
          have hSk : ∀ b, S b → wr.heap[b]? = wo.heap[b]? := fun b hb => (HKx.out.block b (Nat.lt_of_lt_of_le (Nat.lt_of_lt_of_le (HM.out.lt b hb) hws) HWI.out.size) (by have := HM.out.lt b hb; omega)).trans (HWI.out.block b (Nat.lt_of_lt_of_le (HM.out.lt b hb) hws))
          have hSw : ∀ b, S b → wr.heap[b]? = w.heap[b]? := fun b hb => (hSk b hb).trans (HB.out.block b (HM.out.lt b hb))
          have hbx : Below w.heap.size w wr := (HB.out.trans (HWI.out.mono hws)).trans (HKx.out.below (Nat.le_trans hws HWI.out.size) (fun x hx e => by omega))
          obtain ⟨cb, co, rfl, hScb, i0, i1, i2, wi0, wi1, wi2⟩ := k_instr_at (HR4.out.keep hSk) hi
          obtain ⟨mb, mo, A', c', rfl, hSm, e0, ml, mm, rs⟩ := row_slice_at (HMp.out.keep hSw) (x := seenL sts) (i := k) (by rw [List.getElem?_map, HSt.out]; rfl)
          obtain ⟨sb, so, A1, c1, rfl, hSs, s0, s1, sl, sm, srow⟩ := k_shape_at rs (x := ⟨true, st⟩) (i := j) (by rw [seenL, List.getElem?_map, hs]; rfl)
          rw [show (seenL sts).length = f.code.length by rw [seenL, List.length_map, HL1.out]] at e0
          have e0 := below_cell e0 (below_a1 wr (Obj.cells #[.int .i64 i.op, .int .i64 i.a, .int .i64 i.b] 27))
          have s0 := below_cell s0 (below_a1 wr (Obj.cells #[.int .i64 i.op, .int .i64 i.a, .int .i64 i.b] 27))
          have s1 := below_cell s1 (below_a1 wr (Obj.cells #[.int .i64 i.op, .int .i64 i.a, .int .i64 i.b] 27))
          have hmnk : k < mn := by
            have h1 := (List.getElem?_eq_some_iff.1 HSt.out).1
            rw [HMn.out]; exact h1
          have hW2 := below_up (below_a1 wr (Obj.cells #[.int .i64 i.op, .int .i64 i.a, .int .i64 i.b] 27)) (Obj.cells #[.bool true, .slice A1 st.length c1] 142)
          have HIb := Lib.hid (blk_alloc (blk_new wr (Obj.cells #[.int .i64 i.op, .int .i64 i.a, .int .i64 i.b] 27)) (Obj.cells #[.bool true, .slice A1 st.length c1] 142))
          have HSb := Lib.hid (blk_new2 wr (Obj.cells #[.int .i64 i.op, .int .i64 i.a, .int .i64 i.b] 27) (Obj.cells #[.bool true, .slice A1 st.length c1] 142))
          have hXw := blk_keeps (blk_below HXr.out HWI.out (blk_lt HXr.out)) HKx.out (show w.heap.size ≠ wo.heap.size + 1 by omega)
          obtain ⟨z0, z1, z2, z3, z4⟩ := cells5 (blk_below hXw hW2 (blk_lt hXw))
          have hg1 := (cells2 HSb.out).1
          have hg2 := (cells2 HSb.out).2
          have hbW2 : Below w.heap.size w ((wr.alloc (Obj.cells #[.int .i64 i.op, .int .i64 i.a, .int .i64 i.b] 27)).alloc (Obj.cells #[.bool true, .slice A1 st.length c1] 142)) := hbx.trans (hW2.mono hbx.size)
          have KCn := Lib.hid (counts_calls _ m B0 _ B2 B3 B4 m0 m1 m2 m3 m4 d0 d1 d2 d3 d4 (HM.out.below hbW2) k f HF.out hl4 hl5 hl3 j i hi A1 st.length c1 st rfl (srow.keep (fun b hb => hW2.block b (Nat.lt_of_lt_of_le (HM.out.lt b hb) hbx.size))) r ok (hof.up hbW2))
          have HW2 := Lib.hid hW2
          have HHof := Lib.hid hrl
          have HHi := Lib.hid hi
          clear hbW2 hof hrl hi hir hs rs srow ml mm hSm hSs sl sm wi0 wi1 wi2 hScb hSk hSw hW2
          obtain ⟨L, hL⟩ : ∃ L : Nat, L = f.args.length + f.locals.length := ⟨_, rfl⟩
          have KLoc := Lib.hid (fun W => locals_calls W A0 A3 (some ⟨cb, co, none⟩) f.args.length c0 f.locals.length c3 f.code.length c4 f.ret.kind f.ret.n hl4 hl5)
          rw [← hL] at KLoc
          have hx : irs[j]? = some ⟨i.op, i.a, i.b, (L : Int) + st.length - r.1.length, r.1.length, r.2.length⟩ := by
            rw [HIrj.out, irL, ← hL]
            congr 2
            have := HHof.out
            omega
          have HIx := Lib.hid hx
          have hL2 : L ≤ 2000 := by omega
          clear hL hx
          go_upto_region 12 with (go_at_call 64; go_must (refine KCn.out.mono ?_; rintro e w3 ⟨rfl, hb3⟩; have HB3 := Lib.hid hb3; clear hb3))
          have hfb3 := blk_below (blk_below (blk_keeps HFb.out HKx.out (show wo.heap.size ≠ wo.heap.size + 1 by omega)) HW2.out (Nat.lt_of_lt_of_le (blk_lt HFb.out) HKx.out.size)) HB3.out (Nat.lt_of_lt_of_le (Nat.lt_of_lt_of_le (blk_lt HFb.out) HKx.out.size) HW2.out.size)
          have hib3 := blk_below HIb.out HB3.out (blk_lt HIb.out)
          have hsb3 := blk_below HSb.out HB3.out (blk_lt HSb.out)
          have hgb3 := blk_below (blk_below HGx.out HW2.out (blk_lt HGx.out)) HB3.out (Nat.lt_of_lt_of_le (blk_lt HGx.out) HW2.out.size)
          have hgl := blk_lt HGx.out
          have hk3 : Keeps (fun x => x = wo.heap.size + 1) WI w3 := (HKx.out.step (Keeps.of_below HW2.out) (fun x _ h => h)).step (Keeps.of_below HB3.out) (fun x _ h => h)
          clear hg1 hg2 z0 z1 z2 z3 z4 e0 s0 s1
          have HF3 := Lib.hid hfb3
          have HI3 := Lib.hid hib3
          have HS3 := Lib.hid hsb3
          have HG3 := Lib.hid hgb3
          have HK3 := Lib.hid hk3
          clear hfb3 hib3 hsb3 hgb3 hk3
          have n1 : wo.heap.size ≠ wo.heap.size + 1 := by omega
          have n2 : wr.heap.size ≠ wo.heap.size + 1 := by omega
          have n3 : wr.heap.size + 1 ≠ wo.heap.size + 1 := by omega
          clear HI HX HXr HStep HM HR4 HMp HIb HSb HGx HFb HGb HSz HB HO HCv HOne HWI HIrj hbx HL1 HL2 HSt HIr z1 HW2 HHi KCn
          clear i0 i1 i2
          have hw1 := (wrap_two L st.length r.1.length hL2 hs8 HHof.out).1
          have hw2 := (wrap_two L st.length r.1.length hL2 hs8 HHof.out).2
          go_region_held3 (fun w' => w'.cell? ⟨wo.heap.size, 0, none⟩ = some (.slice A0 f.args.length c0) ∧ w'.cell? ⟨wo.heap.size, 1, none⟩ = some (.int .i64 f.ret.kind) ∧ w'.cell? ⟨wo.heap.size, 2, none⟩ = some (.int .i64 f.ret.n) ∧ w'.cell? ⟨wo.heap.size, 3, none⟩ = some (.slice A3 f.locals.length c3) ∧ w'.cell? ⟨wo.heap.size, 4, none⟩ = some (.slice (some ⟨cb, co, none⟩) f.code.length c4) ∧ w'.cell? ⟨wr.heap.size, 0, none⟩ = some (.int .i64 i.op) ∧ w'.cell? ⟨wr.heap.size, 1, none⟩ = some (.int .i64 i.a) ∧ w'.cell? ⟨wr.heap.size, 2, none⟩ = some (.int .i64 i.b) ∧ w'.cell? ⟨wr.heap.size + 1, 1, none⟩ = some (.slice A1 st.length c1) ∧ Keeps (fun x => x = wo.heap.size + 1) w3 w')
            (first | (refine holdI HF3.out HI3.out HS3.out n1 n2 n3 ?_; repeat (first | with_reducible exact keeps6 hk5 rfl | with_reducible assumption | with_reducible exact Keeps.refl _ _ | with_reducible refine Keeps.drew ?_ | refine Keeps.setCell (p := ⟨_, _, none⟩) ?_ (fun _ => rfl) _ | exact heldI (by with_reducible assumption))))
            (first | (go_at_call 46; go_must (refine (KLoc.out _).mono ?_; rintro e w5 ⟨rfl, hb5⟩; have hk5 : Keeps (fun x => x = wo.heap.size + 1) w3 w5 := (heldI (by assumption)).step (Keeps.of_below hb5) (fun x _ h => h); have hg5 := blk_below (blk_drew HG3.out) hb5 (blk_lt HG3.out); obtain ⟨u0, q0⟩ := six hg5 HSx.out hjl 0 (by decide); have q0 : w5.cell? ⟨wo.heap.size + 1, j * 6, none⟩ = some u0 := q0; obtain ⟨u1, q1⟩ := six hg5 HSx.out hjl 1 (by decide); obtain ⟨u2, q2⟩ := six hg5 HSx.out hjl 2 (by decide); obtain ⟨u3, q3⟩ := six hg5 HSx.out hjl 3 (by decide); obtain ⟨u4, q4⟩ := six hg5 HSx.out hjl 4 (by decide); obtain ⟨u5, q5⟩ := six hg5 HSx.out hjl 5 (by decide); have y0 := blk_frozen hg5 (j * 6); have y1 := blk_frozen hg5 (j * 6 + 1); have y2 := blk_frozen hg5 (j * 6 + 2); have y3 := blk_frozen hg5 (j * 6 + 3); have y4 := blk_frozen hg5 (j * 6 + 4); have y5 := blk_frozen hg5 (j * 6 + 5))))
          all_goals
            have hset := irTo_set (n := f.code.length) HSx.out hjl HTo.out HIx.out
            have hb6 := blk_set (blk_set (blk_set (blk_set (blk_set (blk_set hg5 (j * 6) (.int .i64 i.op)) (j * 6 + 1) (.int .i64 i.a)) (j * 6 + 2) (.int .i64 i.b)) (j * 6 + 3) (.int .i64 ((L : Int) + st.length - r.1.length))) (j * 6 + 4) (.int .i64 r.1.length)) (j * 6 + 5) (.int .i64 r.2.length)
            have hk6 : Keeps (fun x => x = wo.heap.size + 1) WI _ := HK3.out.trans (keeps6 hk5 rfl (a0 := j * 6) (a1 := j * 6 + 1) (a2 := j * 6 + 2) (a3 := j * 6 + 3) (a4 := j * 6 + 4) (a5 := j * 6 + 5) (v0 := .int .i64 i.op) (v1 := .int .i64 i.a) (v2 := .int .i64 i.b) (v3 := .int .i64 ((L : Int) + st.length - r.1.length)) (v4 := .int .i64 r.1.length) (v5 := .int .i64 r.2.length))
            have HSet := Lib.hid hset
            have HB6 := Lib.hid hb6
            have HK6 := Lib.hid hk6
            clear hset hb6 hk6 hw1 hw2
            go_wp2
            exact ⟨⟨j + 1, _, by omega, by go_num, HB6, Lib.hid (by simpa using HSx.out), HSet, HK6⟩, by simp [intOf]; omega⟩
        · have hjf : j = f.code.length := by omega
          have HTo2 : Hid (IrTo cs irs irs.length) := Lib.hid (by rw [HL2.out, ← hjf]; exact HTo.out)
          have how := own_below HO.out HWI.out
          have hOr : wr.ownsRow w.heap.size 140 1 (.slice A k c) k vs := own_keep how (fun g hg => HKx.out.block g (how.lt g hg).2 (by have := (HO.out.lt g hg).2; omega))
          have hbx : Below w.heap.size w wr := (HB.out.trans (HWI.out.mono hws)).trans (HKx.out.below (Nat.le_trans hws HWI.out.size) (fun x hx e => by omega))
          have hkeep : ∀ (g : Nat), g < wo.heap.size → wr.heap[g]? = wo.heap[g]? := fun g hg => (HKx.out.block g (Nat.lt_of_lt_of_le hg HWI.out.size) (by omega)).trans (HWI.out.block g hg)
          have hCr : CodeV wr (irss.take k) vs := HCv.out.keep (fun g cs e => hkeep g (blk_lt e))
          have hXw := blk_keeps (blk_below HXr.out HWI.out (blk_lt HXr.out)) HKx.out (show w.heap.size ≠ wo.heap.size + 1 by omega)
          have HOr := Lib.hid hOr
          have HBx := Lib.hid hbx
          have HCr := Lib.hid hCr
          have HXw := Lib.hid hXw
          clear how hOr hbx hkeep hCr hXw hjf
          obtain rfl : j = f.code.length := by omega
          go_wp2_with (at_builtin; go_must (refine list_app _ rfl (.tmp 74) (.tmp 76) _ rfl 140 Tryz.underlying95 inss_info rfl (by decide) (by decide) w.heap.size (n := k) (xs := vs) rfl (by exact HOr.out.alloc _) (news := [.slice (some ⟨wo.heap.size + 1, 0, none⟩) f.code.length f.code.length]) rfl rfl (by exact lie_new [.slice (some ⟨wo.heap.size + 1, 0, none⟩) f.code.length f.code.length] _ _ rfl) (by intro u hu; rw [List.mem_singleton.1 hu]; rfl) (by omega) (Nat.le_trans HBx.out.size (below_a1 wr _).size) ?_; intro v' w6 hown hg hat; obtain ⟨A6, c6, rfl, _, _, _⟩ := own_shape hown; have HO6 := Lib.hid hown; have HG6 := Lib.hid hg; clear hown hg hat))
          have hins : ∀ (g : Nat) (cs : Array Value), wr.heap[g]? = some (Go.Obj.cells cs 106 (0, 0)) → w6.heap[g]? = wr.heap[g]? := fun g cs e => (HG6.out.block g (Nat.lt_of_lt_of_le (blk_lt e) (below_a1 wr _).size) (fun h => own_ne_blk HOr.out e (by decide) h.symm)).trans (Below.heap_alloc _ _ g (blk_lt e))
          have hirb : IrB w6 (wo.heap.size + 1) irs := ⟨cs, (hins _ _ HGx.out).trans HGx.out, HTo2.out⟩
          have htake : irss.take (k + 1) = irss.take k ++ [irs] := by rw [List.take_add_one, HIr.out]; rfl
          have hvl : vs.length = (irss.take k).length := by
            have h1 := HOr.out.1
            have h2 := HLn.out
            rw [List.length_take]
            omega
          have HC6 := Lib.hid ((HCr.out.keep hins).snoc hvl hirb)
          rw [← htake, HL2.out] at HC6
          have HB6 := Lib.hid (grown_below (HBx.out.alloc HBx.out.size _) HG6.out (Nat.le_trans HBx.out.size (below_a1 wr _).size) (own_row_ge HOr.out))
          have HX6 : Hid (w6.heap[w.heap.size]? = some (.cells #[.slice B0 m0 d0, .slice (some ⟨b, o, none⟩) m1 d1, .slice B2 m2 d2, .slice B3 m3 d3, .slice B4 m4 d4] 34 (0, 0))) := Lib.hid ((HG6.out.block _ (Nat.lt_of_lt_of_le (blk_lt HXw.out) (below_a1 wr _).size) (fun e => own_ne_blk HOr.out HXw.out (by decide) e.symm)).trans ((Below.heap_alloc _ _ _ (blk_lt HXw.out)).trans HXw.out))
          clear hins hirb htake hvl
          go_wp2
          go_roundw
          case rel => exact ⟨k + 1, A6, c6, _, by omega, by go_num, rfl, HO6, HC6, Lib.hid (fun u hu => (List.mem_append.1 hu).elim (HOne.out u) (fun hu => by rw [List.mem_singleton.1 hu]; rfl)), HB6, HX6⟩
          case measure => simp [intOf]; omega
    · obtain rfl : m1 = k := by omega
      have hall : irss.take m1 = irss := List.take_of_length_le (by rw [HLn.out]; exact Nat.le_refl _)
      have HC := Lib.hid HCv.out
      rw [hall] at HC
      have HM0 := Lib.hid hm0
      clear hall
      obtain ⟨g, c', cur, e, ho, hgl, -, hcur, hcells, -⟩ := own_at HO.out HM0.out
      obtain ⟨g', hg', hge⟩ := (own_ge HO.out).resolve_left (by rw [ho]; intro h; cases h)
      rw [ho] at hg'
      cases hg'
      cases e
      have HCur := Lib.hid hcur
      have HCells := Lib.hid hcells
      clear hcur hcells ho
      go_wp2
      go_ret
      exact ⟨g, c, rfl, ⟨cur, vs, HCur.out, fun n v hv => (blk_cell HCur.out n).symm.trans (HCells.out n v hv), HC.out⟩, hge, HB.out⟩
end Go.Proofs.YtdmmjckhpagibaaGreatDoor
