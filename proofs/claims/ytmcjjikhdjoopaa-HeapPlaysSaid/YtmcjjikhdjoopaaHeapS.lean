/- heap.Heap by what it answers: Word, SetWord, Byte, SetByte, Len over the objects it has. -/
import Derived.Test.YtmcjjikhdjoopaaHeapObjs
namespace Go.Proofs.Ytmcjjikhdjoopaa
open Go.RowKit
set_option linter.unusedVariables false
def objAt (objs : List Ob) (r : Int) : Option Ob := if r ≤ 0 then none else objs[(r - 1).toNat]?
def wordS (objs : List Ob) (r n : Int) : Int × Int := match objAt objs r with
  | none => (0, 4)
  | some o => match o.words[n.toNat]? with
    | none => (0, 3)
    | some x => (x, 0)
def byteS (objs : List Ob) (r n : Int) : Int × Int := match objAt objs r with
  | none => (0, 4)
  | some o => match o.bytes[n.toNat]? with
    | none => (0, 3)
    | some x => (x, 0)
def lenS (objs : List Ob) (r : Int) : Int × Int := match objAt objs r with
  | none => (0, 4)
  | some o => (((if o.kind = 2 then o.bytes.length else o.words.length : Nat) : Int), 0)
def setWO (o : Ob) (n : Int) (x : Int) : Ob := { o with words := o.words.set n.toNat x }
def setBO (o : Ob) (n : Int) (x : Int) : Ob := { o with bytes := o.bytes.set n.toNat (x % 256) }
/-- One object another one. -/
def setAt (f : Ob → Ob) (objs : List Ob) (r : Int) : List Ob := match objAt objs r with
  | none => objs
  | some o => objs.set (r - 1).toNat (f o)
def setL (f : Ob → Ob) (L : List (Ob × OV)) (r : Int) : List (Ob × OV) := if r ≤ 0 then L else match L[(r - 1).toNat]? with
  | none => L
  | some x => L.set (r - 1).toNat (f x.1, x.2)
theorem setL_none {f : Ob → Ob} {L : List (Ob × OV)} {r : Int} (h : objAt (L.map (·.1)) r = none) : setL f L r = L := by
  unfold setL
  unfold objAt at h
  split
  · rfl
  · rename_i hr
    rw [if_neg hr, List.getElem?_map] at h
    cases hx : L[(r - 1).toNat]? with
    | none => rfl
    | some x => rw [hx] at h; cases h
theorem setL_some {f : Ob → Ob} {L : List (Ob × OV)} {i : Nat} {x : Ob × OV} (h : L[i]? = some x) : setL f L ((i : Int) + 1) = L.set i (f x.1, x.2) := by
  unfold setL
  rw [if_neg (by omega), show ((i : Int) + 1 - 1).toNat = i by omega, h]
theorem setL_map (f : Ob → Ob) (L : List (Ob × OV)) (r : Int) : (setL f L r).map (·.1) = setAt f (L.map (·.1)) r := by
  unfold setL setAt objAt
  split
  · rfl
  · rw [List.getElem?_map]
    cases hx : L[(r - 1).toNat]? with
    | none => rfl
    | some x => simp [List.map_set]
theorem setL_snd (f : Ob → Ob) (L : List (Ob × OV)) (r : Int) : (setL f L r).map (·.2) = L.map (·.2) := by
  unfold setL
  split
  · rfl
  · cases hx : L[(r - 1).toNat]? with
    | none => rfl
    | some x =>
      show List.map (·.2) (L.set _ (f x.1, x.2)) = _
      rw [List.map_set]
      apply List.ext_getElem?
      intro j
      by_cases hj : (r - 1).toNat = j
      · subst hj
        have := (List.getElem?_eq_some_iff.1 hx).1
        rw [List.getElem?_set_self (by rw [List.length_map]; exact this), List.getElem?_map, hx]
        rfl
      · rw [List.getElem?_set_ne hj]
theorem setL_length (f : Ob → Ob) (L : List (Ob × OV)) (r : Int) : (setL f L r).length = L.length := by
  have := congrArg List.length (setL_snd f L r)
  simpa using this
theorem olf_map {v : Value} {L L' : List (Ob × OV)} (h : L'.map (·.2) = L.map (·.2)) {b : Nat} (hb : OLF v L' b) : OLF v L b := by
  rcases hb with hb | ⟨x, hx, hb⟩
  · exact .inl hb
  · have : x.2 ∈ L.map (·.2) := by rw [← h]; exact List.mem_map_of_mem hx
    obtain ⟨y, hy, e⟩ := List.mem_map.1 this
    exact .inr ⟨y, hy, by unfold OMF at hb ⊢; rw [e]; exact hb⟩
theorem olf_setL {v : Value} {L : List (Ob × OV)} {f : Ob → Ob} {r : Int} {b : Nat} (hb : OLF v (setL f L r) b) : OLF v L b := olf_map (setL_snd f L r) hb
/-- Where a place is one, or none. -/
theorem objAt_cases {L : List (Ob × OV)} {r : Int} (h0 : 0 ≤ r) : (objAt (L.map (·.1)) r = none ∧ (r = 0 ∨ (L.length : Int) < r)) ∨ ∃ i x, r = ((i : Nat) : Int) + 1 ∧ L[i]? = some x ∧ i < L.length ∧ objAt (L.map (·.1)) r = some x.1 := by
  unfold objAt
  by_cases hr : r = 0
  · subst hr
    exact .inl ⟨by rw [if_pos (by omega)], .inl rfl⟩
  · rw [if_neg (by omega), List.getElem?_map]
    cases hx : L[(r - 1).toNat]? with
    | none =>
      have := List.getElem?_eq_none_iff.1 hx
      exact .inl ⟨rfl, .inr (by omega)⟩
    | some x => exact .inr ⟨(r - 1).toNat, x, by omega, hx, (List.getElem?_eq_some_iff.1 hx).1, rfl⟩
/-- The place of an object in its row. -/
theorem OL.place {w : World} {v : Value} {L : List (Ob × OV)} (h : OL w v L) {i : Nat} {x : Ob × OV} (hx : L[i]? = some x) : ∃ g c, v = .slice (some ⟨g, 0, none⟩) L.length c ∧ L.length ≤ c ∧ g < w.heap.size ∧ w.cell? ⟨g, i * 4, none⟩ = some (.int .i64 x.1.kind) ∧ w.cell? ⟨g, i * 4 + 1, none⟩ = some (.int .i64 x.1.n) ∧ w.cell? ⟨g, i * 4 + 2, none⟩ = some x.2.vw ∧ w.cell? ⟨g, i * 4 + 3, none⟩ = some x.2.vb := by
  have hi := (List.getElem?_eq_some_iff.1 hx).1
  obtain ⟨g, c, cur, hv, _, hg, hc, _, hcell, _⟩ := own_at h.own (by omega)
  obtain ⟨h0, h1, h2, h3⟩ := ocells_at L i x hx
  exact ⟨g, c, hv, hc, hg, hcell _ _ h0, hcell _ _ h1, hcell _ _ h2, hcell _ _ h3⟩
theorem ocells_set {L : List (Ob × OV)} {i : Nat} {x y : Ob × OV} (hx : L[i]? = some x) (h : ocell y = ocell x) : ocells (L.set i y) = ocells L := by
  induction L generalizing i with
  | nil => simp at hx
  | cons z L ih =>
    cases i with
    | zero =>
      simp at hx
      subst hx
      show ocell y ++ ocells L = ocell z ++ ocells L
      rw [h]
    | succ i =>
      show ocell z ++ ocells (L.set i y) = ocell z ++ ocells L
      rw [ih (by simpa using hx)]
/-- One object is another one, by a store into its own words or bytes. -/
theorem OL.stored {w w' : World} {v : Value} {L : List (Ob × OV)} (h : OL w v L) {f : Ob → Ob} {i : Nat} {x : Ob × OV} (hx : L[i]? = some x) (hf : (f x.1).kind = x.1.kind ∧ (f x.1).n = x.1.n) (hk : Keeps (OMF x) w w') (hm : OM w' (f x.1, x.2)) : OL w' v (setL f L ((i : Int) + 1)) := by
  have hl := setL_length f L ((i : Int) + 1)
  have hs := setL_snd f L ((i : Int) + 1)
  have hset := setL_some (f := f) hx
  have hi := (List.getElem?_eq_some_iff.1 hx).1
  refine ⟨?_, fun y hy => ?_, fun a b y z hab hy hz g hg => ?_⟩
  · rw [hl, hset, ocells_set hx (by unfold ocell; rw [hf.1, hf.2])]
    exact own_keeps h.own hk (fun g hg hb => h.ne (h.mem x (List.mem_of_getElem? hx)) hb hg)
  · rw [hset] at hy
    obtain ⟨j, hj⟩ := List.getElem?_of_mem hy
    by_cases hij : i = j
    · subst hij
      rw [List.getElem?_set_self hi] at hj
      cases hj
      exact hm
    · rw [List.getElem?_set_ne hij] at hj
      exact (h.mem y (List.mem_of_getElem? hj)).keeps hk (fun b hb hb2 => h.apart j i y x (fun e => hij e.symm) hj hx b hb hb2)
  · have get : ∀ {j : Nat} {y : Ob × OV}, (setL f L ((i : Int) + 1))[j]? = some y → ∃ y', L[j]? = some y' ∧ y'.2 = y.2 := fun {j y} hj => by
      have h1 : ((setL f L ((i : Int) + 1)).map (·.2))[j]? = some y.2 := by rw [List.getElem?_map, hj]; rfl
      rw [hs, List.getElem?_map] at h1
      obtain ⟨y', hy', e⟩ := Option.map_eq_some_iff.1 h1
      exact ⟨y', hy', e⟩
    obtain ⟨y', hy', ey⟩ := get hy
    obtain ⟨z', hz', ez⟩ := get hz
    have := h.apart a b y' z' hab hy' hz' g (by unfold OMF; rw [ey]; exact hg)
    intro hz2
    exact this (by unfold OMF; rw [ez]; exact hz2)

theorem wordS_calls (w : World) (p : Nat) (v : Value) (L : List (Ob × OV)) (q u : Int) (h : Hp w p v L q u) (r n : Int) (hr : 0 ≤ r) (hn : 0 ≤ n) :
    Calls Try.prog 28 #[.pointer (some ⟨p, 0, none⟩), .int .u64 r, .int .u64 n] w fun e w' => e = .returned (.tuple #[.int .u64 (wordS (L.map (·.1)) r n).1, .int .i64 (wordS (L.map (·.1)) r n).2]) ∧ w' = w := by
  rcases objAt_cases (L := L) hr with ⟨h1, h2⟩ | ⟨i, x, rfl, hx, hi, h1⟩
  · rw [show wordS (L.map (·.1)) r n = (0, 4) by unfold wordS; rw [h1]]
    exact word_null w _ r n (at_no w p v L q u h r h2 hr)
  · have hsp : wordS (L.map (·.1)) ((i : Int) + 1) n = (match x.1.words[n.toNat]? with | none => (0, 3) | some x => (x, 0)) := by unfold wordS; rw [h1]
    obtain ⟨g, c, rfl, hc, hg, _, _, h4, h5⟩ := h.ol.place hx
    have hat := at_ok w p g c L L.length rfl q u h hc i hi _ rfl
    have hm := h.ol.mem x (List.mem_of_getElem? hx)
    obtain ⟨A, d, e, hd, _⟩ := hm.wm.shape
    cases hk : x.1.words[n.toNat]? with
    | none =>
      rw [hk] at hsp
      rw [hsp]
      have := List.getElem?_eq_none_iff.1 hk
      exact word_far w _ _ n g (i * 4) hat A x.1.words.length d hm.wf.wlen (by rw [h4, e]) (by omega)
    | some y =>
      rw [hk] at hsp
      rw [hsp]
      have hlt := (List.getElem?_eq_some_iff.1 hk).1
      obtain ⟨b, d', e', hd', hb, hcell, hfz⟩ := hm.wm.at_ (by omega)
      have := word_ok w (.pointer (some ⟨p, 0, none⟩)) ((i : Int) + 1) n.toNat g (i * 4) hat b x.1.words.length d' hm.wf.wlen hd' (by rw [h4, e']) hlt y (hcell _ _ (wcells_at hk)) (hm.wf.words y (List.mem_of_getElem? hk))
      rw [Int.toNat_of_nonneg hn] at this
      exact this
theorem setwordS_calls (w : World) (p : Nat) (v : Value) (L : List (Ob × OV)) (q u : Int) (h : Hp w p v L q u) (r n y : Int) (hr : 0 ≤ r) (hn : 0 ≤ n) (hy : 0 ≤ y ∧ y ≤ 18446744073709551615) :
    Calls Try.prog 26 #[.pointer (some ⟨p, 0, none⟩), .int .u64 r, .int .u64 n, .int .u64 y] w fun e w' => e = .returned (.int .i64 (wordS (L.map (·.1)) r n).2) ∧ Hp w' p v (if (wordS (L.map (·.1)) r n).2 = 0 then setL (setWO · n y) L r else L) q u ∧ Keeps (HF p v L) w w' := by
  rcases objAt_cases (L := L) hr with ⟨h1, h2⟩ | ⟨i, x, rfl, hx, hi, h1⟩
  · rw [show wordS (L.map (·.1)) r n = (0, 4) by unfold wordS; rw [h1]]
    refine (setword_null w _ r n y (at_no w p v L q u h r h2 hr)).mono ?_
    rintro e w' ⟨rfl, rfl⟩
    exact ⟨rfl, by rw [if_neg (by decide)]; exact h, Keeps.refl _ _⟩
  · have hsp : wordS (L.map (·.1)) ((i : Int) + 1) n = (match x.1.words[n.toNat]? with | none => (0, 3) | some x => (x, 0)) := by unfold wordS; rw [h1]
    obtain ⟨g, c, rfl, hc, hg, _, _, h4, h5⟩ := h.ol.place hx
    have hat := at_ok w p g c L L.length rfl q u h hc i hi _ rfl
    have hm := h.ol.mem x (List.mem_of_getElem? hx)
    obtain ⟨A, d, e, hd, _⟩ := hm.wm.shape
    cases hk : x.1.words[n.toNat]? with
    | none =>
      rw [hk] at hsp
      rw [hsp]
      have := List.getElem?_eq_none_iff.1 hk
      refine (setword_far w _ _ n y g (i * 4) hat A x.1.words.length d hm.wf.wlen (by rw [h4, e]) (by omega)).mono ?_
      rintro e w' ⟨rfl, rfl⟩
      exact ⟨rfl, by rw [if_neg (by decide)]; exact h, Keeps.refl _ _⟩
    | some z =>
      rw [hk] at hsp
      rw [hsp]
      have hlt := (List.getElem?_eq_some_iff.1 hk).1
      obtain ⟨b, d', e', hd', hb, hcell, hfz⟩ := hm.wm.at_ (by omega)
      have := setword_ok w (.pointer (some ⟨p, 0, none⟩)) ((i : Int) + 1) n.toNat y hy g (i * 4) hat b x.1.words.length d' hm.wf.wlen hd' (by rw [h4, e']) hlt z (hcell _ _ (wcells_at hk)) (hfz _)
      rw [Int.toNat_of_nonneg hn] at this
      refine this.mono ?_
      rintro e2 w' ⟨rfl, rfl⟩
      have hkb : Keeps (OMF x) w (w.setCell ⟨b, n.toNat, none⟩ (.int .u64 y)) := Keeps.setCell (Keeps.refl _ _) (fun _ => .inl (by rw [e']; rfl)) _
      have hol : OL (w.setCell ⟨b, n.toNat, none⟩ (.int .u64 y)) (.slice (some ⟨g, 0, none⟩) L.length c) (setL (setWO · n y) L ((i : Int) + 1)) := by
        refine h.ol.stored hx ⟨rfl, rfl⟩ hkb ?_
        have hms := hm.wm
        rw [e'] at hms
        have hst := hms.set (j := n.toNat) (u := .int .u64 y) hlt
        refine ⟨by rw [e']; simpa [wcells, setWO, List.map_set] using hst, hm.bm.keep (fun g' hg' => Below.heap_setCell w _ _ g' (fun e3 => ?_)), ⟨hm.wf.kind, hm.wf.n, fun t ht => ?_, hm.wf.bytes, by simpa [setWO] using hm.wf.wlen, hm.wf.blen⟩⟩
        · obtain ⟨_, c1, q1⟩ := hm.bm.lt hg'
          obtain ⟨_, c2, q2⟩ := hm.wm.lt (g := b) (by rw [e']; rfl)
          exact blk_ne q1 q2 (by decide) e3
        · rcases List.mem_or_eq_of_mem_set ht with ht | rfl
          · exact hm.wf.words t ht
          · exact hy
      rw [if_pos rfl]
      refine ⟨rfl, ⟨?_, ?_, ?_⟩, hkb.mono (fun b _ hb => .inr (.inr ⟨x, List.mem_of_getElem? hx, hb⟩))⟩
      · refine blk_keeps h.box hkb (fun hb => h.ol.ne_box h.box (.inr ⟨x, List.mem_of_getElem? hx, hb⟩))
      · exact hol
      · show (setL _ L _).length ≤ _
        rw [setL_length]
        exact h.len

theorem byteS_calls (w : World) (p : Nat) (v : Value) (L : List (Ob × OV)) (q u : Int) (h : Hp w p v L q u) (r n : Int) (hr : 0 ≤ r) (hn : 0 ≤ n) :
    Calls Try.prog 25 #[.pointer (some ⟨p, 0, none⟩), .int .u64 r, .int .u64 n] w fun e w' => e = .returned (.tuple #[.int .u64 (byteS (L.map (·.1)) r n).1, .int .i64 (byteS (L.map (·.1)) r n).2]) ∧ w' = w := by
  rcases objAt_cases (L := L) hr with ⟨h1, h2⟩ | ⟨i, x, rfl, hx, hi, h1⟩
  · rw [show byteS (L.map (·.1)) r n = (0, 4) by unfold byteS; rw [h1]]
    exact byte_null w _ r n (at_no w p v L q u h r h2 hr)
  · have hsp : byteS (L.map (·.1)) ((i : Int) + 1) n = (match x.1.bytes[n.toNat]? with | none => (0, 3) | some x => (x, 0)) := by unfold byteS; rw [h1]
    obtain ⟨g, c, rfl, hc, hg, _, _, h4, h5⟩ := h.ol.place hx
    have hat := at_ok w p g c L L.length rfl q u h hc i hi _ rfl
    have hm := h.ol.mem x (List.mem_of_getElem? hx)
    obtain ⟨A, d, e, hd, _⟩ := hm.bm.shape
    cases hk : x.1.bytes[n.toNat]? with
    | none =>
      rw [hk] at hsp
      rw [hsp]
      have := List.getElem?_eq_none_iff.1 hk
      exact byte_far w _ _ n g (i * 4) hat A x.1.bytes.length d hm.wf.blen (by rw [h5, e]) (by omega)
    | some y =>
      rw [hk] at hsp
      rw [hsp]
      have hlt := (List.getElem?_eq_some_iff.1 hk).1
      obtain ⟨b, d', e', hd', hb, hcell, hfz⟩ := hm.bm.at_ (by omega)
      have := byte_ok w (.pointer (some ⟨p, 0, none⟩)) ((i : Int) + 1) n.toNat g (i * 4) hat b x.1.bytes.length d' hm.wf.blen hd' (by rw [h5, e']) hlt y (hcell _ _ (bcells_at hk)) (hm.wf.bytes y (List.mem_of_getElem? hk))
      rw [Int.toNat_of_nonneg hn] at this
      exact this
theorem setbyteS_calls (w : World) (p : Nat) (v : Value) (L : List (Ob × OV)) (q u : Int) (h : Hp w p v L q u) (r n y : Int) (hr : 0 ≤ r) (hn : 0 ≤ n) (hy : 0 ≤ y ∧ y ≤ 18446744073709551615) :
    Calls Try.prog 27 #[.pointer (some ⟨p, 0, none⟩), .int .u64 r, .int .u64 n, .int .u64 y] w fun e w' => e = .returned (.int .i64 (byteS (L.map (·.1)) r n).2) ∧ Hp w' p v (if (byteS (L.map (·.1)) r n).2 = 0 then setL (setBO · n y) L r else L) q u ∧ Keeps (HF p v L) w w' := by
  rcases objAt_cases (L := L) hr with ⟨h1, h2⟩ | ⟨i, x, rfl, hx, hi, h1⟩
  · rw [show byteS (L.map (·.1)) r n = (0, 4) by unfold byteS; rw [h1]]
    refine (setbyte_null w _ r n y (at_no w p v L q u h r h2 hr)).mono ?_
    rintro e w' ⟨rfl, rfl⟩
    exact ⟨rfl, by rw [if_neg (by decide)]; exact h, Keeps.refl _ _⟩
  · have hsp : byteS (L.map (·.1)) ((i : Int) + 1) n = (match x.1.bytes[n.toNat]? with | none => (0, 3) | some x => (x, 0)) := by unfold byteS; rw [h1]
    obtain ⟨g, c, rfl, hc, hg, _, _, h4, h5⟩ := h.ol.place hx
    have hat := at_ok w p g c L L.length rfl q u h hc i hi _ rfl
    have hm := h.ol.mem x (List.mem_of_getElem? hx)
    obtain ⟨A, d, e, hd, _⟩ := hm.bm.shape
    cases hk : x.1.bytes[n.toNat]? with
    | none =>
      rw [hk] at hsp
      rw [hsp]
      have := List.getElem?_eq_none_iff.1 hk
      refine (setbyte_far w _ _ n y g (i * 4) hat A x.1.bytes.length d hm.wf.blen (by rw [h5, e]) (by omega)).mono ?_
      rintro e w' ⟨rfl, rfl⟩
      exact ⟨rfl, by rw [if_neg (by decide)]; exact h, Keeps.refl _ _⟩
    | some z =>
      rw [hk] at hsp
      rw [hsp]
      have hlt := (List.getElem?_eq_some_iff.1 hk).1
      obtain ⟨b, d', e', hd', hb, hcell, hfz⟩ := hm.bm.at_ (by omega)
      have := setbyte_ok w (.pointer (some ⟨p, 0, none⟩)) ((i : Int) + 1) n.toNat y hy g (i * 4) hat b x.1.bytes.length d' hm.wf.blen hd' (by rw [h5, e']) hlt z (hcell _ _ (bcells_at hk)) (hfz _)
      rw [Int.toNat_of_nonneg hn] at this
      refine this.mono ?_
      rintro e2 w' ⟨rfl, rfl⟩
      have hkb : Keeps (OMF x) w (w.setCell ⟨b, n.toNat, none⟩ (.int .u8 (y % 256))) := Keeps.setCell (Keeps.refl _ _) (fun _ => .inr (by rw [e']; rfl)) _
      have hol : OL (w.setCell ⟨b, n.toNat, none⟩ (.int .u8 (y % 256))) (.slice (some ⟨g, 0, none⟩) L.length c) (setL (setBO · n y) L ((i : Int) + 1)) := by
        refine h.ol.stored hx ⟨rfl, rfl⟩ hkb ?_
        have hms := hm.bm
        rw [e'] at hms
        have hst := hms.set (j := n.toNat) (u := .int .u8 (y % 256)) hlt
        refine ⟨hm.wm.keep (fun g' hg' => Below.heap_setCell w _ _ g' (fun e3 => ?_)), by rw [e']; simpa [bcells, setBO, List.map_set] using hst, ⟨hm.wf.kind, hm.wf.n, hm.wf.words, fun t ht => ?_, hm.wf.wlen, by simpa [setBO] using hm.wf.blen⟩⟩
        · obtain ⟨_, c1, q1⟩ := hm.wm.lt hg'
          obtain ⟨_, c2, q2⟩ := hm.bm.lt (g := b) (by rw [e']; rfl)
          exact blk_ne q1 q2 (by decide) e3
        · rcases List.mem_or_eq_of_mem_set ht with ht | rfl
          · exact hm.wf.bytes t ht
          · omega
      rw [if_pos rfl]
      refine ⟨rfl, ⟨?_, ?_, ?_⟩, hkb.mono (fun b _ hb => .inr (.inr ⟨x, List.mem_of_getElem? hx, hb⟩))⟩
      · refine blk_keeps h.box hkb (fun hb => h.ol.ne_box h.box (.inr ⟨x, List.mem_of_getElem? hx, hb⟩))
      · exact hol
      · show (setL _ L _).length ≤ _
        rw [setL_length]
        exact h.len
theorem lenS_calls (w : World) (p : Nat) (v : Value) (L : List (Ob × OV)) (q u : Int) (h : Hp w p v L q u) (r : Int) (hr : 0 ≤ r) :
    Calls Try.prog 29 #[.pointer (some ⟨p, 0, none⟩), .int .u64 r] w fun e w' => e = .returned (.tuple #[.int .i64 (lenS (L.map (·.1)) r).1, .int .i64 (lenS (L.map (·.1)) r).2]) ∧ w' = w := by
  unfold lenS
  rcases objAt_cases (L := L) hr with ⟨h1, h2⟩ | ⟨i, x, rfl, hx, hi, h1⟩
  · rw [h1]
    exact len_null w _ r (at_no w p v L q u h r h2 hr)
  · rw [h1]
    obtain ⟨g, c, rfl, hc, hg, h3, _, h4, h5⟩ := h.ol.place hx
    have hat := at_ok w p g c L L.length rfl q u h hc i hi _ rfl
    have hm := h.ol.mem x (List.mem_of_getElem? hx)
    obtain ⟨A, d, e, hd, _⟩ := hm.wm.shape
    obtain ⟨B, d', e', hd', _⟩ := hm.bm.shape
    exact len_calls w _ _ g (i * 4) hat x.1.kind A B _ _ d d' h3 (by rw [h4, e]) (by rw [h5, e'])
end Go.Proofs.Ytmcjjikhdjoopaa
