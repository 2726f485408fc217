/- 'same' by what it answers. Printed by gen_heapsames.py of this repo. -/
import Derived.Test.YtmcjjikhdjoopaaHeapSame
namespace Go.Proofs.Ytmcjjikhdjoopaa
open Go.RowKit
set_option linter.unusedVariables false
theorem sameWord (w : World) (A : Option Addr) (m c : Nat) (L : List (Ob × OV)) (h : OL w (.slice A m c) L) (hL : L.length = m) (hm : m ≤ 10000) (objs : List Ob) (ho : L.map (·.1) = objs) (k nn : Int) (Ao Bo : Option Addr) (ao co bo d0 : Nat) (r n y : Int) (hr : 0 ≤ r) (hn : 0 ≤ n) (hy : 0 ≤ y ∧ y ≤ 18446744073709551615) :
    Calls Try.prog 33 #[.slice A m c, .agg #[.int .i64 1, .int .i64 k, .int .i64 nn, .slice Ao ao co, .slice Bo bo d0, .int .u64 r, .int .u64 n, .int .u64 y]] w fun e w' => e = .returned (.tuple #[.int .u64 (wordS objs r n).1, .int .i64 (wordS objs r n).2]) ∧ Below w.heap.size w w' := by
  subst ho
  subst hL
  obtain ⟨n, rfl⟩ := Int.eq_ofNat_of_zero_le hn
  rcases objAt_cases (L := L) hr with ⟨h1, h2⟩ | ⟨i, x, rfl, hx, hi, h1⟩
  · rw [show wordS (L.map (·.1)) r (n : Int) = (0, 4) by unfold wordS; rw [h1]]
    exact same_none w A _ c 1 k nn Ao Bo ao co bo d0 r n y hm h2 hr
  · have hsp : wordS (L.map (·.1)) ((i : Int) + 1) (n : Int) = (match x.1.words[n]? with | none => (0, 3) | some x => (x, 0)) := by unfold wordS; rw [h1]; simp only [Int.toNat_natCast]; cases x.1.words[n]? <;> rfl
    obtain ⟨g, c', e, hc, hg, h3, h3', h4, h5⟩ := h.place hx
    cases e
    have hmm := h.mem x (List.mem_of_getElem? hx)
    obtain ⟨A1, c1, ew, hac, _⟩ := hmm.wm.shape
    obtain ⟨B1, d1, eb, hbd, _⟩ := hmm.bm.shape
    cases hk : x.1.words[n]? with
    | none =>
      rw [hk] at hsp
      rw [hsp]
      have := List.getElem?_eq_none_iff.1 hk
      exact same_far1 w g _ _ i x.1.kind x.1.n A1 B1 _ c1 _ d1 k nn Ao Bo ao co bo d0 n y hm hi hc h3 h3' (by rw [h4, ew]) (by rw [h5, eb]) hmm.wf.wlen hmm.wf.blen this
    | some z =>
      rw [hk] at hsp
      rw [hsp]
      have hlt := (List.getElem?_eq_some_iff.1 hk).1
      obtain ⟨b, d', e', hd', hb, hcell, hfz⟩ := hmm.wm.at_ (by omega)
      exact same_ok1 w g _ _ i x.1.kind x.1.n B1 b _ d' _ d1 k nn Ao Bo ao co bo d0 n y hm hi hc h3 h3' (by rw [h4, e']) (by rw [h5, eb]) hmm.wf.wlen hmm.wf.blen hlt hd' z (hcell _ _ (wcells_at hk))

theorem sameByte (w : World) (A : Option Addr) (m c : Nat) (L : List (Ob × OV)) (h : OL w (.slice A m c) L) (hL : L.length = m) (hm : m ≤ 10000) (objs : List Ob) (ho : L.map (·.1) = objs) (k nn : Int) (Ao Bo : Option Addr) (ao co bo d0 : Nat) (r n y : Int) (hr : 0 ≤ r) (hn : 0 ≤ n) (hy : 0 ≤ y ∧ y ≤ 18446744073709551615) :
    Calls Try.prog 33 #[.slice A m c, .agg #[.int .i64 3, .int .i64 k, .int .i64 nn, .slice Ao ao co, .slice Bo bo d0, .int .u64 r, .int .u64 n, .int .u64 y]] w fun e w' => e = .returned (.tuple #[.int .u64 (byteS objs r n).1, .int .i64 (byteS objs r n).2]) ∧ Below w.heap.size w w' := by
  subst ho
  subst hL
  obtain ⟨n, rfl⟩ := Int.eq_ofNat_of_zero_le hn
  rcases objAt_cases (L := L) hr with ⟨h1, h2⟩ | ⟨i, x, rfl, hx, hi, h1⟩
  · rw [show byteS (L.map (·.1)) r (n : Int) = (0, 4) by unfold byteS; rw [h1]]
    exact same_none w A _ c 3 k nn Ao Bo ao co bo d0 r n y hm h2 hr
  · have hsp : byteS (L.map (·.1)) ((i : Int) + 1) (n : Int) = (match x.1.bytes[n]? with | none => (0, 3) | some x => (x, 0)) := by unfold byteS; rw [h1]; simp only [Int.toNat_natCast]; cases x.1.bytes[n]? <;> rfl
    obtain ⟨g, c', e, hc, hg, h3, h3', h4, h5⟩ := h.place hx
    cases e
    have hmm := h.mem x (List.mem_of_getElem? hx)
    obtain ⟨A1, c1, ew, hac, _⟩ := hmm.wm.shape
    obtain ⟨B1, d1, eb, hbd, _⟩ := hmm.bm.shape
    cases hk : x.1.bytes[n]? with
    | none =>
      rw [hk] at hsp
      rw [hsp]
      have := List.getElem?_eq_none_iff.1 hk
      exact same_far3 w g _ _ i x.1.kind x.1.n A1 B1 _ c1 _ d1 k nn Ao Bo ao co bo d0 n y hm hi hc h3 h3' (by rw [h4, ew]) (by rw [h5, eb]) hmm.wf.wlen hmm.wf.blen this
    | some z =>
      rw [hk] at hsp
      rw [hsp]
      have hlt := (List.getElem?_eq_some_iff.1 hk).1
      obtain ⟨b, d', e', hd', hb, hcell, hfz⟩ := hmm.bm.at_ (by omega)
      exact same_ok3 w g _ _ i x.1.kind x.1.n A1 b _ c1 _ d' k nn Ao Bo ao co bo d0 n y hm hi hc h3 h3' (by rw [h4, ew]) (by rw [h5, e']) hmm.wf.wlen hmm.wf.blen hlt hd' z (hcell _ _ (bcells_at hk)) (hmm.wf.bytes z (List.mem_of_getElem? hk))

theorem sameSetWord (w : World) (A : Option Addr) (m c : Nat) (L : List (Ob × OV)) (h : OL w (.slice A m c) L) (hL : L.length = m) (hm : m ≤ 10000) (objs : List Ob) (ho : L.map (·.1) = objs) (k nn : Int) (Ao Bo : Option Addr) (ao co bo d0 : Nat) (r n y : Int) (hr : 0 ≤ r) (hn : 0 ≤ n) (hy : 0 ≤ y ∧ y ≤ 18446744073709551615) :
    Calls Try.prog 33 #[.slice A m c, .agg #[.int .i64 2, .int .i64 k, .int .i64 nn, .slice Ao ao co, .slice Bo bo d0, .int .u64 r, .int .u64 n, .int .u64 y]] w fun e w' => e = .returned (.tuple #[.int .u64 0, .int .i64 (wordS objs r n).2]) ∧ (∃ L', L'.length = L.length ∧ OL w' (.slice A m c) L' ∧ L'.map (·.1) = (if (wordS objs r n).2 = 0 then setAt (setWO · n y) objs r else objs) ∧ (∀ b, OLF (.slice A m c) L' b → OLF (.slice A m c) L b)) ∧ Keeps (OLF (.slice A m c) L) w w' := by
  subst ho
  subst hL
  obtain ⟨n, rfl⟩ := Int.eq_ofNat_of_zero_le hn
  rcases objAt_cases (L := L) hr with ⟨h1, h2⟩ | ⟨i, x, rfl, hx, hi, h1⟩
  · rw [show wordS (L.map (·.1)) r (n : Int) = (0, 4) by unfold wordS; rw [h1]]
    refine (same_none w A _ c 2 k nn Ao Bo ao co bo d0 r n y hm h2 hr).mono ?_
    rintro e w' ⟨rfl, hb⟩
    exact ⟨rfl, ⟨L, rfl, h.below hb, by rw [if_neg (by decide)], fun b hb => hb⟩, Keeps.of_below hb⟩
  · have hsp : wordS (L.map (·.1)) ((i : Int) + 1) (n : Int) = (match x.1.words[n]? with | none => (0, 3) | some x => (x, 0)) := by unfold wordS; rw [h1]; simp only [Int.toNat_natCast]; cases x.1.words[n]? <;> rfl
    obtain ⟨g, c', e, hc, hg, h3, h3', h4, h5⟩ := h.place hx
    cases e
    have hmm := h.mem x (List.mem_of_getElem? hx)
    obtain ⟨A1, c1, ew, hac, _⟩ := hmm.wm.shape
    obtain ⟨B1, d1, eb, hbd, _⟩ := hmm.bm.shape
    cases hk : x.1.words[n]? with
    | none =>
      rw [hk] at hsp
      rw [hsp]
      have := List.getElem?_eq_none_iff.1 hk
      refine (same_far2 w g _ _ i x.1.kind x.1.n A1 B1 _ c1 _ d1 k nn Ao Bo ao co bo d0 n y hm hi hc h3 h3' (by rw [h4, ew]) (by rw [h5, eb]) hmm.wf.wlen hmm.wf.blen this).mono ?_
      rintro e w' ⟨rfl, hb⟩
      exact ⟨rfl, ⟨L, rfl, h.below hb, by rw [if_neg (by decide)], fun b hb => hb⟩, Keeps.of_below hb⟩
    | some z =>
      rw [hk] at hsp
      rw [hsp]
      have hlt := (List.getElem?_eq_some_iff.1 hk).1
      obtain ⟨b, d', e', hd', hb, hcell, hfz⟩ := hmm.wm.at_ (by omega)
      refine (same_ok2 w g _ _ i x.1.kind x.1.n B1 b _ d' _ d1 k nn Ao Bo ao co bo d0 n y hm hi hc h3 h3' (by rw [h4, e']) (by rw [h5, eb]) hmm.wf.wlen hmm.wf.blen hlt hd' z (hcell _ _ (wcells_at hk)) (hfz _)).mono ?_
      rintro e2 w' ⟨rfl, ob1, ob2, rfl⟩
      have hkb : Keeps (OMF x) w (w.setCell ⟨b, n, none⟩ (.int .u64 y)) := Keeps.setCell (Keeps.refl _ _) (fun _ => .inl (by rw [e']; rfl)) _
      have hol : OL (w.setCell ⟨b, n, none⟩ (.int .u64 y)) (.slice (some ⟨g, 0, none⟩) L.length c) (setL (setWO · n y) L ((i : Int) + 1)) := by
        refine h.stored hx ⟨rfl, rfl⟩ hkb ?_
        have hms := hmm.wm
        rw [e'] at hms
        have hst := hms.set (j := n) (u := .int .u64 y) hlt
        refine ⟨by rw [e']; simpa [wcells, setWO, List.map_set] using hst, hmm.bm.keep (fun g' hg' => Below.heap_setCell w _ _ g' (fun e3 => ?_)), ⟨hmm.wf.kind, hmm.wf.n, fun t ht => ?_, hmm.wf.bytes, by simpa [setWO] using hmm.wf.wlen, hmm.wf.blen⟩⟩
        · obtain ⟨_, c1, q1⟩ := hmm.bm.lt hg'
          obtain ⟨_, c2, q2⟩ := hmm.wm.lt (g := b) (by rw [e']; rfl)
          exact blk_ne q1 q2 (by decide) e3
        · rcases List.mem_or_eq_of_mem_set ht with ht | rfl
          · exact hmm.wf.words t ht
          · exact hy
      have hbb : Below (w.setCell ⟨b, n, none⟩ (.int .u64 y)).heap.size (w.setCell ⟨b, n, none⟩ (.int .u64 y)) (((w.setCell ⟨b, n, none⟩ (.int .u64 y)).alloc ob1).alloc ob2) := ((Below.refl _ _).alloc (Nat.le_refl _) _).alloc (by simp) _
      rw [if_pos rfl]
      refine ⟨rfl, ⟨_, setL_length _ _ _, hol.below hbb, setL_map _ _ _, fun b hb => olf_setL hb⟩, ?_⟩
      exact ((hkb.mono (fun b _ hb => .inr ⟨x, List.mem_of_getElem? hx, hb⟩)).alloc ob1).alloc ob2

theorem sameSetByte (w : World) (A : Option Addr) (m c : Nat) (L : List (Ob × OV)) (h : OL w (.slice A m c) L) (hL : L.length = m) (hm : m ≤ 10000) (objs : List Ob) (ho : L.map (·.1) = objs) (k nn : Int) (Ao Bo : Option Addr) (ao co bo d0 : Nat) (r n y : Int) (hr : 0 ≤ r) (hn : 0 ≤ n) (hy : 0 ≤ y ∧ y ≤ 18446744073709551615) :
    Calls Try.prog 33 #[.slice A m c, .agg #[.int .i64 4, .int .i64 k, .int .i64 nn, .slice Ao ao co, .slice Bo bo d0, .int .u64 r, .int .u64 n, .int .u64 y]] w fun e w' => e = .returned (.tuple #[.int .u64 0, .int .i64 (byteS objs r n).2]) ∧ (∃ L', L'.length = L.length ∧ OL w' (.slice A m c) L' ∧ L'.map (·.1) = (if (byteS objs r n).2 = 0 then setAt (setBO · n y) objs r else objs) ∧ (∀ b, OLF (.slice A m c) L' b → OLF (.slice A m c) L b)) ∧ Keeps (OLF (.slice A m c) L) w w' := by
  subst ho
  subst hL
  obtain ⟨n, rfl⟩ := Int.eq_ofNat_of_zero_le hn
  rcases objAt_cases (L := L) hr with ⟨h1, h2⟩ | ⟨i, x, rfl, hx, hi, h1⟩
  · rw [show byteS (L.map (·.1)) r (n : Int) = (0, 4) by unfold byteS; rw [h1]]
    refine (same_none w A _ c 4 k nn Ao Bo ao co bo d0 r n y hm h2 hr).mono ?_
    rintro e w' ⟨rfl, hb⟩
    exact ⟨rfl, ⟨L, rfl, h.below hb, by rw [if_neg (by decide)], fun b hb => hb⟩, Keeps.of_below hb⟩
  · have hsp : byteS (L.map (·.1)) ((i : Int) + 1) (n : Int) = (match x.1.bytes[n]? with | none => (0, 3) | some x => (x, 0)) := by unfold byteS; rw [h1]; simp only [Int.toNat_natCast]; cases x.1.bytes[n]? <;> rfl
    obtain ⟨g, c', e, hc, hg, h3, h3', h4, h5⟩ := h.place hx
    cases e
    have hmm := h.mem x (List.mem_of_getElem? hx)
    obtain ⟨A1, c1, ew, hac, _⟩ := hmm.wm.shape
    obtain ⟨B1, d1, eb, hbd, _⟩ := hmm.bm.shape
    cases hk : x.1.bytes[n]? with
    | none =>
      rw [hk] at hsp
      rw [hsp]
      have := List.getElem?_eq_none_iff.1 hk
      refine (same_far4 w g _ _ i x.1.kind x.1.n A1 B1 _ c1 _ d1 k nn Ao Bo ao co bo d0 n y hm hi hc h3 h3' (by rw [h4, ew]) (by rw [h5, eb]) hmm.wf.wlen hmm.wf.blen this).mono ?_
      rintro e w' ⟨rfl, hb⟩
      exact ⟨rfl, ⟨L, rfl, h.below hb, by rw [if_neg (by decide)], fun b hb => hb⟩, Keeps.of_below hb⟩
    | some z =>
      rw [hk] at hsp
      rw [hsp]
      have hlt := (List.getElem?_eq_some_iff.1 hk).1
      obtain ⟨b, d', e', hd', hb, hcell, hfz⟩ := hmm.bm.at_ (by omega)
      refine (same_ok4 w g _ _ i x.1.kind x.1.n A1 b _ c1 _ d' k nn Ao Bo ao co bo d0 n y hm hi hc h3 h3' (by rw [h4, ew]) (by rw [h5, e']) hmm.wf.wlen hmm.wf.blen hlt hd' z (hcell _ _ (bcells_at hk)) (hfz _) hy.1).mono ?_
      rintro e2 w' ⟨rfl, ob1, ob2, rfl⟩
      have hkb : Keeps (OMF x) w (w.setCell ⟨b, n, none⟩ (.int .u8 (y % 256))) := Keeps.setCell (Keeps.refl _ _) (fun _ => .inr (by rw [e']; rfl)) _
      have hol : OL (w.setCell ⟨b, n, none⟩ (.int .u8 (y % 256))) (.slice (some ⟨g, 0, none⟩) L.length c) (setL (setBO · n y) L ((i : Int) + 1)) := by
        refine h.stored hx ⟨rfl, rfl⟩ hkb ?_
        have hms := hmm.bm
        rw [e'] at hms
        have hst := hms.set (j := n) (u := .int .u8 (y % 256)) hlt
        refine ⟨hmm.wm.keep (fun g' hg' => Below.heap_setCell w _ _ g' (fun e3 => ?_)), by rw [e']; simpa [bcells, setBO, List.map_set] using hst, ⟨hmm.wf.kind, hmm.wf.n, hmm.wf.words, fun t ht => ?_, hmm.wf.wlen, by simpa [setBO] using hmm.wf.blen⟩⟩
        · obtain ⟨_, c1, q1⟩ := hmm.wm.lt hg'
          obtain ⟨_, c2, q2⟩ := hmm.bm.lt (g := b) (by rw [e']; rfl)
          exact blk_ne q1 q2 (by decide) e3
        · rcases List.mem_or_eq_of_mem_set ht with ht | rfl
          · exact hmm.wf.bytes t ht
          · omega
      have hbb : Below (w.setCell ⟨b, n, none⟩ (.int .u8 (y % 256))).heap.size (w.setCell ⟨b, n, none⟩ (.int .u8 (y % 256))) (((w.setCell ⟨b, n, none⟩ (.int .u8 (y % 256))).alloc ob1).alloc ob2) := ((Below.refl _ _).alloc (Nat.le_refl _) _).alloc (by simp) _
      rw [if_pos rfl]
      refine ⟨rfl, ⟨_, setL_length _ _ _, hol.below hbb, setL_map _ _ _, fun b hb => olf_setL hb⟩, ?_⟩
      exact ((hkb.mono (fun b _ hb => .inr ⟨x, List.mem_of_getElem? hx, hb⟩)).alloc ob1).alloc ob2

theorem sameLen (w : World) (A : Option Addr) (m c : Nat) (L : List (Ob × OV)) (h : OL w (.slice A m c) L) (hL : L.length = m) (hm : m ≤ 10000) (objs : List Ob) (ho : L.map (·.1) = objs) (k nn : Int) (Ao Bo : Option Addr) (ao co bo d0 : Nat) (r n y : Int) (hr : 0 ≤ r) (hn : 0 ≤ n) (hy : 0 ≤ y ∧ y ≤ 18446744073709551615) :
    Calls Try.prog 33 #[.slice A m c, .agg #[.int .i64 5, .int .i64 k, .int .i64 nn, .slice Ao ao co, .slice Bo bo d0, .int .u64 r, .int .u64 n, .int .u64 y]] w fun e w' => e = .returned (.tuple #[.int .u64 (lenS objs r).1, .int .i64 (lenS objs r).2]) ∧ Below w.heap.size w w' := by
  subst ho
  subst hL
  obtain ⟨n, rfl⟩ := Int.eq_ofNat_of_zero_le hn
  unfold lenS
  rcases objAt_cases (L := L) hr with ⟨h1, h2⟩ | ⟨i, x, rfl, hx, hi, h1⟩
  · rw [h1]
    exact same_none w A _ c 5 k nn Ao Bo ao co bo d0 r n y hm h2 hr
  · rw [h1]
    obtain ⟨g, c', e, hc, hg, h3, h3', h4, h5⟩ := h.place hx
    cases e
    have hmm := h.mem x (List.mem_of_getElem? hx)
    obtain ⟨A1, c1, ew, hac, _⟩ := hmm.wm.shape
    obtain ⟨B1, d1, eb, hbd, _⟩ := hmm.bm.shape
    by_cases hk : x.1.kind = 2
    · have := same_lenb w g L.length c i x.1.kind x.1.n A1 B1 _ c1 _ d1 k nn Ao Bo ao co bo d0 n y hm hi hc h3 h3' (by rw [h4, ew]) (by rw [h5, eb]) hmm.wf.wlen hmm.wf.blen hk
      simpa [hk] using this
    · have := same_lenw w g L.length c i x.1.kind x.1.n A1 B1 _ c1 _ d1 k nn Ao Bo ao co bo d0 n y hm hi hc h3 h3' (by rw [h4, ew]) (by rw [h5, eb]) hmm.wf.wlen hmm.wf.blen hk
      simpa [hk] using this
end Go.Proofs.Ytmcjjikhdjoopaa
