/- A list of objects, each of memory of its own; heap.Copy. -/
import Derived.Test.YtmcjjikhdjoopaaCopied
namespace Go.Proofs.Ytmcjjikhdjoopaa
open Go.RowKit
set_option linter.unusedVariables false
theorem obj_info : (Try.prog.info? 31).map (fun i => (i.zero, i.size, i.bytes)) = some (some (.agg #[.int .i64 0, .int .i64 0, .slice none 0 0, .slice none 0 0]), 4, 64) := by kernel_rfl
/-- Where an object's words and bytes lie. -/
structure OV where
  vw : Value
  vb : Value
def ocell (x : Ob × OV) : List Value := [.int .i64 x.1.kind, .int .i64 x.1.n, x.2.vw, x.2.vb]
def ocells (L : List (Ob × OV)) : List Value := L.flatMap ocell
theorem ocells_length (L : List (Ob × OV)) : (ocells L).length = L.length * 4 := by
  induction L with
  | nil => rfl
  | cons x L ih => rw [ocells, List.flatMap_cons, List.length_append]; show 4 + (ocells L).length = _; rw [ih, List.length_cons]; omega
theorem ocells_snoc (L : List (Ob × OV)) (x : Ob × OV) : ocells (L ++ [x]) = ocells L ++ ocell x := by simp [ocells]
theorem ocells_at (L : List (Ob × OV)) (i : Nat) (x : Ob × OV) (h : L[i]? = some x) : (ocells L)[i * 4]? = some (.int .i64 x.1.kind) ∧ (ocells L)[i * 4 + 1]? = some (.int .i64 x.1.n) ∧ (ocells L)[i * 4 + 2]? = some x.2.vw ∧ (ocells L)[i * 4 + 3]? = some x.2.vb := by
  induction L generalizing i with
  | nil => simp at h
  | cons y L ih =>
    cases i with
    | zero =>
      simp at h
      subst h
      simp [ocells, ocell]
    | succ i =>
      have := ih i (by simpa using h)
      have e : ocells (y :: L) = ocell y ++ ocells L := rfl
      rw [e]
      have hl : (ocell y).length = 4 := rfl
      refine ⟨?_, ?_, ?_, ?_⟩
      all_goals rw [List.getElem?_append_right (by omega)]
      · rw [show (i + 1) * 4 - (ocell y).length = i * 4 by omega]; exact this.1
      · rw [show (i + 1) * 4 + 1 - (ocell y).length = i * 4 + 1 by omega]; exact this.2.1
      · rw [show (i + 1) * 4 + 2 - (ocell y).length = i * 4 + 2 by omega]; exact this.2.2.1
      · rw [show (i + 1) * 4 + 3 - (ocell y).length = i * 4 + 3 by omega]; exact this.2.2.2
/-- What an object's numbers are. -/
structure Ob.wf (o : Ob) : Prop where
  kind : (Lit.int .i64 o.kind).wf = true
  n : (Lit.int .i64 o.n).wf = true
  words : isW o.words
  bytes : isB o.bytes
  wlen : o.words.length ≤ 1000000
  blen : o.bytes.length ≤ 1000000
/-- An object's memory. -/
structure OM (w : World) (x : Ob × OV) : Prop where
  wm : Mem w 25 x.2.vw x.1.words.length (wcells x.1.words)
  bm : Mem w 5 x.2.vb x.1.bytes.length (bcells x.1.bytes)
  wf : x.1.wf
def OMF (x : Ob × OV) (b : Nat) : Prop := x.2.vw.ownBlock = some b ∨ x.2.vb.ownBlock = some b
structure OL (w : World) (v : Value) (L : List (Ob × OV)) : Prop where
  own : w.ownsRow 0 31 4 v L.length (ocells L)
  mem : ∀ x ∈ L, OM w x
  apart : ∀ (i j : Nat) (x y : Ob × OV), i ≠ j → L[i]? = some x → L[j]? = some y → ∀ g, OMF x g → ¬ OMF y g
def OLF (v : Value) (L : List (Ob × OV)) (b : Nat) : Prop := v.ownBlock = some b ∨ ∃ x ∈ L, OMF x b
theorem OM.lt {w : World} {x : Ob × OV} (h : OM w x) {b : Nat} (hb : OMF x b) : b < w.heap.size ∧ ∀ cs fr, w.heap[b]? ≠ some (.cells cs 31 fr) := by
  rcases hb with hb | hb
  · obtain ⟨h1, cur, h2⟩ := h.wm.lt hb
    exact ⟨h1, fun cs fr e => blk_ne h2 e (by decide) rfl⟩
  · obtain ⟨h1, cur, h2⟩ := h.bm.lt hb
    exact ⟨h1, fun cs fr e => blk_ne h2 e (by decide) rfl⟩
theorem OM.keeps {F : Nat → Prop} {w w' : World} {x : Ob × OV} (h : OM w x) (hk : Keeps F w w') (hF : ∀ b, OMF x b → ¬ F b) : OM w' x :=
  ⟨h.wm.keeps hk (fun g hg => hF g (.inl hg)), h.bm.keeps hk (fun g hg => hF g (.inr hg)), h.wf⟩
theorem own_block {w : World} {base : Nat} {e : TypeId} {size n : Nat} {v : Value} {xs : List Value} (h : w.ownsRow base e size v n xs) {g : Nat} (hg : v.ownBlock = some g) : g < w.heap.size ∧ ∃ cur, w.heap[g]? = some (.cells cur e (0, 0)) := by
  rcases h.2 with ⟨rfl, _⟩ | ⟨g', cap, cur, rfl, _, hh, _⟩
  · cases hg
  · have : g' = g := by simpa [Value.ownBlock] using hg
    subst this
    exact ⟨blk_lt hh, cur, hh⟩
theorem OL.own_n {w : World} {v : Value} {L : List (Ob × OV)} {k : Nat} (h : OL w v L) (hl : L.length = k) : w.ownsRow 0 31 4 v k (ocells L) := by
  subst hl
  exact h.own
theorem OL.lt {w : World} {v : Value} {L : List (Ob × OV)} (h : OL w v L) {b : Nat} (hb : OLF v L b) : b < w.heap.size := by
  rcases hb with hb | ⟨x, hx, hb⟩
  · exact (own_block h.own hb).1
  · exact ((h.mem x hx).lt hb).1
/-- The row of the objects is none of their own blocks. -/
theorem OL.ne {w : World} {v : Value} {L : List (Ob × OV)} (h : OL w v L) {x : Ob × OV} (hx : OM w x) {b : Nat} (hb : OMF x b) : v.ownBlock ≠ some b := fun hv => by
  obtain ⟨_, cur, hc⟩ := own_block h.own hv
  exact (hx.lt hb).2 _ _ hc
theorem OL.keeps {F : Nat → Prop} {w w' : World} {v : Value} {L : List (Ob × OV)} (h : OL w v L) (hk : Keeps F w w') (hF : ∀ b, OLF v L b → ¬ F b) : OL w' v L :=
  ⟨own_keeps h.own hk (fun g hg => hF g (.inl hg)), fun x hx => (h.mem x hx).keeps hk (fun b hb => hF b (.inr ⟨x, hx, hb⟩)), h.apart⟩
theorem OL.below {w w' : World} {v : Value} {L : List (Ob × OV)} (h : OL w v L) (hb : Below w.heap.size w w') : OL w' v L := h.keeps (F := fun _ => False) (Keeps.of_below hb) (fun _ _ h => h)
theorem OL.nil (w : World) : OL w (.slice none 0 0) [] := ⟨⟨rfl, .inl ⟨rfl, rfl⟩⟩, (fun x hx => by cases hx), (fun i j x y _ hx => by simp at hx)⟩
theorem OLF.nil {b : Nat} : ¬ OLF (.slice none 0 0) [] b := by
  rintro (h | ⟨x, hx, _⟩)
  · cases h
  · cases hx
/-- One more object. -/
theorem OL.snoc {w w' : World} {v v' : Value} {L : List (Ob × OV)} {x : Ob × OV} (h : OL w v L) (hx : OM w x) (hfar : ∀ b, OMF x b → ¬ OLF v L b) (ho : w'.ownsRow 0 31 4 v' (L.length + 1) (ocells L ++ ocell x)) (hk : Keeps (fun b => v.ownBlock = some b) w w') : OL w' v' (L ++ [x]) := by
  refine ⟨by rw [List.length_append, ocells_snoc]; exact ho, fun y hy => ?_, fun i j y z hij hy hz g hg => ?_⟩
  · rcases List.mem_append.1 hy with hy | hy
    · exact (h.mem y hy).keeps hk (fun b hb => h.ne (h.mem y hy) hb)
    · rw [List.mem_singleton.1 hy]
      exact hx.keeps hk (fun b hb => h.ne hx hb)
  · have get : ∀ {i : Nat} {y : Ob × OV}, (L ++ [x])[i]? = some y → (L[i]? = some y) ∨ (i = L.length ∧ y = x) := fun {i y} hy => by
      by_cases hi : i < L.length
      · rw [List.getElem?_append_left hi] at hy
        exact .inl hy
      · have := (List.getElem?_eq_some_iff.1 hy).1
        simp at this
        have e : i = L.length := by omega
        rw [List.getElem?_append_right (by omega), e, Nat.sub_self] at hy
        simp at hy
        exact .inr ⟨e, hy.symm⟩
    rcases get hy with hy1 | ⟨hi, rfl⟩
    · rcases get hz with hz1 | ⟨hj, rfl⟩
      · exact h.apart i j y z hij hy1 hz1 g hg
      · exact fun hz2 => hfar g hz2 (.inr ⟨y, List.mem_of_getElem? hy1, hg⟩)
    · rcases get hz with hz1 | ⟨hj, rfl⟩
      · exact fun hz2 => hfar g hg (.inr ⟨z, List.mem_of_getElem? hz1, hz2⟩)
      · omega
theorem OLF.snoc {v' : Value} {L : List (Ob × OV)} {x : Ob × OV} {b : Nat} (h : OLF v' (L ++ [x]) b) : v'.ownBlock = some b ∨ (∃ y ∈ L, OMF y b) ∨ OMF x b := by
  rcases h with h | ⟨y, hy, h⟩
  · exact .inl h
  · rcases List.mem_append.1 hy with hy | hy
    · exact .inr (.inl ⟨y, hy, h⟩)
    · rw [List.mem_singleton.1 hy] at h
      exact .inr (.inr h)
theorem ocell_one {k n : Int} {ws bs : List Int} {A B : Option Addr} {a b c d : Nat} : ∀ u ∈ ocell (⟨k, n, ws, bs⟩, ⟨.slice A a c, .slice B b d⟩), u.oneCell' = true := by
  intro u hu
  simp [ocell] at hu
  rcases hu with rfl | rfl | rfl | rfl <;> rfl
/-- Read through. -/
theorem OL.row {w : World} {A : Option Addr} {n c : Nat} {L : List (Ob × OV)} (h : OL w (.slice A n c) L) (hn : L.length = n) : k_obj.Row (OLF (.slice A n c) L) w A (L.map (·.1)) := by
  subst hn
  suffices hf : ∀ M : List (Ob × OV), (∀ x ∈ M, x ∈ L) → k_obj.Flat (OLF (.slice A L.length c) L) w (M.map (·.1)) (ocells M) by
    rcases h.own.2 with ⟨h1, h2⟩ | ⟨g, cap, cur, h1, _, hh, _, _, _, h6⟩
    · obtain rfl := List.eq_nil_of_length_eq_zero h2
      exact Rd.Row.nil _ _ _ _
    · cases h1
      exact Rd.Row.of_blk hh (.inl rfl) (hf L (fun _ hx => hx)) (fun j v hj => by
        rw [← h6, List.getElem?_take] at hj
        split at hj
        · simpa using hj
        · cases hj)
  intro M
  induction M with
  | nil => intro _; rfl
  | cons x M ih =>
    intro hM
    have hx := h.mem x (hM x (by simp))
    obtain ⟨A2, c2, e2, l2, _⟩ := hx.wm.shape
    obtain ⟨A3, c3, e3, l3, _⟩ := hx.bm.shape
    have hm := hx.wm
    have hb := hx.bm
    rw [e2] at hm
    rw [e3] at hb
    have hwl := hx.wf.wlen
    have hbl := hx.wf.blen
    have e : ocell x = [.int .i64 x.1.kind, .int .i64 x.1.n, .slice A2 x.1.words.length c2, .slice A3 x.1.bytes.length c3] := by rw [ocell, e2, e3]
    refine Rd.Flat.cons (c := ocell x) ?_ (ih (fun y hy => hM y (by simp [hy])))
    rw [e]
    refine k_obj_mk x.1 hx.wf.kind hx.wf.n l2 (by omega) ((hm.row64 hx.wf.words rfl).mono (fun b hb => ?_)) l3 (by omega) ((hb.row8 hx.wf.bytes rfl).mono (fun b hb => ?_))
    · exact .inr ⟨x, hM x (by simp), .inl (by rw [e2]; exact hb)⟩
    · exact .inr ⟨x, hM x (by simp), .inr (by rw [e3]; exact hb)⟩
/-- An object that is read. -/
theorem obj_at {S : Nat → Prop} {w : World} {A : Option Addr} {xs : List Ob} {i : Nat} {x : Ob} (h : k_obj.Row S w A xs) (hx : xs[i]? = some x) : ∃ b o A2 c2 A3 c3, A = some ⟨b, o, none⟩ ∧ S b ∧ w.cell? ⟨b, o + i * 4, none⟩ = some (.int .i64 x.kind) ∧ w.cell? ⟨b, o + i * 4 + 1, none⟩ = some (.int .i64 x.n) ∧ w.cell? ⟨b, o + i * 4 + 2, none⟩ = some (.slice A2 x.words.length c2) ∧ w.cell? ⟨b, o + i * 4 + 3, none⟩ = some (.slice A3 x.bytes.length c3) ∧ x.words.length ≤ c2 ∧ x.bytes.length ≤ c3 ∧ Lie w A2 x.words.length (wcells x.words) ∧ Lie w A3 x.bytes.length (bcells x.bytes) ∧ (x.words.length ≤ 1000000 → x.bytes.length ≤ 1000000 → x.wf) ∧ (Rd.int .u64).Row S w A2 x.words ∧ (Rd.int .u8).Row S w A3 x.bytes := by
  obtain ⟨b, o, A2, c2, A3, c3, e, hb, h0, h1, h2, h3, f0, f1, l2, m2, r2, l3, m3, r3⟩ := k_obj_at h hx
  obtain ⟨cw, hfw, hlw⟩ := r2.flat
  obtain ⟨rfl, hW⟩ := word_flat.1 hfw
  obtain ⟨cb, hfb, hlb⟩ := r3.flat
  obtain ⟨rfl, hB⟩ := byte_flat.1 hfb
  exact ⟨b, o, A2, c2, A3, c3, e, hb, h0, h1, h2, h3, l2, l3, hlw, hlb, fun h1 h2 => ⟨f0, f1, hW, hB, h1, h2⟩, r2, r3⟩
set_option maxRecDepth 100000 in
set_option maxHeartbeats 2000000 in
theorem copy_calls {S : Nat → Prop} (w : World) (A : Option Addr) (n c : Nat) (objs : List Ob) (hn : objs.length = n) (hm : n ≤ 10000) (hl : ∀ o ∈ objs, o.words.length ≤ 1000000 ∧ o.bytes.length ≤ 1000000) (hS : ∀ b, S b → b < w.heap.size) (hr : k_obj.Row S w A objs) :
    Calls Try.prog 35 #[.slice A n c] w fun e w' => ∃ A' c' L, e = .returned (.slice A' n c') ∧ L.map (·.1) = objs ∧ OL w' (.slice A' n c') L ∧ (∀ b, OLF (.slice A' n c') L b → w.heap.size ≤ b) ∧ Below w.heap.size w w' := by
  have HN := Lib.hid hn
  have HR := Lib.hid hr
  have HS := Lib.hid hS
  have HL := Lib.hid hl
  clear hn hr hS hl
  go_enter Try.func35, Try.ntmps35
  go_wp2
  go_loopw [3, 8] (fun out ix wr => ∃ (k : Nat) (A' : Option Addr) (c' : Nat) (L : List (Ob × OV)), k ≤ n ∧ ix = .int .i64 k ∧ out = .slice A' k c' ∧ Hid (L.length = k) ∧ Hid (L.map (·.1) = objs.take k) ∧ Hid (OL wr (.slice A' k c') L) ∧ Hid (∀ b, OLF (.slice A' k c') L b → w.heap.size ≤ b) ∧ Hid (Below w.heap.size w wr)) (fun _ ix _ => n - (intOf ix).toNat)
  case atStart => exact ⟨0, none, 0, [], Nat.zero_le _, rfl, rfl, Lib.hid rfl, Lib.hid rfl, Lib.hid (OL.nil _), Lib.hid (fun b hb => absurd hb OLF.nil), Lib.hid (Below.refl _ _)⟩
  case round =>
    obtain ⟨k, A', c', L, hk, rfl, rfl, HLl, HLm, HO, HF, HB⟩ := hrel
    by_cases hlt : k < n
    · obtain ⟨x, hx⟩ : ∃ x, objs[k]? = some x := ⟨_, List.getElem?_eq_getElem (by have := HN.out; omega)⟩
      obtain ⟨b, o, A2, c2, A3, c3, rfl, hSb, e0, e1, e2, e3, l2, l3, hw2, hb3, hwf, _, _⟩ := obj_at (HR.out.keep (fun b hb => HB.out.block b (HS.out b hb))) hx
      obtain ⟨hx1, hx2⟩ := HL.out x (List.mem_of_getElem? hx)
      obtain ⟨xk, xn, xw, xb⟩ := x
      simp only at e0 e1 e2 e3 l2 l3 hw2 hb3 hx1 hx2
      obtain ⟨q, hq⟩ : ∃ q, xw.length = q := ⟨_, rfl⟩
      obtain ⟨t, ht⟩ : ∃ t, xb.length = t := ⟨_, rfl⟩
      rw [hq] at e2 l2 hw2 hx1
      rw [ht] at e3 l3 hb3 hx2
      have HQ := Lib.hid hq
      have HT := Lib.hid ht
      have HW2 := Lib.hid hw2
      have HB3 := Lib.hid hb3
      have HX := Lib.hid hx
      have HWF : Hid (Ob.wf ⟨xk, xn, xw, xb⟩) := Lib.hid (hwf (by rw [hq]; exact hx1) (by rw [ht]; exact hx2))
      have hsz := HB.out.size
      clear hq ht hw2 hb3 hx hwf hSb
      have HBx := Lib.hid ((HB.out.alloc hsz (Obj.cells #[.int .i64 xk, .int .i64 xn, .slice A2 q c2, .slice A3 t c3] 31)))
      have HBz := Lib.hid ((Below.refl wr.heap.size wr).alloc (Nat.le_refl _) (Obj.cells #[.int .i64 xk, .int .i64 xn, .slice A2 q c2, .slice A3 t c3] 31))
      have HW4 := Lib.hid (HW2.out.below HBz.out)
      have HB4 := Lib.hid (HB3.out.below HBz.out)
      go_wp2_with (first
        | (go_at_call 36; refine (copied_calls _ xk xn A2 A3 q t c2 c3 xw xb HQ.out HT.out hx1 hx2 (by exact HW4.out) (by exact HB4.out)).mono ?_; rintro e w9 ⟨vw, vb, rfl, hmw, hmb, hfw, hfb, hb9⟩; obtain ⟨A5, c5, rfl, _, _⟩ := hmw.shape; obtain ⟨B5, d5, rfl, _, _⟩ := hmb.shape; have hB9 := HBz.out.trans (hb9.mono (by simp)); have HOM : Hid (OM w9 (⟨xk, xn, xw, xb⟩, ⟨.slice A5 q c5, .slice B5 t d5⟩)) := Lib.hid ⟨by rw [HQ.out]; exact hmw, by rw [HT.out]; exact hmb, HWF.out⟩; have HO9 := Lib.hid (HO.out.below hB9); have HFr : Hid (∀ b, OMF (⟨xk, xn, xw, xb⟩, ⟨.slice A5 q c5, .slice B5 t d5⟩) b → wr.heap.size ≤ b) := Lib.hid (fun b hb => by rcases hb with hb | hb; exact Nat.le_trans (by simp) (hfw b hb); exact Nat.le_trans (by simp) (hfb b hb)); have HBw9 := Lib.hid (HB.out.trans (hB9.mono hsz)); have hs9 := hB9.size; clear hmw hmb hfw hfb hb9 hB9)
        | (at_builtin; refine list_app _ rfl (.tmp 12) (.tmp 15) _ rfl 31 Try.underlying34 obj_info rfl (by decide) (by decide) 0 (n := k) (xs := ocells L) rfl (by exact (HO9.out.own_n HLl.out).alloc _) (news := ocell (⟨xk, xn, xw, xb⟩, ⟨.slice A5 q c5, .slice B5 t d5⟩)) (by rfl) (by rfl) (by exact lie_new _ _ _ rfl) ocell_one (by omega) (Nat.zero_le _) ?_; intro v' w11 hown hg hat; have hK := ((Keeps.refl (fun b => (Value.slice A' k c').ownBlock = some b) w9).alloc _).grown hg (fun g hg _ => by exact hg); obtain ⟨A6, c6, rfl, _, _, _⟩ := own_shape hown; have HO11 := Lib.hid (HO9.out.snoc HOM.out (fun b hb hb2 => by have h1 := HFr.out b hb; have h2 := HO.out.lt hb2; omega) (by rw [HLl.out]; exact hown) hK); have HF11 : Hid (∀ b, OLF (.slice A6 (k + 1) c6) (L ++ [(⟨xk, xn, xw, xb⟩, ⟨.slice A5 q c5, .slice B5 t d5⟩)]) b → w.heap.size ≤ b) := Lib.hid (fun b hb => by rcases hb.snoc with h | h | h; rcases hat with h2 | h2; exact HF.out b (.inl (h2 ▸ h)); rw [h2] at h; cases h; simp; omega; exact HF.out b (.inr h); have := HFr.out b h; omega); have HB11 := Lib.hid (HBw9.out.trans (hK.below (by omega) (fun x hx hv => by have := HF.out x (.inl hv); omega))); clear hown hg hat hK))
      go_roundw
      case rel => exact ⟨k + 1, A6, c6, _, by omega, by go_num, rfl, Lib.hid (by rw [List.length_append, HLl.out]; rfl), Lib.hid (by rw [List.map_append, HLm.out, List.take_add_one, HX.out]; rfl), HO11, HF11, HB11⟩
      case measure => simp [intOf]; omega
    · obtain rfl : k = n := by omega
      go_wp2
      go_ret
      exact ⟨A', c', L, rfl, by rw [HLm.out, ← HN.out, List.take_length], HO.out, HF.out, HB.out⟩
end Go.Proofs.Ytmcjjikhdjoopaa
