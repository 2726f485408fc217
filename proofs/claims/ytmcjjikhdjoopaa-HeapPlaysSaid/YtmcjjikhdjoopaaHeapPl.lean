/- HeapPlays: its first loop, which copies the objects. -/
import Derived.Test.YtmcjjikhdjoopaaHeapSameS
import Derived.Test.YtmcjjikhdjoopaaHeapAct
import Derived.Lib.QuietBelow
import Derived.BigQuiet
namespace Go.Proofs.Ytmcjjikhdjoopaa
open Go.RowKit Go.Sort
set_option linter.unusedVariables false
theorem field_heap (W : World) (a b hv c d e f : Value) : (Instr.field 61 (.agg #[a, b, hv, c, d, e, f]) 1).run Try.prog W = .ok b W := by
  have hu := Try.underlying61
  simp [Instr.field, go_sem, run_underlying hu, asAgg]
theorem objs_snoc {w w1 w2 : World} {v v' : Value} {L : List (Ob × OV)} {k n : Int} {ws bs : List Int} {vw vb : Value} {o : Go.Obj} (h : OL w v L) (hb : Below w.heap.size w w1) (ow : w1.ownsRow w.heap.size 25 1 vw ws.length (wcells ws)) (ob : w1.ownsRow w.heap.size 5 1 vb bs.length (bcells bs)) (hwf : Ob.wf ⟨k, n, ws, bs⟩)
    (ho : w2.ownsRow 0 31 4 v' (L.length + 1) (ocells L ++ [.int .i64 k, .int .i64 n, vw, vb])) (hg : (w1.alloc o).grownBy w2 v.ownBlock) (hat : v'.ownBlock = v.ownBlock ∨ v'.ownBlock = some (w1.alloc o).heap.size) :
    OL w2 v' (L ++ [(⟨k, n, ws, bs⟩, ⟨vw, vb⟩)]) ∧ (∀ b, OLF v' (L ++ [(⟨k, n, ws, bs⟩, ⟨vw, vb⟩)]) b → OLF v L b ∨ w.heap.size ≤ b) ∧ Keeps (OLF v L) w w2 := by
  have hfresh : ∀ b, OMF ((⟨k, n, ws, bs⟩, ⟨vw, vb⟩) : Ob × OV) b → w.heap.size ≤ b := fun b hx => hx.elim (fun e => (ow.lt b e).1) (fun e => (ob.lt b e).1)
  have h1 := h.below hb
  have hba : Below w1.heap.size w1 (w1.alloc o) := (Below.refl _ _).alloc (Nat.le_refl _) o
  have hk1 : Keeps (fun b => v.ownBlock = some b) (w1.alloc o) w2 := (Keeps.refl _ _).grown hg (fun g e _ => e)
  refine ⟨OL.snoc (h1.below hba) ⟨Mem.of_own (ow.alloc o), Mem.of_own (ob.alloc o), hwf⟩ (fun b hx hl => ?_) ho hk1, fun b hx => ?_, ?_⟩
  · have := hfresh b hx
    have := h.lt hl
    omega
  · rcases OLF.snoc hx with e | ⟨y, hy, e⟩ | e
    · rcases hat with e2 | e2
      · exact .inl (.inl (e2 ▸ e))
      · rw [e2] at e
        have e3 : (w1.alloc o).heap.size = b := Option.some.inj e
        have h4 := hb.size
        have h5 : (w1.alloc o).heap.size = w1.heap.size + 1 := by simp
        exact .inr (by omega)
    · exact .inl (.inr ⟨y, hy, e⟩)
    · exact .inr (hfresh b e)
  · refine ((Keeps.of_below hb).trans (Keeps.of_below (hba.mono (Nat.le_refl _)) : Keeps (OLF v L) w1 _)).step hk1 (fun x _ e => .inl e)
/-- What the first loop has when i objects are copied. -/
structure Cop (w wr : World) (xs : List Ob) (i : Nat) (v : Value) (L : List (Ob × OV)) : Prop where
  ol : OL wr v L
  map : L.map (·.1) = xs.take i
  far : ∀ b, OLF v L b → w.heap.size ≤ b
  below : Below w.heap.size w wr
  small : ∀ o ∈ xs.take i, o.words.length + o.bytes.length ≤ 300
theorem Cop.zero (w : World) (xs : List Ob) : Cop w w xs 0 (.slice none 0 0) [] := ⟨OL.nil w, by simp, fun b hb => absurd hb OLF.nil, Below.refl _ _, fun o ho => by simp at ho⟩
theorem keeps_below {w wr w2 : World} {v : Value} {L : List (Ob × OV)} (hb : Below w.heap.size w wr) (hf : ∀ b, OLF v L b → w.heap.size ≤ b) (hk : Keeps (OLF v L) wr w2) : Below w.heap.size w w2 :=
  ⟨hk.os.trans hb.os, hk.tape.trans hb.tape, hk.output.trans hb.output, Nat.le_trans hb.size hk.size, fun x hx => (hk.block x (Nat.lt_of_lt_of_le hx hb.size) (fun e => by have := hf x e; omega)).trans (hb.block x hx)⟩
theorem Cop.next {w wr w1 w2 : World} {xs : List Ob} {i : Nat} {v v' : Value} {L : List (Ob × OV)} {x : Ob} {vw vb : Value} {o : Go.Obj} (h : Cop w wr xs i v L) (hx : xs[i]? = some x) (hs : x.words.length + x.bytes.length ≤ 300) (hb : Below wr.heap.size wr w1) (ow : w1.ownsRow wr.heap.size 25 1 vw x.words.length (wcells x.words)) (ob : w1.ownsRow wr.heap.size 5 1 vb x.bytes.length (bcells x.bytes)) (hwf : Ob.wf x)
    (ho : w2.ownsRow 0 31 4 v' (L.length + 1) (ocells L ++ [.int .i64 x.kind, .int .i64 x.n, vw, vb])) (hg : (w1.alloc o).grownBy w2 v.ownBlock) (hat : v'.ownBlock = v.ownBlock ∨ v'.ownBlock = some (w1.alloc o).heap.size) :
    Cop w w2 xs (i + 1) v' (L ++ [(x, ⟨vw, vb⟩)]) := by
  obtain ⟨h1, h2, h3⟩ := objs_snoc (k := x.kind) (n := x.n) (ws := x.words) (bs := x.bytes) h.ol hb ow ob hwf ho hg hat
  obtain ⟨hi, hxe⟩ := List.getElem?_eq_some_iff.1 hx
  have ht : xs.take (i + 1) = xs.take i ++ [x] := by rw [List.take_succ_eq_append_getElem hi, hxe]
  refine ⟨h1, by rw [List.map_append, h.map, ht]; rfl, fun b hx2 => ?_, keeps_below h.below h.far h3, fun o ho => ?_⟩
  · rcases h2 b hx2 with e | e
    · exact h.far b e
    · exact Nat.le_trans h.below.size e
  · rw [ht] at ho
    rcases List.mem_append.1 ho with ho | ho
    · exact h.small o ho
    · rw [List.mem_singleton] at ho; subst ho; exact hs
theorem Cop.len {w wr : World} {xs : List Ob} {i : Nat} {v : Value} {L : List (Ob × OV)} (h : Cop w wr xs i v L) (hi : i ≤ xs.length) : L.length = i := by
  have := congrArg List.length h.map
  rw [List.length_map, List.length_take] at this
  omega
/-- What the second loop has: the heap under trial, and what it should be. -/
structure Ply (w wr : World) (p : Nat) (vO : Value) (LO : List (Ob × OV)) (vH : Value) (LH : List (Ob × OV)) (q u : Int) (i : Nat) : Prop where
  ol : OL wr vO LO
  hp : Hp wr p vH LH q u
  map : LO.map (·.1) = LH.map (·.1)
  apart : ∀ b, OLF vO LO b → ¬ HF p vH LH b
  farO : ∀ b, OLF vO LO b → w.heap.size ≤ b
  farH : ∀ b, HF p vH LH b → w.heap.size ≤ b
  below : Below w.heap.size w wr
  len : LO.length ≤ 20 + i
  lo : -1099511627776 ≤ u
  hi : u ≤ 1099511627776
theorem Ply.keepB {w wr w' : World} {p : Nat} {vO vH : Value} {LO LH : List (Ob × OV)} {q u : Int} {i : Nat} (h : Ply w wr p vO LO vH LH q u i) (hb : RowKit.Below wr.heap.size wr w') : Ply w w' p vO LO vH LH q u i :=
  ⟨h.ol.below hb, h.hp.below hb, h.map, h.apart, h.farO, h.farH, h.below.trans (hb.mono h.below.size), h.len, h.lo, h.hi⟩
theorem Ply.succ {w wr : World} {p : Nat} {vO vH : Value} {LO LH : List (Ob × OV)} {q u : Int} {i : Nat} (h : Ply w wr p vO LO vH LH q u i) : Ply w wr p vO LO vH LH q u (i + 1) :=
  ⟨h.ol, h.hp, h.map, h.apart, h.farO, h.farH, h.below, by have := h.len; omega, h.lo, h.hi⟩
theorem keeps_below2 {w wr w2 : World} {F : Nat → Prop} (hb : RowKit.Below w.heap.size w wr) (hf : ∀ b, F b → w.heap.size ≤ b) (hk : Keeps F wr w2) : RowKit.Below w.heap.size w w2 :=
  ⟨hk.os.trans hb.os, hk.tape.trans hb.tape, hk.output.trans hb.output, Nat.le_trans hb.size hk.size, fun x hx => (hk.block x (Nat.lt_of_lt_of_le hx hb.size) (fun e => by have := hf x e; omega)).trans (hb.block x hx)⟩
theorem Ply.hp6 {w W1 w6 : World} {p : Nat} {vO vH : Value} {LO LH : List (Ob × OV)} {q u : Int} {j : Nat} (h : Ply w W1 p vO LO vH LH q u j) (k1 : Keeps (OLF vO LO) W1 w6) : Hp w6 p vH LH q u := h.hp.keeps k1 (fun b hb hx => h.apart b hx hb)
theorem Ply.stored {w W1 w6 w7 : World} {p : Nat} {vO vH : Value} {LO LO' LH LH' : List (Ob × OV)} {q u : Int} {j : Nat} (h : Ply w W1 p vO LO vH LH q u j) (o1 : OL w6 vO LO') (l1 : LO'.length = LO.length) (f1 : ∀ b, OLF vO LO' b → OLF vO LO b) (k1 : Keeps (OLF vO LO) W1 w6) (h2 : Hp w7 p vH LH' q u) (f2 : ∀ b, HF p vH LH' b → HF p vH LH b) (k2 : Keeps (HF p vH LH) w6 w7) (hm : LO'.map (·.1) = LH'.map (·.1)) : Ply w w7 p vO LO' vH LH' q u (j + 1) :=
  ⟨o1.keeps k2 (fun b hb hx => h.apart b (f1 b hb) hx), h2, hm, fun b hb hx => h.apart b (f1 b hb) (f2 b hx), fun b hb => h.farO b (f1 b hb), fun b hb => h.farH b (f2 b hb), keeps_below2 (keeps_below2 h.below h.farO k1) h.farH k2, by rw [l1]; have := h.len; omega, h.lo, h.hi⟩
theorem Ply.added {w W1 w6 w7 w9 : World} {p : Nat} {vO vO' vH vH' : Value} {LO LH : List (Ob × OV)} {q u u' : Int} {j : Nat} {x : Ob} {ovO ovH : OV} (h : Ply w W1 p vO LO vH LH q u j)
    (hH : Hp w6 p vH' (LH ++ [(x, ovH)]) q u') (fH : ∀ b, HF p vH' (LH ++ [(x, ovH)]) b → HF p vH LH b ∨ W1.heap.size ≤ b) (kH : Keeps (HF p vH LH) W1 w6) (b7 : RowKit.Below w6.heap.size w6 w7) (hO : OL w9 vO' (LO ++ [(x, ovO)])) (fO : ∀ b, OLF vO' (LO ++ [(x, ovO)]) b → OLF vO LO b ∨ w7.heap.size ≤ b) (kO : Keeps (OLF vO LO) w7 w9) (lo : -1099511627776 ≤ u') (hi : u' ≤ 1099511627776) : Ply w w9 p vO' (LO ++ [(x, ovO)]) vH' (LH ++ [(x, ovH)]) q u' (j + 1) := by
  have hs1 := h.below.size
  have hs6 := kH.size
  have hs7 := b7.size
  have cross : ∀ b, OLF vO LO b → ¬ HF p vH' (LH ++ [(x, ovH)]) b := fun b hb hx => by
    rcases fH b hx with e | e
    · exact h.apart b hb e
    · have := h.ol.lt hb
      omega
  refine ⟨hO, (hH.below b7).keeps kO (fun b hb hx => cross b hx hb), by rw [List.map_append, List.map_append, h.map]; rfl, fun b hb hx => ?_, fun b hb => ?_, fun b hb => ?_, ?_, ?_, lo, hi⟩
  · rcases fO b hb with e | e
    · exact cross b e hx
    · have := hH.lt hx
      omega
  · rcases fO b hb with e | e
    · exact h.farO b e
    · omega
  · rcases fH b hb with e | e
    · exact h.farH b e
    · omega
  · exact keeps_below2 ((keeps_below2 h.below h.farH kH).trans (b7.mono (by omega))) h.farO kO
  · rw [List.length_append, List.length_singleton]
    have := h.len
    omega
theorem box8 {W : World} {g : Nat} {t : TypeId} {x0 x1 x2 x3 x4 x5 x6 x7 : Value} (h : W.heap[g]? = some (.cells #[x0, x1, x2, x3, x4, x5, x6, x7] t (0, 0))) :
    W.cell? ⟨g, 0, none⟩ = some x0 ∧ W.cell? ⟨g, 1, none⟩ = some x1 ∧ W.cell? ⟨g, 2, none⟩ = some x2 ∧ W.cell? ⟨g, 3, none⟩ = some x3 ∧ W.cell? ⟨g, 4, none⟩ = some x4 ∧ W.cell? ⟨g, 5, none⟩ = some x5 ∧ W.cell? ⟨g, 6, none⟩ = some x6 ∧ W.cell? ⟨g, 7, none⟩ = some x7 :=
  ⟨blk_cell h 0, blk_cell h 1, blk_cell h 2, blk_cell h 3, blk_cell h 4, blk_cell h 5, blk_cell h 6, blk_cell h 7⟩
theorem lenS_bounds {objs : List Ob} (h : ∀ o ∈ objs, o.words.length ≤ 1000000 ∧ o.bytes.length ≤ 1000000) (r : Int) : 0 ≤ (lenS objs r).1 ∧ (lenS objs r).1 ≤ 1000000 := by
  unfold lenS
  cases e : objAt objs r with
  | none => exact ⟨by decide, by decide⟩
  | some o =>
    have hm : o ∈ objs := by
      unfold objAt at e
      split at e
      · cases e
      · exact List.mem_of_getElem? e
    have := h o hm
    simp only
    split <;> omega
set_option maxRecDepth 100000 in
set_option maxHeartbeats 20000000 in
theorem heapPlays_walk (w : World) (A0 : Option Addr) (c0 : Nat) (x0 : (List Ob)) (l0 : x0.length ≤ c0) (m0 : x0.length ≤ 140737488351232) (row0 : k_obj.Row (· < w.heap.size) w A0 x0) (a1 : Int) (w1 : (Lit.int .i64 a1).wf = true) (a2 : Int) (w2 : (Lit.int .i64 a2).wf = true) (A3 : Option Addr) (c3 : Nat) (x3 : (List HeapAct)) (l3 : x3.length ≤ c3) (m3 : x3.length ≤ 140737488351232) (row3 : k_heapact.Row (· < w.heap.size) w A3 x3) :
    Calls Try.prog 11 #[.slice A0 x0.length c0, .int .i64 a1, .int .i64 a2, .slice A3 x3.length c3] w fun e w' => e = .returned (.bool true) ∧ Below w.heap.size w w' := by
  have HR0 := Lib.hid row0
  have HR3 := Lib.hid row3
  clear row0 row3 w1 w2
  obtain ⟨n0, hn0⟩ : ∃ n, x0.length = n := ⟨_, rfl⟩
  obtain ⟨n3, hn3⟩ : ∃ n, x3.length = n := ⟨_, rfl⟩
  rw [hn0] at l0 ⊢
  rw [hn3] at l3 ⊢
  have HN0 := Lib.hid hn0
  have HN3 := Lib.hid hn3
  clear hn0 hn3 m0 m3
  by_cases g0 : 20 < n0
  · as_aux_lemma =>
    have h0 : (20 : Int) < (n0 : Int) := by omega
    clear HR0 HR3
    go_enter Try.func11, Try.ntmps11
    go_wp2_with (go_at_call 15; refine (heapAnswers_calls _).mono ?_; rintro e w6 ⟨rfl, hb6⟩)
    go_ret
    exact ⟨rfl, hb6⟩
  by_cases g1 : 60 < n3
  · as_aux_lemma =>
    have h1 : (60 : Int) < (n3 : Int) := by omega
    have h0 : ¬ (20 : Int) < (n0 : Int) := by omega
    clear HR0 HR3
    go_enter Try.func11, Try.ntmps11
    go_wp2_with (go_at_call 15; refine (heapAnswers_calls _).mono ?_; rintro e w6 ⟨rfl, hb6⟩)
    go_ret
    exact ⟨rfl, hb6⟩
  by_cases g2 : 1099511627776 < a1
  · as_aux_lemma =>
    have h2 : 1099511627776 < a1 := by omega
    have h0 : ¬ (20 : Int) < (n0 : Int) := by omega
    have h1 : ¬ (60 : Int) < (n3 : Int) := by omega
    clear HR0 HR3
    go_enter Try.func11, Try.ntmps11
    go_wp2_with (go_at_call 15; refine (heapAnswers_calls _).mono ?_; rintro e w6 ⟨rfl, hb6⟩)
    go_ret
    exact ⟨rfl, hb6⟩
  by_cases g3 : a1 < -1099511627776
  · as_aux_lemma =>
    have h3 : a1 < -1099511627776 := by omega
    have h0 : ¬ (20 : Int) < (n0 : Int) := by omega
    have h1 : ¬ (60 : Int) < (n3 : Int) := by omega
    have h2 : ¬ 1099511627776 < a1 := by omega
    clear HR0 HR3
    go_enter Try.func11, Try.ntmps11
    go_wp2_with (go_at_call 15; refine (heapAnswers_calls _).mono ?_; rintro e w6 ⟨rfl, hb6⟩)
    go_ret
    exact ⟨rfl, hb6⟩
  by_cases g4 : 1099511627776 < a2
  · as_aux_lemma =>
    have h4 : 1099511627776 < a2 := by omega
    have h0 : ¬ (20 : Int) < (n0 : Int) := by omega
    have h1 : ¬ (60 : Int) < (n3 : Int) := by omega
    have h2 : ¬ 1099511627776 < a1 := by omega
    have h3 : ¬ a1 < -1099511627776 := by omega
    clear HR0 HR3
    go_enter Try.func11, Try.ntmps11
    go_wp2_with (go_at_call 15; refine (heapAnswers_calls _).mono ?_; rintro e w6 ⟨rfl, hb6⟩)
    go_ret
    exact ⟨rfl, hb6⟩
  by_cases g5 : a2 < -1099511627776
  · as_aux_lemma =>
    have h5 : a2 < -1099511627776 := by omega
    have h0 : ¬ (20 : Int) < (n0 : Int) := by omega
    have h1 : ¬ (60 : Int) < (n3 : Int) := by omega
    have h2 : ¬ 1099511627776 < a1 := by omega
    have h3 : ¬ a1 < -1099511627776 := by omega
    have h4 : ¬ 1099511627776 < a2 := by omega
    clear HR0 HR3
    go_enter Try.func11, Try.ntmps11
    go_wp2_with (go_at_call 15; refine (heapAnswers_calls _).mono ?_; rintro e w6 ⟨rfl, hb6⟩)
    go_ret
    exact ⟨rfl, hb6⟩
  have b0 : ¬ (20 : Int) < (n0 : Int) := by omega
  have b3 : ¬ (60 : Int) < (n3 : Int) := by omega
  have b1 : ¬ 1099511627776 < a1 := by omega
  have b1' : ¬ a1 < -1099511627776 := by omega
  have b2 : ¬ 1099511627776 < a2 := by omega
  have b2' : ¬ a2 < -1099511627776 := by omega
  go_enter Try.func11, Try.ntmps11
  go_wp2
  go_loopw [9, 10] (fun v i wr => ∃ (k : Nat) (L : List (Ob × OV)), k ≤ n0 ∧ i = .int .i64 k ∧ Cop w wr x0 k v L) (fun _ i _ => n0 - (intOf i).toNat)
  case atStart => exact ⟨0, [], Nat.zero_le _, rfl, Cop.zero w x0⟩
  case round =>
    obtain ⟨k, L, hk, rfl, hC⟩ := hrel
    have HC := Lib.hid hC
    have hsz := hC.below.size
    by_cases hlt : k < n0
    · obtain ⟨x, hx⟩ : ∃ x, x0[k]? = some x := ⟨_, List.getElem?_eq_getElem (by have := HN0.out; omega)⟩
      obtain ⟨b, o, Aw, cw, Ab, cb, rfl, hSb, e0, e1, e2, e3, f0, f1, hlw, mlw, rw_, hlb, mlb, rb⟩ := k_obj_at (HR0.out.keep hC.below.block) hx
      have HX := Lib.hid hx
      clear hC hx
      have r2 := cell_regrown e2
      have r3 := cell_regrown e3
      have hbk : b < wr.heap.size := World.block_lt_of_cell? wr _ e0
      obtain ⟨cw1, hfw, hliew⟩ := rw_.flat
      obtain ⟨rfl, hW⟩ := word_flat.1 hfw
      obtain ⟨cb1, hfb, hlieb⟩ := rb.flat
      obtain ⟨rfl, hBy⟩ := byte_flat.1 hfb
      have HLw := Lib.hid hliew
      have HLb := Lib.hid hlieb
      obtain ⟨q1, hq1⟩ : ∃ q, x.words.length = q := ⟨_, rfl⟩
      obtain ⟨q2, hq2⟩ : ∃ q, x.bytes.length = q := ⟨_, rfl⟩
      have HE := Lib.hid (show wr.cell? ⟨b, o + k * 4, none⟩ = some (.int .i64 x.kind) ∧ wr.cell? ⟨b, o + k * 4 + 1, none⟩ = some (.int .i64 x.n) ∧ wr.cell? ⟨b, o + k * 4 + 2, none⟩ = some (.slice Aw x.words.length cw) ∧ wr.cell? ⟨b, o + k * 4 + 3, none⟩ = some (.slice Ab x.bytes.length cb) from ⟨e0, e1, e2, e3⟩)
      rw [hq1] at r2 mlw
      rw [hq2] at r3 mlb
      have HQ1 := Lib.hid hq1
      have HQ2 := Lib.hid hq2
      have HF0 := Lib.hid f0
      have HF1 := Lib.hid f1
      clear e0 e1 e2 e3 rw_ rb hfw hfb hliew hlieb hlw hlb f0 f1 hq1 hq2
      go_wp2_with fail
      refine wp_region_quiet_below (by kernel_rfl) (by kernel_rfl) ?_
      repeat (first | go_big_quiet_step (fail) | quiet_step (fail))
      refine wpQuiet_nil ?_
      intro _ hw'
      obtain ⟨⟨dq, osq⟩, hw''⟩ := hw'
      subst hw''
      clear r2 r3
      have HBq := Lib.hid (below_regrown wr dq osq)
      generalize grow (redrawn wr dq) osq = wq at *
      have hsq := HBq.out.size
      by_cases hs : q1 + q2 ≤ 300
      · have hs1 : ¬ (300 : Int) < (q1 : Int) + (q2 : Int) := by omega
        have hc0 : ¬ c0 = k := by omega
        have hn20 : n0 ≤ 20 := by omega
        have hfld := field_heap
        have HLk := Lib.hid (HC.out.len (by have := HN0.out; omega))
        have y0 := (HBq.out.cell (p := ⟨b, o + k * 4, none⟩) hbk).trans HE.out.1
        have y1 := (HBq.out.cell (p := ⟨b, o + k * 4 + 1, none⟩) hbk).trans HE.out.2.1
        have y2 := (HBq.out.cell (p := ⟨b, o + k * 4 + 2, none⟩) hbk).trans HE.out.2.2.1
        have y3 := (HBq.out.cell (p := ⟨b, o + k * 4 + 3, none⟩) hbk).trans HE.out.2.2.2
        rw [HQ1.out] at y2 HLw
        rw [HQ2.out] at y3 HLb
        have HY := Lib.hid (And.intro y0 (And.intro y1 (And.intro y2 y3)))
        clear y0 y1 y2 y3
        go_wp2_with (first
          | (go_at_call 30; refine (refCopy_calls wq b (o + k * 4) (c0 - k) x.kind x.n Aw Ab q1 q2 cw cb x.words x.bytes HQ1.out HQ2.out (by omega) (by omega) HY.out.1 HY.out.2.1 HY.out.2.2.1 HY.out.2.2.2 (HLw.out.below HBq.out) (HLb.out.below HBq.out)).mono ?_; rintro e w5 ⟨g5, c5, hv5, vw, vb, rfl, d0, d1, d2, d3, ow, ob, hb5⟩; obtain ⟨A7, c7, rfl, _, _, _⟩ := own_shape ow; obtain ⟨A8, c8, rfl, _, _, _⟩ := own_shape ob; have HOW := Lib.hid ow; have HOB := Lib.hid ob; have HB5 := Lib.hid (HBq.out.trans (hb5.mono hsq)); clear ow ob hb5)
          | (at_builtin; refine list_app _ rfl (.tmp 79) (.tmp 90) _ rfl 31 Try.underlying34 obj_info rfl (by decide) (by decide) 0 (n := k) (xs := ocells L) rfl (by exact ((HC.out.ol.below HB5.out).own_n HLk.out).alloc _) (news := [.int .i64 x.kind, .int .i64 x.n, .slice A7 q1 c7, .slice A8 q2 c8]) (by rfl) (by rfl) (by exact lie_new _ _ _ rfl) obj_one (by omega) (Nat.zero_le _) ?_; intro v' w6 hown hg hat; have HO6 := Lib.hid hown; have HG6 := Lib.hid hg; have HA6 := Lib.hid hat; clear hown hg hat))
        refine ⟨⟨k + 1, L ++ [(x, ⟨.slice A7 q1 c7, .slice A8 q2 c8⟩)], by omega, by go_num, ?_⟩, by simp [intOf]; omega⟩
        exact Cop.next HC.out HX.out (by rw [HQ1.out, HQ2.out]; exact hs) HB5.out (by rw [HQ1.out]; exact own_base HOW.out hsq) (by rw [HQ2.out]; exact own_base HOB.out hsq) ⟨HF0.out, HF1.out, hW, hBy, by rw [HQ1.out]; omega, by rw [HQ2.out]; omega⟩ (by rw [HLk.out]; exact HO6.out) HG6.out HA6.out
      · have hs1 : (300 : Int) < (q1 : Int) + (q2 : Int) := by omega
        go_wp2_with (go_at_call 15; refine (heapAnswers_calls _).mono ?_; rintro e w5 ⟨rfl, hb5⟩)
        go_ret
        exact ⟨rfl, (HC.out.below.trans (HBq.out.mono hsz)).trans (hb5.mono (Nat.le_trans hsz hsq))⟩
    · obtain rfl : k = n0 := by omega
      have hn20 : k ≤ 20 := by omega
      have hlk : L.length = k := hC.len (by have := HN0.out; omega)
      have htk : x0.take k = x0 := List.take_of_length_le (by have := HN0.out; omega)
      have hsm := hC.small
      rw [htk] at hsm
      have HSm := Lib.hid hsm
      clear hsm
      have HR1 := Lib.hid (HR0.out.keep hC.below.block)
      clear hC
      go_wp2_with (go_at_call 13; refine (heapNew_calls (S := (· < w.heap.size)) _ A0 k c0 a1 a2 x0 HN0.out (by omega) (fun o ho => by have := HSm.out o ho; omega) (fun b hb => Nat.lt_of_lt_of_le hb hsz) HR1.out).mono ?_; rintro e w5 ⟨p, AH, cH, LH, rfl, hmp, hHp, hfH, hb5⟩; have HM5 := Lib.hid hmp; have HH5 := Lib.hid hHp; have HF5 := Lib.hid hfH; have HB5 := Lib.hid hb5; clear hmp hHp hfH hb5)
      go_loopw [2, 9, 12] (fun us v i wi => ∃ (j : Nat) (u : Int) (LO LH : List (Ob × OV)) (vH : Value), j ≤ n3 ∧ us = .int .i64 u ∧ i = .int .i64 j ∧ Ply w wi p v LO vH LH a1 u j) (fun _ _ i _ => n3 - (intOf i).toNat)
      case atStart =>
        refine ⟨0, a2, L, LH, _, Nat.zero_le _, rfl, rfl, HC.out.ol.below HB5.out, HH5.out, by rw [HC.out.map, htk, HM5.out], fun b hb hh => ?_, HC.out.far, fun b hb => Nat.le_trans hsz (HF5.out b hb), HC.out.below.trans (HB5.out.mono hsz), by omega, by omega, by omega⟩
        have h1 := HC.out.ol.lt hb
        have h2 := HF5.out b hh
        omega
      case round =>
        obtain ⟨j, u, LO, LH, vH, hj, rfl, rfl, hP⟩ := hrel
        have HP := Lib.hid hP
        have hszi := hP.below.size
        by_cases hlt3 : j < n3
        · obtain ⟨x, hx⟩ : ∃ x, x3[j]? = some x := ⟨_, List.getElem?_eq_getElem (by have := HN3.out; omega)⟩
          obtain ⟨b, o, Aw, cw, Ab, cb, rfl, hSb, e0, e1, e2, e3, e4, e5, e6, e7, g0, g1, g2, hlw, mlw, rw_, hlb, mlb, rb, g5, g6, g7⟩ := k_heapact_at HR3.out hx
          obtain ⟨wt, ⟨ok, on, ows, obs⟩, r, n, y⟩ := x
          dsimp only at e0 e1 e2 e3 e4 e5 e6 e7 g0 g1 g2 g5 g6 g7 hlw mlw rw_ hlb mlb rb
          have hbw := World.block_lt_of_cell? w _ e0
          replace e0 := (hP.below.cell (p := ⟨b, o + j * 8, none⟩) hbw).trans e0
          replace e1 := (hP.below.cell (p := ⟨b, o + j * 8 + 1, none⟩) hbw).trans e1
          replace e2 := (hP.below.cell (p := ⟨b, o + j * 8 + 2, none⟩) hbw).trans e2
          replace e3 := (hP.below.cell (p := ⟨b, o + j * 8 + 3, none⟩) hbw).trans e3
          replace e4 := (hP.below.cell (p := ⟨b, o + j * 8 + 4, none⟩) hbw).trans e4
          replace e5 := (hP.below.cell (p := ⟨b, o + j * 8 + 5, none⟩) hbw).trans e5
          replace e6 := (hP.below.cell (p := ⟨b, o + j * 8 + 6, none⟩) hbw).trans e6
          replace e7 := (hP.below.cell (p := ⟨b, o + j * 8 + 7, none⟩) hbw).trans e7
          have hr := bounds_u64 g5
          have hn := bounds_u64 g6
          have hy := bounds_u64 g7
          obtain ⟨cw1, hfw, hliew⟩ := rw_.flat
          obtain ⟨rfl, hW⟩ := word_flat.1 hfw
          obtain ⟨cb1, hfb, hlieb⟩ := rb.flat
          obtain ⟨rfl, hBy⟩ := byte_flat.1 hfb
          obtain ⟨q1, hq1⟩ : ∃ q, ows.length = q := ⟨_, rfl⟩
          obtain ⟨q2, hq2⟩ : ∃ q, obs.length = q := ⟨_, rfl⟩
          rw [hq1] at e3 mlw hlw hliew
          rw [hq2] at e4 mlb hlb hlieb
          have HLw := Lib.hid hliew
          have HLb := Lib.hid hlieb
          have HQ1 := Lib.hid hq1
          have HQ2 := Lib.hid hq2
          have HWf := Lib.hid (And.intro g1 g2)
          have HBA := Lib.hid ((RowKit.Below.refl wr.heap.size wr).alloc (Nat.le_refl _) (Obj.cells #[.int .i64 wt, .int .i64 ok, .int .i64 on, .slice Aw q1 cw, .slice Ab q2 cb, .int .u64 r, .int .u64 n, .int .u64 y] 64))
          have HX := Lib.hid (blk_new wr (Obj.cells #[.int .i64 wt, .int .i64 ok, .int .i64 on, .slice Aw q1 cw, .slice Ab q2 cb, .int .u64 r, .int .u64 n, .int .u64 y] 64))
          have HP1 := Lib.hid (hP.keepB HBA.out)
          obtain ⟨AO, cO, rfl, hcO, _, _⟩ := own_shape hP.ol.own
          obtain ⟨objs, hobjs⟩ : ∃ objs, LO.map (·.1) = objs := ⟨_, rfl⟩
          have hobjsH : LH.map (·.1) = objs := by rw [← hobjs, hP.map]
          obtain ⟨mO, hmO⟩ : ∃ m, LO.length = m := ⟨_, rfl⟩
          have hlenO := hP.len
          have HOb := Lib.hid hobjs
          have HObH := Lib.hid hobjsH
          have HMO := Lib.hid hmO
          have hmH : LH.length = mO := by have := congrArg List.length hP.map; rw [List.length_map, List.length_map] at this; omega
          obtain ⟨AH1, cH1, rfl, hcH, _, _⟩ := own_shape hP.hp.ol.own
          have HMH := Lib.hid hmH
          have HLtO := Lib.hid (fun x (hx : OLF (.slice AO LO.length cO) LO x) => hP.ol.lt hx)
          have HLtH := Lib.hid (fun x (hx : HF p (.slice AH1 LH.length cH1) LH x) => hP.hp.lt hx)
          rw [hmO] at hlenO hcO HLtO
          rw [hmH] at hcH HLtH
          rw [hmO, hmH] at HP1
          rw [hmO]
          clear hmH
          have hmO2 : mO ≤ 10000 := by omega
          clear rw_ rb hfw hfb hliew hlieb hlw hlb hx hP hq1 hq2 hobjs hobjsH hmO g0 g1 g2 g5 g6 g7 hSb
          by_cases h1 : wt = 1
          · as_aux_lemma =>
            subst h1
            have hs1 := sameWord _ AO mO cO LO HP1.out.ol HMO.out hmO2 objs HOb.out ok on Aw Ab q1 cw q2 cb r n y hr.1 hn.1 hy
            have hs2 := wordS_calls _ p (.slice AH1 mO cH1) LH a1 u HP1.out.hp r n hr.1 hn.1
            rw [HObH.out] at hs2
            generalize (wordS objs r n).1 = wv at hs1 hs2
            generalize (wordS objs r n).2 = we at hs1 hs2
            have K1 := Lib.hid hs1
            have K2 := Lib.hid hs2
            clear hs1 hs2
            go_wp2_with (first
              | (go_at_call 28; refine K2.out.mono ?_; rintro e w6 ⟨rfl, rfl⟩)
              | (go_at_call 33; refine K1.out.mono ?_; rintro e w7 ⟨rfl, hb7⟩; have HP7 := Lib.hid (HP1.out.keepB hb7); clear hb7))
            exact ⟨⟨j + 1, u, LO, LH, .slice AH1 mO cH1, by omega, rfl, by go_num, HP7.out.succ⟩, by simp [intOf]; omega⟩
          by_cases h2 : wt = 2
          · as_aux_lemma =>
            subst h2
            have hs1 := sameSetWord _ AO mO cO LO HP1.out.ol HMO.out hmO2 objs HOb.out ok on Aw Ab q1 cw q2 cb r n y hr.1 hn.1 hy
            have hs2 := fun w6 (hh : Hp w6 p (.slice AH1 mO cH1) LH a1 u) => setwordG w6 p (.slice AH1 mO cH1) LH a1 u hh objs HObH.out r n y hr.1 hn.1 hy
            generalize (wordS objs r n).2 = we at hs1 hs2
            have K1 := Lib.hid hs1
            have K2 := Lib.hid hs2
            clear hs1 hs2
            go_wp2_with (first
              | (go_at_call 33; refine K1.out.mono ?_; rintro e w6 ⟨rfl, ⟨LO2, hl2, ho2, hm2, hf2⟩, hk2⟩; have HL2 := Lib.hid hl2; have HO2 := Lib.hid ho2; have HM2 := Lib.hid hm2; have HF2 := Lib.hid hf2; have HK2 := Lib.hid hk2; have hq := blk_keeps HX.out hk2 (fun e => by have := HLtO.out _ e; omega); obtain ⟨z0, z1, z2, z3, z4, z5, z6, z7⟩ := box8 hq; clear hl2 ho2 hm2 hf2 hk2 hq)
              | (go_at_call 26; refine (K2.out _ (HP1.out.hp6 HK2.out)).mono ?_; rintro e w7 ⟨rfl, ⟨LH2, hl3, ho3, hm3, hf3⟩, hk3⟩; have HO3 := Lib.hid ho3; have HM3 := Lib.hid hm3; have HF3 := Lib.hid hf3; have HK3 := Lib.hid hk3; clear hl3 ho3 hm3 hf3 hk3))
            exact ⟨⟨j + 1, u, LO2, LH2, .slice AH1 mO cH1, by omega, rfl, by go_num, HP1.out.stored HO2.out HL2.out HF2.out HK2.out HO3.out HF3.out HK3.out (by rw [HM2.out, HM3.out])⟩, by simp [intOf]; omega⟩
          by_cases h3 : wt = 3
          · as_aux_lemma =>
            subst h3
            have hs1 := sameByte _ AO mO cO LO HP1.out.ol HMO.out hmO2 objs HOb.out ok on Aw Ab q1 cw q2 cb r n y hr.1 hn.1 hy
            have hs2 := byteS_calls _ p (.slice AH1 mO cH1) LH a1 u HP1.out.hp r n hr.1 hn.1
            rw [HObH.out] at hs2
            generalize (byteS objs r n).1 = wv at hs1 hs2
            generalize (byteS objs r n).2 = we at hs1 hs2
            have K1 := Lib.hid hs1
            have K2 := Lib.hid hs2
            clear hs1 hs2
            go_wp2_with (first
              | (go_at_call 25; refine K2.out.mono ?_; rintro e w6 ⟨rfl, rfl⟩)
              | (go_at_call 33; refine K1.out.mono ?_; rintro e w7 ⟨rfl, hb7⟩; have HP7 := Lib.hid (HP1.out.keepB hb7); clear hb7))
            exact ⟨⟨j + 1, u, LO, LH, .slice AH1 mO cH1, by omega, rfl, by go_num, HP7.out.succ⟩, by simp [intOf]; omega⟩
          by_cases h4 : wt = 4
          · as_aux_lemma =>
            subst h4
            have hs1 := sameSetByte _ AO mO cO LO HP1.out.ol HMO.out hmO2 objs HOb.out ok on Aw Ab q1 cw q2 cb r n y hr.1 hn.1 hy
            have hs2 := fun w6 (hh : Hp w6 p (.slice AH1 mO cH1) LH a1 u) => setbyteG w6 p (.slice AH1 mO cH1) LH a1 u hh objs HObH.out r n y hr.1 hn.1 hy
            generalize (byteS objs r n).2 = we at hs1 hs2
            have K1 := Lib.hid hs1
            have K2 := Lib.hid hs2
            clear hs1 hs2
            go_wp2_with (first
              | (go_at_call 33; refine K1.out.mono ?_; rintro e w6 ⟨rfl, ⟨LO2, hl2, ho2, hm2, hf2⟩, hk2⟩; have HL2 := Lib.hid hl2; have HO2 := Lib.hid ho2; have HM2 := Lib.hid hm2; have HF2 := Lib.hid hf2; have HK2 := Lib.hid hk2; have hq := blk_keeps HX.out hk2 (fun e => by have := HLtO.out _ e; omega); obtain ⟨z0, z1, z2, z3, z4, z5, z6, z7⟩ := box8 hq; clear hl2 ho2 hm2 hf2 hk2 hq)
              | (go_at_call 27; refine (K2.out _ (HP1.out.hp6 HK2.out)).mono ?_; rintro e w7 ⟨rfl, ⟨LH2, hl3, ho3, hm3, hf3⟩, hk3⟩; have HO3 := Lib.hid ho3; have HM3 := Lib.hid hm3; have HF3 := Lib.hid hf3; have HK3 := Lib.hid hk3; clear hl3 ho3 hm3 hf3 hk3))
            exact ⟨⟨j + 1, u, LO2, LH2, .slice AH1 mO cH1, by omega, rfl, by go_num, HP1.out.stored HO2.out HL2.out HF2.out HK2.out HO3.out HF3.out HK3.out (by rw [HM2.out, HM3.out])⟩, by simp [intOf]; omega⟩
          by_cases h5 : wt = 5
          · as_aux_lemma =>
            subst h5
            have hs1 := sameLen _ AO mO cO LO HP1.out.ol HMO.out hmO2 objs HOb.out ok on Aw Ab q1 cw q2 cb r n y hr.1 hn.1 hy
            have hs2 := lenS_calls _ p (.slice AH1 mO cH1) LH a1 u HP1.out.hp r hr.1
            rw [HObH.out] at hs2
            have hlb := lenS_bounds (objs := objs) (fun o ho => by rw [← HOb.out] at ho; obtain ⟨z, hz, rfl⟩ := List.mem_map.1 ho; exact ⟨(HP1.out.ol.mem z hz).wf.wlen, (HP1.out.ol.mem z hz).wf.blen⟩) r
            generalize (lenS objs r).1 = wv at hs1 hs2 hlb
            generalize (lenS objs r).2 = we at hs1 hs2
            have hwv : IntKind.u64.wrap wv = wv := IntWalk.u64_in _ (by omega)
            have K1 := Lib.hid hs1
            have K2 := Lib.hid hs2
            clear hs1 hs2
            go_wp2_with (first
              | (go_at_call 29; refine K2.out.mono ?_; rintro e w6 ⟨rfl, rfl⟩)
              | (go_at_call 33; refine K1.out.mono ?_; rintro e w7 ⟨rfl, hb7⟩; have HP7 := Lib.hid (HP1.out.keepB hb7); clear hb7))
            exact ⟨⟨j + 1, u, LO, LH, .slice AH1 mO cH1, by omega, rfl, by go_num, HP7.out.succ⟩, by simp [intOf]; omega⟩
          by_cases h0 : wt = 0
          · subst h0
            by_cases hs : q1 + q2 ≤ 300
            · have hs1 : ¬ (300 : Int) < (q1 : Int) + (q2 : Int) := by omega
              have hwr : IntKind.i64.wrap (a1 - (16 + 8 * (q1 : Int) + (q2 : Int))) = a1 - (16 + 8 * (q1 : Int) + (q2 : Int)) := IntWalk.i64_in _ (by omega)
              have HRC := Lib.hid (fun W => refCost_calls W (.int .i64 ok) (.int .i64 on) Aw Ab q1 q2 cw cb (by omega) (by omega))
              have HHC := Lib.hid (fun W => heapCost_calls W (.int .i64 ok) (.int .i64 on) Aw Ab q1 q2 cw cb (by omega) (by omega))
              by_cases hfit : u ≤ a1 - (16 + 8 * (q1 : Int) + (q2 : Int))
              · as_aux_lemma =>
                have had := add_ok _ p AH1 mO cH1 LH HMH.out a1 u HP1.out.hp ok on Aw Ab q1 q2 cw cb ows obs HQ1.out HQ2.out (by omega) (by omega) (HLw.out.below HP1.out.below) (HLb.out.below HP1.out.below) ⟨HWf.out.1, HWf.out.2, hW, hBy, by rw [HQ1.out]; omega, by rw [HQ2.out]; omega⟩ ⟨by omega, by omega⟩ HP1.out.lo hfit (by omega)
                have K1 := Lib.hid had
                clear had
                have hwu : IntKind.i64.wrap (u + (16 + 8 * (q1 : Int) + (q2 : Int))) = u + (16 + 8 * (q1 : Int) + (q2 : Int)) := IntWalk.i64_in _ (by have := HP1.out.lo; omega)
                have hwm : IntKind.u64.wrap ((mO : Int) + 1) = (mO : Int) + 1 := IntWalk.u64_in _ (by omega)
                have hfld := field_heap
                have hszw := HP1.out.below.size
                go_wp2_with (first
                  | (go_at_call 14; refine K1.out.mono ?_; rintro e w6 ⟨A6, c6, ov6, rfl, hh6, hf6, hk6⟩; have HH6 := Lib.hid hh6; have HF6 := Lib.hid hf6; have HK6 := Lib.hid hk6; have HX6 := Lib.hid (blk_keeps HX.out hk6 (fun e => by have := HLtH.out _ e; omega)); obtain ⟨z0, z1, z2, z3, z4, z5, z6, z7⟩ := box8 HX6.out; clear hh6 hf6 hk6)
                  | (go_at_call 31; refine (HRC.out _).mono ?_; rintro e w10 ⟨rfl, hb10⟩; have HB10 := Lib.hid (And.intro HX9.out hb10); have HX10 := Lib.hid (blk_below HX9.out hb10 (blk_lt HX9.out)); obtain ⟨z0, z1, z2, z3, z4, z5, z6, z7⟩ := box8 HX10.out; clear hb10)
                  | (go_at_call 31; refine (HRC.out _).mono ?_; rintro e w7 ⟨rfl, hb7⟩; have HB7 := Lib.hid hb7; have HX7 := Lib.hid (blk_below HX6.out hb7 (blk_lt HX6.out)); obtain ⟨z0, z1, z2, z3, z4, z5, z6, z7⟩ := box8 HX7.out; have HW7 := Lib.hid (((keeps_below2 HP1.out.below HP1.out.farH HK6.out).trans (hb7.mono (Nat.le_trans hszw HK6.out.size))).alloc (Nat.le_trans hszw (Nat.le_trans HK6.out.size hb7.size)) (Obj.cells #[.int .i64 ok, .int .i64 on, .slice Aw q1 cw, .slice Ab q2 cb] 31)); have HO7 := Lib.hid (((HP1.out.ol.keeps HK6.out (fun b hb hx => HP1.out.apart b hb hx)).below hb7).below ((RowKit.Below.refl w7.heap.size w7).alloc (Nat.le_refl _) (Obj.cells #[.int .i64 ok, .int .i64 on, .slice Aw q1 cw, .slice Ab q2 cb] 31))); clear hb7)
                  | (go_at_call 30; refine (refCopy_calls _ w7.heap.size 0 1 ok on Aw Ab q1 q2 cw cb ows obs HQ1.out HQ2.out (by omega) (by omega) (blk_cell (blk_new w7 (Obj.cells #[.int .i64 ok, .int .i64 on, .slice Aw q1 cw, .slice Ab q2 cb] 31)) 0) (blk_cell (blk_new w7 (Obj.cells #[.int .i64 ok, .int .i64 on, .slice Aw q1 cw, .slice Ab q2 cb] 31)) 1) (blk_cell (blk_new w7 (Obj.cells #[.int .i64 ok, .int .i64 on, .slice Aw q1 cw, .slice Ab q2 cb] 31)) 2) (blk_cell (blk_new w7 (Obj.cells #[.int .i64 ok, .int .i64 on, .slice Aw q1 cw, .slice Ab q2 cb] 31)) 3) (HLw.out.below HW7.out) (HLb.out.below HW7.out)).mono ?_; rintro e w8 ⟨g5, c5, hv5, vw, vb, rfl, d0, d1, d2, d3, ow, ob, hb8⟩; obtain ⟨A7, c7, rfl, _, _, _⟩ := own_shape ow; obtain ⟨A8, c8, rfl, _, _, _⟩ := own_shape ob; have HOW := Lib.hid ow; have HOB := Lib.hid ob; have HB8 := Lib.hid hb8; clear ow ob hb8)
                  | (at_builtin; refine list_app _ rfl (.tmp 146) (.tmp 155) _ rfl 31 Try.underlying34 obj_info rfl (by decide) (by decide) 0 (n := mO) (xs := ocells LO) rfl (by exact ((HO7.out.below HB8.out).own_n HMO.out).alloc _) (news := [.int .i64 ok, .int .i64 on, .slice A7 q1 c7, .slice A8 q2 c8]) (by rfl) (by rfl) (by exact lie_new _ _ _ rfl) obj_one (by omega) (Nat.zero_le _) ?_; intro v9 w9 hown hg hat; have HS9 := Lib.hid (objs_snoc (k := ok) (n := on) (ws := ows) (bs := obs) HO7.out HB8.out (by rw [HQ1.out]; exact HOW.out) (by rw [HQ2.out]; exact HOB.out) ⟨HWf.out.1, HWf.out.2, hW, hBy, by rw [HQ1.out]; omega, by rw [HQ2.out]; omega⟩ (by rw [HMO.out]; exact hown) hg hat); obtain ⟨A9, c9, rfl, _, _, _⟩ := own_shape hown; have HX9 := Lib.hid (blk_keeps (blk_alloc HX7.out (Obj.cells #[.int .i64 ok, .int .i64 on, .slice Aw q1 cw, .slice Ab q2 cb] 31)) HS9.out.2.2 (fun e => by have := HLtO.out _ e; omega)); obtain ⟨z0, z1, z2, z3, z4, z5, z6, z7⟩ := box8 HX9.out; clear hown hg hat))
                have t1 := cell_regrown z1
                have t2 := cell_regrown z2
                have t3 := cell_regrown z3
                have t4 := cell_regrown z4
                refine wp_region_quiet_below (by kernel_rfl) (by kernel_rfl) ?_
                repeat (first | go_big_quiet_step (first | with_reducible exact calls_regrown HHC.out _ _ | with_reducible exact calls_regrown HRC.out _ _) | quiet_step (fail))
                refine wpQuiet_nil ?_
                intro _ hw'
                obtain ⟨⟨dq, osq⟩, hw''⟩ := hw'
                subst hw''
                have HBq := Lib.hid (below_regrown w10 dq osq)
                clear t1 t2 t3 t4 z0 z1 z2 z3 z4 z5 z6 z7
                generalize grow (redrawn w10 dq) osq = wq at *
                go_wp2
                have hP9 := Ply.added HP1.out HH6.out HF6.out HK6.out (HB7.out.alloc HB7.out.size (Obj.cells #[.int .i64 ok, .int .i64 on, .slice Aw q1 cw, .slice Ab q2 cb] 31)) HS9.out.1 HS9.out.2.1 HS9.out.2.2 (by have := HP1.out.lo; omega) (by omega)
                exact ⟨⟨j + 1, u + (16 + 8 * (q1 : Int) + (q2 : Int)), _, _, _, by omega, rfl, by go_num, (hP9.keepB HB10.out.2).keepB HBq.out⟩, by simp [intOf]; omega⟩
              · as_aux_lemma =>
                have hno := add_no _ p (.slice AH1 mO cH1) LH a1 u HP1.out.hp ok on Aw Ab q1 q2 cw cb (by omega) (by omega) ⟨by omega, by omega⟩ (by omega)
                have K1 := Lib.hid hno
                clear hno
                go_wp2_with (first
                  | (go_at_call 14; refine K1.out.mono ?_; rintro e w6 ⟨rfl, hb6⟩; have HP6 := Lib.hid (HP1.out.keepB hb6); have hq := blk_below HX.out hb6 (by simp); obtain ⟨z0, z1, z2, z3, z4, z5, z6, z7⟩ := box8 hq; clear hb6 hq)
                  | (go_at_call 31; refine (HRC.out _).mono ?_; rintro e w7 ⟨rfl, hb7⟩; have HP7 := Lib.hid (HP6.out.keepB hb7); clear hb7))
                exact ⟨⟨j + 1, u, LO, LH, .slice AH1 mO cH1, by omega, rfl, by go_num, HP7.out.succ⟩, by simp [intOf]; omega⟩
            · as_aux_lemma =>
              have hs1 : (300 : Int) < (q1 : Int) + (q2 : Int) := by omega
              go_wp2
              exact ⟨⟨j + 1, u, LO, LH, .slice AH1 mO cH1, by omega, rfl, by go_num, HP1.out.succ⟩, by simp [intOf]; omega⟩
          · as_aux_lemma =>
            have j0 : (wt == 0) = false := by rw [beq_eq_false_iff_ne]; exact h0
            have j1 : (wt == 1) = false := by rw [beq_eq_false_iff_ne]; exact h1
            have j2 : (wt == 2) = false := by rw [beq_eq_false_iff_ne]; exact h2
            have j3 : (wt == 3) = false := by rw [beq_eq_false_iff_ne]; exact h3
            have j4 : (wt == 4) = false := by rw [beq_eq_false_iff_ne]; exact h4
            have j5 : (wt == 5) = false := by rw [beq_eq_false_iff_ne]; exact h5
            go_wp2
            exact ⟨⟨j + 1, u, LO, LH, .slice AH1 mO cH1, by omega, rfl, by go_num, HP1.out.succ⟩, by simp [intOf]; omega⟩
        · as_aux_lemma =>
          obtain rfl : j = n3 := by omega
          obtain ⟨AO, cO, rfl, hcO, _, _⟩ := own_shape hP.ol.own
          obtain ⟨AH1, cH1, rfl, hcH, _, _⟩ := own_shape hP.hp.ol.own
          obtain ⟨mO, hmO⟩ : ∃ m, LO.length = m := ⟨_, rfl⟩
          have hmH : LH.length = mO := by have := congrArg List.length hP.map; rw [List.length_map, List.length_map] at this; omega
          have hlenO := hP.len
          have HMO := Lib.hid hmO
          have HMH := Lib.hid hmH
          rw [hmO] at hlenO hcO
          rw [hmO, hmH] at HP
          rw [hmO]
          clear hP hmO hmH
          go_wp2_with (first
            | (go_at_call 15; refine (heapAnswers_calls _).mono ?_; rintro e w6 ⟨rfl, hb6⟩; have HP6 := Lib.hid (HP.out.keepB hb6); clear hb6)
            | (go_at_call 16; refine (used_calls _ p _ LH a1 u HP6.out.hp).mono ?_; rintro e w7 ⟨rfl, rfl⟩)
            | (go_at_call 17; refine (objs_calls _ p AH1 mO cH1 LH HMH.out a1 u HP6.out.hp).mono ?_; rintro e w8 ⟨A8, c8, L8, rfl, hm8, ho8, hf8, hb8⟩; have HM8 := Lib.hid hm8; have HO8 := Lib.hid ho8; have HP8 := Lib.hid (HP6.out.keepB hb8); clear hm8 ho8 hf8 hb8)
            | (go_at_call 34; refine (refObjs_eq (S := OLF (.slice A8 mO c8) L8) (T := OLF (.slice AO mO cO) LO) _ A8 AO mO _ _ (LO.map (·.1)) (by rw [List.length_map, HMO.out]) (by omega) (fun x hx => by obtain ⟨z, hz, rfl⟩ := List.mem_map.1 hx; exact ⟨(HP8.out.ol.mem z hz).wf.wlen, (HP8.out.ol.mem z hz).wf.blen⟩) (fun b hb => HO8.out.lt hb) (fun b hb => HP8.out.ol.lt hb) (by have h8 := HO8.out.row (show L8.length = mO by have := congrArg List.length HM8.out; rw [List.length_map, List.length_map, HMH.out] at this; exact this); rw [HM8.out, ← HP8.out.map] at h8; exact h8) (HP8.out.ol.row HMO.out)).mono ?_; rintro e w9 ⟨rfl, hb9⟩; have HP9 := Lib.hid (HP8.out.keepB hb9); clear hb9))
          go_ret
          exact ⟨rfl, HP9.out.below⟩
end Go.Proofs.Ytmcjjikhdjoopaa
