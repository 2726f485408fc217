/- verify's checker: what it is in memory; meet, of an instruction that was not come to. -/
import Derived.Test.YtdmmjckhpagibaaGreatDoorMcStep
import Derived.Deep.AppendSrc
namespace Go.Proofs.YtdmmjckhpagibaaGreatDoor
open Go.RowKit Go.Sort
set_option linter.unusedVariables false
/-- What is to be looked at: a slice of numbers, some of them gone at its front. -/
def TD (base : Nat) (w : World) (A : Option Addr) (n c : Nat) (td : List Int) : Prop :=
  td.length = n ∧ n ≤ c ∧ c ≤ maxLen ∧ ((c = 0) ∨ ∃ g o cur, A = some ⟨g, o, none⟩ ∧ base ≤ g ∧ w.heap[g]? = some (.cells cur 3 (0, 0)) ∧ o + c ≤ cur.size ∧ ∀ j x, td[j]? = some x → cur[o + j]? = some (.int .i64 x))
theorem TD.keep {base : Nat} {w w' : World} {A : Option Addr} {n c : Nat} {td : List Int} (h : TD base w A n c td) (hk : ∀ g o, A = some ⟨g, o, none⟩ → (∃ cur, w.heap[g]? = some (.cells cur 3 (0, 0))) → w'.heap[g]? = w.heap[g]?) : TD base w' A n c td := by
  obtain ⟨h1, h2, h3, h4⟩ := h
  refine ⟨h1, h2, h3, h4.imp id ?_⟩
  rintro ⟨g, o, cur, e, hb, hg, hs, hc⟩
  exact ⟨g, o, cur, e, hb, (hk g o e ⟨cur, hg⟩).trans hg, hs, hc⟩
theorem int_info : (Tryz.prog.info? 3).map (fun i => (i.zero, i.size, i.bytes)) = some (some (.int .i64 0), 1, 8) := by kernel_rfl
set_option maxRecDepth 100000 in
theorem app_todo {base : Nat} {w : World} {A : Option Addr} {n c : Nat} {td : List Int} (h : TD base w A n c td) (hn : n ≤ 10000) (hb : base ≤ w.heap.size) (x : Int) (q : Nat) (hq : w.cell? ⟨q, 0, none⟩ = some (.int .i64 x)) (ty : TypeId) :
    ∃ A' c' w', (Builtin.append_ #[118, 118] ty #[.slice A n c, .slice (some ⟨q, 0, none⟩) 1 1]).run Tryz.prog w = .ok (.slice A' (n + 1) c') w' ∧ TD base w' A' (n + 1) c' (td ++ [x]) ∧ Keeps (fun b => base ≤ b ∧ ∃ cur, w.heap[b]? = some (.cells cur 3 (0, 0))) w w' := by
  obtain ⟨h1, h2, h3, h4⟩ := h
  obtain ⟨i, hi, hiz, his, hib⟩ : ∃ i, Tryz.prog.info? 3 = some i ∧ i.zero = some (.int .i64 0) ∧ i.size = 1 ∧ i.bytes = 8 := by
    have h := int_info
    cases hh : Tryz.prog.info? 3 with
    | none => rw [hh] at h; cases h
    | some i =>
      rw [hh] at h
      simp only [Option.map_some, Option.some.injEq, Prod.mk.injEq] at h
      exact ⟨i, rfl, h.1, h.2.1, h.2.2⟩
  have hsrc : Src Tryz.prog i.size 118 (.slice (some ⟨q, 0, none⟩) 1 1) 1 [.int .i64 x] w := by
    rw [his]
    exact Src.ofSlice w (e' := 3) Tryz.underlying118 ⟨q, 0, none⟩ 1 1 [.int .i64 x] rfl (fun j u hj => by
      cases j with
      | zero => rw [add_at]; injection hj with hj; subst hj; exact hq
      | succ j => cases hj) (by intro u hu; rw [List.mem_singleton.1 hu]; rfl)
  by_cases hroom : n + 1 ≤ c
  · rcases h4 with h4 | ⟨g, o, cur, rfl, hbg, hg, hs, hc⟩
    · omega
    have hr := run_append_room_src (P := Tryz.prog) w 118 118 ty 3 i Tryz.underlying118 hi g o n c _ 1 _ hsrc hroom
      (fun j hj => by
        simp only [List.length_singleton] at hj
        obtain rfl : j = 0 := by omega
        rw [his, Nat.mul_one, Nat.add_zero, blk_cell hg, Array.getElem?_eq_getElem (by omega)]; rfl)
      (fun j hj => blk_frozen hg _)
    rw [his, Nat.mul_one] at hr
    have hset : w.setCells g (o + n) [.int .i64 x] = w.setCell ⟨g, o + n, none⟩ (.int .i64 x) := rfl
    rw [hset] at hr
    refine ⟨_, c, _, hr, ⟨by simp [h1], hroom, h3, .inr ⟨g, o, _, rfl, hbg, blk_set hg _ _, by simpa using hs, ?_⟩⟩, (Keeps.refl _ _).setCell (fun _ => ⟨hbg, cur, hg⟩) _⟩
    intro j y hj
    rcases Nat.lt_or_ge j n with hlt | hge
    · rw [List.getElem?_append_left (by omega)] at hj
      rw [Array.getElem?_setIfInBounds_ne (by omega)]
      exact hc j y hj
    · have : j = n := by
        have := (List.getElem?_eq_some_iff.1 hj).1
        simp at this; omega
      subst this
      rw [List.getElem?_append_right (by omega), h1, Nat.sub_self] at hj
      injection hj with hj
      subst hj
      rw [Array.getElem?_setIfInBounds_self_of_lt (by omega)]
  · obtain rfl : c = n := by omega
    have hold : (Builtin.firstCells i.size c (.slice A c c)).run Tryz.prog w.drew = .ok (td.map (.int .i64 ·)).toArray w.drew := by
      rw [his]
      rcases h4 with h4 | ⟨g, o, cur, rfl, hbg, hg, hs, hc⟩
      · subst h4
        obtain rfl := List.eq_nil_of_length_eq_zero h1
        cases A with
        | none => exact run_firstCells_none w.drew 1 0 0 0
        | some a => exact run_firstCells_some w.drew 1 0 a 0 0 [] rfl (fun j v hj => by cases hj)
      · refine run_firstCells_some w.drew 1 c ⟨g, o, none⟩ c c _ (by simp [h1]) (fun j v hj => ?_)
        rw [List.getElem?_map] at hj
        obtain ⟨y, hy, rfl⟩ := Option.map_eq_some_iff.1 hj
        rw [add_at]
        exact (blk_cell hg _).trans (hc j y hy)
    have hr := run_append_grow_src (P := Tryz.prog) w 118 118 ty 3 i _ Tryz.underlying118 hi hiz A c c (td.map (.int .i64 ·)) hold _ 1 _ hsrc (by omega) (by omega) (by rw [hib]; exact growslice_fits (by omega) (by omega))
    have hge : c + 1 ≤ grownCap w (c + 1) c 3 := grownCap_ge w _ _ _
    have hle := grownCap_le_maxLen w (c + 1) c 3 (by unfold maxLen; omega)
    obtain ⟨G, hG⟩ : ∃ G, G = grownCap w (c + 1) c 3 := ⟨_, rfl⟩
    rw [← hG] at hr hge hle
    clear hG
    refine ⟨_, G, _, hr, ⟨by simp [h1], hge, hle, .inr ⟨w.heap.size, 0, _, rfl, hb, blk_new w.drew _, ?_, ?_⟩⟩, ((Keeps.refl _ _).drew).alloc _⟩
    · rw [Array.size_append, size_zeroCells]
      simp only [List.size_toArray, List.length_append, List.length_map, List.length_singleton, h1]
      show 0 + G ≤ c + 1 + (G - (c + 1)) * 1
      omega
    · intro j y hj
      have hjl := (List.getElem?_eq_some_iff.1 hj).1
      simp only [List.length_append, List.length_singleton, h1] at hjl
      rw [Nat.zero_add, Array.getElem?_append_left (by simp [h1]; omega)]
      rw [List.getElem?_toArray, ← List.map_singleton (f := fun x => Value.int .i64 x), ← List.map_append, List.getElem?_map, hj]
      rfl
/-- A block of types. -/
def TyB (w : World) : Nat → Prop := fun b => ∃ cs, w.heap[b]? = some (.cells cs 23 (0, 0))
theorem TyB.ne {w : World} {b g : Nat} {t : TypeId} {cs : Array Value} (h : TyB w b) (hg : w.heap[g]? = some (.cells cs t (0, 0))) (ht : 23 ≠ t) : b ≠ g := by
  obtain ⟨c, h⟩ := h
  exact blk_ne h hg ht
/-- A function's shapes, in a block of their own. -/
def ShB (w : World) (B : Nat) (shs : List Shp) : Prop := ∃ cs : Array Value, w.heap[B]? = some (.cells cs 142 (0, 0)) ∧ cs.size = shs.length * 2 ∧ ∀ i s, shs[i]? = some s → ∃ A c, cs[i * 2]? = some (.bool s.seen) ∧ cs[i * 2 + 1]? = some (.slice A s.stack.length c) ∧ s.stack.length ≤ c ∧ s.stack.length ≤ 1000 ∧ k_ty.Row (TyB w) w A s.stack
theorem ty_keep {w w' : World} {A : Option Addr} {xs : List Ty} (h : k_ty.Row (TyB w) w A xs) (hk : ∀ b, TyB w b → w'.heap[b]? = w.heap[b]?) : k_ty.Row (TyB w') w' A xs :=
  (h.keep hk).mono (fun b hb => by obtain ⟨cs, h1⟩ := hb; exact ⟨cs, (hk b ⟨cs, h1⟩).trans h1⟩)
theorem ShB.keep {w w' : World} {B : Nat} {shs : List Shp} (h : ShB w B shs) (hB : w'.heap[B]? = w.heap[B]?) (hk : ∀ b, TyB w b → w'.heap[b]? = w.heap[b]?) : ShB w' B shs := by
  obtain ⟨cs, h1, h2, h3⟩ := h
  exact ⟨cs, hB.trans h1, h2, fun i s hi => by
    obtain ⟨A, c, h4, h5, h6, h7, h8⟩ := h3 i s hi
    exact ⟨A, c, h4, h5, h6, h7, ty_keep h8 hk⟩⟩
theorem TyB.lt {w : World} {b : Nat} (h : TyB w b) : b < w.heap.size := by obtain ⟨cs, h⟩ := h; exact blk_lt h
theorem ShB.below {w w' : World} {B : Nat} {shs : List Shp} (h : ShB w B shs) (hb : Below w.heap.size w w') : ShB w' B shs := by
  refine h.keep ?_ (fun b hT => hb.block b hT.lt)
  obtain ⟨cs, h1, _⟩ := h
  exact hb.block B (blk_lt h1)
theorem ShB.set {w : World} {B : Nat} {shs : List Shp} (h : ShB w B shs) (i : Nat) (hi : i < shs.length) (A : Option Addr) (n c : Nat) (st : List Ty) (hn : st.length = n) (hnc : n ≤ c) (hm : n ≤ 1000) (row : k_ty.Row (TyB w) w A st) :
    ShB ((w.setCell ⟨B, i * 2, none⟩ (.bool true)).setCell ⟨B, i * 2 + 1, none⟩ (.slice A n c)) B (shs.set i ⟨true, st⟩) := by
  subst hn
  obtain ⟨cs, h1, h2, h3⟩ := h
  have hk : ∀ b, TyB w b → ((w.setCell ⟨B, i * 2, none⟩ (.bool true)).setCell ⟨B, i * 2 + 1, none⟩ (.slice A st.length c)).heap[b]? = w.heap[b]? := fun b hT =>
    (Below.heap_setCell _ _ _ b (hT.ne h1 (by decide))).trans (Below.heap_setCell _ _ _ b (hT.ne h1 (by decide)))
  refine ⟨_, blk_set (blk_set h1 _ _) _ _, by simpa using h2, fun j s hj => ?_⟩
  by_cases hji : i = j
  · subst hji
    rw [List.getElem?_set_self hi] at hj
    injection hj with hj
    subst hj
    refine ⟨A, c, ?_, ?_, hnc, hm, ty_keep row hk⟩
    · rw [Array.getElem?_setIfInBounds_ne (by omega), Array.getElem?_setIfInBounds_self_of_lt (by omega)]
    · rw [Array.getElem?_setIfInBounds_self_of_lt (by simp; omega)]
  · rw [List.getElem?_set_ne hji] at hj
    obtain ⟨A', c', h4, h5, h6, h7, h8⟩ := h3 j s hj
    refine ⟨A', c', ?_, ?_, h6, h7, ty_keep h8 hk⟩
    · rw [Array.getElem?_setIfInBounds_ne (by omega), Array.getElem?_setIfInBounds_ne (by omega)]; exact h4
    · rw [Array.getElem?_setIfInBounds_ne (by omega), Array.getElem?_setIfInBounds_ne (by omega)]; exact h5
/-- A checker. -/
structure Ck (w0 w : World) (p B : Nat) (v0 v1 v2 v3 v4 : Value) (fi : Int) (shs : List Shp) (TA : Option Addr) (tn tc : Nat) (td : List Int) : Prop where
  below : Below w0.heap.size w0 w
  gp : w0.heap.size ≤ p
  gB : w0.heap.size ≤ B
  box : w.heap[p]? = some (.cells #[v0, v1, v2, v3, v4, .int .i64 fi, .slice (some ⟨B, 0, none⟩) shs.length shs.length, .slice TA tn tc] 120 (0, 0))
  sh : ShB w B shs
  td : TD w0.heap.size w TA tn tc td
  sl : shs.length ≤ 1000
theorem Ck.under {w0 w w' : World} {p B : Nat} {v0 v1 v2 v3 v4 : Value} {fi : Int} {shs : List Shp} {TA : Option Addr} {tn tc : Nat} {td : List Int} (h : Ck w0 w p B v0 v1 v2 v3 v4 fi shs TA tn tc td) (hb : Below w.heap.size w w') : Ck w0 w' p B v0 v1 v2 v3 v4 fi shs TA tn tc td :=
  ⟨h.below.trans (hb.mono h.below.size), h.gp, h.gB, blk_below h.box hb (blk_lt h.box), h.sh.below hb, h.td.keep (fun g o e ⟨cur, hg⟩ => hb.block g (blk_lt hg)), h.sl⟩
theorem own_tyrow {w : World} {base : Nat} {A : Option Addr} {n c : Nat} {xs : List Ty} (h : w.ownsRow base 23 2 (.slice A n c) n (tcells xs)) (hn : xs.length = n) (hw : ∀ x ∈ xs, tywf x) (hl : n ≤ 1000000) : k_ty.Row (TyB w) w A xs ∧ n ≤ c ∧ ∀ a, A = some a → a.spot = none := by
  subst hn
  obtain ⟨A', c', e, h1, h2, h3⟩ := Rd.Sl.of_own (d := k_ty) (S := TyB w) h (fun g hg => by
    rcases h.2 with ⟨hv, _⟩ | ⟨g', cap, cur, hv, _, hh, _⟩
    · injection hv with hv; subst hv; cases hg
    · injection hv with hv; subst hv
      have : g' = g := by simpa [Value.ownBlock] using hg
      subst this
      exact ⟨cur, hh⟩) (ty_flat.2 ⟨rfl, hw⟩) (by omega)
  cases e
  refine ⟨h3, h1, fun a ha => ?_⟩
  rcases h.2 with ⟨hv, _⟩ | ⟨g', cap, cur, hv, _⟩
  · injection hv with hv; rw [hv] at ha; cases ha
  · injection hv with hv; rw [hv] at ha; cases ha; rfl
set_option maxRecDepth 100000 in
theorem cloneT2_calls (w : World) (A : Option Addr) (n c : Nat) (xs : List Ty) (hn : xs.length = n) (hm : n ≤ 1000000) (hl : Lie w A n (tcells xs)) (hw : ∀ x ∈ xs, tywf x) :
    Calls Tryz.prog 109 #[.slice A n c] w fun e w' => ∃ A' c', e = .returned (.slice A' n c') ∧ n ≤ c' ∧ (∀ a, A' = some a → a.spot = none) ∧ k_ty.Row (TyB w') w' A' xs ∧ Below w.heap.size w w' := by
  subst hn
  cases A with
  | none =>
    have h0 : xs.length = 0 := by
      rcases Nat.eq_zero_or_pos xs.length with h0 | h0
      · exact h0
      · obtain ⟨_, _, h, _⟩ := hl h0; cases h
    obtain rfl := List.eq_nil_of_length_eq_zero h0
    have hnil : ∀ w' : World, (binOp .eql 24 (.slice none 0 c) (.slice none 0 0)).run Tryz.prog w' = .ok (.bool true) w' := fun w' => Lib.run_eql_slice_nil w' _ _ none _ _ 0 0 Tryz.underlying24
    go_enter Tryz.func109, Tryz.ntmps109
    go_wp2
    go_ret
    exact ⟨none, 0, rfl, Nat.le_refl _, fun _ h => (by cases h), Rd.Row.nil _ _ _ _, Below.refl _ _⟩
  | some a =>
    have hnil : ∀ w' : World, (binOp .eql 24 (.slice (some a) xs.length c) (.slice none 0 0)).run Tryz.prog w' = .ok (.bool false) w' := fun w' => Lib.run_eql_slice_nil w' _ _ (some a) _ _ 0 0 Tryz.underlying24
    go_enter Tryz.func109, Tryz.ntmps109
    go_wp2_with (at_builtin; refine list_app _ rfl (.tmp 5) (.tmp 6) _ rfl 23 Tryz.underlying24 ty_info rfl (by decide) (by decide) w.heap.size rfl (World.ownsRow_made w #[] 0 (Nat.le_refl _) (Nat.zero_le _) rfl) rfl (tcells_length _) (by exact hl.below ((Below.refl _ _).alloc (Nat.le_refl _) _)) (tcells_one _) (by omega) (by simp) ?_; intro v' w3 hown hg hat; have hB := Lib.hid (grown_below ((Below.refl _ _).alloc (Nat.le_refl _) _) hg (by simp) (.inr ⟨_, rfl, Nat.le_refl _⟩)); simp only [Nat.zero_add, List.nil_append] at hown; obtain ⟨A2, c2, rfl, _, _, _⟩ := own_shape hown; have HO := Lib.hid hown; clear hown hg hat)
    go_ret
    obtain ⟨h1, h2, h3⟩ := own_tyrow HO.out rfl hw (by omega)
    exact ⟨_, _, rfl, h2, h3, h1, hB.out⟩
theorem Ck.pB {w0 w : World} {p B : Nat} {v0 v1 v2 v3 v4 : Value} {fi : Int} {shs : List Shp} {TA : Option Addr} {tn tc : Nat} {td : List Int} (h : Ck w0 w p B v0 v1 v2 v3 v4 fi shs TA tn tc td) : p ≠ B := by
  obtain ⟨cs, h1, _⟩ := h.sh
  exact blk_ne h.box h1 (by decide)
set_option maxRecDepth 100000 in
set_option maxHeartbeats 4000000 in
/-- An instruction that was not come to yet. -/
theorem meet_new {S : Nat → Prop} {w0 w : World} {p B : Nat} {v0 v1 v2 v3 v4 : Value} {fi : Int} {shs : List Shp} {TA : Option Addr} {tn tc : Nat} {td : List Int} (h : Ck w0 w p B v0 v1 v2 v3 v4 fi shs TA tn tc td) (pc : Nat) (hpc : shs[pc]? = some ⟨false, []⟩) (htn : tn ≤ 1000)
    (A : Option Addr) (n c : Nat) (st : List Ty) (hn : st.length = n) (hn8 : n ≤ 1000) (hnc : n ≤ c) (row : k_ty.Row S w A st) :
    Calls Tryz.prog 76 #[.pointer (some ⟨p, 0, none⟩), .int .i64 pc, .slice A n c] w fun e w' => e = .returned (.bool true) ∧ ∃ TA' tc', Ck w0 w' p B v0 v1 v2 v3 v4 fi (shs.set pc ⟨true, st⟩) TA' (tn + 1) tc' (td ++ [(pc : Int)]) := by
  have HCk := Lib.hid h
  obtain ⟨N, hN⟩ : ∃ N, shs.length = N := ⟨_, rfl⟩
  have hpl : pc < N := by have := (List.getElem?_eq_some_iff.1 hpc).1; omega
  have hsl := h.sl
  rw [hN] at hsl
  have HN := Lib.hid hN
  have c6 : w.cell? ⟨p, 6, none⟩ = some (.slice (some ⟨B, 0, none⟩) N N) := by rw [← hN]; exact blk_cell h.box 6
  obtain ⟨cs, hB, hcs, hget⟩ := h.sh
  obtain ⟨A0, c0, s0, s1, -, -, -⟩ := hget pc _ hpc
  have b0 : w.cell? ⟨B, pc * 2, none⟩ = some (.bool false) := (blk_cell hB _).trans s0
  have HB := Lib.hid hB
  have HS1 := Lib.hid s1
  have HS0 := Lib.hid s0
  have HP := Lib.hid h.box
  obtain ⟨hl, hw⟩ := ty_row row
  have HL : Hid (Lie w A n (tcells st)) := Lib.hid (by rw [← hn]; exact hl)
  have HW := Lib.hid hw
  have HStn := Lib.hid hn
  clear h hN hB hcs hget s0 s1 row hl hw hn
  go_enter Tryz.func76, Tryz.ntmps76
  go_upto_region 4 with (first
    | (go_at_call 109; go_must (refine (cloneT2_calls _ A n c st HStn.out (by omega) HL.out HW.out).mono ?_; rintro e w1 ⟨A1, c1, rfl, hc1, hsp1, hrow, hb⟩; have hBx := blk_below HB.out hb (blk_lt HB.out); have q0 : w1.cell? ⟨B, pc * 2, none⟩ = some (.bool false) := (blk_cell hBx _).trans HS0.out; have q1 : w1.cell? ⟨B, pc * 2 + 1, none⟩ = some (.slice A0 0 c0) := (blk_cell hBx _).trans HS1.out; have q2 := blk_frozen hBx (pc * 2); have q3 := blk_frozen hBx (pc * 2 + 1); have HR1 := Lib.hid hrow; have HB1 := Lib.hid hb; clear hrow hb hBx))
    | (go_at_call 108; refine (clipT_calls _ A1 n c1 hc1 (by omega) hsp1).mono ?_; rintro e w' ⟨rfl, rfl⟩))
  have hk1 := HCk.out.under HB1.out
  have hpB := hk1.pB
  have hi : pc < shs.length := by rw [HN.out]; exact hpl
  have hS := hk1.sh.set pc hi A1 n n st HStn.out (Nat.le_refl _) (by omega) HR1.out
  have hP1 := (Below.heap_setCell (w'.setCell ⟨B, pc * 2, none⟩ (.bool true)) ⟨B, pc * 2 + 1, none⟩ (.slice A1 n n) p hpB).trans ((Below.heap_setCell w' ⟨B, pc * 2, none⟩ (.bool true) p hpB).trans hk1.box)
  have hTD : TD w0.heap.size ((w'.setCell ⟨B, pc * 2, none⟩ (.bool true)).setCell ⟨B, pc * 2 + 1, none⟩ (.slice A1 n n)) TA tn tc td := hk1.td.keep (fun g o e ⟨cur, hg⟩ => by
    obtain ⟨cs, h1, _⟩ := hk1.sh
    have hne : g ≠ B := blk_ne hg h1 (by decide)
    exact (Below.heap_setCell _ _ _ g hne).trans (Below.heap_setCell _ _ _ g hne))
  have hbV := (hk1.below.setCell (p := ⟨B, pc * 2, none⟩) hk1.gB (.bool true)).setCell (p := ⟨B, pc * 2 + 1, none⟩) hk1.gB (.slice A1 n n)
  generalize ((w'.setCell ⟨B, pc * 2, none⟩ (.bool true)).setCell ⟨B, pc * 2 + 1, none⟩ (.slice A1 n n)) = V at *
  have hbV2 := hbV.alloc hbV.size (Obj.cells #[.int .i64 (pc : Int)] 3)
  obtain ⟨TA', tc', w3, hr, htd, hK⟩ := app_todo (base := w0.heap.size) (w := V.alloc (Obj.cells #[.int .i64 (pc : Int)] 3)) (hTD.keep (fun g o e ⟨cur, hg⟩ => Below.heap_alloc _ _ g (blk_lt hg))) (by omega) hbV2.size (pc : Int) V.heap.size (blk_cell (blk_new V _) 0) 118
  have c7 : V.cell? ⟨p, 7, none⟩ = some (.slice TA tn tc) := blk_cell hP1 7
  have hP3 := blk_keeps (blk_alloc hP1 (Obj.cells #[.int .i64 (pc : Int)] 3)) hK (by
    rintro ⟨_, cur, hx⟩
    rw [blk_alloc hP1 _] at hx
    injection hx with hx
    injection hx with _ hx
    exact absurd hx (by decide))
  have x7 : w3.cell? ⟨p, 7, none⟩ = some (.slice TA tn tc) := blk_cell hP3 7
  have y7 := blk_frozen hP3 7
  have hS3 := ((hS.below (below_a1 V (Obj.cells #[.int .i64 (pc : Int)] 3))).keep (w' := w3) (by
    obtain ⟨cs, h1, _⟩ := hS.below (below_a1 V (Obj.cells #[.int .i64 (pc : Int)] 3))
    exact hK.block B (blk_lt h1) (by
      rintro ⟨_, cur, hx⟩
      rw [h1] at hx
      injection hx with hx
      injection hx with _ hx
      exact absurd hx (by decide))) (fun b hT => hK.block b hT.lt (by
      rintro ⟨_, cur, hx⟩
      obtain ⟨cs, h1⟩ := hT
      rw [h1] at hx
      injection hx with hx
      injection hx with _ hx
      exact absurd hx (by decide))))
  have HS3 := Lib.hid hS3
  have HTD := Lib.hid htd
  have HP3 := Lib.hid hP3
  have HB3 := Lib.hid (hbV2.trans (hK.below hbV2.size (fun x hx h => by have := h.1; omega)))
  have HBV2 := Lib.hid hbV2
  have HK1 := Lib.hid hk1
  clear hS hP1 hTD hbV hbV2 htd hK hP3 hS3 hk1
  go_wp2_with (at_builtin; refine Lib.wpList_append_run _ rfl (.tmp 36) (.tmp 38) _ _ rfl _ _ rfl rfl _ _ hr ?_)
  go_ret
  have hpne : ∀ b, TyB w3 b → b ≠ p := fun b hT => hT.ne HP3.out (by decide)
  refine ⟨rfl, TA', tc', ⟨HB3.out.setCell (p := ⟨p, 7, none⟩) HK1.out.gp _, HK1.out.gp, HK1.out.gB, ?_, HS3.out.keep (Below.heap_setCell _ _ _ B (Ne.symm hpB)) (fun b hT => Below.heap_setCell _ _ _ b (hpne b hT)), HTD.out.keep (fun g o e ⟨cur, hg⟩ => Below.heap_setCell _ _ _ g (blk_ne hg HP3.out (by decide))), by rw [List.length_set, HN.out]; exact hsl⟩⟩
  have := blk_set HP3.out 7 (.slice TA' (tn + 1) tc')
  rw [List.length_set]
  simpa using this
end Go.Proofs.YtdmmjckhpagibaaGreatDoor
