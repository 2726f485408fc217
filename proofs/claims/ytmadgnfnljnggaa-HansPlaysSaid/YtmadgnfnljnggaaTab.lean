/- hans.Table: New, Open, at, Use, Close, List. -/
import Derived.Test.YtmadgnfnljnggaaKeep
import Derived.Test.YtmadgnfnljnggaaHanEq
import Derived.Lib.SliceRun
import Derived.BigQuiet
namespace Go.Proofs.Ytmadgnfnljnggaa
open Go.RowKit
set_option linter.unusedVariables false

set_option maxRecDepth 100000 in
theorem clone_calls (w : World) (A : Option Addr) (n c : Nat) (hs : List Han) (hn : hs.length = n) (hm : n ≤ 1000000) (hl : Lie w A n (hcells hs)) :
    Calls Try.prog 45 #[.slice A n c] w fun e w' => ∃ v, e = .returned v ∧ w'.ownsRow 0 35 3 v n (hcells hs) ∧ (∀ g, v.ownBlock = some g → w.heap.size ≤ g) ∧ Below w.heap.size w w' := by
  subst hn
  cases A with
  | none =>
    have h0 : hs.length = 0 := by
      rcases Nat.eq_zero_or_pos hs.length with h0 | h0
      · exact h0
      · obtain ⟨_, _, h, _⟩ := hl h0; cases h
    obtain rfl := List.eq_nil_of_length_eq_zero h0
    have hnil : ∀ w' : World, (binOp .eql 24 (.slice none 0 c) (.slice none 0 0)).run Try.prog w' = .ok (.bool true) w' := fun w' => Lib.run_eql_slice_nil w' _ _ none _ _ 0 0 Try.underlying24
    go_enter Try.func45, Try.ntmps45
    go_wp2
    go_ret
    exact ⟨_, rfl, ⟨rfl, .inl ⟨rfl, rfl⟩⟩, fun g hg => (by simp [Value.ownBlock] at hg), Below.refl _ _⟩
  | some a =>
    have hnil : ∀ w' : World, (binOp .eql 24 (.slice (some a) hs.length c) (.slice none 0 0)).run Try.prog w' = .ok (.bool false) w' := fun w' => Lib.run_eql_slice_nil w' _ _ (some a) _ _ 0 0 Try.underlying24
    go_enter Try.func45, Try.ntmps45
    go_wp2_with (at_builtin; refine list_app _ rfl (.tmp 5) (.tmp 6) _ rfl 35 Try.underlying24 han_info rfl (by decide) (by decide) w.heap.size rfl (World.ownsRow_made w #[] 0 (Nat.le_refl _) (Nat.zero_le _) rfl) rfl (hcells_length _) (by exact hl.below ((Below.refl _ _).alloc (Nat.le_refl _) _)) (hcells_one _) (by omega) (by simp) ?_; intro v' w3 hown hg hat; have hB := Lib.hid (grown_below ((Below.refl _ _).alloc (Nat.le_refl _) _) hg (by simp) (.inr ⟨_, rfl, Nat.le_refl _⟩)); simp only [Nat.zero_add, List.nil_append] at hown; have HO := Lib.hid hown; clear hown hg hat)
    go_ret
    exact ⟨_, rfl, own_zero HO.out, fun g hg => (HO.out.lt g hg).1, hB.out⟩

set_option maxRecDepth 100000 in
theorem clip_calls (w : World) (A : Option Addr) (n c : Nat) (hnc : n ≤ c) (hm : n ≤ 1000000) (hs : ∀ a, A = some a → a.spot = none):
    Calls Try.prog 47 #[.slice A n c] w fun e w' => e = .returned (.slice A n n) ∧ w' = w := by
  go_enter Try.func47, Try.ntmps47
  go_wp2
  go_ret
  exact ⟨rfl, rfl⟩

/-- A table: one cell, a slice of its own. -/
structure Tab (w : World) (p : Nat) (v : Value) (hs : List Han) : Prop where
  box : w.heap[p]? = some (.cells #[v] 92 (0, 0))
  own : w.ownsRow 0 35 3 v hs.length (hcells hs)
  wf : ∀ h ∈ hs, h.wf
/-- What a table may touch. -/
def TabF (p : Nat) (v : Value) (b : Nat) : Prop := b = p ∨ v.ownBlock = some b
theorem Tab.ne {w : World} {p : Nat} {v : Value} {hs : List Han} (h : Tab w p v hs) : v.ownBlock ≠ some p := own_ne_blk h.own h.box (by decide)
theorem Tab.keeps {F : Nat → Prop} {w w' : World} {p : Nat} {v : Value} {hs : List Han} (h : Tab w p v hs) (hk : Keeps F w w') (hp : ¬ F p) (hv : ∀ g, v.ownBlock = some g → ¬ F g) : Tab w' p v hs :=
  ⟨blk_keeps h.box hk hp, own_keeps h.own hk hv, h.wf⟩

theorem new_calls (w : World) (A : Option Addr) (n c : Nat) (hs : List Han) (hn : hs.length = n) (hm : n ≤ 1000000) (hl : Lie w A n (hcells hs)) (hwf : ∀ h ∈ hs, h.wf) :
    Calls Try.prog 33 #[.slice A n c] w fun e w' => ∃ p v, e = .returned (.pointer (some ⟨p, 0, none⟩)) ∧ Tab w' p v hs ∧ w.heap.size ≤ p ∧ (∀ g, v.ownBlock = some g → w.heap.size ≤ g) ∧ Below w.heap.size w w' := by
  go_enter Try.func33, Try.ntmps33
  go_wp2_with (go_at_call 45; refine (clone_calls _ _ _ _ hs hn hm hl).mono ?_; rintro e w1 ⟨v, rfl, ho, hg, hb⟩; obtain ⟨A3, c3, rfl, _, _, _⟩ := own_shape ho; have HO := Lib.hid ho; have HG := Lib.hid hg; have HB := Lib.hid hb; clear ho hg hb)
  go_ret
  subst hn
  exact ⟨_, _, rfl, ⟨blk_new _ _, HO.out.alloc _, hwf⟩, HB.out.size, HG.out, HB.out.alloc HB.out.size _⟩

theorem at_none (w : World) (n : Int) : Calls Try.prog 46 #[.pointer none, .int .u64 n] w fun e w' => e = .returned (.pointer none) ∧ w' = w := by
  go_enter Try.func46, Try.ntmps46
  go_wp2
  go_ret
  exact ⟨rfl, rfl⟩
theorem at_far (w : World) (p : Nat) (v : Value) (hs : List Han) (ht : Tab w p v hs) (hm : hs.length ≤ 1000000) (n : Int) (hn : hs.length ≤ n) (hw : (Lit.int .u64 n).wf = true) : Calls Try.prog 46 #[.pointer (some ⟨p, 0, none⟩), .int .u64 n] w fun e w' => e = .returned (.pointer none) ∧ w' = w := by
  obtain ⟨A, c, rfl, _, _, _⟩ := own_shape ht.own
  have c0 := blk_cell ht.box 0
  simp at c0
  clear ht
  go_enter Try.func46, Try.ntmps46
  go_wp2
  go_ret
  exact ⟨rfl, rfl⟩
theorem at_shut (w : World) (p : Nat) (v : Value) (hs : List Han) (ht : Tab w p v hs) (hm : hs.length ≤ 1000000) (k : Nat) (h : Han) (hk : hs[k]? = some h) (ho : h.opn = false) : Calls Try.prog 46 #[.pointer (some ⟨p, 0, none⟩), .int .u64 k] w fun e w' => e = .returned (.pointer none) ∧ w' = w := by
  have hlt := (List.getElem?_eq_some_iff.1 hk).1
  obtain ⟨g, c, cur, rfl, _, _, _, _, hc, _⟩ := own_at ht.own (by omega)
  have c0 := blk_cell ht.box 0
  simp at c0
  have c2 := hc _ _ (hcells_at hs k h hk).2.2
  rw [ho] at c2
  clear ht hc hk
  go_enter Try.func46, Try.ntmps46
  go_wp2
  go_ret
  exact ⟨rfl, rfl⟩
theorem at_open (w : World) (p g c : Nat) (hs : List Han) (ht : Tab w p (.slice (some ⟨g, 0, none⟩) hs.length c) hs) (hm : hs.length ≤ 1000000) (k : Nat) (h : Han) (hk : hs[k]? = some h) (ho : h.opn = true) : Calls Try.prog 46 #[.pointer (some ⟨p, 0, none⟩), .int .u64 k] w fun e w' => e = .returned (.pointer (some ⟨g, k * 3, none⟩)) ∧ w' = w := by
  have hlt := (List.getElem?_eq_some_iff.1 hk).1
  obtain ⟨g', c', cur, e, _, _, _, _, hc, _⟩ := own_at ht.own (by omega)
  cases e
  have c0 := blk_cell ht.box 0
  simp at c0
  have c2 := hc _ _ (hcells_at hs k h hk).2.2
  rw [ho] at c2
  clear ht hc hk
  go_enter Try.func46, Try.ntmps46
  go_wp2
  go_ret
  exact ⟨rfl, rfl⟩

theorem use_none (w : World) (n : Int) : Calls Try.prog 35 #[.pointer none, .int .u64 n] w fun e w' => e = .returned (.tuple #[.int .u64 0, .int .i64 7]) ∧ w' = w := by
  go_enter Try.func35, Try.ntmps35
  go_wp2_with (go_at_call 46; refine (at_none _ _).mono ?_; rintro e w1 ⟨rfl, rfl⟩)
  go_ret2
  exact ⟨rfl, rfl⟩
/-- The one that stands at a number and is open. -/
def openAt (hs : List Han) (n : Int) : Option Han := (hs[n.toNat]?).filter (·.opn)
theorem openAt_none {hs : List Han} {n : Int} (hw : (Lit.int .u64 n).wf = true) (h : openAt hs n = none) : (hs.length : Int) ≤ n ∨ ∃ (k : Nat) (x : Han), n = k ∧ hs[k]? = some x ∧ x.opn = false := by
  have h0 : 0 ≤ n := (bounds_u64 hw).1
  by_cases hn : (hs.length : Int) ≤ n
  · exact .inl hn
  · refine .inr ⟨n.toNat, hs[n.toNat]'(by omega), by omega, List.getElem?_eq_getElem _, ?_⟩
    unfold openAt at h
    rw [List.getElem?_eq_getElem (by omega)] at h
    simpa using h
theorem openAt_some {hs : List Han} {n : Int} {x : Han} (hw : (Lit.int .u64 n).wf = true) (h : openAt hs n = some x) : ∃ (k : Nat), n = k ∧ hs[k]? = some x ∧ x.opn = true := by
  have h0 : 0 ≤ n := (bounds_u64 hw).1
  unfold openAt at h
  rw [Option.filter_eq_some_iff] at h
  exact ⟨n.toNat, by omega, h.1, by simpa using h.2⟩
theorem use_calls (w : World) (p : Nat) (v : Value) (hs : List Han) (ht : Tab w p v hs) (hm : hs.length ≤ 1000000) (n : Int) (hw : (Lit.int .u64 n).wf = true) : Calls Try.prog 35 #[.pointer (some ⟨p, 0, none⟩), .int .u64 n] w fun e w' => e = .returned (match openAt hs n with | some x => .tuple #[.int .u64 x.desc, .int .i64 0] | none => .tuple #[.int .u64 0, .int .i64 7]) ∧ w' = w := by
  cases ha : openAt hs n with
  | none =>
    have HA := Lib.hid ha
    have HT := Lib.hid ht
    clear ht
    rcases openAt_none hw ha with hn | ⟨k, x, rfl, hk, ho⟩
    · have hn2 := Lib.hid hn
      clear ha hn
      go_enter Try.func35, Try.ntmps35
      go_wp2_with (go_at_call 46; refine (at_far _ _ _ hs HT.out hm _ hn2.out hw).mono ?_; rintro e w1 ⟨rfl, rfl⟩)
      go_ret2
      exact ⟨rfl, rfl⟩
    · have hk2 := Lib.hid hk
      clear ha hk
      go_enter Try.func35, Try.ntmps35
      go_wp2_with (go_at_call 46; refine (at_shut _ _ _ hs HT.out hm _ x hk2.out ho).mono ?_; rintro e w1 ⟨rfl, rfl⟩)
      go_ret2
      exact ⟨rfl, rfl⟩
  | some x =>
    obtain ⟨k, rfl, hk, ho⟩ := openAt_some hw ha
    have hlt := (List.getElem?_eq_some_iff.1 hk).1
    obtain ⟨g, c, cur, rfl, _, _, _, _, hc, _⟩ := own_at ht.own (by omega)
    have c1 := hc _ _ (hcells_at hs k x hk).2.1
    have HT := Lib.hid ht
    have hk2 := Lib.hid hk
    clear ha hk ht hc
    go_enter Try.func35, Try.ntmps35
    go_wp2_with (go_at_call 46; refine (at_open _ _ _ _ hs HT.out hm _ x hk2.out ho).mono ?_; rintro e w1 ⟨rfl, rfl⟩)
    go_ret2
    exact ⟨rfl, rfl⟩

theorem close_none (w : World) (n : Int) : Calls Try.prog 36 #[.pointer none, .int .u64 n] w fun e w' => e = .returned (.int .i64 7) ∧ w' = w := by
  go_enter Try.func36, Try.ntmps36
  go_wp2_with (go_at_call 46; refine (at_none _ _).mono ?_; rintro e w1 ⟨rfl, rfl⟩)
  go_ret
  exact ⟨rfl, rfl⟩
def shutAt (hs : List Han) (n : Int) : List Han := match openAt hs n with | some x => hs.set n.toNat { x with opn := false } | none => hs
theorem shutAt_length (hs : List Han) (n : Int) : (shutAt hs n).length = hs.length := by unfold shutAt; split <;> simp
theorem close_calls (w : World) (p : Nat) (v : Value) (hs : List Han) (ht : Tab w p v hs) (hm : hs.length ≤ 1000000) (n : Int) (hw : (Lit.int .u64 n).wf = true) : Calls Try.prog 36 #[.pointer (some ⟨p, 0, none⟩), .int .u64 n] w fun e w' => e = .returned (.int .i64 (if (openAt hs n).isSome then 0 else 7)) ∧ Tab w' p v (shutAt hs n) ∧ Keeps (fun b => v.ownBlock = some b) w w' := by
  cases ha : openAt hs n with
  | none =>
    have HA := Lib.hid ha
    have HT := Lib.hid ht
    clear ht
    rcases openAt_none hw ha with hn | ⟨k, x, rfl, hk, ho⟩
    · have hn2 := Lib.hid hn
      clear ha hn
      go_enter Try.func36, Try.ntmps36
      go_wp2_with (go_at_call 46; refine (at_far _ _ _ hs HT.out hm _ hn2.out hw).mono ?_; rintro e w1 ⟨rfl, rfl⟩)
      go_ret
      exact ⟨rfl, by unfold shutAt; rw [HA.out]; exact HT.out, Keeps.refl _ _⟩
    · have hk2 := Lib.hid hk
      clear ha hk
      go_enter Try.func36, Try.ntmps36
      go_wp2_with (go_at_call 46; refine (at_shut _ _ _ hs HT.out hm _ x hk2.out ho).mono ?_; rintro e w1 ⟨rfl, rfl⟩)
      go_ret
      exact ⟨rfl, by unfold shutAt; rw [HA.out]; exact HT.out, Keeps.refl _ _⟩
  | some x =>
    obtain ⟨k, rfl, hk, ho⟩ := openAt_some hw ha
    have hlt := (List.getElem?_eq_some_iff.1 hk).1
    obtain ⟨g, c, cur, rfl, _, hg, _, _, hc, hfr⟩ := own_at ht.own (by omega)
    have c1 := hc _ _ (hcells_at hs k x hk).2.2
    have hst := (ht.own.stored (k * 3 + 2) (.bool false)).1
    rw [hcells_set hs k x hk] at hst
    have hne := ht.ne
    have hset : shutAt hs k = hs.set k { x with opn := false } := by unfold shutAt; rw [ha]; rfl
    have hT2 : Tab (w.setCell ⟨g, k * 3 + 2, none⟩ (.bool false)) p (.slice (some ⟨g, 0, none⟩) hs.length c) (shutAt hs k) := by
      rw [hset]
      exact ⟨blk_far ht.box (fun e => hne (by rw [e]; rfl)) _, by simpa using hst, fun y hy => by
        rcases List.mem_or_eq_of_mem_set hy with hy | rfl
        · exact ht.wf y hy
        · exact ht.wf x (List.mem_of_getElem? hk)⟩
    have HT := Lib.hid ht
    have HT2 := Lib.hid hT2
    have hk2 := Lib.hid hk
    clear ha hk ht hc hst hset hne hT2
    go_enter Try.func36, Try.ntmps36
    go_wp2_with (go_at_call 46; refine (at_open _ _ _ _ hs HT.out hm _ x hk2.out ho).mono ?_; rintro e w1 ⟨rfl, rfl⟩)
    go_ret
    exact ⟨rfl, HT2.out, Keeps.setCell (F := fun b => g = b) (Keeps.refl _ _) (fun _ => rfl) _⟩

theorem open_none (w : World) (kd ds : Int) : Calls Try.prog 34 #[.pointer none, .int .i64 kd, .int .u64 ds] w fun e w' => e = .returned (.tuple #[.int .u64 0, .bool false]) ∧ w' = w := by
  go_enter Try.func34, Try.ntmps34
  go_wp2
  go_ret2
  exact ⟨rfl, rfl⟩
theorem open_full (w : World) (p : Nat) (v : Value) (hs : List Han) (ht : Tab w p v hs) (hm : 16 ≤ hs.length) (hm2 : hs.length ≤ 1000000) (kd ds : Int) : Calls Try.prog 34 #[.pointer (some ⟨p, 0, none⟩), .int .i64 kd, .int .u64 ds] w fun e w' => e = .returned (.tuple #[.int .u64 0, .bool false]) ∧ w' = w := by
  obtain ⟨A, c, rfl, _, _, _⟩ := own_shape ht.own
  have c0 := blk_cell ht.box 0
  simp at c0
  clear ht
  go_enter Try.func34, Try.ntmps34
  go_wp2
  go_ret2
  exact ⟨rfl, rfl⟩
theorem open_room (w : World) (p : Nat) (v : Value) (hs : List Han) (ht : Tab w p v hs) (hm : hs.length < 16) (kd ds : Int) (hw1 : (Lit.int .i64 kd).wf = true) (hw2 : (Lit.int .u64 ds).wf = true) : Calls Try.prog 34 #[.pointer (some ⟨p, 0, none⟩), .int .i64 kd, .int .u64 ds] w fun e w' => ∃ v', e = .returned (.tuple #[.int .u64 hs.length, .bool true]) ∧ Tab w' p v' (hs ++ [⟨kd, ds, true⟩]) ∧ (v'.ownBlock = v.ownBlock ∨ v'.ownBlock = some (w.heap.size + 1)) ∧ Keeps (TabF p v) w w' := by
  have hK := Lib.hid (Keeps.refl (TabF p v) w)
  obtain ⟨A, c, rfl, _, _, _⟩ := own_shape ht.own
  have c0 := blk_cell ht.box 0
  simp at c0
  have hlt := blk_lt ht.box
  have HT := Lib.hid ht
  clear ht
  go_enter Try.func34, Try.ntmps34
  go_wp2_with (at_builtin; refine list_app _ rfl (.tmp 22) (.tmp 26) _ rfl 35 Try.underlying24 han_info rfl (by decide) (by decide) 0 (n := hs.length) (xs := hcells hs) rfl (by exact HT.out.own.alloc _) (news := [.int .i64 kd, .int .u64 ds, .bool true]) rfl rfl (by exact lie_new _ _ _ rfl) (by exact hcells_one [⟨kd, ds, true⟩]) (by omega) (by simp) ?_; intro v' w3 hown hg hat; have hbx := blk_grown (blk_alloc HT.out.box _) hg (fun e => HT.out.ne e.symm); have hk3 := Keeps.grown (hK.out.alloc _) hg (fun g e _ => .inr e); obtain ⟨A3, c3, rfl, _, _, _⟩ := own_shape hown; have HO := Lib.hid hown; have HG := Lib.hid hg; have HA := Lib.hid hat; have HBX := Lib.hid hbx; have HK := Lib.hid hk3; have cc3 := blk_cell hbx 0; have f3 := blk_frozen hbx 0; clear hown hg hat hbx hk3)
  go_ret2
  refine ⟨_, rfl, ⟨blk_set HBX.out 0 _, ?_, ?_⟩, HA.out.imp id (fun e => by simpa using e), HK.out.setCell (fun _ => .inl rfl) _⟩
  · have h1 := own_set_far HO.out (p := ⟨p, 0, none⟩) (own_ne_blk HO.out HBX.out (by decide)) (.slice A3 (hs.length + 1) c3)
    rw [hcells_append, List.length_append]
    exact h1
  · intro y hy
    rcases List.mem_append.1 hy with hy | hy
    · exact HT.out.wf y hy
    · rw [List.mem_singleton.1 hy]; exact ⟨hw1, hw2⟩

/-- The value that List tells. -/
theorem list_none (w : World) : Calls Try.prog 38 #[.pointer none] w fun e w' => e = .returned (.slice none 0 0) ∧ w' = w := by
  go_enter Try.func38, Try.ntmps38
  go_wp2
  go_ret
  exact ⟨rfl, rfl⟩
theorem clip_own {w : World} {n c : Nat} {A : Option Addr} {xs : List Value} {e : TypeId} {size : Nat} (h : w.ownsRow 0 e size (.slice A n c) n xs) : ∀ a, A = some a → a.spot = none := by
  rintro a rfl
  rcases h.2 with ⟨h', _⟩ | ⟨g, cap, cur, h', _⟩
  · cases h'
  · cases h'; rfl
theorem tlist_calls (w : World) (p : Nat) (v : Value) (hs : List Han) (ht : Tab w p v hs) (hm : hs.length ≤ 1000000) : Calls Try.prog 38 #[.pointer (some ⟨p, 0, none⟩)] w fun e w' => ∃ A c, e = .returned (.slice A hs.length hs.length) ∧ w'.ownsRow 0 35 3 (.slice A hs.length c) hs.length (hcells hs) ∧ (∀ g, A = some ⟨g, 0, none⟩ → w.heap.size ≤ g) ∧ Below w.heap.size w w' := by
  have hlie : ∃ A c, v = .slice A hs.length c ∧ Lie w A hs.length (hcells hs) := by
    rcases ht.own.2 with ⟨rfl, h0⟩ | ⟨g, cap, cur, rfl, h1, h2, h3, h4, h5, h6⟩
    · exact ⟨none, 0, by rw [h0], fun h => by omega⟩
    · exact ⟨_, cap, rfl, lie_blk h2 (fun j u hj => by
        rw [← h6, List.getElem?_take] at hj
        split at hj
        · simpa using hj
        · cases hj)⟩
  obtain ⟨A, c, rfl, hl⟩ := hlie
  have HL := Lib.hid hl
  have c0 := blk_cell ht.box 0
  simp at c0
  clear ht hl
  go_enter Try.func38, Try.ntmps38
  go_wp2_with (first
    | (go_at_call 45; refine (clone_calls _ _ _ _ hs rfl hm HL.out).mono ?_; rintro e w1 ⟨v, rfl, ho, hg, hb⟩; obtain ⟨A3, c3, rfl, hnc, _, _⟩ := own_shape ho; have HO := Lib.hid ho; have HG := Lib.hid hg; have HB := Lib.hid hb; clear ho hg hb)
    | (go_at_call 47; refine (clip_calls _ _ _ _ hnc hm (clip_own HO.out)).mono ?_; rintro e w2 ⟨rfl, rfl⟩))
  go_ret
  exact ⟨_, _, rfl, HO.out, fun g e => HG.out g (by rw [e]; rfl), HB.out⟩

/-! the reference's Hans: are they the same? -/
theorem refHans_calls {S T : Nat → Prop} (w : World) (A B : Option Addr) (n m c d : Nat) (xs ys : List Han) (hn : xs.length = n) (hm : ys.length = m) (hb : n ≤ 1000000) (hb2 : m ≤ 1000000) (hS : ∀ b, S b → b < w.heap.size) (hT : ∀ b, T b → b < w.heap.size) (hx : k_han.Row S w A xs) (hy : k_han.Row T w B ys) :
    Calls Try.prog 37 #[.slice A n c, .slice B m d] w fun e w' => e = .returned (.bool (decide (xs = ys))) ∧ Below w.heap.size w w' := by
  subst hn; subst hm
  have HX := Lib.hid hx
  have HY := Lib.hid hy
  clear hx hy
  by_cases hl : xs.length = ys.length
  · go_enter Try.func37, Try.ntmps37
    go_wp2
    go_loopw [5] (fun i wr => ∃ k : Nat, k ≤ xs.length ∧ i = .int .i64 k ∧ Hid (xs.take k = ys.take k) ∧ Below w.heap.size w wr) (fun i _ => xs.length - (intOf i).toNat)
    case atStart => exact ⟨0, Nat.zero_le _, rfl, Lib.hid rfl, Below.refl _ _⟩
    case round =>
      obtain ⟨k, hk, rfl, ht, hb⟩ := hrel
      by_cases hlt : k < xs.length
      · obtain ⟨x, hx⟩ : ∃ x, xs[k]? = some x := ⟨_, List.getElem?_eq_getElem hlt⟩
        obtain ⟨y, hy⟩ : ∃ y, ys[k]? = some y := ⟨_, List.getElem?_eq_getElem (by omega)⟩
        obtain ⟨b, o, rfl, hSb, c0, c1, c2, _⟩ := k_han_at (HX.out.keep (fun b hb' => hb.block b (hS b hb'))) hx
        obtain ⟨b', o', rfl, hSb', d0, d1, d2, _⟩ := k_han_at (HY.out.keep (fun b hb' => hb.block b (hT b hb'))) hy
        have hxh := Lib.hid hx
        have hyh := Lib.hid hy
        clear hx hy
        obtain ⟨x0, x1, x2⟩ := x
        obtain ⟨y0, y1, y2⟩ := y
        simp only at c0 c1 c2 d0 d1 d2
        have hgd := fun (w' : World) (p q : Operand) => run_eqGuard_agg w' .neq 35 p q #[.int .i64 x0, .int .u64 x1, .bool x2] #[.int .i64 y0, .int .u64 y1, .bool y2] han_guard
        have hneq := fun w' => han_neq w' x0 x1 y0 y1 x2 y2
        cases hE : decide ((⟨x0, x1, x2⟩ : Han) = ⟨y0, y1, y2⟩) with
        | true =>
          rw [hE] at hneq
          have HE := Lib.hid (of_decide_eq_true hE)
          clear hE
          go_wp2_with (go_quiet (fail))
          go_roundw
          case rel => exact ⟨k + 1, by omega, by go_num, Lib.hid (by rw [List.take_add_one, List.take_add_one, hxh.out, hyh.out, ht.out, HE.out]), below_drewN hb _⟩
          case measure => simp [intOf]; omega
        | false =>
          rw [hE] at hneq
          have HE := Lib.hid (of_decide_eq_false hE)
          clear hE
          have hf := Lib.hid (show (decide (xs = ys) : Bool) = false from decide_eq_false (fun e => HE.out (by have h1 := hxh.out; rw [e, hyh.out] at h1; exact (Option.some.inj h1).symm)))
          go_wp2_with (go_quiet (fail))
          go_ret
          exact ⟨ret_bool hf.out.symm, below_drewN hb _⟩
      · have he := Lib.hid (show (decide (xs = ys) : Bool) = true from decide_eq_true (by have := ht.out; rwa [List.take_of_length_le (by omega), List.take_of_length_le (by omega)] at this))
        go_wp2
        go_ret
        exact ⟨ret_bool he.out.symm, hb⟩
  · have hne := Lib.hid (show (decide (xs = ys) : Bool) = false from decide_eq_false (fun e => hl (by rw [e])))
    go_enter Try.func37, Try.ntmps37
    go_wp2
    go_ret
    exact ⟨ret_bool hne.out.symm, Below.refl _ _⟩

theorem use_some (w : World) (p : Nat) (v : Value) (hs : List Han) (ht : Tab w p v hs) (hm : hs.length ≤ 1000000) (n : Int) (hw : (Lit.int .u64 n).wf = true) (x : Han) (h : openAt hs n = some x) : Calls Try.prog 35 #[.pointer (some ⟨p, 0, none⟩), .int .u64 n] w fun e w' => e = .returned (.tuple #[.int .u64 x.desc, .int .i64 0]) ∧ w' = w :=
  (use_calls w p v hs ht hm n hw).mono fun e w' h2 => by rw [h] at h2; exact h2
theorem use_no (w : World) (p : Nat) (v : Value) (hs : List Han) (ht : Tab w p v hs) (hm : hs.length ≤ 1000000) (n : Int) (hw : (Lit.int .u64 n).wf = true) (h : openAt hs n = none) : Calls Try.prog 35 #[.pointer (some ⟨p, 0, none⟩), .int .u64 n] w fun e w' => e = .returned (.tuple #[.int .u64 0, .int .i64 7]) ∧ w' = w :=
  (use_calls w p v hs ht hm n hw).mono fun e w' h2 => by rw [h] at h2; exact h2
theorem close_some (w : World) (p : Nat) (v : Value) (hs hs' : List Han) (ht : Tab w p v hs) (hm : hs.length ≤ 1000000) (n : Int) (hw : (Lit.int .u64 n).wf = true) (x : Han) (h : openAt hs n = some x) (h' : shutAt hs n = hs') : Calls Try.prog 36 #[.pointer (some ⟨p, 0, none⟩), .int .u64 n] w fun e w' => e = .returned (.int .i64 0) ∧ Tab w' p v hs' ∧ Keeps (fun b => v.ownBlock = some b) w w' :=
  (close_calls w p v hs ht hm n hw).mono fun e w' h2 => by rw [h, h'] at h2; exact h2
theorem shutAt_none {hs : List Han} {n : Int} (h : openAt hs n = none) : shutAt hs n = hs := by unfold shutAt; rw [h]
theorem close_no (w : World) (p : Nat) (v : Value) (hs : List Han) (ht : Tab w p v hs) (hm : hs.length ≤ 1000000) (n : Int) (hw : (Lit.int .u64 n).wf = true) (h : openAt hs n = none) : Calls Try.prog 36 #[.pointer (some ⟨p, 0, none⟩), .int .u64 n] w fun e w' => e = .returned (.int .i64 7) ∧ Tab w' p v hs ∧ Keeps (fun b => v.ownBlock = some b) w w' :=
  (close_calls w p v hs ht hm n hw).mono fun e w' h2 => by rw [shutAt_none h, h] at h2; exact h2
end Go.Proofs.Ytmadgnfnljnggaa
