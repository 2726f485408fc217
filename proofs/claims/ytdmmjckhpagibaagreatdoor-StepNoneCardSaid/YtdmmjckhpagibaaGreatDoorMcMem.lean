/- (XMem without the reference's Cost.) Rows of one-cell elements that lie in a block of their own (no append is made to them): heap's words and bytes. Cost, Clone, Clip. -/
import Derived.Test.YtdmmjckhpagibaaGreatDoorBytes
import Derived.Lib.QuietBelow
import Derived.BigQuiet
namespace Go.Proofs.YtdmmjckhpagibaaGreatDoor
open Go.RowKit
set_option linter.unusedVariables false
def wcells (ws : List Int) : List Value := ws.map (.int .u64 ·)
theorem wcells_length (ws : List Int) : (wcells ws).length = ws.length * 1 := by simp [wcells]
theorem wcells_one (ws : List Int) : ∀ u ∈ wcells ws, u.oneCell' = true := by
  intro u hu
  simp only [wcells, List.mem_map] at hu
  obtain ⟨_, _, rfl⟩ := hu
  rfl
theorem wcells_at {ws : List Int} {k : Nat} {x : Int} (h : ws[k]? = some x) : (wcells ws)[k]? = some (.int .u64 x) := by simp [wcells, h]
theorem word_info : (Tryz.prog.info? 43).map (fun i => (i.zero, i.size, i.bytes)) = some (some (.int .u64 0), 1, 8) := by kernel_rfl
def isW (ws : List Int) : Prop := ∀ x ∈ ws, 0 ≤ x ∧ x ≤ 18446744073709551615
theorem word_flat {S : Nat → Prop} {w : World} {ws : List Int} {cells : List Value} : (Rd.int .u64).Flat S w ws cells ↔ cells = wcells ws ∧ isW ws := by
  induction ws generalizing cells with
  | nil => simp [Rd.Flat, wcells, isW]
  | cons b bs ih =>
    constructor
    · rintro ⟨c, r, rfl, ⟨rfl, hb⟩, hr⟩
      obtain ⟨rfl, hw⟩ := ih.1 hr
      exact ⟨rfl, fun x hx => by
        rcases List.mem_cons.1 hx with rfl | hx
        · exact bounds_u64 hb
        · exact hw x hx⟩
    · rintro ⟨rfl, hw⟩
      exact ⟨[.int .u64 b], wcells bs, rfl, ⟨rfl, WalkArith.wf_u64 (hw b (by simp))⟩, ih.2 ⟨rfl, fun x hx => hw x (by simp [hx])⟩⟩

/-- A row of one-cell elements in a block of its own, or nothing. -/
def Mem (w : World) (e : TypeId) (v : Value) (n : Nat) (xs : List Value) : Prop :=
  xs.length = n ∧ ((v = .slice none 0 0 ∧ n = 0) ∨ ∃ g c cur, v = .slice (some ⟨g, 0, none⟩) n c ∧ n ≤ c ∧ w.heap[g]? = some (.cells cur e (0, 0)) ∧ ∀ (j : Nat) (u : Value), xs[j]? = some u → cur[j]? = some u)
namespace Mem
variable {w w' : World} {e : TypeId} {v : Value} {n : Nat} {xs : List Value}
theorem lt (h : Mem w e v n xs) {g : Nat} (hg : v.ownBlock = some g) : g < w.heap.size ∧ ∃ cur, w.heap[g]? = some (.cells cur e (0, 0)) := by
  rcases h.2 with ⟨rfl, _⟩ | ⟨g', c, cur, rfl, _, hh, _⟩
  · cases hg
  · have : g' = g := by simpa [Value.ownBlock] using hg
    subst this
    exact ⟨blk_lt hh, cur, hh⟩
theorem keep (h : Mem w e v n xs) (hk : ∀ g, v.ownBlock = some g → w'.heap[g]? = w.heap[g]?) : Mem w' e v n xs := by
  refine ⟨h.1, ?_⟩
  rcases h.2 with h2 | ⟨g, c, cur, rfl, h3, hh, h4⟩
  · exact .inl h2
  · exact .inr ⟨g, c, cur, rfl, h3, (hk g rfl).trans hh, h4⟩
theorem keeps {F : Nat → Prop} (h : Mem w e v n xs) (hk : Keeps F w w') (hF : ∀ g, v.ownBlock = some g → ¬ F g) : Mem w' e v n xs :=
  h.keep (fun g hg => hk.block g (h.lt hg).1 (hF g hg))
theorem below (h : Mem w e v n xs) (hb : Below w.heap.size w w') : Mem w' e v n xs := h.keep (fun g hg => hb.block g (h.lt hg).1)
theorem shape (h : Mem w e v n xs) : ∃ A c, v = .slice A n c ∧ n ≤ c ∧ (A = none ∨ ∃ g, A = some ⟨g, 0, none⟩) := by
  rcases h.2 with ⟨rfl, rfl⟩ | ⟨g, c, cur, rfl, h3, _, _⟩
  · exact ⟨none, 0, rfl, Nat.le_refl _, .inl rfl⟩
  · exact ⟨_, c, rfl, h3, .inr ⟨g, rfl⟩⟩
theorem at_ (h : Mem w e v n xs) (hn : 0 < n) : ∃ g c, v = .slice (some ⟨g, 0, none⟩) n c ∧ n ≤ c ∧ g < w.heap.size ∧ (∀ (j : Nat) (u : Value), xs[j]? = some u → w.cell? ⟨g, j, none⟩ = some u) ∧ ∀ j, w.frozen? ⟨g, j, none⟩ = false := by
  rcases h.2 with ⟨_, h0⟩ | ⟨g, c, cur, rfl, h3, hh, h4⟩
  · omega
  · exact ⟨g, c, rfl, h3, blk_lt hh, fun j u hj => (blk_cell hh j).trans (h4 j u hj), blk_frozen hh⟩
theorem set {g c j : Nat} {u : Value} (h : Mem w e (.slice (some ⟨g, 0, none⟩) n c) n xs) (hj : j < n) : Mem (w.setCell ⟨g, j, none⟩ u) e (.slice (some ⟨g, 0, none⟩) n c) n (xs.set j u) := by
  refine ⟨by rw [List.length_set]; exact h.1, ?_⟩
  rcases h.2 with ⟨h0, _⟩ | ⟨g', c', cur, h1, h3, hh, h4⟩
  · cases h0
  · cases h1
    refine .inr ⟨g, c, _, rfl, h3, blk_set hh j u, fun i y hi => ?_⟩
    have hlen := h.1
    by_cases hij : j = i
    · subst hij
      rw [List.getElem?_set_self (by omega)] at hi
      have hcur : j < cur.size := by
        have hx : j < xs.length := by omega
        exact (Array.getElem?_eq_some_iff.1 (h4 j _ (List.getElem?_eq_getElem hx))).1
      rw [Array.getElem?_setIfInBounds_self_of_lt hcur]
      exact hi
    · rw [List.getElem?_set_ne hij] at hi
      rw [Array.getElem?_setIfInBounds_ne hij]
      exact h4 i y hi
theorem of_own {base : Nat} (h : w.ownsRow base e 1 v n xs) : Mem w e v n xs := by
  refine ⟨by rw [h.1, Nat.mul_one], ?_⟩
  rcases h.2 with h2 | ⟨g, cap, cur, rfl, _, hh, h4, _, _, h6⟩
  · exact .inl h2
  · refine .inr ⟨g, cap, cur, rfl, h4, hh, fun j u hj => ?_⟩
    rw [← h6, List.getElem?_take] at hj
    split at hj
    · simpa using hj
    · cases hj
theorem clip {A : Option Addr} {c : Nat} (h : Mem w e (.slice A n c) n xs) : Mem w e (.slice A n n) n xs := by
  refine ⟨h.1, ?_⟩
  rcases h.2 with ⟨h1, h2⟩ | ⟨g, c', cur, h1, h3, hh, h4⟩
  · cases h1
    exact .inl ⟨by rw [h2], h2⟩
  · cases h1
    exact .inr ⟨g, n, cur, rfl, Nat.le_refl _, hh, h4⟩
theorem lie {A : Option Addr} {c : Nat} (h : Mem w e (.slice A n c) n xs) : Lie w A n xs := by
  rcases h.2 with ⟨_, h0⟩ | ⟨g, c', cur, h1, h3, hh, h4⟩
  · exact fun hp => by omega
  · cases h1
    exact lie_blk hh h4
theorem nil (w : World) (e : TypeId) : Mem w e (.slice none 0 0) 0 [] := ⟨rfl, .inl ⟨rfl, rfl⟩⟩
/-- A reading of it. -/
theorem row8 {A : Option Addr} {c : Nat} {bs : List Int} (h : Mem w e (.slice A n c) n (bcells bs)) (hB : isB bs) (hn : bs.length = n) : (Rd.int .u8).Row (fun b => (Value.slice A n c).ownBlock = some b) w A bs := by
  rcases h.2 with ⟨_, h0⟩ | ⟨g, c', cur, h1, h3, hh, h4⟩
  · obtain rfl := List.eq_nil_of_length_eq_zero (hn.trans h0)
    exact Rd.Row.nil _ _ _ _
  · cases h1
    exact Rd.Row.of_blk hh rfl (byte_flat.2 ⟨rfl, hB⟩) h4
theorem row64 {A : Option Addr} {c : Nat} {ws : List Int} (h : Mem w e (.slice A n c) n (wcells ws)) (hB : isW ws) (hn : ws.length = n) : (Rd.int .u64).Row (fun b => (Value.slice A n c).ownBlock = some b) w A ws := by
  rcases h.2 with ⟨_, h0⟩ | ⟨g, c', cur, h1, h3, hh, h4⟩
  · obtain rfl := List.eq_nil_of_length_eq_zero (hn.trans h0)
    exact Rd.Row.nil _ _ _ _
  · cases h1
    exact Rd.Row.of_blk hh rfl (word_flat.2 ⟨rfl, hB⟩) h4
end Mem

set_option maxRecDepth 100000 in
theorem clone64_calls (w : World) (A : Option Addr) (n c : Nat) (hs : List Int) (hn : hs.length = n) (hm : n ≤ 1000000) (hl : Lie w A n (wcells hs)) :
    Calls Tryz.prog 32 #[.slice A n c] w fun e w' => ∃ v, e = .returned v ∧ Mem w' 43 v n (wcells hs) ∧ (∀ g, v.ownBlock = some g → w.heap.size ≤ g) ∧ Below w.heap.size w w' := by
  subst hn
  cases A with
  | none =>
    have h0 : hs.length = 0 := by
      rcases Nat.eq_zero_or_pos hs.length with h0 | h0
      · exact h0
      · obtain ⟨_, _, h, _⟩ := hl h0; cases h
    obtain rfl := List.eq_nil_of_length_eq_zero h0
    have hnil : ∀ w' : World, (binOp .eql 31 (.slice none 0 c) (.slice none 0 0)).run Tryz.prog w' = .ok (.bool true) w' := fun w' => Lib.run_eql_slice_nil w' _ _ none _ _ 0 0 Tryz.underlying31
    go_enter Tryz.func32, Tryz.ntmps32
    go_wp2
    go_ret
    exact ⟨_, rfl, Mem.nil _ _, fun g hg => (by simp [Value.ownBlock] at hg), Below.refl _ _⟩
  | some a =>
    have hnil : ∀ w' : World, (binOp .eql 31 (.slice (some a) hs.length c) (.slice none 0 0)).run Tryz.prog w' = .ok (.bool false) w' := fun w' => Lib.run_eql_slice_nil w' _ _ (some a) _ _ 0 0 Tryz.underlying31
    go_enter Tryz.func32, Tryz.ntmps32
    go_wp2_with (at_builtin; refine list_app _ rfl (.tmp 5) (.tmp 6) _ rfl 43 Tryz.underlying31 word_info rfl (by decide) (by decide) w.heap.size rfl (World.ownsRow_made w #[] 0 (Nat.le_refl _) (Nat.zero_le _) rfl) rfl (wcells_length _) (by exact hl.below ((Below.refl _ _).alloc (Nat.le_refl _) _)) (wcells_one _) (by omega) (by simp) ?_; intro v' w3 hown hg hat; have hB := Lib.hid (grown_below ((Below.refl _ _).alloc (Nat.le_refl _) _) hg (by simp) (.inr ⟨_, rfl, Nat.le_refl _⟩)); simp only [Nat.zero_add, List.nil_append] at hown; have HO := Lib.hid hown; clear hown hg hat)
    go_ret
    exact ⟨_, rfl, Mem.of_own HO.out, fun g hg => (HO.out.lt g hg).1, hB.out⟩
set_option maxRecDepth 100000 in
theorem clip64_calls (w : World) (A : Option Addr) (n c : Nat) (hnc : n ≤ c) (hm : n ≤ 1000000) (hs : ∀ a, A = some a → a.spot = none):
    Calls Tryz.prog 55 #[.slice A n c] w fun e w' => e = .returned (.slice A n n) ∧ w' = w := by
  go_enter Tryz.func55, Tryz.ntmps55
  go_wp2
  go_ret
  exact ⟨rfl, rfl⟩
theorem clipM64_calls (w : World) (v : Value) (n : Nat) (xs : List Value) (h : Mem w 43 v n xs) (hm : n ≤ 1000000) :
    Calls Tryz.prog 55 #[v] w fun e w' => ∃ A, e = .returned (.slice A n n) ∧ Mem w 43 (.slice A n n) n xs ∧ (Value.slice A n n).ownBlock = v.ownBlock ∧ w' = w := by
  obtain ⟨A, c, rfl, h1, h2⟩ := h.shape
  refine (clip64_calls w A n c h1 hm (fun a ha => by rcases h2 with rfl | ⟨g, rfl⟩ <;> cases ha; rfl)).mono ?_
  rintro e w' ⟨rfl, rfl⟩
  exact ⟨_, rfl, h.clip, by cases A <;> rfl, rfl⟩

set_option maxRecDepth 100000 in
theorem clone8_calls (w : World) (A : Option Addr) (n c : Nat) (hs : List Int) (hn : hs.length = n) (hm : n ≤ 1000000) (hl : Lie w A n (bcells hs)) :
    Calls Tryz.prog 156 #[.slice A n c] w fun e w' => ∃ v, e = .returned v ∧ Mem w' 5 v n (bcells hs) ∧ (∀ g, v.ownBlock = some g → w.heap.size ≤ g) ∧ Below w.heap.size w w' := by
  subst hn
  cases A with
  | none =>
    have h0 : hs.length = 0 := by
      rcases Nat.eq_zero_or_pos hs.length with h0 | h0
      · exact h0
      · obtain ⟨_, _, h, _⟩ := hl h0; cases h
    obtain rfl := List.eq_nil_of_length_eq_zero h0
    have hnil : ∀ w' : World, (binOp .eql 134 (.slice none 0 c) (.slice none 0 0)).run Tryz.prog w' = .ok (.bool true) w' := fun w' => Lib.run_eql_slice_nil w' _ _ none _ _ 0 0 Tryz.underlying134
    go_enter Tryz.func156, Tryz.ntmps156
    go_wp2
    go_ret
    exact ⟨_, rfl, Mem.nil _ _, fun g hg => (by simp [Value.ownBlock] at hg), Below.refl _ _⟩
  | some a =>
    have hnil : ∀ w' : World, (binOp .eql 134 (.slice (some a) hs.length c) (.slice none 0 0)).run Tryz.prog w' = .ok (.bool false) w' := fun w' => Lib.run_eql_slice_nil w' _ _ (some a) _ _ 0 0 Tryz.underlying134
    go_enter Tryz.func156, Tryz.ntmps156
    go_wp2_with (at_builtin; refine list_app _ rfl (.tmp 5) (.tmp 6) _ rfl 5 Tryz.underlying134 byte_info rfl (by decide) (by decide) w.heap.size rfl (World.ownsRow_made w #[] 0 (Nat.le_refl _) (Nat.zero_le _) rfl) rfl (bcells_length _) (by exact hl.below ((Below.refl _ _).alloc (Nat.le_refl _) _)) (bcells_one _) (by omega) (by simp) ?_; intro v' w3 hown hg hat; have hB := Lib.hid (grown_below ((Below.refl _ _).alloc (Nat.le_refl _) _) hg (by simp) (.inr ⟨_, rfl, Nat.le_refl _⟩)); simp only [Nat.zero_add, List.nil_append] at hown; have HO := Lib.hid hown; clear hown hg hat)
    go_ret
    exact ⟨_, rfl, Mem.of_own HO.out, fun g hg => (HO.out.lt g hg).1, hB.out⟩
set_option maxRecDepth 100000 in
theorem clip8_calls (w : World) (A : Option Addr) (n c : Nat) (hnc : n ≤ c) (hm : n ≤ 1000000) (hs : ∀ a, A = some a → a.spot = none):
    Calls Tryz.prog 155 #[.slice A n c] w fun e w' => e = .returned (.slice A n n) ∧ w' = w := by
  go_enter Tryz.func155, Tryz.ntmps155
  go_wp2
  go_ret
  exact ⟨rfl, rfl⟩
theorem clipM8_calls (w : World) (v : Value) (n : Nat) (xs : List Value) (h : Mem w 5 v n xs) (hm : n ≤ 1000000) :
    Calls Tryz.prog 155 #[v] w fun e w' => ∃ A, e = .returned (.slice A n n) ∧ Mem w 5 (.slice A n n) n xs ∧ (Value.slice A n n).ownBlock = v.ownBlock ∧ w' = w := by
  obtain ⟨A, c, rfl, h1, h2⟩ := h.shape
  refine (clip8_calls w A n c h1 hm (fun a ha => by rcases h2 with rfl | ⟨g, rfl⟩ <;> cases ha; rfl)).mono ?_
  rintro e w' ⟨rfl, rfl⟩
  exact ⟨_, rfl, h.clip, by cases A <;> rfl, rfl⟩
set_option maxRecDepth 100000 in
theorem heapCost_calls (w : World) (k n : Value) (A B : Option Addr) (a b c d : Nat) (ha : a ≤ 1000000) (hb : b ≤ 1000000) : Calls Tryz.prog 157 #[.agg #[k, n, .slice A a c, .slice B b d]] w fun e w' => e = .returned (.int .i64 (16 + 8 * (a : Int) + b)) ∧ Below w.heap.size w w' := by
  go_enter Tryz.func157, Tryz.ntmps157
  go_wp2
  go_ret
  exact ⟨rfl, (Below.refl _ _).alloc (Nat.le_refl _) _⟩
end Go.Proofs.YtdmmjckhpagibaaGreatDoor
