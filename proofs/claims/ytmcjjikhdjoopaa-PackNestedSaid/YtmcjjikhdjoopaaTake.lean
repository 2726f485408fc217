/- num.Reader.Take. -/
import Derived.Test.YtmcjjikhdjoopaaReader
namespace Go.Proofs.Ytmcjjikhdjoopaa
open Go.RowKit
set_option linter.unusedVariables false
theorem take_none (w : World) (n : Int) : Calls Try.prog 42 #[.pointer none, .int .i64 n] w fun e w' => e = .returned (.slice none 0 0) ∧ w' = w := by
  go_enter Try.func42, Try.ntmps42
  go_wp2_with (first
    | (go_at_call 43; refine (bad_none _).mono ?_; rintro e w1 ⟨rfl, rfl⟩)
    | (go_at_call 56; refine (fail_none _).mono ?_; rintro e w1 ⟨rfl, rfl⟩))
  go_ret
  exact ⟨rfl, rfl⟩
theorem take_no (w : World) (p : Nat) (S : Nat → Prop) (bs : List Int) (bad : Bool) (h : Rdr w p S bs bad) (n : Int) (hn : bad = true ∨ n < 0 ∨ (bs.length : Int) < n) : Calls Try.prog 42 #[.pointer (some ⟨p, 0, none⟩), .int .i64 n] w fun e w' => e = .returned (.slice none 0 0) ∧ Rdr w' p S bs true ∧ Keeps (· = p) w w' := by
  obtain ⟨A, c, h1, _, _⟩ := h.box
  have c0 := blk_cell h1 0
  simp at c0
  have hl := h.len
  have H := Lib.hid h
  clear h h1
  have hr : bad = true ∨ (bad = false ∧ n < 0) ∨ (bad = false ∧ ¬ n < 0 ∧ (bs.length : Int) < n) := by
    cases bad <;> simp_all
    omega
  clear hn
  rcases hr with rfl | ⟨rfl, h2⟩ | ⟨rfl, h2, h3⟩
  all_goals
    go_enter Try.func42, Try.ntmps42
    go_wp2_with (first
      | (go_at_call 43; refine (bad_calls _ _ _ _ _ H.out).mono ?_; rintro e w1 ⟨rfl, rfl⟩)
      | (go_at_call 56; refine (fail_calls _ _ _ _ _ H.out).mono ?_; rintro e w2 ⟨rfl, hR, hK⟩))
    go_ret
    exact ⟨rfl, hR, hK⟩
theorem lie_take {w : World} {A : Option Addr} {n m : Nat} {cells : List Value} (h : Lie w A n cells) (hm : m ≤ n) : Lie w A m (cells.take m) := fun hp => by
  obtain ⟨b, o, e, hc⟩ := h (by omega)
  exact ⟨b, o, e, fun j u hj => by
    rw [List.getElem?_take] at hj
    split at hj
    · exact hc j u hj
    · cases hj⟩
theorem bcells_take (bs : List Int) (k : Nat) : bcells (bs.take k) = (bcells bs).take k := by simp [bcells, List.map_take]
theorem rdr_after {w1 w3 : World} {p : Nat} {S : Nat → Prop} {bs : List Int} {A : Option Addr} {k : Nat} {v : Value} (H : Rdr w1 p S bs false) (hx : w3.heap[p]? = some (.cells #[v, .bool false] 93 (0, 0))) (hb : Below w1.heap.size w1 w3) (hr : (Rd.int .u8).Row S w1 A bs) (hk : k ≤ bs.length) (A' : Option Addr) (m c' : Nat) (hm : m = bs.length - k) (hc : m ≤ c') (ha : bs.length ≤ k ∨ ∃ a, A = some a ∧ A' = some (a.add k)) : Rdr (w3.setCell ⟨p, 0, none⟩ (.slice A' m c')) p S (bs.drop k) false := by
  subst hm
  have hl : (bs.drop k).length = bs.length - k := List.length_drop
  refine ⟨⟨A', c', by rw [hl]; exact blk_set hx 0 _, by rw [hl]; exact hc, ?_⟩, by rw [hl]; have := H.len; omega, fun b hb' => ⟨by have := (H.far b hb').1; have := hb.size; simp; omega, (H.far b hb').2⟩, fun x hx => H.isb x (List.mem_of_mem_drop hx)⟩
  intro hp
  rcases ha with ha | ⟨a, rfl, rfl⟩
  · omega
  · obtain ⟨b, o, e, hSb, hc2⟩ := hr (by omega)
    cases e
    refine ⟨b, o + k, by rw [add_at], hSb, fun i hi => ?_⟩
    obtain ⟨cs, hK, hcell⟩ := hc2 (k + i) (by omega)
    refine ⟨cs, by rw [List.getElem_drop]; exact hK, fun j u hj => ?_⟩
    have h1 := hcell j u hj
    have hs : (Rd.int .u8).sz = 1 := rfl
    rw [hs, Nat.mul_one] at h1 ⊢
    have h2 : (w3.setCell ⟨p, 0, none⟩ (.slice (some ((⟨b, o, none⟩ : Addr).add k)) (bs.length - k) c')).heap[b]? = w1.heap[b]? := (Below.heap_setCell w3 _ _ b (H.far b hSb).2).trans (hb.block b (H.far b hSb).1)
    refine (World.cell?_of_block (a := ⟨b, o + k + i + j, none⟩) h2).trans ?_
    rw [← h1]
    congr 3
    omega
theorem take_ok (w : World) (p : Nat) (S : Nat → Prop) (bs : List Int) (h : Rdr w p S bs false) (k : Nat) (hk : k ≤ bs.length) : Calls Try.prog 42 #[.pointer (some ⟨p, 0, none⟩), .int .i64 k] w fun e w' => ∃ A c, e = .returned (.slice A k c) ∧ w'.ownsRow w.heap.size 5 1 (.slice A k c) k (bcells (bs.take k)) ∧ Rdr w' p S (bs.drop k) false ∧ Keeps (· = p) w w' := by
  obtain ⟨A, c, h1, hc, hrow⟩ := h.box
  have c0 := blk_cell h1 0
  have f0 := blk_frozen h1 0
  simp at c0
  have hl := h.len
  obtain ⟨cells, hfl, hlie⟩ := hrow.flat
  obtain ⟨rfl, hB⟩ := byte_flat.1 hfl
  have HL := Lib.hid (lie_take hlie hk)
  have H := Lib.hid h
  have HX := Lib.hid h1
  have hpl := blk_lt h1
  have HRow := Lib.hid hrow
  have hlen : (bs.take k).length = k := by rw [List.length_take]; omega
  clear h h1 hfl hlie hrow
  cases A with
  | none =>
    have h0 : bs.length = 0 := by
      rcases Nat.eq_zero_or_pos bs.length with h0 | h0
      · exact h0
      · obtain ⟨_, _, e, _⟩ := HRow.out h0; cases e
    obtain rfl := List.eq_nil_of_length_eq_zero h0
    obtain rfl : k = 0 := by simpa using hk
    go_enter Try.func42, Try.ntmps42
    go_wp2_with (first
      | (go_at_call 43; refine (bad_calls _ _ _ _ _ H.out).mono ?_; rintro e w1 ⟨rfl, rfl⟩)
      | (at_builtin; refine list_app _ rfl (.const (.slice none 0 0)) (.tmp 28) _ rfl 5 Try.underlying29 byte_info rfl (by decide) (by decide) w1.heap.size (n := 0) (xs := []) rfl (by exact ⟨rfl, .inl ⟨rfl, rfl⟩⟩) rfl (by rw [← bcells_take, bcells_length, hlen]) HL.out (by rw [← bcells_take]; exact bcells_one _) (by omega) (Nat.le_refl _) ?_; intro v' w3 hown hg hat; have hB3 := Lib.hid (grown_below (Below.refl w1.heap.size w1) hg (Nat.le_refl _) (.inl rfl)); simp only [Nat.zero_add, List.nil_append] at hown; obtain ⟨A3, c3, rfl, hn3, _, _⟩ := own_shape hown; have HO3 := Lib.hid hown; have hx3 := blk_below HX.out hB3.out hpl; have HX3 := Lib.hid hx3; have cc := blk_cell hx3 0; have ff := blk_frozen hx3 0; simp at cc; clear hown hg hat hx3))
    all_goals go_ret
    all_goals rw [← bcells_take] at HO3
    all_goals exact ⟨_, _, rfl, own_set_far HO3.out (p := ⟨p, 0, none⟩) (own_ne_blk HO3.out HX3.out (by decide)) _, rdr_after H.out HX3.out hB3.out HRow.out (Nat.le_refl 0) _ _ _ rfl (by simp) (.inl (by simp)), Keeps.setCell (F := (· = p)) (Keeps.of_below hB3.out) (fun _ => rfl) _⟩
  | some a =>
    go_enter Try.func42, Try.ntmps42
    go_wp2_with (first
      | (go_at_call 43; refine (bad_calls _ _ _ _ _ H.out).mono ?_; rintro e w1 ⟨rfl, rfl⟩)
      | (at_builtin; refine list_app _ rfl (.const (.slice none 0 0)) (.tmp 28) _ rfl 5 Try.underlying29 byte_info rfl (by decide) (by decide) w1.heap.size (n := 0) (xs := []) rfl (by exact ⟨rfl, .inl ⟨rfl, rfl⟩⟩) rfl (by rw [← bcells_take, bcells_length, hlen]) HL.out (by rw [← bcells_take]; exact bcells_one _) (by omega) (Nat.le_refl _) ?_; intro v' w3 hown hg hat; have hB3 := Lib.hid (grown_below (Below.refl w1.heap.size w1) hg (Nat.le_refl _) (.inl rfl)); simp only [Nat.zero_add, List.nil_append] at hown; obtain ⟨A3, c3, rfl, hn3, _, _⟩ := own_shape hown; have HO3 := Lib.hid hown; have hx3 := blk_below HX.out hB3.out hpl; have HX3 := Lib.hid hx3; have cc := blk_cell hx3 0; have ff := blk_frozen hx3 0; simp at cc; clear hown hg hat hx3))
    all_goals go_ret
    all_goals rw [← bcells_take] at HO3
    · exact ⟨_, _, rfl, own_set_far HO3.out (p := ⟨p, 0, none⟩) (own_ne_blk HO3.out HX3.out (by decide)) _, rdr_after H.out HX3.out hB3.out HRow.out hk _ _ _ rfl (by omega) (by first | exact .inr ⟨_, rfl, rfl⟩ | exact .inl (by omega)), Keeps.setCell (F := (· = p)) (Keeps.of_below hB3.out) (fun _ => rfl) _⟩
    · exact ⟨_, _, rfl, own_set_far HO3.out (p := ⟨p, 0, none⟩) (own_ne_blk HO3.out HX3.out (by decide)) _, rdr_after H.out HX3.out hB3.out HRow.out hk _ _ _ rfl (by omega) (by first | exact .inr ⟨_, rfl, rfl⟩ | exact .inl (by omega)), Keeps.setCell (F := (· = p)) (Keeps.of_below hB3.out) (fun _ => rfl) _⟩
end Go.Proofs.Ytmcjjikhdjoopaa
