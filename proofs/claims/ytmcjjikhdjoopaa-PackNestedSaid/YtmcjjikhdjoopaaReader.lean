/- num.Reader: NewReader, Bad, Left, fail, Take. -/
import Derived.Test.YtmcjjikhdjoopaaBytes
namespace Go.Proofs.Ytmcjjikhdjoopaa
open Go.RowKit
set_option linter.unusedVariables false
/-- A reader: its bytes lie in the blocks of S, of which it writes none. -/
structure Rdr (w : World) (p : Nat) (S : Nat → Prop) (bs : List Int) (bad : Bool) : Prop where
  box : ∃ A c, w.heap[p]? = some (.cells #[.slice A bs.length c, .bool bad] 93 (0, 0)) ∧ bs.length ≤ c ∧ (Rd.int .u8).Row S w A bs
  len : bs.length ≤ 1000000
  far : ∀ b, S b → b < w.heap.size ∧ b ≠ p
  isb : isB bs
theorem Rdr.keeps {F : Nat → Prop} {w w' : World} {p : Nat} {S : Nat → Prop} {bs : List Int} {bad : Bool} (h : Rdr w p S bs bad) (hk : Keeps F w w') (hp : ¬ F p) (hS : ∀ b, S b → ¬ F b) : Rdr w' p S bs bad := by
  obtain ⟨A, c, h1, h2, h3⟩ := h.box
  exact ⟨⟨A, c, blk_keeps h1 hk hp, h2, h3.keep (fun b hb => hk.block b (h.far b hb).1 (hS b hb))⟩, h.len, fun b hb => ⟨Nat.lt_of_lt_of_le (h.far b hb).1 hk.size, (h.far b hb).2⟩, h.isb⟩
theorem Rdr.below {w w' : World} {p : Nat} {S : Nat → Prop} {bs : List Int} {bad : Bool} (h : Rdr w p S bs bad) (hb : Below w.heap.size w w') : Rdr w' p S bs bad := h.keeps (Keeps.of_below (F := fun _ => False) hb) (fun h => h) (fun _ _ h => h)
theorem newReader_calls (w : World) (A : Option Addr) (n c : Nat) (bs : List Int) (hn : bs.length = n) (hm : n ≤ 1000000) (hl : Lie w A n (bcells bs)) (hB : isB bs) :
    Calls Try.prog 39 #[.slice A n c] w fun e w' => ∃ p S, e = .returned (.pointer (some ⟨p, 0, none⟩)) ∧ Rdr w' p S bs false ∧ w.heap.size ≤ p ∧ (∀ b, S b → w.heap.size ≤ b) ∧ Below w.heap.size w w' := by
  subst hn
  have HL := Lib.hid hl
  clear hl
  go_enter Try.func39, Try.ntmps39
  go_wp2_with (at_builtin; refine list_app _ rfl (.const (.slice none 0 0)) (.tmp 3) _ rfl 5 Try.underlying29 byte_info rfl (by decide) (by decide) w.heap.size (n := 0) (xs := []) rfl (by exact ⟨rfl, .inl ⟨rfl, rfl⟩⟩) rfl (bcells_length _) HL.out (bcells_one _) (by omega) (Nat.le_refl _) ?_; intro v' w3 hown hg hat; have hB3 := Lib.hid (grown_below (Below.refl _ _) hg (Nat.le_refl _) (.inl rfl)); simp only [Nat.zero_add, List.nil_append] at hown; obtain ⟨A3, c3, rfl, hn3, _, _⟩ := own_shape hown; have HO3 := Lib.hid hown; clear hown hg hat)
  go_ret
  have hs := hB3.out.size
  refine ⟨_, fun b => (Value.slice A3 bs.length c3).ownBlock = some b, rfl, ⟨⟨A3, c3, blk_new _ _, hn3, ?_⟩, hm, fun b hb => ?_, hB⟩, hs, fun b hb => (HO3.out.lt b hb).1, hB3.out.alloc hs _⟩
  · have ho := HO3.out.alloc (Go.Obj.cells #[.slice A3 bs.length c3, .bool false] 93 (0, 0))
    obtain ⟨_, _, e, _, _, hr⟩ := Rd.Sl.of_own (d := Rd.int .u8) (S := fun b => (Value.slice A3 bs.length c3).ownBlock = some b) ho (fun g hg => hg) (byte_flat.2 ⟨rfl, hB⟩) (by omega)
    cases e
    exact hr
  · have := (HO3.out.lt b hb).2
    simp
    omega
theorem bad_none (w : World) : Calls Try.prog 43 #[.pointer none] w fun e w' => e = .returned (.bool true) ∧ w' = w := by
  go_enter Try.func43, Try.ntmps43
  go_wp2
  go_ret
  exact ⟨rfl, rfl⟩
theorem bad_calls (w : World) (p : Nat) (S : Nat → Prop) (bs : List Int) (bad : Bool) (h : Rdr w p S bs bad) : Calls Try.prog 43 #[.pointer (some ⟨p, 0, none⟩)] w fun e w' => e = .returned (.bool bad) ∧ w' = w := by
  obtain ⟨A, c, h1, _, _⟩ := h.box
  have c1 := blk_cell h1 1
  simp at c1
  clear h h1
  go_enter Try.func43, Try.ntmps43
  go_wp2
  go_ret
  exact ⟨rfl, rfl⟩
theorem left_none (w : World) : Calls Try.prog 41 #[.pointer none] w fun e w' => e = .returned (.int .i64 0) ∧ w' = w := by
  go_enter Try.func41, Try.ntmps41
  go_wp2_with (go_at_call 43; refine (bad_none _).mono ?_; rintro e w1 ⟨rfl, rfl⟩)
  go_ret
  exact ⟨rfl, rfl⟩
theorem left_calls (w : World) (p : Nat) (S : Nat → Prop) (bs : List Int) (bad : Bool) (h : Rdr w p S bs bad) : Calls Try.prog 41 #[.pointer (some ⟨p, 0, none⟩)] w fun e w' => e = .returned (.int .i64 (if bad then 0 else bs.length)) ∧ w' = w := by
  obtain ⟨A, c, h1, _, _⟩ := h.box
  have c0 := blk_cell h1 0
  simp at c0
  have H := Lib.hid h
  clear h h1
  cases bad
  all_goals
    go_enter Try.func41, Try.ntmps41
    go_wp2_with (go_at_call 43; refine (bad_calls _ _ _ _ _ H.out).mono ?_; rintro e w1 ⟨rfl, rfl⟩)
    go_ret
    exact ⟨rfl, rfl⟩
theorem fail_none (w : World) : Calls Try.prog 56 #[.pointer none] w fun e w' => e = .returned (.tuple #[]) ∧ w' = w := by
  go_enter Try.func56, Try.ntmps56
  go_wp2
  go_end0
  exact ⟨rfl, rfl⟩
theorem fail_calls (w : World) (p : Nat) (S : Nat → Prop) (bs : List Int) (bad : Bool) (h : Rdr w p S bs bad) : Calls Try.prog 56 #[.pointer (some ⟨p, 0, none⟩)] w fun e w' => e = .returned (.tuple #[]) ∧ Rdr w' p S bs true ∧ Keeps (· = p) w w' := by
  obtain ⟨A, c, h1, h2, h3⟩ := h.box
  have c1 := blk_cell h1 1
  have hf := blk_frozen h1 1
  simp at c1
  have hset := blk_set h1 1 (.bool true)
  have hR : Rdr (w.setCell ⟨p, 1, none⟩ (.bool true)) p S bs true := by
    refine ⟨⟨A, c, hset, h2, h3.keep (fun b hb => Below.heap_setCell w _ _ b (h.far b hb).2)⟩, h.len, fun b hb => ⟨by simpa using (h.far b hb).1, (h.far b hb).2⟩, h.isb⟩
  have HR := Lib.hid hR
  clear h h1 h3 hset hR
  go_enter Try.func56, Try.ntmps56
  go_wp2
  go_end0
  exact ⟨rfl, HR.out, Keeps.setCell (F := (· = p)) (Keeps.refl _ _) (fun _ => rfl) _⟩
end Go.Proofs.Ytmcjjikhdjoopaa
