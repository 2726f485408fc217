/- heap.Heap: at, end, words, octets, Len, Word, SetWord, Byte, SetByte, Used. -/
import Derived.Test.YtmcjjikhdjoopaaHeapOL
namespace Go.Proofs.Ytmcjjikhdjoopaa
open Go.RowKit
set_option linter.unusedVariables false
/-- Objects with their quota. -/
structure Hp (w : World) (p : Nat) (v : Value) (L : List (Ob × OV)) (quota used : Int) : Prop where
  box : w.heap[p]? = some (.cells #[v, .int .i64 quota, .int .i64 used] 72 (0, 0))
  ol : OL w v L
  len : L.length ≤ 10000
def HF (p : Nat) (v : Value) (L : List (Ob × OV)) (b : Nat) : Prop := b = p ∨ OLF v L b
theorem OL.ne_box {w : World} {v : Value} {L : List (Ob × OV)} (h : OL w v L) {p : Nat} {cs : Array Value} {fr : Nat × Nat} (hb : w.heap[p]? = some (.cells cs 72 fr)) : ¬ OLF v L p := by
  rintro (hv | ⟨x, hx, hv⟩)
  · exact own_ne_blk h.own hb (by decide) hv
  · rcases hv with hv | hv
    · obtain ⟨_, cur, hc⟩ := (h.mem x hx).wm.lt hv
      exact blk_ne hc hb (by decide) rfl
    · obtain ⟨_, cur, hc⟩ := (h.mem x hx).bm.lt hv
      exact blk_ne hc hb (by decide) rfl
theorem Hp.keeps {F : Nat → Prop} {w w' : World} {p : Nat} {v : Value} {L : List (Ob × OV)} {q u : Int} (h : Hp w p v L q u) (hk : Keeps F w w') (hF : ∀ b, HF p v L b → ¬ F b) : Hp w' p v L q u :=
  ⟨blk_keeps h.box hk (hF p (.inl rfl)), h.ol.keeps hk (fun b hb => hF b (.inr hb)), h.len⟩
theorem Hp.below {w w' : World} {p : Nat} {v : Value} {L : List (Ob × OV)} {q u : Int} (h : Hp w p v L q u) (hb : Below w.heap.size w w') : Hp w' p v L q u := h.keeps (F := fun _ => False) (Keeps.of_below hb) (fun _ _ h => h)
theorem Hp.lt {w : World} {p : Nat} {v : Value} {L : List (Ob × OV)} {q u : Int} (h : Hp w p v L q u) {b : Nat} (hb : HF p v L b) : b < w.heap.size := by
  rcases hb with rfl | hb
  · exact blk_lt h.box
  · exact h.ol.lt hb
/-- What 'at' answers. -/
abbrev AtIs (w : World) (hp : Value) (r : Int) (a : Option Addr) : Prop := Calls Try.prog 46 #[hp, .int .u64 r] w fun e w' => e = .returned (.pointer a) ∧ w' = w
theorem at_none (w : World) (r : Int) : AtIs w (.pointer none) r none := by
  go_enter Try.func46, Try.ntmps46
  go_wp2
  go_ret
  exact ⟨rfl, rfl⟩
theorem at_no (w : World) (p : Nat) (v : Value) (L : List (Ob × OV)) (q u : Int) (h : Hp w p v L q u) (r : Int) (hr : r = 0 ∨ (L.length : Int) < r) (h0 : 0 ≤ r) : AtIs w (.pointer (some ⟨p, 0, none⟩)) r none := by
  obtain ⟨n, hn⟩ : ∃ n, L.length = n := ⟨_, rfl⟩
  obtain ⟨A, c, hv, _, _, _⟩ := own_shape h.ol.own
  have hl := h.len
  rw [hn] at hv hr hl
  subst hv
  have c0 := blk_cell h.box 0
  simp at c0
  clear h hn
  have hw : r = 0 ∨ ¬ r = 0 ∧ (n : Int) < r := by omega
  clear hr
  rcases hw with rfl | ⟨h1, h2⟩
  all_goals
    unfold AtIs
    go_enter Try.func46, Try.ntmps46
    go_wp2
    go_ret
    exact ⟨rfl, rfl⟩
theorem at_ok (w : World) (p g c : Nat) (L : List (Ob × OV)) (n : Nat) (hn : L.length = n) (q u : Int) (h : Hp w p (.slice (some ⟨g, 0, none⟩) n c) L q u) (hc : n ≤ c) (i : Nat) (hi : i < n) (r : Int) (hr : r = (i : Int) + 1) : AtIs w (.pointer (some ⟨p, 0, none⟩)) r (some ⟨g, i * 4, none⟩) := by
  have hl := h.len
  rw [hn] at hl
  subst hr
  have c0 := blk_cell h.box 0
  simp at c0
  clear h hn
  have h1 : ¬ (i : Int) + 1 = 0 := by omega
  have h2 : ((i : Int) + 1 == 0) = false := beq_eq_false_iff_ne.2 h1
  unfold AtIs
  go_enter Try.func46, Try.ntmps46
  go_wp2
  go_ret
  exact ⟨rfl, rfl⟩
theorem end_null (w : World) (hp : Value) (n : Int) (m : Int) : Calls Try.prog 47 #[hp, .pointer none, .int .u64 n, .int .i64 m] w fun e w' => e = .returned (.int .i64 4) ∧ w' = w := by
  go_enter Try.func47, Try.ntmps47
  go_wp2
  go_ret
  exact ⟨rfl, rfl⟩
theorem end_far (w : World) (hp : Value) (a : Addr) (n : Int) (m : Nat) (hm : m ≤ 1000000) (h : (m : Int) ≤ n) : Calls Try.prog 47 #[hp, .pointer (some a), .int .u64 n, .int .i64 m] w fun e w' => e = .returned (.int .i64 3) ∧ w' = w := by
  go_enter Try.func47, Try.ntmps47
  go_wp2
  go_ret
  exact ⟨rfl, rfl⟩
theorem end_ok (w : World) (hp : Value) (a : Addr) (n : Int) (m : Nat) (hm : m ≤ 1000000) (h : n < (m : Int)) : Calls Try.prog 47 #[hp, .pointer (some a), .int .u64 n, .int .i64 m] w fun e w' => e = .returned (.int .i64 0) ∧ w' = w := by
  go_enter Try.func47, Try.ntmps47
  go_wp2
  go_ret
  exact ⟨rfl, rfl⟩
theorem used_none (w : World) : Calls Try.prog 16 #[.pointer none] w fun e w' => e = .returned (.int .i64 0) ∧ w' = w := by
  go_enter Try.func16, Try.ntmps16
  go_wp2
  go_ret
  exact ⟨rfl, rfl⟩
theorem used_calls (w : World) (p : Nat) (v : Value) (L : List (Ob × OV)) (q u : Int) (h : Hp w p v L q u) : Calls Try.prog 16 #[.pointer (some ⟨p, 0, none⟩)] w fun e w' => e = .returned (.int .i64 u) ∧ w' = w := by
  have c0 := blk_cell h.box 2
  simp at c0
  clear h
  go_enter Try.func16, Try.ntmps16
  go_wp2
  go_ret
  exact ⟨rfl, rfl⟩
theorem len_null (w : World) (hp : Value) (r : Int) (h : AtIs w hp r none) : Calls Try.prog 29 #[hp, .int .u64 r] w fun e w' => e = .returned (.tuple #[.int .i64 0, .int .i64 4]) ∧ w' = w := by
  have H := Lib.hid h
  clear h
  go_enter Try.func29, Try.ntmps29
  go_wp2_with (go_at_call 46; refine H.out.mono ?_; rintro e w1 ⟨rfl, rfl⟩)
  go_ret2
  exact ⟨rfl, rfl⟩
theorem len_calls (w : World) (hp : Value) (r : Int) (g o : Nat) (h : AtIs w hp r (some ⟨g, o, none⟩)) (k : Int) (A B : Option Addr) (a b c d : Nat) (h0 : w.cell? ⟨g, o, none⟩ = some (.int .i64 k)) (h2 : w.cell? ⟨g, o + 2, none⟩ = some (.slice A a c)) (h3 : w.cell? ⟨g, o + 3, none⟩ = some (.slice B b d)) : Calls Try.prog 29 #[hp, .int .u64 r] w fun e w' => e = .returned (.tuple #[.int .i64 ((if k = 2 then b else a : Nat) : Int), .int .i64 0]) ∧ w' = w := by
  have H := Lib.hid h
  clear h
  by_cases hk : k = 2
  · subst hk
    go_enter Try.func29, Try.ntmps29
    go_wp2_with (go_at_call 46; refine H.out.mono ?_; rintro e w1 ⟨rfl, rfl⟩)
    go_ret2
    exact ⟨rfl, rfl⟩
  · have hk2 : (k == 2) = false := beq_eq_false_iff_ne.2 hk
    rw [if_neg hk]
    go_enter Try.func29, Try.ntmps29
    go_wp2_with (go_at_call 46; refine H.out.mono ?_; rintro e w1 ⟨rfl, rfl⟩)
    go_ret2
    exact ⟨rfl, rfl⟩

theorem words_null (w : World) : Calls Try.prog 49 #[.pointer none] w fun e w' => e = .returned (.slice none 0 0) ∧ w' = w := by
  go_enter Try.func49, Try.ntmps49
  go_wp2
  go_ret
  exact ⟨rfl, rfl⟩
theorem words_calls (w : World) (g o : Nat) (A : Option Addr) (n c : Nat) (h : w.cell? ⟨g, o + 2, none⟩ = some (.slice A n c)) : Calls Try.prog 49 #[.pointer (some ⟨g, o, none⟩)] w fun e w' => e = .returned (.slice A n c) ∧ w' = w := by
  go_enter Try.func49, Try.ntmps49
  go_wp2
  go_ret
  exact ⟨rfl, rfl⟩
theorem word_null (w : World) (hp : Value) (r n : Int) (h : AtIs w hp r none) : Calls Try.prog 28 #[hp, .int .u64 r, .int .u64 n] w fun e w' => e = .returned (.tuple #[.int .u64 0, .int .i64 4]) ∧ w' = w := by
  have H := Lib.hid h
  clear h
  go_enter Try.func28, Try.ntmps28
  go_wp2_with (first
    | (go_at_call 46; refine H.out.mono ?_; rintro e w1 ⟨rfl, rfl⟩)
    | (go_at_call 49; refine (words_null _).mono ?_; rintro e w1 ⟨rfl, rfl⟩)
    | (go_at_call 47; refine (end_null _ _ _ _).mono ?_; rintro e w1 ⟨rfl, rfl⟩))
  go_ret2
  exact ⟨rfl, rfl⟩
theorem word_far (w : World) (hp : Value) (r n : Int) (g o : Nat) (h : AtIs w hp r (some ⟨g, o, none⟩)) (A : Option Addr) (m c : Nat) (hm : m ≤ 1000000) (hc : w.cell? ⟨g, o + 2, none⟩ = some (.slice A m c)) (hn : (m : Int) ≤ n) : Calls Try.prog 28 #[hp, .int .u64 r, .int .u64 n] w fun e w' => e = .returned (.tuple #[.int .u64 0, .int .i64 3]) ∧ w' = w := by
  have H := Lib.hid h
  clear h
  go_enter Try.func28, Try.ntmps28
  go_wp2_with (first
    | (go_at_call 46; refine H.out.mono ?_; rintro e w1 ⟨rfl, rfl⟩)
    | (go_at_call 49; refine (words_calls _ _ _ _ _ _ hc).mono ?_; rintro e w1 ⟨rfl, rfl⟩)
    | (go_at_call 47; refine (end_far _ _ _ _ _ hm hn).mono ?_; rintro e w1 ⟨rfl, rfl⟩))
  go_ret2
  exact ⟨rfl, rfl⟩
theorem word_ok (w : World) (hp : Value) (r : Int) (n : Nat) (g o : Nat) (h : AtIs w hp r (some ⟨g, o, none⟩)) (b : Nat) (m c : Nat) (hm : m ≤ 1000000) (hmc : m ≤ c) (hc : w.cell? ⟨g, o + 2, none⟩ = some (.slice (some ⟨b, 0, none⟩) m c)) (hn : n < m) (x : Int) (hx : w.cell? ⟨b, n, none⟩ = some (.int .u64 x)) (hx0 : 0 ≤ x ∧ x ≤ 18446744073709551615) : Calls Try.prog 28 #[hp, .int .u64 r, .int .u64 n] w fun e w' => e = .returned (.tuple #[.int .u64 x, .int .i64 0]) ∧ w' = w := by
  have H := Lib.hid h
  clear h
  go_enter Try.func28, Try.ntmps28
  go_wp2_with (first
    | (go_at_call 46; refine H.out.mono ?_; rintro e w1 ⟨rfl, rfl⟩)
    | (go_at_call 49; refine (words_calls _ _ _ _ _ _ hc).mono ?_; rintro e w1 ⟨rfl, rfl⟩)
    | (go_at_call 47; refine (end_ok _ _ _ _ _ hm (by omega)).mono ?_; rintro e w1 ⟨rfl, rfl⟩))
  go_ret2
  exact ⟨rfl, rfl⟩
theorem setword_null (w : World) (hp : Value) (r n y : Int) (h : AtIs w hp r none) : Calls Try.prog 26 #[hp, .int .u64 r, .int .u64 n, .int .u64 y] w fun e w' => e = .returned (.int .i64 4) ∧ w' = w := by
  have H := Lib.hid h
  clear h
  go_enter Try.func26, Try.ntmps26
  go_wp2_with (first
    | (go_at_call 46; refine H.out.mono ?_; rintro e w1 ⟨rfl, rfl⟩)
    | (go_at_call 49; refine (words_null _).mono ?_; rintro e w1 ⟨rfl, rfl⟩)
    | (go_at_call 47; refine (end_null _ _ _ _).mono ?_; rintro e w1 ⟨rfl, rfl⟩))
  go_ret
  exact ⟨rfl, rfl⟩
theorem setword_far (w : World) (hp : Value) (r n y : Int) (g o : Nat) (h : AtIs w hp r (some ⟨g, o, none⟩)) (A : Option Addr) (m c : Nat) (hm : m ≤ 1000000) (hc : w.cell? ⟨g, o + 2, none⟩ = some (.slice A m c)) (hn : (m : Int) ≤ n) : Calls Try.prog 26 #[hp, .int .u64 r, .int .u64 n, .int .u64 y] w fun e w' => e = .returned (.int .i64 3) ∧ w' = w := by
  have H := Lib.hid h
  clear h
  go_enter Try.func26, Try.ntmps26
  go_wp2_with (first
    | (go_at_call 46; refine H.out.mono ?_; rintro e w1 ⟨rfl, rfl⟩)
    | (go_at_call 49; refine (words_calls _ _ _ _ _ _ hc).mono ?_; rintro e w1 ⟨rfl, rfl⟩)
    | (go_at_call 47; refine (end_far _ _ _ _ _ hm hn).mono ?_; rintro e w1 ⟨rfl, rfl⟩))
  go_ret
  exact ⟨rfl, rfl⟩
theorem setword_ok (w : World) (hp : Value) (r : Int) (n : Nat) (y : Int) (hy : 0 ≤ y ∧ y ≤ 18446744073709551615) (g o : Nat) (h : AtIs w hp r (some ⟨g, o, none⟩)) (b : Nat) (m c : Nat) (hm : m ≤ 1000000) (hmc : m ≤ c) (hc : w.cell? ⟨g, o + 2, none⟩ = some (.slice (some ⟨b, 0, none⟩) m c)) (hn : n < m) (x : Int) (hx : w.cell? ⟨b, n, none⟩ = some (.int .u64 x)) (hf : w.frozen? ⟨b, n, none⟩ = false) : Calls Try.prog 26 #[hp, .int .u64 r, .int .u64 n, .int .u64 y] w fun e w' => e = .returned (.int .i64 0) ∧ w' = w.setCell ⟨b, n, none⟩ (.int .u64 y) := by
  have H := Lib.hid h
  clear h
  go_enter Try.func26, Try.ntmps26
  go_wp2_with (first
    | (go_at_call 46; refine H.out.mono ?_; rintro e w1 ⟨rfl, rfl⟩)
    | (go_at_call 49; refine (words_calls _ _ _ _ _ _ hc).mono ?_; rintro e w1 ⟨rfl, rfl⟩)
    | (go_at_call 47; refine (end_ok _ _ _ _ _ hm (by omega)).mono ?_; rintro e w1 ⟨rfl, rfl⟩))
  go_ret
  exact ⟨rfl, rfl⟩

theorem octets_null (w : World) : Calls Try.prog 48 #[.pointer none] w fun e w' => e = .returned (.slice none 0 0) ∧ w' = w := by
  go_enter Try.func48, Try.ntmps48
  go_wp2
  go_ret
  exact ⟨rfl, rfl⟩
theorem octets_calls (w : World) (g o : Nat) (A : Option Addr) (n c : Nat) (h : w.cell? ⟨g, o + 3, none⟩ = some (.slice A n c)) : Calls Try.prog 48 #[.pointer (some ⟨g, o, none⟩)] w fun e w' => e = .returned (.slice A n c) ∧ w' = w := by
  go_enter Try.func48, Try.ntmps48
  go_wp2
  go_ret
  exact ⟨rfl, rfl⟩
theorem byte_null (w : World) (hp : Value) (r n : Int) (h : AtIs w hp r none) : Calls Try.prog 25 #[hp, .int .u64 r, .int .u64 n] w fun e w' => e = .returned (.tuple #[.int .u64 0, .int .i64 4]) ∧ w' = w := by
  have H := Lib.hid h
  clear h
  go_enter Try.func25, Try.ntmps25
  go_wp2_with (first
    | (go_at_call 46; refine H.out.mono ?_; rintro e w1 ⟨rfl, rfl⟩)
    | (go_at_call 48; refine (octets_null _).mono ?_; rintro e w1 ⟨rfl, rfl⟩)
    | (go_at_call 47; refine (end_null _ _ _ _).mono ?_; rintro e w1 ⟨rfl, rfl⟩))
  go_ret2
  exact ⟨rfl, rfl⟩
theorem byte_far (w : World) (hp : Value) (r n : Int) (g o : Nat) (h : AtIs w hp r (some ⟨g, o, none⟩)) (A : Option Addr) (m c : Nat) (hm : m ≤ 1000000) (hc : w.cell? ⟨g, o + 3, none⟩ = some (.slice A m c)) (hn : (m : Int) ≤ n) : Calls Try.prog 25 #[hp, .int .u64 r, .int .u64 n] w fun e w' => e = .returned (.tuple #[.int .u64 0, .int .i64 3]) ∧ w' = w := by
  have H := Lib.hid h
  clear h
  go_enter Try.func25, Try.ntmps25
  go_wp2_with (first
    | (go_at_call 46; refine H.out.mono ?_; rintro e w1 ⟨rfl, rfl⟩)
    | (go_at_call 48; refine (octets_calls _ _ _ _ _ _ hc).mono ?_; rintro e w1 ⟨rfl, rfl⟩)
    | (go_at_call 47; refine (end_far _ _ _ _ _ hm hn).mono ?_; rintro e w1 ⟨rfl, rfl⟩))
  go_ret2
  exact ⟨rfl, rfl⟩
theorem byte_ok (w : World) (hp : Value) (r : Int) (n : Nat) (g o : Nat) (h : AtIs w hp r (some ⟨g, o, none⟩)) (b : Nat) (m c : Nat) (hm : m ≤ 1000000) (hmc : m ≤ c) (hc : w.cell? ⟨g, o + 3, none⟩ = some (.slice (some ⟨b, 0, none⟩) m c)) (hn : n < m) (x : Int) (hx : w.cell? ⟨b, n, none⟩ = some (.int .u8 x)) (hx0 : 0 ≤ x ∧ x ≤ 255) : Calls Try.prog 25 #[hp, .int .u64 r, .int .u64 n] w fun e w' => e = .returned (.tuple #[.int .u64 x, .int .i64 0]) ∧ w' = w := by
  have H := Lib.hid h
  clear h
  go_enter Try.func25, Try.ntmps25
  go_wp2_with (first
    | (go_at_call 46; refine H.out.mono ?_; rintro e w1 ⟨rfl, rfl⟩)
    | (go_at_call 48; refine (octets_calls _ _ _ _ _ _ hc).mono ?_; rintro e w1 ⟨rfl, rfl⟩)
    | (go_at_call 47; refine (end_ok _ _ _ _ _ hm (by omega)).mono ?_; rintro e w1 ⟨rfl, rfl⟩))
  go_ret2
  exact ⟨rfl, rfl⟩
theorem setbyte_null (w : World) (hp : Value) (r n y : Int) (h : AtIs w hp r none) : Calls Try.prog 27 #[hp, .int .u64 r, .int .u64 n, .int .u64 y] w fun e w' => e = .returned (.int .i64 4) ∧ w' = w := by
  have H := Lib.hid h
  clear h
  go_enter Try.func27, Try.ntmps27
  go_wp2_with (first
    | (go_at_call 46; refine H.out.mono ?_; rintro e w1 ⟨rfl, rfl⟩)
    | (go_at_call 48; refine (octets_null _).mono ?_; rintro e w1 ⟨rfl, rfl⟩)
    | (go_at_call 47; refine (end_null _ _ _ _).mono ?_; rintro e w1 ⟨rfl, rfl⟩))
  go_ret
  exact ⟨rfl, rfl⟩
theorem setbyte_far (w : World) (hp : Value) (r n y : Int) (g o : Nat) (h : AtIs w hp r (some ⟨g, o, none⟩)) (A : Option Addr) (m c : Nat) (hm : m ≤ 1000000) (hc : w.cell? ⟨g, o + 3, none⟩ = some (.slice A m c)) (hn : (m : Int) ≤ n) : Calls Try.prog 27 #[hp, .int .u64 r, .int .u64 n, .int .u64 y] w fun e w' => e = .returned (.int .i64 3) ∧ w' = w := by
  have H := Lib.hid h
  clear h
  go_enter Try.func27, Try.ntmps27
  go_wp2_with (first
    | (go_at_call 46; refine H.out.mono ?_; rintro e w1 ⟨rfl, rfl⟩)
    | (go_at_call 48; refine (octets_calls _ _ _ _ _ _ hc).mono ?_; rintro e w1 ⟨rfl, rfl⟩)
    | (go_at_call 47; refine (end_far _ _ _ _ _ hm hn).mono ?_; rintro e w1 ⟨rfl, rfl⟩))
  go_ret
  exact ⟨rfl, rfl⟩
theorem setbyte_ok (w : World) (hp : Value) (r : Int) (n : Nat) (y : Int) (hy : 0 ≤ y ∧ y ≤ 18446744073709551615) (g o : Nat) (h : AtIs w hp r (some ⟨g, o, none⟩)) (b : Nat) (m c : Nat) (hm : m ≤ 1000000) (hmc : m ≤ c) (hc : w.cell? ⟨g, o + 3, none⟩ = some (.slice (some ⟨b, 0, none⟩) m c)) (hn : n < m) (x : Int) (hx : w.cell? ⟨b, n, none⟩ = some (.int .u8 x)) (hf : w.frozen? ⟨b, n, none⟩ = false) : Calls Try.prog 27 #[hp, .int .u64 r, .int .u64 n, .int .u64 y] w fun e w' => e = .returned (.int .i64 0) ∧ w' = w.setCell ⟨b, n, none⟩ (.int .u8 (y % 256)) := by
  have H := Lib.hid h
  clear h
  have hyw : IntKind.u8.wrap y = y % 256 := by rw [IntKind.wrap_u8]
  go_enter Try.func27, Try.ntmps27
  go_wp2_with (first
    | (go_at_call 46; refine H.out.mono ?_; rintro e w1 ⟨rfl, rfl⟩)
    | (go_at_call 48; refine (octets_calls _ _ _ _ _ _ hc).mono ?_; rintro e w1 ⟨rfl, rfl⟩)
    | (go_at_call 47; refine (end_ok _ _ _ _ _ hm (by omega)).mono ?_; rintro e w1 ⟨rfl, rfl⟩))
  go_ret
  exact ⟨rfl, rfl⟩
end Go.Proofs.Ytmcjjikhdjoopaa
