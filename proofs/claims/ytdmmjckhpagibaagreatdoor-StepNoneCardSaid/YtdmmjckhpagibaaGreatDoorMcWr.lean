/- module's writer: bytes that grow. -/
import Derived.Test.YtdmmjckhpagibaaGreatDoorMcFitM
import Derived.Test.YtdmmjckhpagibaaGreatDoorMcJoin
namespace Go.Proofs.YtdmmjckhpagibaaGreatDoor
open Go.RowKit Go.Sort
set_option linter.unusedVariables false
/-- A writer that has written bs. -/
structure Wr (w : World) (p : Nat) (A : Option Addr) (n c : Nat) (bs : List Int) : Prop where
  box : w.heap[p]? = some (.cells #[.slice A n c] 233 (0, 0))
  own : w.ownsRow 0 5 1 (.slice A n c) n (bcells bs)
  len : bs.length = n
def WF (p : Nat) (v : Value) : Nat → Prop := fun b => b = p ∨ v.ownBlock = some b
/-- From w0, where it had the slice v0, to w. -/
structure Wrs (w0 : World) (p : Nat) (v0 : Value) (w : World) (A : Option Addr) (n c : Nat) (bs : List Int) : Prop where
  wr : Wr w p A n c bs
  keep : Keeps (WF p v0) w0 w
  src : ∀ g, (Value.slice A n c).ownBlock = some g → v0.ownBlock = some g ∨ w0.heap.size ≤ g
theorem Wr.below {w w' : World} {p n c : Nat} {A : Option Addr} {bs : List Int} (h : Wr w p A n c bs) (hb : Below w.heap.size w w') : Wr w' p A n c bs := ⟨blk_below h.box hb (blk_lt h.box), own_below h.own hb, h.len⟩
theorem Wr.wrs {w : World} {p n c : Nat} {A : Option Addr} {bs : List Int} (h : Wr w p A n c bs) : Wrs w p (.slice A n c) w A n c bs := ⟨h, Keeps.refl _ _, fun g h => .inl h⟩
theorem Wrs.step {w0 w1 w2 : World} {p n c n' c' : Nat} {v0 : Value} {A A' : Option Addr} {bs bs' : List Int} (h : Wrs w0 p v0 w1 A n c bs) (k : Wrs w1 p (.slice A n c) w2 A' n' c' bs') : Wrs w0 p v0 w2 A' n' c' bs' :=
  ⟨k.wr, h.keep.step k.keep (fun x hx hf => by
    rcases hf with rfl | hf
    · exact .inl rfl
    · rcases h.src x hf with h2 | h2
      · exact .inr h2
      · omega),
   fun g hg => by
    rcases k.src g hg with h2 | h2
    · exact h.src g h2
    · exact .inr (Nat.le_trans h.keep.size h2)⟩
theorem Wrs.below {w0 w1 w2 : World} {p n c : Nat} {v0 : Value} {A : Option Addr} {bs : List Int} (h : Wrs w0 p v0 w1 A n c bs) (hb : Below w1.heap.size w1 w2) : Wrs w0 p v0 w2 A n c bs :=
  ⟨h.wr.below hb, h.keep.step (Keeps.of_below (F := fun _ => False) hb) (fun _ _ h => h.elim), h.src⟩
theorem Wrs.box {w0 w1 : World} {p n c : Nat} {v0 : Value} {A : Option Addr} {bs : List Int} (h : Wrs w0 p v0 w1 A n c bs) {g : Nat} {o : Go.Obj} (hg : w0.heap[g]? = some o) (h1 : g ≠ p) (h2 : v0.ownBlock ≠ some g) : w1.heap[g]? = some o :=
  blk_keeps hg h.keep (fun hf => by rcases hf with hf | hf; exact h1 hf; exact h2 hf)
theorem Wr.ne {w : World} {p n c g : Nat} {A : Option Addr} {bs : List Int} (h : Wr w p A n c bs) {cs : Array Value} {t : TypeId} {fr : Nat × Nat} (hg : w.heap[g]? = some (.cells cs t fr)) (ht : 5 ≠ t) : (Value.slice A n c).ownBlock ≠ some g := own_ne_blk h.own hg ht
/-- Behind an append and the store into the box. -/
theorem Wr.put {w wa w1 : World} {p n c m n' c' : Nat} {A A' : Option Addr} {bs xs : List Int} (h : Wr w p A n c bs) (hb : Below w.heap.size w wa) (hown : w1.ownsRow 0 5 1 (.slice A' n' c') (n + m) (bcells bs ++ bcells xs)) (hm : xs.length = m) (hn : n' = n + m)
    (hg : wa.grownBy w1 (Value.slice A n c).ownBlock) (hat : (Value.slice A' n' c').ownBlock = (Value.slice A n c).ownBlock ∨ (Value.slice A' n' c').ownBlock = some wa.heap.size) : Wrs w p (.slice A n c) (w1.setCell ⟨p, 0, none⟩ (.slice A' n' c')) A' n' c' (bs ++ xs) := by
  subst hn
  have ha := h.below hb
  have hbox1 : w1.heap[p]? = some (.cells #[.slice A n c] 233 (0, 0)) := blk_grown ha.box hg (fun e => own_ne_blk ha.own ha.box (by decide) e.symm)
  have hne : ∀ g, (Value.slice A' (n + m) c').ownBlock = some g → g ≠ p := fun g hg' e => own_ne_blk hown hbox1 (by decide) (e ▸ hg')
  have hk : Keeps (WF p (.slice A n c)) w w1 := (Keeps.of_below (F := WF p (.slice A n c)) hb).grown hg (fun g hg' _ => .inr hg')
  refine ⟨⟨blk_set hbox1 0 _, own_keep (bcells_append bs xs ▸ hown) (fun g hg' => Below.heap_setCell _ _ _ g (hne g hg')), by rw [List.length_append, h.len, hm]⟩, hk.setCell (fun _ => .inl rfl) _, fun g hg' => ?_⟩
  rcases hat with e | e
  · exact .inl (e ▸ hg')
  · rw [e] at hg'
    injection hg' with hg'
    exact .inr (hg' ▸ hb.size)
theorem wrap_u64n {a : Nat} (ha : a < 18446744073709551616) : IntKind.u64.wrap (a : Int) = (a : Int) := by rw [IntKind.wrap_u64]; omega
set_option maxRecDepth 100000 in
set_option maxHeartbeats 4000000 in
theorem wcount_calls (w : World) (p n c : Nat) (A : Option Addr) (bs : List Int) (h : Wr w p A n c bs) (v : Nat) (hv : v < 9223372036854775808) (hn : n ≤ 1000000) :
    Calls Tryz.prog 146 #[.pointer (some ⟨p, 0, none⟩), .int .i64 v] w fun e w' => ∃ A' n' c', e = .returned (.tuple #[]) ∧ Wrs w p (.slice A n c) w' A' n' c' (bs ++ varB v) := by
  have hv64 : v < 18446744073709551616 := by omega
  have hw := wrap_u64n hv64
  have hten := varB_ten hv64
  have cq : w.cell? ⟨p, 0, none⟩ = some (.slice A n c) := blk_cell h.box 0
  have H := Lib.hid h
  clear h
  go_enter Tryz.func146, Tryz.ntmps146
  go_wp2_with fail
  go_region_law (
    first
      | (go_simp; go_at_call 145; refine (var_calls _ v hv64).mono ?_; rintro e w9 ⟨B, d, rfl, ho, hb9⟩; have hB9 : Below w.heap.size w w9 := ⟨hb9.os, hb9.tape, hb9.output, hb9.size, hb9.block⟩; have H9 := Lib.hid (H.out.below hB9); have c9 : w9.cell? ⟨p, 0, none⟩ = some (.slice A n c) := blk_cell H9.out.box 0; have HL := Lib.hid (own_lie ho); have HB9 := Lib.hid hB9; clear ho hb9 hB9)
      | (refine step_app _ (by rfl) (.tmp 8) (.tmp 11) _ (by rfl) 5 Tryz.underlying134 byte_info rfl (by decide) (by decide) 0 (n := n) (xs := bcells bs) (by rfl) (by exact H9.out.own) (news := bcells (varB v)) (by rfl) (bcells_length _) (by exact HL.out) (bcells_one _) (by omega) (Nat.zero_le _) ?_; intro v' w11 hown hg hat; obtain ⟨A6, c6, rfl, _, _, _⟩ := own_shape hown; have HW := Lib.hid (H.out.put HB9.out hown rfl rfl hg hat); have hx11 := blk_grown H9.out.box hg (fun e => own_ne_blk H9.out.own H9.out.box (by decide) e.symm); have c11 := blk_cell hx11 0; have f11 := blk_frozen hx11 0; clear hown hg hat hx11))
  all_goals
    go_end0
    exact ⟨_, _, _, rfl, HW.out⟩
theorem flat_take {α : Type} (f : α → List Int) {xs : List α} {k : Nat} {x : α} (h : xs[k]? = some x) : (xs.take (k + 1)).flatMap f = (xs.take k).flatMap f ++ f x := by
  obtain ⟨hk, rfl⟩ := List.getElem?_eq_some_iff.1 h
  rw [List.take_succ_eq_append_getElem hk, List.flatMap_append]; simp
theorem flat_le {α : Type} (f : α → List Int) (xs : List α) (k : Nat) : ((xs.take k).flatMap f).length ≤ (xs.flatMap f).length := by
  have h : xs.flatMap f = (xs.take k).flatMap f ++ (xs.drop k).flatMap f := by rw [← List.flatMap_append, List.take_append_drop]
  rw [h, List.length_append]; omega
theorem flat_all {α : Type} (f : α → List Int) {xs : List α} {k : Nat} (hk : xs.length ≤ k) : (xs.take k).flatMap f = xs.flatMap f := by rw [List.take_of_length_le hk]
/-- A type's bytes; the bytes of a list of types. -/
def kindB (t : Ty) : List Int := varB t.kind.toNat ++ varB t.n.toNat
def typesB (xs : List Ty) : List Int := varB xs.length ++ xs.flatMap kindB
theorem put_any (w : World) (x : Ty) (f0 : (Lit.int .i64 x.kind).wf = true) (f1 : (Lit.int .i64 x.n).wf = true) : Calls Tryz.prog 148 #[.agg #[.int .i64 x.kind, .int .i64 x.n]] w fun e w' => ∃ A c, e = .returned (.slice A (kindB x).length c) ∧ w'.ownsRow w.heap.size 5 1 (.slice A (kindB x).length c) (kindB x).length (bcells (kindB x)) ∧ Below w.heap.size w w' := by
  have h0 := bounds_i64 f0
  have h1 := bounds_i64 f1
  exact kput_calls w x.kind x.n x.kind.toNat x.n.toNat (by omega) (by omega) (by omega) (by omega)
theorem Wrs.row {α : Type} {d : Rd α} {S : Nat → Prop} {w w1 : World} {p n c : Nat} {v0 : Value} {A B : Option Addr} {bs : List Int} {xs : List α} (h : Wrs w p v0 w1 A n c bs) (hS : ∀ b, S b → b < w.heap.size ∧ ¬ WF p v0 b) (row : d.Row S w B xs) : d.Row S w1 B xs := row.keep (fun b hb => h.keep.block b (hS b hb).1 (hS b hb).2)
set_option maxRecDepth 100000 in
set_option maxHeartbeats 4000000 in
theorem wtypes_calls {S : Nat → Prop} (w : World) (p n c : Nat) (A : Option Addr) (bs : List Int) (h : Wr w p A n c bs) (B : Option Addr) (m d : Nat) (xs : List Ty) (hm : xs.length = m) (hm2 : m ≤ 100000) (hT : bs.length + (typesB xs).length ≤ 1000000) (hS : ∀ b, S b → b < w.heap.size ∧ ¬ WF p (.slice A n c) b) (row : k_ty.Row S w B xs) :
    Calls Tryz.prog 147 #[.pointer (some ⟨p, 0, none⟩), .slice B m d] w fun e w' => ∃ A' n' c', e = .returned (.tuple #[]) ∧ Wrs w p (.slice A n c) w' A' n' c' (bs ++ typesB xs) := by
  have H := Lib.hid h
  have HN := Lib.hid hm
  have HT := Lib.hid hT
  have HS := Lib.hid hS
  have HR := Lib.hid row
  have hn : n ≤ 1000000 := by rw [← h.len]; omega
  clear h hm hT hS row
  go_enter Tryz.func147, Tryz.ntmps147
  go_wp2_with (go_at_call 146; refine (wcount_calls _ p n c A bs H.out m (by omega) hn).mono ?_; rintro e w1 ⟨A1, n1, c1, rfl, hW⟩; have HW1 := Lib.hid hW; clear hW)
  go_loopw [5, 12] (fun _ ix wr => ∃ (k n' c' : Nat) (A' : Option Addr), k ≤ m ∧ ix = .int .i64 k ∧ Hid (Wrs w p (.slice A n c) wr A' n' c' ((bs ++ varB m) ++ (xs.take k).flatMap kindB))) (fun _ ix _ => m - (intOf ix).toNat)
  case atStart => exact ⟨0, _, _, _, Nat.zero_le _, rfl, Lib.hid (by simpa using HW1.out)⟩
  case round =>
    obtain ⟨k, n2, c2, A2, hk, rfl, HW⟩ := hrel
    by_cases hlt : k < m
    · obtain ⟨x, hx⟩ : ∃ x, xs[k]? = some x := ⟨_, List.getElem?_eq_getElem (by have := HN.out; omega)⟩
      obtain ⟨b, o, rfl, hSb, e0, e1, f0, f1⟩ := k_ty_at (HW.out.row HS.out HR.out) hx
      have hlen : n2 + (kindB x).length ≤ 1000000 := by
        have h1 := HW.out.wr.len
        have h2 := flat_le kindB xs (k + 1)
        have h3 := HT.out
        rw [flat_take kindB hx] at h2
        simp only [typesB, List.length_append, HN.out] at h1 h2 h3
        omega
      have HX := Lib.hid (flat_take kindB hx)
      have KP := Lib.hid (fun W => put_any W x f0 f1)
      have HA := Lib.hid (HW.out.below ((Below.refl _ _).alloc (Nat.le_refl _) (Obj.cells #[.int .i64 x.kind, .int .i64 x.n] 23)))
      have cq : (wr.alloc (Obj.cells #[.int .i64 x.kind, .int .i64 x.n] 23)).cell? ⟨p, 0, none⟩ = some (.slice A2 n2 c2) := blk_cell HA.out.wr.box 0
      have hpl : p < wr.heap.size := blk_lt HW.out.wr.box
      clear hx f0 f1 hSb
      generalize kindB x = ys at *
      go_wp2_with fail
      go_region_law (
        first
          | (go_simp; go_at_call 148; refine (KP.out _).mono ?_; rintro e w9 ⟨C, d9, rfl, ho, hb9⟩; have hB9 : Below (wr.alloc (Obj.cells #[.int .i64 x.kind, .int .i64 x.n] 23)).heap.size (wr.alloc (Obj.cells #[.int .i64 x.kind, .int .i64 x.n] 23)) w9 := ⟨hb9.os, hb9.tape, hb9.output, hb9.size, hb9.block⟩; have H9 := Lib.hid (HA.out.wr.below hB9); have c9 : w9.cell? ⟨p, 0, none⟩ = some (.slice A2 n2 c2) := blk_cell H9.out.box 0; have HL := Lib.hid (own_lie ho); have HB9 := Lib.hid hB9; clear ho hb9 hB9)
          | (refine step_app _ (by rfl) (.tmp 20) (.tmp 22) _ (by rfl) 5 Tryz.underlying134 byte_info rfl (by decide) (by decide) 0 (n := n2) (by rfl) (by exact H9.out.own) (news := bcells ys) (by rfl) (bcells_length _) (by exact HL.out) (bcells_one _) (by omega) (Nat.zero_le _) ?_; intro v' w11 hown hg hat; obtain ⟨A6, c6, rfl, _, _, _⟩ := own_shape hown; have HQ := Lib.hid (HA.out.step (HA.out.wr.put HB9.out hown rfl rfl hg hat)); have hx11 := blk_grown H9.out.box hg (fun e => own_ne_blk H9.out.own H9.out.box (by decide) e.symm); have c11 := blk_cell hx11 0; have f11 := blk_frozen hx11 0; clear hown hg hat hx11))
      all_goals
        clear c9 c11 f11 cq
        generalize w11.setCell ⟨p, 0, none⟩ (.slice A6 (n2 + ys.length) c6) = wS at *
        go_wp2
        go_roundw
        case rel => exact ⟨k + 1, _, _, _, by omega, by go_num, Lib.hid (by rw [HX.out, ← List.append_assoc]; exact HQ.out)⟩
        case measure => simp [intOf]; omega
    · go_wp2
      go_end0
      exact ⟨_, _, _, rfl, by have := HW.out; rw [flat_all kindB (by have := HN.out; omega)] at this; unfold typesB; rw [HN.out, ← List.append_assoc]; exact this⟩
end Go.Proofs.YtdmmjckhpagibaaGreatDoor
