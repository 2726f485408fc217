/- McWr: module's writer: bytes that grow. McRec: module.records, module.imports, module.numbers, module.texts. Printed by gen_mcwr.py of this repo. McFun: module.functions. Printed by gen_mcwr.py of this repo. McEnc: module.Encode. McSane: sane.Check, sane.Main. -/
import Derived.Test.YtmceaeoeakkppaaGreatDoorZC
import Derived.Lib.AppendStr
import Derived.Deep.RegionHeld3
namespace Go.Proofs.YtmceaeoeakkppaaGreatDoor
open Go.RowKit Go.Sort
set_option linter.unusedVariables false
/-- A writer that has written bs. -/
structure Wr (w : World) (p : Nat) (A : Option Addr) (n c : Nat) (bs : List Int) : Prop where
  box : w.heap[p]? = some (.cells #[.slice A n c] 278 (0, 0))
  own : w.ownsRow 0 5 1 (.slice A n c) n (bcells bs)
  len : bs.length = n
def WF (p : Nat) (v : Value) : Nat → Prop := fun b => b = p ∨ v.ownBlock = some b
/-- From w0, where it had the slice v0, to w. -/
structure Wrs (w0 : World) (p : Nat) (v0 : Value) (w : World) (A : Option Addr) (n c : Nat) (bs : List Int) : Prop where
  wr : Wr w p A n c bs
  keep : Keeps (WF p v0) w0 w
  src : ∀ g, (Value.slice A n c).ownBlock = some g → v0.ownBlock = some g ∨ w0.heap.size ≤ g
theorem Wr.below {w w' : World} {p n c : Nat} {A : Option Addr} {bs : List Int} (h : Wr w p A n c bs) (hb : Below w.heap.size w w') : Wr w' p A n c bs := ⟨blk_below h.box hb (blk_lt h.box), own_below h.own hb, h.len⟩
theorem Wr.wrs {w : World} {p n c : Nat} {A : Option Addr} {bs : List Int} (h : Wr w p A n c bs) : Wrs w p (.slice A n c) w A n c bs := ⟨h, Keeps.refl _ _, fun g h => .inl h⟩
theorem Wrs.step {w0 w1 w2 : World} {p n c n' c' : Nat} {v0 : Value} {A A' : Option Addr} {bs bs' : List Int} (h : Wrs w0 p v0 w1 A n c bs) (k : Wrs w1 p (.slice A n c) w2 A' n' c' bs') : Wrs w0 p v0 w2 A' n' c' bs' :=
  ⟨k.wr, h.keep.step k.keep (fun x hx hf => by
    rcases hf with rfl | hf
    · exact .inl rfl
    · rcases h.src x hf with h2 | h2
      · exact .inr h2
      · omega),
   fun g hg => by
    rcases k.src g hg with h2 | h2
    · exact h.src g h2
    · exact .inr (Nat.le_trans h.keep.size h2)⟩
theorem Wrs.below {w0 w1 w2 : World} {p n c : Nat} {v0 : Value} {A : Option Addr} {bs : List Int} (h : Wrs w0 p v0 w1 A n c bs) (hb : Below w1.heap.size w1 w2) : Wrs w0 p v0 w2 A n c bs :=
  ⟨h.wr.below hb, h.keep.step (Keeps.of_below (F := fun _ => False) hb) (fun _ _ h => h.elim), h.src⟩
theorem Wrs.box {w0 w1 : World} {p n c : Nat} {v0 : Value} {A : Option Addr} {bs : List Int} (h : Wrs w0 p v0 w1 A n c bs) {g : Nat} {o : Go.Obj} (hg : w0.heap[g]? = some o) (h1 : g ≠ p) (h2 : v0.ownBlock ≠ some g) : w1.heap[g]? = some o :=
  blk_keeps hg h.keep (fun hf => by rcases hf with hf | hf; exact h1 hf; exact h2 hf)
theorem Wr.ne {w : World} {p n c g : Nat} {A : Option Addr} {bs : List Int} (h : Wr w p A n c bs) {cs : Array Value} {t : TypeId} {fr : Nat × Nat} (hg : w.heap[g]? = some (.cells cs t fr)) (ht : 5 ≠ t) : (Value.slice A n c).ownBlock ≠ some g := own_ne_blk h.own hg ht
/-- Behind an append and the store into the box. -/
theorem Wr.put {w wa w1 : World} {p n c m n' c' : Nat} {A A' : Option Addr} {bs xs : List Int} (h : Wr w p A n c bs) (hb : Below w.heap.size w wa) (hown : w1.ownsRow 0 5 1 (.slice A' n' c') (n + m) (bcells bs ++ bcells xs)) (hm : xs.length = m) (hn : n' = n + m)
    (hg : wa.grownBy w1 (Value.slice A n c).ownBlock) (hat : (Value.slice A' n' c').ownBlock = (Value.slice A n c).ownBlock ∨ (Value.slice A' n' c').ownBlock = some wa.heap.size) : Wrs w p (.slice A n c) (w1.setCell ⟨p, 0, none⟩ (.slice A' n' c')) A' n' c' (bs ++ xs) := by
  subst hn
  have ha := h.below hb
  have hbox1 : w1.heap[p]? = some (.cells #[.slice A n c] 278 (0, 0)) := blk_grown ha.box hg (fun e => own_ne_blk ha.own ha.box (by decide) e.symm)
  have hne : ∀ g, (Value.slice A' (n + m) c').ownBlock = some g → g ≠ p := fun g hg' e => own_ne_blk hown hbox1 (by decide) (e ▸ hg')
  have hk : Keeps (WF p (.slice A n c)) w w1 := (Keeps.of_below (F := WF p (.slice A n c)) hb).grown hg (fun g hg' _ => .inr hg')
  refine ⟨⟨blk_set hbox1 0 _, own_keep (bcells_append bs xs ▸ hown) (fun g hg' => Below.heap_setCell _ _ _ g (hne g hg')), by rw [List.length_append, h.len, hm]⟩, hk.setCell (fun _ => .inl rfl) _, fun g hg' => ?_⟩
  rcases hat with e | e
  · exact .inl (e ▸ hg')
  · rw [e] at hg'
    injection hg' with hg'
    exact .inr (hg' ▸ hb.size)
theorem wrap_u64n {a : Nat} (ha : a < 18446744073709551616) : IntKind.u64.wrap (a : Int) = (a : Int) := by rw [IntKind.wrap_u64]; omega
set_option maxRecDepth 100000 in
set_option maxHeartbeats 4000000 in
theorem wcount_calls (w : World) (p n c : Nat) (A : Option Addr) (bs : List Int) (h : Wr w p A n c bs) (v : Nat) (hv : v < 9223372036854775808) (hn : n ≤ 1000000) :
    Calls Tryz.prog 208 #[.pointer (some ⟨p, 0, none⟩), .int .i64 v] w fun e w' => ∃ A' n' c', e = .returned (.tuple #[]) ∧ Wrs w p (.slice A n c) w' A' n' c' (bs ++ varB v) := by
  have hv64 : v < 18446744073709551616 := by omega
  have hw := wrap_u64n hv64
  have hten := varB_ten hv64
  have cq : w.cell? ⟨p, 0, none⟩ = some (.slice A n c) := blk_cell h.box 0
  have H := Lib.hid h
  clear h
  go_enter Tryz.func208, Tryz.ntmps208
  go_wp2_with fail
  go_region_law (
    first
      | (go_simp; go_at_call 207; refine (var_calls _ v hv64).mono ?_; rintro e w9 ⟨B, d, rfl, ho, hb9⟩; have hB9 : Below w.heap.size w w9 := ⟨hb9.os, hb9.tape, hb9.output, hb9.size, hb9.block⟩; have H9 := Lib.hid (H.out.below hB9); have c9 : w9.cell? ⟨p, 0, none⟩ = some (.slice A n c) := blk_cell H9.out.box 0; have HL := Lib.hid (own_lie ho); have HB9 := Lib.hid hB9; clear ho hb9 hB9)
      | (refine step_app _ (by rfl) (.tmp 8) (.tmp 11) _ (by rfl) 5 Tryz.underlying74 byte_info rfl (by decide) (by decide) 0 (n := n) (xs := bcells bs) (by rfl) (by exact H9.out.own) (news := bcells (varB v)) (by rfl) (bcells_length _) (by exact HL.out) (bcells_one _) (by omega) (Nat.zero_le _) ?_; intro v' w11 hown hg hat; obtain ⟨A6, c6, rfl, _, _, _⟩ := own_shape hown; have HW := Lib.hid (H.out.put HB9.out hown rfl rfl hg hat); have hx11 := blk_grown H9.out.box hg (fun e => own_ne_blk H9.out.own H9.out.box (by decide) e.symm); have c11 := blk_cell hx11 0; have f11 := blk_frozen hx11 0; clear hown hg hat hx11))
  all_goals
    go_end0
    exact ⟨_, _, _, rfl, HW.out⟩
theorem flat_take {α : Type} (f : α → List Int) {xs : List α} {k : Nat} {x : α} (h : xs[k]? = some x) : (xs.take (k + 1)).flatMap f = (xs.take k).flatMap f ++ f x := by
  obtain ⟨hk, rfl⟩ := List.getElem?_eq_some_iff.1 h
  rw [List.take_succ_eq_append_getElem hk, List.flatMap_append]; simp
theorem flat_le {α : Type} (f : α → List Int) (xs : List α) (k : Nat) : ((xs.take k).flatMap f).length ≤ (xs.flatMap f).length := by
  have h : xs.flatMap f = (xs.take k).flatMap f ++ (xs.drop k).flatMap f := by rw [← List.flatMap_append, List.take_append_drop]
  rw [h, List.length_append]; omega
theorem flat_all {α : Type} (f : α → List Int) {xs : List α} {k : Nat} (hk : xs.length ≤ k) : (xs.take k).flatMap f = xs.flatMap f := by rw [List.take_of_length_le hk]
/-- A type's bytes; the bytes of a list of types. -/
def kindB (t : Ty) : List Int := varB t.kind.toNat ++ varB t.n.toNat
def typesB (xs : List Ty) : List Int := varB xs.length ++ xs.flatMap kindB
theorem put_any (w : World) (x : Ty) (f0 : (Lit.int .i64 x.kind).wf = true) (f1 : (Lit.int .i64 x.n).wf = true) : Calls Tryz.prog 210 #[.agg #[.int .i64 x.kind, .int .i64 x.n]] w fun e w' => ∃ A c, e = .returned (.slice A (kindB x).length c) ∧ w'.ownsRow w.heap.size 5 1 (.slice A (kindB x).length c) (kindB x).length (bcells (kindB x)) ∧ Below w.heap.size w w' := by
  have h0 := bounds_i64 f0
  have h1 := bounds_i64 f1
  exact kput_calls w x.kind x.n x.kind.toNat x.n.toNat (by omega) (by omega) (by omega) (by omega)
theorem Wrs.row {α : Type} {d : Rd α} {S : Nat → Prop} {w w1 : World} {p n c : Nat} {v0 : Value} {A B : Option Addr} {bs : List Int} {xs : List α} (h : Wrs w p v0 w1 A n c bs) (hS : ∀ b, S b → b < w.heap.size ∧ ¬ WF p v0 b) (row : d.Row S w B xs) : d.Row S w1 B xs := row.keep (fun b hb => h.keep.block b (hS b hb).1 (hS b hb).2)
set_option maxRecDepth 100000 in
set_option maxHeartbeats 4000000 in
theorem wtypes_calls {S : Nat → Prop} (w : World) (p n c : Nat) (A : Option Addr) (bs : List Int) (h : Wr w p A n c bs) (B : Option Addr) (m d : Nat) (xs : List Ty) (hm : xs.length = m) (hm2 : m ≤ 100000) (hT : bs.length + (typesB xs).length ≤ 1000000) (hS : ∀ b, S b → b < w.heap.size ∧ ¬ WF p (.slice A n c) b) (row : k_ty.Row S w B xs) :
    Calls Tryz.prog 209 #[.pointer (some ⟨p, 0, none⟩), .slice B m d] w fun e w' => ∃ A' n' c', e = .returned (.tuple #[]) ∧ Wrs w p (.slice A n c) w' A' n' c' (bs ++ typesB xs) := by
  have H := Lib.hid h
  have HN := Lib.hid hm
  have HT := Lib.hid hT
  have HS := Lib.hid hS
  have HR := Lib.hid row
  have hn : n ≤ 1000000 := by rw [← h.len]; omega
  clear h hm hT hS row
  go_enter Tryz.func209, Tryz.ntmps209
  go_wp2_with (go_at_call 208; refine (wcount_calls _ p n c A bs H.out m (by omega) hn).mono ?_; rintro e w1 ⟨A1, n1, c1, rfl, hW⟩; have HW1 := Lib.hid hW; clear hW)
  go_loopw [5, 12] (fun _ ix wr => ∃ (k n' c' : Nat) (A' : Option Addr), k ≤ m ∧ ix = .int .i64 k ∧ Hid (Wrs w p (.slice A n c) wr A' n' c' ((bs ++ varB m) ++ (xs.take k).flatMap kindB))) (fun _ ix _ => m - (intOf ix).toNat)
  case atStart => exact ⟨0, _, _, _, Nat.zero_le _, rfl, Lib.hid (by simpa using HW1.out)⟩
  case round =>
    obtain ⟨k, n2, c2, A2, hk, rfl, HW⟩ := hrel
    by_cases hlt : k < m
    · obtain ⟨x, hx⟩ : ∃ x, xs[k]? = some x := ⟨_, List.getElem?_eq_getElem (by have := HN.out; omega)⟩
      obtain ⟨b, o, rfl, hSb, e0, e1, f0, f1⟩ := k_ty_at (HW.out.row HS.out HR.out) hx
      have hlen : n2 + (kindB x).length ≤ 1000000 := by
        have h1 := HW.out.wr.len
        have h2 := flat_le kindB xs (k + 1)
        have h3 := HT.out
        rw [flat_take kindB hx] at h2
        simp only [typesB, List.length_append, HN.out] at h1 h2 h3
        omega
      have HX := Lib.hid (flat_take kindB hx)
      have KP := Lib.hid (fun W => put_any W x f0 f1)
      have HA := Lib.hid (HW.out.below ((Below.refl _ _).alloc (Nat.le_refl _) (Obj.cells #[.int .i64 x.kind, .int .i64 x.n] 58)))
      have cq : (wr.alloc (Obj.cells #[.int .i64 x.kind, .int .i64 x.n] 58)).cell? ⟨p, 0, none⟩ = some (.slice A2 n2 c2) := blk_cell HA.out.wr.box 0
      have hpl : p < wr.heap.size := blk_lt HW.out.wr.box
      clear hx f0 f1 hSb
      generalize kindB x = ys at *
      go_wp2_with fail
      go_region_law (
        first
          | (go_simp; go_at_call 210; refine (KP.out _).mono ?_; rintro e w9 ⟨C, d9, rfl, ho, hb9⟩; have hB9 : Below (wr.alloc (Obj.cells #[.int .i64 x.kind, .int .i64 x.n] 58)).heap.size (wr.alloc (Obj.cells #[.int .i64 x.kind, .int .i64 x.n] 58)) w9 := ⟨hb9.os, hb9.tape, hb9.output, hb9.size, hb9.block⟩; have H9 := Lib.hid (HA.out.wr.below hB9); have c9 : w9.cell? ⟨p, 0, none⟩ = some (.slice A2 n2 c2) := blk_cell H9.out.box 0; have HL := Lib.hid (own_lie ho); have HB9 := Lib.hid hB9; clear ho hb9 hB9)
          | (refine step_app _ (by rfl) (.tmp 20) (.tmp 22) _ (by rfl) 5 Tryz.underlying74 byte_info rfl (by decide) (by decide) 0 (n := n2) (by rfl) (by exact H9.out.own) (news := bcells ys) (by rfl) (bcells_length _) (by exact HL.out) (bcells_one _) (by omega) (Nat.zero_le _) ?_; intro v' w11 hown hg hat; obtain ⟨A6, c6, rfl, _, _, _⟩ := own_shape hown; have HQ := Lib.hid (HA.out.step (HA.out.wr.put HB9.out hown rfl rfl hg hat)); have hx11 := blk_grown H9.out.box hg (fun e => own_ne_blk H9.out.own H9.out.box (by decide) e.symm); have c11 := blk_cell hx11 0; have f11 := blk_frozen hx11 0; clear hown hg hat hx11))
      all_goals
        clear c9 c11 f11 cq
        generalize w11.setCell ⟨p, 0, none⟩ (.slice A6 (n2 + ys.length) c6) = wS at *
        go_wp2
        go_roundw
        case rel => exact ⟨k + 1, _, _, _, by omega, by go_num, Lib.hid (by rw [HX.out, ← List.append_assoc]; exact HQ.out)⟩
        case measure => simp [intOf]; omega
    · go_wp2
      go_end0
      exact ⟨_, _, _, rfl, by have := HW.out; rw [flat_all kindB (by have := HN.out; omega)] at this; unfold typesB; rw [HN.out, ← List.append_assoc]; exact this⟩
end Go.Proofs.YtmceaeoeakkppaaGreatDoor
namespace Go.Proofs.YtmceaeoeakkppaaGreatDoor
open Go.RowKit Go.Sort
set_option linter.unusedVariables false

theorem own_up {w : World} {base base' : Nat} {e : TypeId} {size : Nat} {v : Value} {n : Nat} {xs : List Value} (h : w.ownsRow base e size v n xs) (hg : ∀ g, v.ownBlock = some g → base' ≤ g) : w.ownsRow base' e size v n xs := by
  refine ⟨h.1, ?_⟩
  rcases h.2 with h2 | ⟨g, cap, cur, h1, h2, h3⟩
  · exact .inl h2
  · exact .inr ⟨g, cap, cur, h1, hg g (by rw [h1]; rfl), h3⟩
/-- What a part of a module comes to. -/
def Part (w : World) (L : List Int) (e : Ending) (w' : World) : Prop := ∃ A c, e = .returned (.slice A L.length c) ∧ w'.ownsRow w.heap.size 5 1 (.slice A L.length c) L.length (bcells L) ∧ Below w.heap.size w w'
theorem Wrs.done {w W1 w' : World} {p n c : Nat} {A : Option Addr} {L : List Int} (h : Wrs W1 p (.slice none 0 0) w' A n c L) (hb : Below w.heap.size w W1) (hp : w.heap.size ≤ p) : Part w L (.returned (.slice A n c)) w' := by
  have hn := h.wr.len
  subst hn
  refine ⟨A, c, rfl, own_up h.wr.own (fun g hg => ?_), hb.trans (h.keep.below hb.size (fun x hx hf => ?_))⟩
  · rcases h.src g hg with h2 | h2
    · cases h2
    · exact Nat.le_trans hb.size h2
  · rcases hf with rfl | hf
    · omega
    · cases hf
theorem Wr.start (w : World) (o : Go.Obj) : Wr ((w.alloc o).alloc (Obj.cells #[.slice none 0 0] 278)) (w.heap.size + 1) none 0 0 [] := ⟨blk_new2 w o _, ⟨by simp [bcells], .inl ⟨rfl, rfl⟩⟩, rfl⟩
theorem start_far (w : World) {S : Nat → Prop} (hS : ∀ b, S b → b < w.heap.size) (o o' : Go.Obj) : ∀ b, S b → b < ((w.alloc o).alloc o').heap.size ∧ ¬ WF (w.heap.size + 1) (.slice none 0 0) b := fun b h => ⟨Nat.lt_of_lt_of_le (hS b h) (by simp; omega), fun hf => by
  have := hS b h
  rcases hf with hf | hf
  · omega
  · cases hf⟩
theorem Wrs.far {S : Nat → Prop} {w w1 : World} {p n c : Nat} {A : Option Addr} {bs : List Int} {v0 : Value} (h : Wrs w p v0 w1 A n c bs) (hS : ∀ b, S b → b < w.heap.size ∧ ¬ WF p v0 b) : ∀ b, S b → b < w1.heap.size ∧ ¬ WF p (.slice A n c) b := fun b hb => ⟨Nat.lt_of_lt_of_le (hS b hb).1 h.keep.size, fun hf => by
  rcases hf with hf | hf
  · exact (hS b hb).2 (.inl hf)
  · rcases h.src b hf with h2 | h2
    · exact (hS b hb).2 (.inr h2)
    · have := (hS b hb).1; omega⟩
theorem Wrs.row2 {α : Type} {d : Rd α} {S : Nat → Prop} {w wa wb : World} {p na ca nb cb : Nat} {v0 : Value} {A A' B : Option Addr} {bs bs' : List Int} {xs : List α} (h : Wrs w p v0 wa A na ca bs) (k : Wrs w p v0 wb A' nb cb bs') (hS : ∀ b, S b → b < w.heap.size ∧ ¬ WF p v0 b) (row : d.Row S wa B xs) : d.Row S wb B xs := row.keep (fun b hb => (k.keep.block b (hS b hb).1 (hS b hb).2).trans (h.keep.block b (hS b hb).1 (hS b hb).2).symm)
def recsB (xs : List (List Ty)) : List Int := varB xs.length ++ xs.flatMap typesB
def impB (i : Imp) : List Int := typesB i.args ++ kindB i.ret
def impsB (xs : List Imp) : List Int := varB xs.length ++ xs.flatMap impB
def numB (v : Int) : List Int := fixB v.toNat 8
def numsB (xs : List Int) : List Int := varB xs.length ++ xs.flatMap numB
def strB (s : ByteArray) : List Int := s.data.toList.map fun b => (b.toNat : Int)
def textB (s : ByteArray) : List Int := varB s.size ++ strB s
def textsB (xs : List ByteArray) : List Int := varB xs.length ++ xs.flatMap textB
set_option maxRecDepth 100000 in
set_option maxHeartbeats 4000000 in
theorem records_calls {S : Nat → Prop} (w : World) (B0 B1 B2 B3 B4 : Option Addr) (m0 m1 m2 m3 m4 d0 d1 d2 d3 d4 : Nat) (xs : List (List Ty)) (hm : xs.length = m0) (hm2 : m0 ≤ 100000) (hT0 : ∀ x ∈ xs, x.length ≤ 1000) (hT : (recsB xs).length ≤ 1000000) (hS : ∀ b, S b → b < w.heap.size) (row : (Rd.slice k_ty).Row S w B0 xs) :
    Calls Tryz.prog 151 #[.agg #[.slice B0 m0 d0, .slice B1 m1 d1, .slice B2 m2 d2, .slice B3 m3 d3, .slice B4 m4 d4]] w fun e w' => Part w (recsB xs) e w' := by
  have HN := Lib.hid hm
  have HT := Lib.hid hT
  have HS := Lib.hid (start_far w hS (Obj.cells #[.slice B0 m0 d0, .slice B1 m1 d1, .slice B2 m2 d2, .slice B3 m3 d3, .slice B4 m4 d4] 28) (Obj.cells #[.slice none 0 0] 278))
  have hV : Below w.heap.size w ((w.alloc (Obj.cells #[.slice B0 m0 d0, .slice B1 m1 d1, .slice B2 m2 d2, .slice B3 m3 d3, .slice B4 m4 d4] 28)).alloc (Obj.cells #[.slice none 0 0] 278)) := below_al2 (Below.refl _ _)
  have HR := Lib.hid (row.keep (fun b h => hV.block b (hS b h)))
  have HV := Lib.hid hV
  have HX := Lib.hid (blk_alloc (blk_new w (Obj.cells #[.slice B0 m0 d0, .slice B1 m1 d1, .slice B2 m2 d2, .slice B3 m3 d3, .slice B4 m4 d4] 28)) (Obj.cells #[.slice none 0 0] 278))
  have HW0 := Lib.hid (Wr.start w (Obj.cells #[.slice B0 m0 d0, .slice B1 m1 d1, .slice B2 m2 d2, .slice B3 m3 d3, .slice B4 m4 d4] 28))
  have b0 : ((w.alloc (Obj.cells #[.slice B0 m0 d0, .slice B1 m1 d1, .slice B2 m2 d2, .slice B3 m3 d3, .slice B4 m4 d4] 28)).alloc (Obj.cells #[.slice none 0 0] 278)).cell? ⟨w.heap.size, 0, none⟩ = some (.slice B0 m0 d0) := blk_cell HX.out 0
  have hpx : w.heap.size < ((w.alloc (Obj.cells #[.slice B0 m0 d0, .slice B1 m1 d1, .slice B2 m2 d2, .slice B3 m3 d3, .slice B4 m4 d4] 28)).alloc (Obj.cells #[.slice none 0 0] 278)).heap.size := by simp; omega
  clear hm hT hS row hV
  go_enter Tryz.func151, Tryz.ntmps151
  go_wp2_with fail
  generalize ((w.alloc (Obj.cells #[.slice B0 m0 d0, .slice B1 m1 d1, .slice B2 m2 d2, .slice B3 m3 d3, .slice B4 m4 d4] 28)).alloc (Obj.cells #[.slice none 0 0] 278)) = V at *
  go_wp2_with (go_at_call 208; refine (wcount_calls V _ 0 0 none [] HW0.out m0 (by omega) (by omega)).mono ?_; rintro e w1 ⟨A1, n1, c1, rfl, hW⟩; have HW1 := Lib.hid hW; have q0 : w1.cell? ⟨w.heap.size, 0, none⟩ = some (.slice B0 m0 d0) := blk_cell (hW.box HX.out (by omega) (fun h => by cases h)) 0; clear hW)
  go_loopw [5, 16] (fun _ ix wr => ∃ (k n' c' : Nat) (A' : Option Addr), k ≤ m0 ∧ ix = .int .i64 k ∧ Hid (Wrs V (w.heap.size + 1) (.slice none 0 0) wr A' n' c' (varB m0 ++ (xs.take k).flatMap typesB))) (fun _ ix _ => m0 - (intOf ix).toNat)
  case atStart => exact ⟨0, _, _, _, Nat.zero_le _, rfl, Lib.hid (by simpa using HW1.out)⟩
  case round =>
    obtain ⟨k, n2, c2, A2, hk, rfl, HW⟩ := hrel
    by_cases hlt : k < m0
    · obtain ⟨x, hx⟩ : ∃ x, xs[k]? = some x := ⟨_, List.getElem?_eq_getElem (by have := HN.out; omega)⟩
      have hlen : n2 + (typesB x).length ≤ 1000000 := by
        have h1 := HW.out.wr.len
        have h2 := flat_le typesB xs (k + 1)
        have h3 := HT.out
        rw [flat_take typesB hx] at h2
        simp only [recsB, List.length_append, HN.out] at h1 h2 h3
        omega
      have HX2 := Lib.hid (flat_take typesB hx)
      obtain ⟨b, o, B', c', rfl, hSb, e0, l0, m00, r0⟩ := row_slice_at (HW.out.row HS.out HR.out) hx
      have hx3 := hT0 x (List.mem_of_getElem? hx)
      have HF := Lib.hid (HW.out.far HS.out)
      have HL : Hid (n2 + (typesB x).length ≤ 1000000) := Lib.hid hlen
      have HR0 := Lib.hid r0
      clear hx hSb r0 hlen
      go_wp2_with (go_at_call 209; refine (wtypes_calls wr _ n2 c2 A2 _ HW.out.wr B' _ c' x rfl (by omega) (by have := HL.out; have := HW.out.wr.len; omega) HF.out HR0.out).mono ?_; rintro e w3 ⟨A3, n3, c3, rfl, hW⟩; have HW3 := Lib.hid (HW.out.step hW); clear hW)
      go_roundw
      case rel => exact ⟨k + 1, _, _, _, by omega, by go_num, Lib.hid (by rw [HX2.out, ← List.append_assoc]; exact HW3.out)⟩
      case measure => simp [intOf]; omega
    · have hcb := blk_cell HW.out.wr.box 0
      go_wp2
      go_ret
      exact Wrs.done (by have := HW.out; rw [flat_all typesB (by have := HN.out; omega)] at this; unfold recsB; rw [HN.out]; exact this) HV.out (by omega)
set_option maxRecDepth 100000 in
set_option maxHeartbeats 4000000 in
theorem imports_calls {S : Nat → Prop} (w : World) (B0 B1 B2 B3 B4 : Option Addr) (m0 m1 m2 m3 m4 d0 d1 d2 d3 d4 : Nat) (xs : List Imp) (hm : xs.length = m2) (hm2 : m2 ≤ 100000) (hT0 : ∀ x ∈ xs, x.args.length ≤ 1000) (hT : (impsB xs).length ≤ 1000000) (hS : ∀ b, S b → b < w.heap.size) (row : k_imp.Row S w B2 xs) :
    Calls Tryz.prog 153 #[.agg #[.slice B0 m0 d0, .slice B1 m1 d1, .slice B2 m2 d2, .slice B3 m3 d3, .slice B4 m4 d4]] w fun e w' => Part w (impsB xs) e w' := by
  have HN := Lib.hid hm
  have HT := Lib.hid hT
  have HS := Lib.hid (start_far w hS (Obj.cells #[.slice B0 m0 d0, .slice B1 m1 d1, .slice B2 m2 d2, .slice B3 m3 d3, .slice B4 m4 d4] 28) (Obj.cells #[.slice none 0 0] 278))
  have hV : Below w.heap.size w ((w.alloc (Obj.cells #[.slice B0 m0 d0, .slice B1 m1 d1, .slice B2 m2 d2, .slice B3 m3 d3, .slice B4 m4 d4] 28)).alloc (Obj.cells #[.slice none 0 0] 278)) := below_al2 (Below.refl _ _)
  have HR := Lib.hid (row.keep (fun b h => hV.block b (hS b h)))
  have HV := Lib.hid hV
  have HX := Lib.hid (blk_alloc (blk_new w (Obj.cells #[.slice B0 m0 d0, .slice B1 m1 d1, .slice B2 m2 d2, .slice B3 m3 d3, .slice B4 m4 d4] 28)) (Obj.cells #[.slice none 0 0] 278))
  have HW0 := Lib.hid (Wr.start w (Obj.cells #[.slice B0 m0 d0, .slice B1 m1 d1, .slice B2 m2 d2, .slice B3 m3 d3, .slice B4 m4 d4] 28))
  have b2 : ((w.alloc (Obj.cells #[.slice B0 m0 d0, .slice B1 m1 d1, .slice B2 m2 d2, .slice B3 m3 d3, .slice B4 m4 d4] 28)).alloc (Obj.cells #[.slice none 0 0] 278)).cell? ⟨w.heap.size, 2, none⟩ = some (.slice B2 m2 d2) := blk_cell HX.out 2
  have hpx : w.heap.size < ((w.alloc (Obj.cells #[.slice B0 m0 d0, .slice B1 m1 d1, .slice B2 m2 d2, .slice B3 m3 d3, .slice B4 m4 d4] 28)).alloc (Obj.cells #[.slice none 0 0] 278)).heap.size := by simp; omega
  clear hm hT hS row hV
  go_enter Tryz.func153, Tryz.ntmps153
  go_wp2_with fail
  generalize ((w.alloc (Obj.cells #[.slice B0 m0 d0, .slice B1 m1 d1, .slice B2 m2 d2, .slice B3 m3 d3, .slice B4 m4 d4] 28)).alloc (Obj.cells #[.slice none 0 0] 278)) = V at *
  go_wp2_with (go_at_call 208; refine (wcount_calls V _ 0 0 none [] HW0.out m2 (by omega) (by omega)).mono ?_; rintro e w1 ⟨A1, n1, c1, rfl, hW⟩; have HW1 := Lib.hid hW; have q2 : w1.cell? ⟨w.heap.size, 2, none⟩ = some (.slice B2 m2 d2) := blk_cell (hW.box HX.out (by omega) (fun h => by cases h)) 2; clear hW)
  go_loopw [5, 16] (fun _ ix wr => ∃ (k n' c' : Nat) (A' : Option Addr), k ≤ m2 ∧ ix = .int .i64 k ∧ Hid (Wrs V (w.heap.size + 1) (.slice none 0 0) wr A' n' c' (varB m2 ++ (xs.take k).flatMap impB))) (fun _ ix _ => m2 - (intOf ix).toNat)
  case atStart => exact ⟨0, _, _, _, Nat.zero_le _, rfl, Lib.hid (by simpa using HW1.out)⟩
  case round =>
    obtain ⟨k, n2, c2, A2, hk, rfl, HW⟩ := hrel
    by_cases hlt : k < m2
    · obtain ⟨x, hx⟩ : ∃ x, xs[k]? = some x := ⟨_, List.getElem?_eq_getElem (by have := HN.out; omega)⟩
      have hlen : n2 + (impB x).length ≤ 1000000 := by
        have h1 := HW.out.wr.len
        have h2 := flat_le impB xs (k + 1)
        have h3 := HT.out
        rw [flat_take impB hx] at h2
        simp only [impsB, List.length_append, HN.out] at h1 h2 h3
        omega
      have HX2 := Lib.hid (flat_take impB hx)
      obtain ⟨b, o, B', c', rfl, hSb, e0, e1, e2, l0, m00, r0, f1, f2⟩ := k_imp_at (HW.out.row HS.out HR.out) hx
      have hx3 := hT0 x (List.mem_of_getElem? hx)
      have hbA := (Below.refl wr.heap.size wr).alloc (Nat.le_refl _) (Obj.cells #[.slice B' x.args.length c', .int .i64 x.ret.kind, .int .i64 x.ret.n] 79)
      have HWA := Lib.hid (HW.out.below hbA)
      have HF := Lib.hid (HWA.out.far HS.out)
      have HXA := Lib.hid (blk_new wr (Obj.cells #[.slice B' x.args.length c', .int .i64 x.ret.kind, .int .i64 x.ret.n] 79))
      have hlen2 : n2 + (typesB x.args).length + (kindB x.ret).length ≤ 1000000 := by simp only [impB, List.length_append] at hlen; omega
      have HL : Hid (n2 + (typesB x.args).length + (kindB x.ret).length ≤ 1000000) := Lib.hid hlen2
      have HR0 := Lib.hid (r0.keep (fun b h => hbA.block b (HW.out.far HS.out b h).1))
      have KP := Lib.hid (fun W => put_any W x.ret f1 f2)
      have hpl := blk_lt HW.out.wr.box
      have ba0 := (blk_cell HXA.out 0 : _ = some (Value.slice B' x.args.length c'))
      have hwl : wr.heap.size < (wr.alloc (Obj.cells #[.slice B' x.args.length c', .int .i64 x.ret.kind, .int .i64 x.ret.n] 79)).heap.size := by simp
      clear hx hSb r0 hlen hlen2 f1 f2 hbA
      go_wp2_with fail
      generalize wr.alloc (Obj.cells #[.slice B' x.args.length c', .int .i64 x.ret.kind, .int .i64 x.ret.n] 79) = WA at *
      go_wp2_with (go_at_call 209; refine (wtypes_calls WA _ n2 c2 A2 _ HWA.out.wr B' _ c' x.args rfl (by omega) (by have := HL.out; have := HWA.out.wr.len; omega) HF.out HR0.out).mono ?_; rintro e w3 ⟨A3, n3, c3, rfl, hW⟩; have HX3 := Lib.hid (hW.box HXA.out (by omega) (by exact HWA.out.wr.ne HXA.out (by decide))); have HW3 := Lib.hid (HWA.out.step hW); clear hW)
      have b1 := (blk_cell HX3.out 1 : _ = some (Value.int .i64 x.ret.kind))
      have b2 := (blk_cell HX3.out 2 : _ = some (Value.int .i64 x.ret.n))
      have b3 := (blk_cell HW3.out.wr.box 0 : _ = some (Value.slice A3 n3 c3))
      have hlen : n3 + (kindB x.ret).length ≤ 1000000 := by
        have h1 := HW3.out.wr.len
        have h2 := HWA.out.wr.len
        have h3 := HL.out
        simp only [List.length_append] at h1 h2
        omega
      have HIB : Hid (impB x = typesB x.args ++ kindB x.ret) := Lib.hid rfl
      clear hpl hwl ba0
      generalize kindB x.ret = ys at *
      go_region_law (
        first
          | (go_simp; go_at_call 210; refine (KP.out _).mono ?_; rintro e w9 ⟨C, d9, rfl, ho, hb9⟩; have hB9 : Below w3.heap.size w3 w9 := ⟨hb9.os, hb9.tape, hb9.output, hb9.size, hb9.block⟩; have H9 := Lib.hid (HW3.out.wr.below hB9); have c9 : w9.cell? ⟨w.heap.size + 1, 0, none⟩ = some (.slice A3 n3 c3) := blk_cell H9.out.box 0; have HL := Lib.hid (own_lie ho); have HB9 := Lib.hid hB9; clear ho hb9 hB9)
          | (refine step_app _ (by rfl) (.tmp 28) (.tmp 31) _ (by rfl) 5 Tryz.underlying74 byte_info rfl (by decide) (by decide) 0 (n := n3) (by rfl) (by exact H9.out.own) (news := bcells ys) (by rfl) (bcells_length _) (by exact HL.out) (bcells_one _) (by omega) (Nat.zero_le _) ?_; intro v' w11 hown hg hat; obtain ⟨A6, c6, rfl, _, _, _⟩ := own_shape hown; have HQ := Lib.hid (HW3.out.step (HW3.out.wr.put HB9.out hown (by first | rfl | exact bcells_one_len _) rfl hg hat)); have hx11 := blk_grown H9.out.box hg (fun e => own_ne_blk H9.out.own H9.out.box (by decide) e.symm); have c11 := blk_cell hx11 0; have f11 := blk_frozen hx11 0; clear hown hg hat hx11))
      all_goals
        clear c9 c11 f11 b1 b2 b3
        generalize w11.setCell ⟨w.heap.size + 1, 0, none⟩ (.slice A6 (n3 + ys.length) c6) = wS at *
        go_wp2
        go_roundw
        case rel => exact ⟨k + 1, _, _, _, by omega, by go_num, Lib.hid (by rw [HX2.out, ← List.append_assoc]; exact by rw [HIB.out, ← List.append_assoc]; exact HQ.out)⟩
        case measure => simp [intOf]; omega
    · have hcb := blk_cell HW.out.wr.box 0
      go_wp2
      go_ret
      exact Wrs.done (by have := HW.out; rw [flat_all impB (by have := HN.out; omega)] at this; unfold impsB; rw [HN.out]; exact this) HV.out (by omega)
set_option maxRecDepth 100000 in
set_option maxHeartbeats 4000000 in
theorem numbers_calls {S : Nat → Prop} (w : World) (B0 B1 B2 B3 B4 : Option Addr) (m0 m1 m2 m3 m4 d0 d1 d2 d3 d4 : Nat) (xs : List Int) (hm : xs.length = m3) (hm2 : m3 ≤ 100000) (hT : (numsB xs).length ≤ 1000000) (hS : ∀ b, S b → b < w.heap.size) (row : (Rd.int .u64).Row S w B3 xs) :
    Calls Tryz.prog 154 #[.agg #[.slice B0 m0 d0, .slice B1 m1 d1, .slice B2 m2 d2, .slice B3 m3 d3, .slice B4 m4 d4]] w fun e w' => Part w (numsB xs) e w' := by
  have HN := Lib.hid hm
  have HT := Lib.hid hT
  have HS := Lib.hid (start_far w hS (Obj.cells #[.slice B0 m0 d0, .slice B1 m1 d1, .slice B2 m2 d2, .slice B3 m3 d3, .slice B4 m4 d4] 28) (Obj.cells #[.slice none 0 0] 278))
  have hV : Below w.heap.size w ((w.alloc (Obj.cells #[.slice B0 m0 d0, .slice B1 m1 d1, .slice B2 m2 d2, .slice B3 m3 d3, .slice B4 m4 d4] 28)).alloc (Obj.cells #[.slice none 0 0] 278)) := below_al2 (Below.refl _ _)
  have HR := Lib.hid (row.keep (fun b h => hV.block b (hS b h)))
  have HV := Lib.hid hV
  have HX := Lib.hid (blk_alloc (blk_new w (Obj.cells #[.slice B0 m0 d0, .slice B1 m1 d1, .slice B2 m2 d2, .slice B3 m3 d3, .slice B4 m4 d4] 28)) (Obj.cells #[.slice none 0 0] 278))
  have HW0 := Lib.hid (Wr.start w (Obj.cells #[.slice B0 m0 d0, .slice B1 m1 d1, .slice B2 m2 d2, .slice B3 m3 d3, .slice B4 m4 d4] 28))
  have b3 : ((w.alloc (Obj.cells #[.slice B0 m0 d0, .slice B1 m1 d1, .slice B2 m2 d2, .slice B3 m3 d3, .slice B4 m4 d4] 28)).alloc (Obj.cells #[.slice none 0 0] 278)).cell? ⟨w.heap.size, 3, none⟩ = some (.slice B3 m3 d3) := blk_cell HX.out 3
  have hpx : w.heap.size < ((w.alloc (Obj.cells #[.slice B0 m0 d0, .slice B1 m1 d1, .slice B2 m2 d2, .slice B3 m3 d3, .slice B4 m4 d4] 28)).alloc (Obj.cells #[.slice none 0 0] 278)).heap.size := by simp; omega
  clear hm hT hS row hV
  go_enter Tryz.func154, Tryz.ntmps154
  go_wp2_with fail
  generalize ((w.alloc (Obj.cells #[.slice B0 m0 d0, .slice B1 m1 d1, .slice B2 m2 d2, .slice B3 m3 d3, .slice B4 m4 d4] 28)).alloc (Obj.cells #[.slice none 0 0] 278)) = V at *
  go_wp2_with (go_at_call 208; refine (wcount_calls V _ 0 0 none [] HW0.out m3 (by omega) (by omega)).mono ?_; rintro e w1 ⟨A1, n1, c1, rfl, hW⟩; have HW1 := Lib.hid hW; have q3 : w1.cell? ⟨w.heap.size, 3, none⟩ = some (.slice B3 m3 d3) := blk_cell (hW.box HX.out (by omega) (fun h => by cases h)) 3; clear hW)
  go_loopw [5, 16] (fun _ ix wr => ∃ (k n' c' : Nat) (A' : Option Addr), k ≤ m3 ∧ ix = .int .i64 k ∧ Hid (Wrs V (w.heap.size + 1) (.slice none 0 0) wr A' n' c' (varB m3 ++ (xs.take k).flatMap numB))) (fun _ ix _ => m3 - (intOf ix).toNat)
  case atStart => exact ⟨0, _, _, _, Nat.zero_le _, rfl, Lib.hid (by simpa using HW1.out)⟩
  case round =>
    obtain ⟨k, n2, c2, A2, hk, rfl, HW⟩ := hrel
    by_cases hlt : k < m3
    · obtain ⟨x, hx⟩ : ∃ x, xs[k]? = some x := ⟨_, List.getElem?_eq_getElem (by have := HN.out; omega)⟩
      have hlen : n2 + (numB x).length ≤ 1000000 := by
        have h1 := HW.out.wr.len
        have h2 := flat_le numB xs (k + 1)
        have h3 := HT.out
        rw [flat_take numB hx] at h2
        simp only [numsB, List.length_append, HN.out] at h1 h2 h3
        omega
      have HX2 := Lib.hid (flat_take numB hx)
      obtain ⟨b, o, rfl, hSb, e0, f0⟩ := row_u64_at (HW.out.row HS.out HR.out) hx
      have hu := bounds_u64 f0
      obtain ⟨v, rfl⟩ := Int.eq_ofNat_of_zero_le hu.1
      have hv : v < 18446744073709551616 := by omega
      have KP : Hid (∀ W, Calls Tryz.prog 212 #[.int .u64 (v : Int), .int .i64 8] W fun e w' => ∃ A c, e = .returned (.slice A (numB (v : Int)).length c) ∧ w'.ownsRow W.heap.size 5 1 (.slice A (numB (v : Int)).length c) (numB (v : Int)).length (bcells (numB (v : Int))) ∧ Below W.heap.size W w') := Lib.hid (fun W => by have h := fixed_calls W v 8 hv; simpa [numB, fixB_len, cnt] using h)
      have b3 := (blk_cell HW.out.wr.box 0 : _ = some (Value.slice A2 n2 c2))
      clear hx hSb f0 hu hv
      generalize numB (v : Int) = ys at *
      go_wp2_with fail
      go_region_law (
        first
          | (go_simp; go_at_call 212; refine (KP.out _).mono ?_; rintro e w9 ⟨C, d9, rfl, ho, hb9⟩; have hB9 : Below wr.heap.size wr w9 := ⟨hb9.os, hb9.tape, hb9.output, hb9.size, hb9.block⟩; have H9 := Lib.hid (HW.out.wr.below hB9); have c9 : w9.cell? ⟨w.heap.size + 1, 0, none⟩ = some (.slice A2 n2 c2) := blk_cell H9.out.box 0; have HL := Lib.hid (own_lie ho); have HB9 := Lib.hid hB9; clear ho hb9 hB9)
          | (refine step_app _ (by rfl) (.tmp 24) (.tmp 26) _ (by rfl) 5 Tryz.underlying74 byte_info rfl (by decide) (by decide) 0 (n := n2) (by rfl) (by exact H9.out.own) (news := bcells ys) (by rfl) (bcells_length _) (by exact HL.out) (bcells_one _) (by omega) (Nat.zero_le _) ?_; intro v' w11 hown hg hat; obtain ⟨A6, c6, rfl, _, _, _⟩ := own_shape hown; have HQ := Lib.hid (HW.out.step (HW.out.wr.put HB9.out hown (by first | rfl | exact bcells_one_len _) rfl hg hat)); have hx11 := blk_grown H9.out.box hg (fun e => own_ne_blk H9.out.own H9.out.box (by decide) e.symm); have c11 := blk_cell hx11 0; have f11 := blk_frozen hx11 0; clear hown hg hat hx11))
      all_goals
        clear c9 c11 f11 b3
        generalize w11.setCell ⟨w.heap.size + 1, 0, none⟩ (.slice A6 (n2 + ys.length) c6) = wS at *
        go_wp2
        go_roundw
        case rel => exact ⟨k + 1, _, _, _, by omega, by go_num, Lib.hid (by rw [HX2.out, ← List.append_assoc]; exact HQ.out)⟩
        case measure => simp [intOf]; omega
    · have hcb := blk_cell HW.out.wr.box 0
      go_wp2
      go_ret
      exact Wrs.done (by have := HW.out; rw [flat_all numB (by have := HN.out; omega)] at this; unfold numsB; rw [HN.out]; exact this) HV.out (by omega)
theorem strB_cells (s : ByteArray) : Lib.strCells s = bcells (strB s) := by simp [Lib.strCells, bcells, strB]
theorem strB_len (s : ByteArray) : (strB s).length = s.size := by rw [strB, List.length_map, Array.length_toList]; rfl
/-- Behind an append of which the row is no older than the writer, and the store into the box. -/
theorem Wr.putS {w w1 : World} {p n c n' c' m : Nat} {A A' : Option Addr} {bs xs : List Int} (h : Wr w p A n c bs) (B : Nat) (hown : w1.ownsRow B 5 1 (.slice A' n' c') (n + m) (bcells bs ++ bcells xs)) (hm : xs.length = m) (hn : n' = n + m)
    (hg : w.grownBy w1 (Value.slice A n c).ownBlock) : Wr (w1.setCell ⟨p, 0, none⟩ (.slice A' n' c')) p A' n' c' (bs ++ xs) ∧ Keeps (WF p (.slice A n c)) w (w1.setCell ⟨p, 0, none⟩ (.slice A' n' c')) ∧ ∀ g, (Value.slice A' n' c').ownBlock = some g → B ≤ g := by
  subst hn
  have hbox1 : w1.heap[p]? = some (.cells #[.slice A n c] 278 (0, 0)) := blk_grown h.box hg (fun e => own_ne_blk h.own h.box (by decide) e.symm)
  have hne : ∀ g, (Value.slice A' (n + m) c').ownBlock = some g → g ≠ p := fun g hg' e => own_ne_blk hown hbox1 (by decide) (e ▸ hg')
  have hk : Keeps (WF p (.slice A n c)) w w1 := (Keeps.refl _ w).grown hg (fun g hg' _ => .inr hg')
  exact ⟨⟨blk_set hbox1 0 _, own_keep (own_down (bcells_append bs xs ▸ hown) (Nat.zero_le _)) (fun g hg' => Below.heap_setCell _ _ _ g (hne g hg')), by rw [List.length_append, h.len, hm]⟩, hk.setCell (fun _ => .inl rfl) _, fun g hg' => (hown.lt g hg').1⟩
/-- A step of which what comes behind is no older than the first world. -/
theorem Wrs.stepS {w0 w1 w2 : World} {p n c n' c' : Nat} {v0 : Value} {A A' : Option Addr} {bs bs' : List Int} (h : Wrs w0 p v0 w1 A n c bs) (k : Wr w2 p A' n' c' bs' ∧ Keeps (WF p (.slice A n c)) w1 w2 ∧ ∀ g, (Value.slice A' n' c').ownBlock = some g → w0.heap.size ≤ g) : Wrs w0 p v0 w2 A' n' c' bs' :=
  ⟨k.1, h.keep.step k.2.1 (fun x hx hf => by
    rcases hf with rfl | hf
    · exact .inl rfl
    · rcases h.src x hf with h2 | h2
      · exact .inr h2
      · omega),
   fun g hg => .inr (k.2.2 g hg)⟩
theorem Wrs.ownS {w0 w1 : World} {p n c : Nat} {A : Option Addr} {bs : List Int} (h : Wrs w0 p (.slice none 0 0) w1 A n c bs) (B : Nat) (hB : B ≤ w0.heap.size) : w1.ownsRow B 5 1 (.slice A n c) n (bcells bs) := own_up h.wr.own (fun g hg => by
  rcases h.src g hg with h2 | h2
  · cases h2
  · omega)
set_option maxRecDepth 100000 in
set_option maxHeartbeats 4000000 in
theorem texts_calls {S : Nat → Prop} (w : World) (B0 B1 B2 B3 B4 : Option Addr) (m0 m1 m2 m3 m4 d0 d1 d2 d3 d4 : Nat) (xs : List ByteArray) (hm : xs.length = m4) (hm2 : m4 ≤ 100000) (hT : (textsB xs).length ≤ 1000000) (hS : ∀ b, S b → b < w.heap.size) (row : Rd.str.Row S w B4 xs) :
    Calls Tryz.prog 155 #[.agg #[.slice B0 m0 d0, .slice B1 m1 d1, .slice B2 m2 d2, .slice B3 m3 d3, .slice B4 m4 d4]] w fun e w' => Part w (textsB xs) e w' := by
  have HN := Lib.hid hm
  have HT := Lib.hid hT
  have HS := Lib.hid (start_far w hS (Obj.cells #[.slice B0 m0 d0, .slice B1 m1 d1, .slice B2 m2 d2, .slice B3 m3 d3, .slice B4 m4 d4] 28) (Obj.cells #[.slice none 0 0] 278))
  have hV : Below w.heap.size w ((w.alloc (Obj.cells #[.slice B0 m0 d0, .slice B1 m1 d1, .slice B2 m2 d2, .slice B3 m3 d3, .slice B4 m4 d4] 28)).alloc (Obj.cells #[.slice none 0 0] 278)) := below_al2 (Below.refl _ _)
  have HR := Lib.hid (row.keep (fun b h => hV.block b (hS b h)))
  have HV := Lib.hid hV
  have HX := Lib.hid (blk_alloc (blk_new w (Obj.cells #[.slice B0 m0 d0, .slice B1 m1 d1, .slice B2 m2 d2, .slice B3 m3 d3, .slice B4 m4 d4] 28)) (Obj.cells #[.slice none 0 0] 278))
  have HW0 := Lib.hid (Wr.start w (Obj.cells #[.slice B0 m0 d0, .slice B1 m1 d1, .slice B2 m2 d2, .slice B3 m3 d3, .slice B4 m4 d4] 28))
  have b4 : ((w.alloc (Obj.cells #[.slice B0 m0 d0, .slice B1 m1 d1, .slice B2 m2 d2, .slice B3 m3 d3, .slice B4 m4 d4] 28)).alloc (Obj.cells #[.slice none 0 0] 278)).cell? ⟨w.heap.size, 4, none⟩ = some (.slice B4 m4 d4) := blk_cell HX.out 4
  have hpx : w.heap.size < ((w.alloc (Obj.cells #[.slice B0 m0 d0, .slice B1 m1 d1, .slice B2 m2 d2, .slice B3 m3 d3, .slice B4 m4 d4] 28)).alloc (Obj.cells #[.slice none 0 0] 278)).heap.size := by simp; omega
  clear hm hT hS row hV
  go_enter Tryz.func155, Tryz.ntmps155
  go_wp2_with fail
  generalize ((w.alloc (Obj.cells #[.slice B0 m0 d0, .slice B1 m1 d1, .slice B2 m2 d2, .slice B3 m3 d3, .slice B4 m4 d4] 28)).alloc (Obj.cells #[.slice none 0 0] 278)) = V at *
  go_wp2_with (go_at_call 208; refine (wcount_calls V _ 0 0 none [] HW0.out m4 (by omega) (by omega)).mono ?_; rintro e w1 ⟨A1, n1, c1, rfl, hW⟩; have HW1 := Lib.hid hW; have q4 : w1.cell? ⟨w.heap.size, 4, none⟩ = some (.slice B4 m4 d4) := blk_cell (hW.box HX.out (by omega) (fun h => by cases h)) 4; clear hW)
  go_loopw [5, 16] (fun _ ix wr => ∃ (k n' c' : Nat) (A' : Option Addr), k ≤ m4 ∧ ix = .int .i64 k ∧ Hid (Wrs V (w.heap.size + 1) (.slice none 0 0) wr A' n' c' (varB m4 ++ (xs.take k).flatMap textB))) (fun _ ix _ => m4 - (intOf ix).toNat)
  case atStart => exact ⟨0, _, _, _, Nat.zero_le _, rfl, Lib.hid (by simpa using HW1.out)⟩
  case round =>
    obtain ⟨k, n2, c2, A2, hk, rfl, HW⟩ := hrel
    by_cases hlt : k < m4
    · obtain ⟨x, hx⟩ : ∃ x, xs[k]? = some x := ⟨_, List.getElem?_eq_getElem (by have := HN.out; omega)⟩
      have hlen : n2 + (textB x).length ≤ 1000000 := by
        have h1 := HW.out.wr.len
        have h2 := flat_le textB xs (k + 1)
        have h3 := HT.out
        rw [flat_take textB hx] at h2
        simp only [textsB, List.length_append, HN.out] at h1 h2 h3
        omega
      have HX2 := Lib.hid (flat_take textB hx)
      obtain ⟨b, o, rfl, hSb, e0, f0⟩ := row_str_at (HW.out.row HS.out HR.out) hx
      have hlen2 : n2 + (varB x.size).length + x.size ≤ 1000000 := by simp only [textB, List.length_append, strB_len] at hlen; omega
      have hpl := blk_lt HW.out.wr.box
      obtain ⟨i, hi, hz, hs1, hby⟩ := info_parts byte_info
      have HIB : Hid (textB x = varB x.size ++ strB x) := Lib.hid rfl
      clear hx hSb f0 hlen
      go_wp2_with (first
        | (go_at_call 208; refine (wcount_calls wr _ n2 c2 A2 _ HW.out.wr x.size (by omega) (by omega)).mono ?_; rintro e w3 ⟨A3, n3, c3, rfl, hW⟩; have HW3 := Lib.hid (HW.out.step hW); have b3 := (blk_cell HW3.out.wr.box 0 : _ = some (Value.slice A3 n3 c3)); have HL3 : Hid (n3 + x.size ≤ 1000000) := Lib.hid (by have h1 := HW3.out.wr.len; have h2 := HW.out.wr.len; simp only [List.length_append] at h1 h2; omega); clear hW)
        | (at_builtin; refine Lib.wpList_append_own_string _ rfl (.tmp 28) (.tmp 29) _ _ rfl V.heap.size 5 i Tryz.underlying74 Tryz.underlying9 hi hz hs1 hby _ n3 _ rfl (HW3.out.ownS _ (Nat.le_refl _)) x rfl (by have := HL3.out; simp only [maxLen]; omega) (by have := HL3.out; omega) HW3.out.keep.size ?_; intro v' w5 hown hg _; obtain ⟨A6, c6, rfl, _, _, _⟩ := own_shape hown; have hx11 := blk_grown HW3.out.wr.box hg (fun e => own_ne_blk HW3.out.wr.own HW3.out.wr.box (by decide) e.symm); have c11 := blk_cell hx11 0; have f11 := blk_frozen hx11 0; rw [strB_cells] at hown; have HQ := Lib.hid (HW3.out.stepS (HW3.out.wr.putS V.heap.size hown (strB_len x) rfl hg)); clear hown hg hx11))
      go_roundw
      case rel => exact ⟨k + 1, _, _, _, by omega, by go_num, Lib.hid (by rw [HX2.out, ← List.append_assoc]; exact by rw [HIB.out, ← List.append_assoc]; exact HQ.out)⟩
      case measure => simp [intOf]; omega
    · have hcb := blk_cell HW.out.wr.box 0
      go_wp2
      go_ret
      exact Wrs.done (by have := HW.out; rw [flat_all textB (by have := HN.out; omega)] at this; unfold textsB; rw [HN.out]; exact this) HV.out (by omega)
end Go.Proofs.YtmceaeoeakkppaaGreatDoor
namespace Go.Proofs.YtmceaeoeakkppaaGreatDoor
open Go.RowKit Go.Sort
set_option linter.unusedVariables false
def funcB (f : Fn) : List Int := ((typesB f.args ++ kindB f.ret) ++ typesB f.locals) ++ (varB f.code.length ++ f.code.flatMap instB)
def funcsB (xs : List Fn) : List Int := varB xs.length ++ xs.flatMap funcB
set_option maxRecDepth 100000 in
set_option maxHeartbeats 4000000 in
theorem functions_calls {S : Nat → Prop} (w : World) (B0 B1 B2 B3 B4 : Option Addr) (m0 m1 m2 m3 m4 d0 d1 d2 d3 d4 : Nat) (xs : List Fn) (hm : xs.length = m1) (hm2 : m1 ≤ 100000) (hT0 : ∀ x ∈ xs, x.args.length ≤ 1000 ∧ x.locals.length ≤ 1000 ∧ x.code.length ≤ 1000) (hT : (funcsB xs).length ≤ 1000000) (hS : ∀ b, S b → b < w.heap.size) (row : k_func.Row S w B1 xs) :
    Calls Tryz.prog 152 #[.agg #[.slice B0 m0 d0, .slice B1 m1 d1, .slice B2 m2 d2, .slice B3 m3 d3, .slice B4 m4 d4]] w fun e w' => Part w (funcsB xs) e w' := by
  have HN := Lib.hid hm
  have HT := Lib.hid hT
  have HS := Lib.hid (start_far w hS (Obj.cells #[.slice B0 m0 d0, .slice B1 m1 d1, .slice B2 m2 d2, .slice B3 m3 d3, .slice B4 m4 d4] 28) (Obj.cells #[.slice none 0 0] 278))
  have hV : Below w.heap.size w ((w.alloc (Obj.cells #[.slice B0 m0 d0, .slice B1 m1 d1, .slice B2 m2 d2, .slice B3 m3 d3, .slice B4 m4 d4] 28)).alloc (Obj.cells #[.slice none 0 0] 278)) := below_al2 (Below.refl _ _)
  have HR := Lib.hid (row.keep (fun b h => hV.block b (hS b h)))
  have HV := Lib.hid hV
  have HX := Lib.hid (blk_alloc (blk_new w (Obj.cells #[.slice B0 m0 d0, .slice B1 m1 d1, .slice B2 m2 d2, .slice B3 m3 d3, .slice B4 m4 d4] 28)) (Obj.cells #[.slice none 0 0] 278))
  have HW0 := Lib.hid (Wr.start w (Obj.cells #[.slice B0 m0 d0, .slice B1 m1 d1, .slice B2 m2 d2, .slice B3 m3 d3, .slice B4 m4 d4] 28))
  have b1 : ((w.alloc (Obj.cells #[.slice B0 m0 d0, .slice B1 m1 d1, .slice B2 m2 d2, .slice B3 m3 d3, .slice B4 m4 d4] 28)).alloc (Obj.cells #[.slice none 0 0] 278)).cell? ⟨w.heap.size, 1, none⟩ = some (.slice B1 m1 d1) := blk_cell HX.out 1
  have hpx : w.heap.size < ((w.alloc (Obj.cells #[.slice B0 m0 d0, .slice B1 m1 d1, .slice B2 m2 d2, .slice B3 m3 d3, .slice B4 m4 d4] 28)).alloc (Obj.cells #[.slice none 0 0] 278)).heap.size := by simp; omega
  clear hm hT hS row hV
  go_enter Tryz.func152, Tryz.ntmps152
  go_wp2_with fail
  generalize ((w.alloc (Obj.cells #[.slice B0 m0 d0, .slice B1 m1 d1, .slice B2 m2 d2, .slice B3 m3 d3, .slice B4 m4 d4] 28)).alloc (Obj.cells #[.slice none 0 0] 278)) = V at *
  go_wp2_with (go_at_call 208; refine (wcount_calls V _ 0 0 none [] HW0.out m1 (by omega) (by omega)).mono ?_; rintro e w1 ⟨A1, n1, c1, rfl, hW⟩; have HW1 := Lib.hid hW; have q1 : w1.cell? ⟨w.heap.size, 1, none⟩ = some (.slice B1 m1 d1) := blk_cell (hW.box HX.out (by omega) (fun h => by cases h)) 1; clear hW)
  go_loopw [5, 18] (fun _ ix wr => ∃ (k n' c' : Nat) (A' : Option Addr), k ≤ m1 ∧ ix = .int .i64 k ∧ Hid (Wrs V (w.heap.size + 1) (.slice none 0 0) wr A' n' c' (varB m1 ++ (xs.take k).flatMap funcB))) (fun _ ix _ => m1 - (intOf ix).toNat)
  case atStart => exact ⟨0, _, _, _, Nat.zero_le _, rfl, Lib.hid (by simpa using HW1.out)⟩
  case round =>
    obtain ⟨k, n2, c2, A2, hk, rfl, HW⟩ := hrel
    by_cases hlt : k < m1
    · obtain ⟨x, hx⟩ : ∃ x, xs[k]? = some x := ⟨_, List.getElem?_eq_getElem (by have := HN.out; omega)⟩
      have hlen : n2 + (funcB x).length ≤ 1000000 := by
        have h1 := HW.out.wr.len
        have h2 := flat_le funcB xs (k + 1)
        have h3 := HT.out
        rw [flat_take funcB hx] at h2
        simp only [funcsB, List.length_append, HN.out] at h1 h2 h3
        omega
      have HX2 := Lib.hid (flat_take funcB hx)
      obtain ⟨b, o, G0, g0, G3, g3, G4, g4, rfl, hSb, e0, e1, e2, e3, e4, l0, m00, r0, f1, f2, l3, m3', r3, l4, m4', r4⟩ := k_func_at (HW.out.row HS.out HR.out) hx
      obtain ⟨hx3, hx4, hx5⟩ := hT0 x (List.mem_of_getElem? hx)
      have hbA := (Below.refl wr.heap.size wr).alloc (Nat.le_refl _) (Obj.cells #[.slice G0 x.args.length g0, .int .i64 x.ret.kind, .int .i64 x.ret.n, .slice G3 x.locals.length g3, .slice G4 x.code.length g4] 67)
      have HWA := Lib.hid (HW.out.below hbA)
      have HF := Lib.hid (HWA.out.far HS.out)
      have HXA := Lib.hid (blk_new wr (Obj.cells #[.slice G0 x.args.length g0, .int .i64 x.ret.kind, .int .i64 x.ret.n, .slice G3 x.locals.length g3, .slice G4 x.code.length g4] 67))
      have HL : Hid (n2 + ((typesB x.args).length + (kindB x.ret).length + (typesB x.locals).length + (varB x.code.length).length + (x.code.flatMap instB).length) ≤ 1000000) := Lib.hid (by simp only [funcB, List.length_append] at hlen; omega)
      have HR0 := Lib.hid (r0.keep (fun b h => hbA.block b (HW.out.far HS.out b h).1))
      have HR3 := Lib.hid (r3.keep (fun b h => hbA.block b (HW.out.far HS.out b h).1))
      have HR4 := Lib.hid (r4.keep (fun b h => hbA.block b (HW.out.far HS.out b h).1))
      have KP := Lib.hid (fun W => put_any W x.ret f1 f2)
      have hpl := blk_lt HW.out.wr.box
      have ba0 := (blk_cell HXA.out 0 : _ = some (Value.slice G0 x.args.length g0))
      have hwl : wr.heap.size < (wr.alloc (Obj.cells #[.slice G0 x.args.length g0, .int .i64 x.ret.kind, .int .i64 x.ret.n, .slice G3 x.locals.length g3, .slice G4 x.code.length g4] 67)).heap.size := by simp
      obtain ⟨pre, hpre⟩ : ∃ pre, pre = varB m1 ++ (xs.take k).flatMap funcB := ⟨_, rfl⟩
      rw [← hpre] at HWA
      have HPre := Lib.hid hpre
      clear hx hSb r0 r3 r4 hlen f1 f2 hbA hpre
      go_wp2_with fail
      generalize wr.alloc (Obj.cells #[.slice G0 x.args.length g0, .int .i64 x.ret.kind, .int .i64 x.ret.n, .slice G3 x.locals.length g3, .slice G4 x.code.length g4] 67) = WA at *
      go_wp2_with (go_at_call 209; refine (wtypes_calls WA _ n2 c2 A2 _ HWA.out.wr G0 _ g0 x.args rfl (by omega) (by have := HL.out; have := HWA.out.wr.len; omega) HF.out HR0.out).mono ?_; rintro e w3 ⟨A3, n3, c3, rfl, hW⟩; have HX3 := Lib.hid (hW.box HXA.out (by omega) (by exact HWA.out.wr.ne HXA.out (by decide))); have HW3 := Lib.hid (HWA.out.step hW); clear hW)
      have b1 := (blk_cell HX3.out 1 : _ = some (Value.int .i64 x.ret.kind))
      have b2 := (blk_cell HX3.out 2 : _ = some (Value.int .i64 x.ret.n))
      have b3 := (blk_cell HW3.out.wr.box 0 : _ = some (Value.slice A3 n3 c3))
      have hlen : n3 + (kindB x.ret).length ≤ 1000000 := by
        have h1 := HW3.out.wr.len
        have h2 := HWA.out.wr.len
        have h3 := HL.out
        simp only [List.length_append] at h1 h2
        omega
      have HIB : Hid (funcB x = ((typesB x.args ++ kindB x.ret) ++ typesB x.locals) ++ (varB x.code.length ++ x.code.flatMap instB)) := Lib.hid rfl
      have HXL : Hid (wr.heap.size ≠ w.heap.size + 1) := Lib.hid (by omega)
      clear hpl hwl ba0
      generalize kindB x.ret = ys at *
      go_region_law (
        first
          | (go_simp; go_at_call 210; refine (KP.out _).mono ?_; rintro e w9 ⟨C, d9, rfl, ho, hb9⟩; have hB9 : Below w3.heap.size w3 w9 := ⟨hb9.os, hb9.tape, hb9.output, hb9.size, hb9.block⟩; have H9 := Lib.hid (HW3.out.wr.below hB9); have c9 : w9.cell? ⟨w.heap.size + 1, 0, none⟩ = some (.slice A3 n3 c3) := blk_cell H9.out.box 0; have HL := Lib.hid (own_lie ho); have HB9 := Lib.hid hB9; clear ho hb9 hB9)
          | (refine step_app _ (by rfl) (.tmp 30) (.tmp 33) _ (by rfl) 5 Tryz.underlying74 byte_info rfl (by decide) (by decide) 0 (n := n3) (by rfl) (by exact H9.out.own) (news := bcells ys) (by rfl) (bcells_length _) (by exact HL.out) (bcells_one _) (by omega) (Nat.zero_le _) ?_; intro v' w11 hown hg hat; obtain ⟨A6, c6, rfl, _, _, _⟩ := own_shape hown; have HQ := Lib.hid (HW3.out.step (HW3.out.wr.put HB9.out hown (by first | rfl | exact bcells_one_len _) rfl hg hat)); have hx11 := blk_grown H9.out.box hg (fun e => own_ne_blk H9.out.own H9.out.box (by decide) e.symm); have c11 := blk_cell hx11 0; have f11 := blk_frozen hx11 0; have HX5 := Lib.hid (blk_far (blk_grown (blk_below HX3.out HB9.out (blk_lt HX3.out)) hg (fun e => own_ne_blk H9.out.own (blk_below HX3.out HB9.out (blk_lt HX3.out)) (by decide) e.symm)) (p := ⟨w.heap.size + 1, 0, none⟩) HXL.out (.slice A6 (n3 + ys.length) c6)); clear hown hg hat hx11))
      all_goals
        clear c9 c11 f11 b1 b2 b3 H9 HL HB9
        generalize w11.setCell ⟨w.heap.size + 1, 0, none⟩ (.slice A6 (n3 + ys.length) c6) = w5 at *
        have b4 := (blk_cell HX5.out 3 : _ = some (Value.slice G3 x.locals.length g3))
        have hw5 := blk_lt HQ.out.wr.box
        have HR5 := Lib.hid (HWA.out.row2 HQ.out HS.out HR3.out)
        have HF5 := Lib.hid (HQ.out.far HS.out)
        have hl5 : (pre ++ typesB x.args ++ ys).length + (typesB x.locals).length ≤ 1000000 := by
          have h2 := HWA.out.wr.len
          have h3 := HL.out
          simp only [List.length_append]
          omega
        go_wp2_with (go_at_call 209; refine (wtypes_calls w5 _ _ c6 A6 _ HQ.out.wr G3 _ g3 x.locals rfl (by omega) hl5 HF5.out HR5.out).mono ?_; rintro e w7 ⟨A7, n7, c7, rfl, hW⟩; have HX7 := Lib.hid (hW.box HX5.out HXL.out (by exact HQ.out.wr.ne HX5.out (by decide))); have HW7 := Lib.hid (HQ.out.step hW); have b5 := (blk_cell (hW.box HX5.out HXL.out (by exact HQ.out.wr.ne HX5.out (by decide))) 4 : _ = some (Value.slice G4 x.code.length g4)); clear hW)
        have hl7 : n7 + (varB x.code.length).length + (x.code.flatMap instB).length ≤ 1000000 := by
          have h1 := HW7.out.wr.len
          have h2 := HWA.out.wr.len
          have h3 := HL.out
          simp only [List.length_append] at h1 h2
          omega
        obtain ⟨P7, hP7⟩ : ∃ P7, P7 = pre ++ typesB x.args ++ ys ++ typesB x.locals := ⟨_, rfl⟩
        rw [← hP7] at HW7
        have HP7 := Lib.hid hP7
        have HNC : Hid (x.code.length = x.code.length) := Lib.hid rfl
        have HR7 := Lib.hid (HWA.out.row2 HW7.out HS.out HR4.out)
        clear hP7 b4 hl5 HR5 HF5
        go_wp2_with (go_at_call 208; refine (wcount_calls w7 _ n7 c7 A7 _ HW7.out.wr x.code.length (by omega) (by omega)).mono ?_; rintro e w8 ⟨A8, n8, c8, rfl, hW⟩; have HX8 := Lib.hid (hW.box HX7.out HXL.out (by exact HW7.out.wr.ne HX7.out (by decide))); have HW8 := Lib.hid (HW7.out.step hW); have b6 := (blk_cell (hW.box HX7.out HXL.out (by exact HW7.out.wr.ne HX7.out (by decide))) 4 : _ = some (Value.slice G4 x.code.length g4)); clear hW)
        go_loopw [7, 49] (fun _ jx wi => ∃ (j n' c' : Nat) (A' : Option Addr), j ≤ x.code.length ∧ jx = .int .i64 j ∧ Hid (Wrs V (w.heap.size + 1) (.slice none 0 0) wi A' n' c' ((P7 ++ varB x.code.length) ++ (x.code.take j).flatMap instB))) (fun _ jx _ => x.code.length - (intOf jx).toNat)
        case atStart => exact ⟨0, _, _, _, Nat.zero_le _, rfl, Lib.hid (by simpa using HW8.out)⟩
        case round =>
          obtain ⟨j, n9, c9, A9, hj, rfl, HWi⟩ := hrel
          have HRi := Lib.hid (HW7.out.row2 HWi.out HS.out HR7.out)
          by_cases hlj : j < x.code.length
          · obtain ⟨y, hy⟩ : ∃ y, x.code[j]? = some y := ⟨_, List.getElem?_eq_getElem (by have := HNC.out; omega)⟩
            obtain ⟨bi, oi, rfl, hSi, i0, i1, i2, j0, j1, j2⟩ := k_instr_at HRi.out hy
            have hli : n9 + (instB y).length ≤ 1000000 := by
              have h1 := HWi.out.wr.len
              have h2 := flat_le instB x.code (j + 1)
              have h4 := HW7.out.wr.len
              rw [flat_take instB hy] at h2
              simp only [List.length_append] at h1 h2
              omega
            have HY2 := Lib.hid (flat_take instB hy)
            have KP2 := Lib.hid (fun W => put_calls W y.op y.a y.b)
            have HAi := Lib.hid (HWi.out.below ((Below.refl _ _).alloc (Nat.le_refl _) (Obj.cells #[.int .i64 y.op, .int .i64 y.a, .int .i64 y.b] 62)))
            have hpi := blk_lt HWi.out.wr.box
            have bi3 := (blk_cell HAi.out.wr.box 0 : _ = some (Value.slice A9 n9 c9))
            have hni := blk_new wr (Obj.cells #[.int .i64 y.op, .int .i64 y.a, .int .i64 y.b] 62)
            have bi0 := (blk_cell hni 0 : _ = some (Value.int .i64 y.op))
            have bi1 := (blk_cell hni 1 : _ = some (Value.int .i64 y.a))
            have bi2 := (blk_cell hni 2 : _ = some (Value.int .i64 y.b))
            clear hy hSi j0 j1 j2 hni HRi hl7 b5 b6 hw5
            go_wp2_with fail
            generalize wr.alloc (Obj.cells #[.int .i64 y.op, .int .i64 y.a, .int .i64 y.b] 62) = WI at *
            generalize instB y = zs at *
            go_region_law (
              first
                | (go_simp; go_at_call 211; refine (KP2.out _).mono ?_; rintro e w9 ⟨C, d9, rfl, ho, hb9⟩; have hB9 : Below WI.heap.size WI w9 := ⟨hb9.os, hb9.tape, hb9.output, hb9.size, hb9.block⟩; have H9 := Lib.hid (HAi.out.wr.below hB9); have c9 : w9.cell? ⟨w.heap.size + 1, 0, none⟩ = some (.slice A9 n9 c9) := blk_cell H9.out.box 0; have HL := Lib.hid (own_lie ho); have HB9 := Lib.hid hB9; clear ho hb9 hB9)
                | (refine step_app _ (by rfl) (.tmp 57) (.tmp 59) _ (by rfl) 5 Tryz.underlying74 byte_info rfl (by decide) (by decide) 0 (n := n9) (by rfl) (by exact H9.out.own) (news := bcells zs) (by rfl) (bcells_length _) (by exact HL.out) (bcells_one _) (by omega) (Nat.zero_le _) ?_; intro v' w11 hown hg hat; obtain ⟨A6, c6, rfl, _, _, _⟩ := own_shape hown; have HQi := Lib.hid (HAi.out.step (HAi.out.wr.put HB9.out hown (by first | rfl | exact bcells_one_len _) rfl hg hat)); have hx11 := blk_grown H9.out.box hg (fun e => own_ne_blk H9.out.own H9.out.box (by decide) e.symm); have c11 := blk_cell hx11 0; have f11 := blk_frozen hx11 0; clear hown hg hat hx11))
            all_goals
              clear c11 f11 bi3 bi0 bi1 bi2
              generalize w11.setCell ⟨w.heap.size + 1, 0, none⟩ (.slice A6 (n9 + zs.length) c6) = wS at *
              go_wp2
              go_roundw
              case rel => exact ⟨j + 1, _, _, _, by omega, by go_num, Lib.hid (by rw [HY2.out, ← List.append_assoc]; exact HQi.out)⟩
              case measure => simp [intOf]; omega
          · have HE : Hid (varB m1 ++ (xs.take (k + 1)).flatMap funcB = (P7 ++ varB x.code.length) ++ (x.code.take j).flatMap instB) := Lib.hid (by rw [HX2.out, HIB.out, flat_all instB (by have := HNC.out; omega), HP7.out, HPre.out]; simp only [List.append_assoc])
            clear hl7 b5 b6 hw5
            go_wp2
            go_roundw
            case rel => exact ⟨k + 1, _, _, _, by omega, by go_num, Lib.hid (by rw [HE.out]; exact HWi.out)⟩
            case measure => simp [intOf]; omega
    · have hcb := blk_cell HW.out.wr.box 0
      go_wp2
      go_ret
      exact Wrs.done (by have := HW.out; rw [flat_all funcB (by have := HN.out; omega)] at this; unfold funcsB; rw [HN.out]; exact this) HV.out (by omega)
end Go.Proofs.YtmceaeoeakkppaaGreatDoor
namespace Go.Proofs.YtmceaeoeakkppaaGreatDoor
open Go.RowKit Go.Sort
set_option linter.unusedVariables false
theorem flat_bound {α : Type} (f : α → List Int) (c : Nat) : ∀ {xs : List α}, (∀ x ∈ xs, (f x).length ≤ c) → (xs.flatMap f).length ≤ xs.length * c
  | [], _ => by simp
  | x :: xs, h => by
    have h1 := h x (by simp)
    have h2 := flat_bound f c (xs := xs) (fun y hy => h y (by simp [hy]))
    rw [List.flatMap_cons, List.length_append, List.length_cons, Nat.add_mul]
    omega
theorem flat_isB {α : Type} {f : α → List Int} {xs : List α} (h : ∀ x ∈ xs, isB (f x)) : isB (xs.flatMap f) := fun y hy => by
  obtain ⟨x, hx, hy⟩ := List.mem_flatMap.1 hy
  exact h x hx y hy
theorem kindB_isB (t : Ty) : isB (kindB t) := isB_append (varB_isB _) (varB_isB _)
theorem typesB_isB (xs : List Ty) : isB (typesB xs) := isB_append (varB_isB _) (flat_isB fun x _ => kindB_isB x)
theorem recsB_isB (xs : List (List Ty)) : isB (recsB xs) := isB_append (varB_isB _) (flat_isB fun x _ => typesB_isB x)
theorem funcB_isB (f : Fn) : isB (funcB f) := isB_append (isB_append (isB_append (typesB_isB _) (kindB_isB _)) (typesB_isB _)) (isB_append (varB_isB _) (flat_isB fun x _ => instB_isB x))
theorem funcsB_isB (xs : List Fn) : isB (funcsB xs) := isB_append (varB_isB _) (flat_isB fun x _ => funcB_isB x)
theorem impsB_isB (xs : List Imp) : isB (impsB xs) := isB_append (varB_isB _) (flat_isB fun x _ => isB_append (typesB_isB _) (kindB_isB _))
theorem numsB_isB (xs : List Int) : isB (numsB xs) := isB_append (varB_isB _) (flat_isB fun x _ => fixB_isB _ _)
theorem strB_isB (s : ByteArray) : isB (strB s) := fun x hx => by
  simp only [strB, List.mem_map] at hx
  obtain ⟨b, _, rfl⟩ := hx
  have := b.toNat_lt
  omega
theorem textsB_isB (xs : List ByteArray) : isB (textsB xs) := isB_append (varB_isB _) (flat_isB fun x _ => isB_append (varB_isB _) (strB_isB x))
/-- The bounds of a type's two numbers in a list. -/
def okTs (xs : List Ty) : Prop := ∀ t ∈ xs, t.kind.toNat < 18446744073709551616 ∧ t.n.toNat < 18446744073709551616
theorem kindB_len {t : Ty} (h : t.kind.toNat < 18446744073709551616 ∧ t.n.toNat < 18446744073709551616) : (kindB t).length ≤ 20 := by
  have h1 := varB_ten h.1
  have h2 := varB_ten h.2
  rw [kindB, List.length_append]; omega
theorem good_ok {t : Ty} {r : Int} (h : good t r = true) (hr : r ≤ 1000) : t.kind.toNat < 18446744073709551616 ∧ t.n.toNat < 18446744073709551616 := by
  unfold good at h
  split at h
  · simp at h; omega
  · split at h
    · simp at h; omega
    · split at h
      · simp at h; omega
      · simp at h
theorem goodL_open {xs : List Ty} {r most : Int} (h : goodL xs r most = true) : (xs.length : Int) ≤ most ∧ ∀ t ∈ xs, good t r = true := by
  unfold goodL at h
  simp only [Bool.and_eq_true, decide_eq_true_eq, Bool.not_eq_true', List.any_eq_false] at h
  exact ⟨h.1, fun t ht => by simpa using h.2 t ht⟩
theorem typesB_len {xs : List Ty} {k : Nat} (hk : xs.length ≤ k) (hk2 : k ≤ 1000) (h : ∀ t ∈ xs, t.kind.toNat < 18446744073709551616 ∧ t.n.toNat < 18446744073709551616) : (typesB xs).length ≤ 10 + k * 20 := by
  have h1 := varB_ten (v := xs.length) (by omega)
  have h2 := flat_bound kindB 20 (fun x hx => kindB_len (h x hx))
  rw [typesB, List.length_append]; omega
theorem instB_len (i : Ins) : (instB i).length ≤ 21 := by
  unfold instB
  split
  · rename_i h
    obtain ⟨_, h2, h3, h4, h5, _⟩ := goodI_open h
    have h1 := varB_ten (v := i.a.toNat) (by omega)
    have h6 := varB_ten (v := i.b.toNat) (by omega)
    rw [List.length_cons, List.length_append]
    split <;> split <;> simp <;> omega
  · simp
/-- What the code says of a module that may be. -/
structure Fits (m : Md) : Prop where
  recs : m.recs.length ≤ 8
  recd : ∀ x ∈ m.recs, x.length ≤ 6 ∧ ∀ t ∈ x, good t m.recs.length = true
  one : 1 ≤ m.funcs.length
  funcs : m.funcs.length ≤ 8
  func : ∀ f ∈ m.funcs, f.args.length ≤ 4 ∧ (∀ t ∈ f.args, good t m.recs.length = true) ∧ good f.ret m.recs.length = true ∧ f.args.length + f.locals.length ≤ 8 ∧ (∀ t ∈ f.locals, good t m.recs.length = true) ∧ 1 ≤ f.code.length ∧ f.code.length ≤ 64 ∧ ∀ i ∈ f.code, goodI i = true
  imports : m.imports.length ≤ 8
  imp : ∀ x ∈ m.imports, x.args.length ≤ 4 ∧ (∀ t ∈ x.args, good t m.recs.length = true) ∧ good x.ret m.recs.length = true
  ints : m.ints.length ≤ 16
  texts : m.texts.length ≤ 16
  text : ∀ s ∈ m.texts, s.size ≤ 32
theorem fitF_open {f : Fn} {r : Int} (h : fitF f r = true) : f.args.length ≤ 4 ∧ (∀ t ∈ f.args, good t r = true) ∧ good f.ret r = true ∧ f.args.length + f.locals.length ≤ 8 ∧ (∀ t ∈ f.locals, good t r = true) ∧ 1 ≤ f.code.length ∧ f.code.length ≤ 64 ∧ ∀ i ∈ f.code, goodI i = true := by
  unfold fitF at h
  simp only [Bool.and_eq_true, decide_eq_true_eq, Bool.not_eq_true', List.any_eq_false] at h
  obtain ⟨h1, h2, h3, h4, h5, h6⟩ := h
  obtain ⟨a1, a2⟩ := goodL_open h1
  obtain ⟨b1, b2⟩ := goodL_open h3
  exact ⟨by omega, a2, h2, by omega, b2, by omega, by omega, fun i hi => by simpa using h6 i hi⟩
theorem fitsM_open {m : Md} (h : fitsM m = true) : Fits m := by
  unfold fitsM at h
  simp only [Bool.and_eq_true, decide_eq_true_eq, Bool.not_eq_true', List.any_eq_false, Bool.or_eq_true, not_or] at h
  obtain ⟨h1, h2, h3, h4, h5, h6, h7, h8, h9, h10⟩ := h
  refine ⟨by omega, fun x hx => ?_, by omega, by omega, fun f hf => fitF_open (by simpa using h5 f hf), by omega, fun x hx => ?_, by omega, by omega, fun s hs => by have := h10 s hs; simp at this; omega⟩
  · obtain ⟨a1, a2⟩ := goodL_open (xs := x) (r := m.recs.length) (most := 6) (by simpa using h2 x hx)
    exact ⟨by omega, a2⟩
  · obtain ⟨a0, b0⟩ := h7 x hx
    obtain ⟨a1, a2⟩ := goodL_open (xs := x.args) (r := m.recs.length) (most := 4) (by simpa using a0)
    exact ⟨by omega, a2, by simpa using b0⟩
theorem Fits.recs_len {m : Md} (h : Fits m) : (recsB m.recs).length ≤ 2000 := by
  have h0 := h.recs
  have h1 := varB_ten (v := m.recs.length) (by omega)
  have h2 := flat_bound typesB 130 (xs := m.recs) (fun x hx => by have := h.recd x hx; exact Nat.le_trans (typesB_len (k := 6) this.1 (by decide) (fun t ht => good_ok (this.2 t ht) (by omega))) (by decide))
  rw [recsB, List.length_append]; omega
theorem Fits.funcs_len {m : Md} (h : Fits m) : (funcsB m.funcs).length ≤ 20000 := by
  have h0 := h.funcs
  have hr := h.recs
  have h1 := varB_ten (v := m.funcs.length) (by omega)
  have h2 := flat_bound funcB 2000 (xs := m.funcs) (fun f hf => by
    obtain ⟨a1, a2, a3, a4, a5, a6, a7, a8⟩ := h.func f hf
    have g1 := typesB_len (k := 4) a1 (by decide) (fun t ht => good_ok (a2 t ht) (by omega))
    have g2 := typesB_len (k := 8) (xs := f.locals) (by omega) (by decide) (fun t ht => good_ok (a5 t ht) (by omega))
    have g3 := kindB_len (good_ok a3 (by omega))
    have g4 := varB_ten (v := f.code.length) (by omega)
    have g5 := flat_bound instB 21 (xs := f.code) (fun i _ => instB_len i)
    simp only [funcB, List.length_append]; omega)
  rw [funcsB, List.length_append]; omega
theorem Fits.imps_len {m : Md} (h : Fits m) : (impsB m.imports).length ≤ 2000 := by
  have h0 := h.imports
  have hr := h.recs
  have h1 := varB_ten (v := m.imports.length) (by omega)
  have h2 := flat_bound impB 110 (xs := m.imports) (fun f hf => by
    obtain ⟨a1, a2, a3⟩ := h.imp f hf
    have g1 := typesB_len (k := 4) a1 (by decide) (fun t ht => good_ok (a2 t ht) (by omega))
    have g3 := kindB_len (good_ok a3 (by omega))
    simp only [impB, List.length_append]; omega)
  rw [impsB, List.length_append]; omega
theorem Fits.nums_len {m : Md} (h : Fits m) : (numsB m.ints).length ≤ 2000 := by
  have h0 := h.ints
  have h1 := varB_ten (v := m.ints.length) (by omega)
  have h2 := flat_bound numB 8 (xs := m.ints) (fun f hf => by simp [numB, fixB_len])
  rw [numsB, List.length_append]; omega
theorem Fits.texts_len {m : Md} (h : Fits m) : (textsB m.texts).length ≤ 2000 := by
  have h0 := h.texts
  have h1 := varB_ten (v := m.texts.length) (by omega)
  have h2 := flat_bound textB 50 (xs := m.texts) (fun f hf => by
    have a := h.text f hf
    have g1 := varB_ten (v := f.size) (by omega)
    rw [textB, List.length_append, strB_len]; omega)
  rw [textsB, List.length_append]; omega
/-- A module's parts, and its bytes. -/
def partsM (m : Md) : List (List Int) := [recsB m.recs, funcsB m.funcs, impsB m.imports, numsB m.ints, textsB m.texts]
def encB (m : Md) : List Int := joinB (partsM m)
theorem Fits.parts_len {m : Md} (h : Fits m) : (partsB (partsM m)).length ≤ 30000 := by
  have h1 := h.recs_len
  have h2 := h.funcs_len
  have h3 := h.imps_len
  have h4 := h.nums_len
  have h5 := h.texts_len
  have v1 := varB_ten (v := (recsB m.recs).length) (by omega)
  have v2 := varB_ten (v := (funcsB m.funcs).length) (by omega)
  have v3 := varB_ten (v := (impsB m.imports).length) (by omega)
  have v4 := varB_ten (v := (numsB m.ints).length) (by omega)
  have v5 := varB_ten (v := (textsB m.texts).length) (by omega)
  simp only [partsM, partsB, List.flatMap_cons, List.flatMap_nil, List.length_append, List.length_nil]
  omega
theorem hold5 {W w1 : World} {g : Nat} {t : TypeId} {a b c d e : Value} (h : W.heap[g]? = some (.cells #[a, b, c, d, e] t (0, 0))) (hb : Below W.heap.size W w1) : w1.cell? ⟨g, 0, none⟩ = some a ∧ w1.cell? ⟨g, 1, none⟩ = some b ∧ w1.cell? ⟨g, 2, none⟩ = some c ∧ w1.cell? ⟨g, 3, none⟩ = some d ∧ w1.cell? ⟨g, 4, none⟩ = some e ∧ Below W.heap.size W w1 := by
  have h := blk_below h hb (blk_lt h)
  exact ⟨blk_cell h 0, blk_cell h 1, blk_cell h 2, blk_cell h 3, blk_cell h 4, hb⟩
theorem held5 {a b c d e : Prop} {W w1 w2 : World} (h : a ∧ b ∧ c ∧ d ∧ e ∧ Below W.heap.size W w1) (hb : Below w1.heap.size w1 w2) : Below W.heap.size W w2 := h.2.2.2.2.2.trans (hb.mono h.2.2.2.2.2.size)
theorem held5' {a b c d e : Prop} {W w1 : World} (h : a ∧ b ∧ c ∧ d ∧ e ∧ Below W.heap.size W w1) : Below W.heap.size W w1 := h.2.2.2.2.2
/-- A part of which the bytes are a list's. -/
theorem Part.own {w w' : World} {L : List Int} {e : Ending} (h : Part w L e w') : ∃ A c, e = .returned (.slice A L.length c) ∧ Hid (w'.ownsRow w.heap.size 5 1 (.slice A L.length c) L.length (bcells L)) ∧ Below w.heap.size w w' := h
/-- A module that is read. -/
structure MRow (S : Nat → Prop) (w : World) (m : Md) (B0 B1 B2 B3 B4 : Option Addr) (m0 m1 m2 m3 m4 : Nat) : Prop where
  e0 : m.recs.length = m0
  e1 : m.funcs.length = m1
  e2 : m.imports.length = m2
  e3 : m.ints.length = m3
  e4 : m.texts.length = m4
  r0 : (Rd.slice k_ty).Row S w B0 m.recs
  r1 : k_func.Row S w B1 m.funcs
  r2 : k_imp.Row S w B2 m.imports
  r3 : (Rd.int .u64).Row S w B3 m.ints
  r4 : Rd.str.Row S w B4 m.texts
  lt : ∀ b, S b → b < w.heap.size
theorem MRow.below {S : Nat → Prop} {w w' : World} {m : Md} {B0 B1 B2 B3 B4 : Option Addr} {m0 m1 m2 m3 m4 : Nat} (h : MRow S w m B0 B1 B2 B3 B4 m0 m1 m2 m3 m4) (hb : Below w.heap.size w w') : MRow S w' m B0 B1 B2 B3 B4 m0 m1 m2 m3 m4 :=
  have hk := fun b hb' => hb.block b (h.lt b hb')
  ⟨h.e0, h.e1, h.e2, h.e3, h.e4, h.r0.keep hk, h.r1.keep hk, h.r2.keep hk, h.r3.keep hk, h.r4.keep hk, fun b hb' => Nat.lt_of_lt_of_le (h.lt b hb') hb.size⟩
theorem part_sl {w : World} {base : Nat} {L : List Int} {A : Option Addr} {c : Nat} (h : w.ownsRow base 5 1 (.slice A L.length c) L.length (bcells L)) (hB : isB L) (hl : L.length ≤ 1000000) : (Rd.slice (Rd.int .u8)).K (· < w.heap.size) w L [.slice A L.length c] :=
  ⟨_, rfl, Rd.Sl.of_own (d := Rd.int .u8) h (fun g hg => (h.lt g hg).2) (byte_flat.2 ⟨rfl, hB⟩) (by omega)⟩
theorem enc_flat {m : Md} (F : Fits m) (W : World) (b1 b2 b3 b4 b5 : Nat) (A1 A2 A3 A4 A5 : Option Addr) (g1 g2 g3 g4 g5 : Nat) (o1 : W.ownsRow b1 5 1 (.slice A1 (recsB m.recs).length g1) (recsB m.recs).length (bcells (recsB m.recs))) (o2 : W.ownsRow b2 5 1 (.slice A2 (funcsB m.funcs).length g2) (funcsB m.funcs).length (bcells (funcsB m.funcs))) (o3 : W.ownsRow b3 5 1 (.slice A3 (impsB m.imports).length g3) (impsB m.imports).length (bcells (impsB m.imports))) (o4 : W.ownsRow b4 5 1 (.slice A4 (numsB m.ints).length g4) (numsB m.ints).length (bcells (numsB m.ints))) (o5 : W.ownsRow b5 5 1 (.slice A5 (textsB m.texts).length g5) (textsB m.texts).length (bcells (textsB m.texts))) :
    (Rd.slice (Rd.int .u8)).Flat (· < W.heap.size) W (partsM m) [.slice A1 (recsB m.recs).length g1, .slice A2 (funcsB m.funcs).length g2, .slice A3 (impsB m.imports).length g3, .slice A4 (numsB m.ints).length g4, .slice A5 (textsB m.texts).length g5] := by
  have l1 := F.recs_len
  have l2 := F.funcs_len
  have l3 := F.imps_len
  have l4 := F.nums_len
  have l5 := F.texts_len
  exact Rd.Flat.cons (part_sl o1 (recsB_isB _) (by omega)) (Rd.Flat.cons (part_sl o2 (funcsB_isB _) (by omega)) (Rd.Flat.cons (part_sl o3 (impsB_isB _) (by omega)) (Rd.Flat.cons (part_sl o4 (numsB_isB _) (by omega)) (Rd.Flat.cons (part_sl o5 (textsB_isB _) (by omega)) (Rd.Flat.nil _ _ _)))))
set_option maxRecDepth 100000 in
set_option maxHeartbeats 8000000 in
theorem enc_calls {S : Nat → Prop} (w : World) (m : Md) (B0 B1 B2 B3 B4 : Option Addr) (m0 m1 m2 m3 m4 d0 d1 d2 d3 d4 : Nat) (h : MRow S w m B0 B1 B2 B3 B4 m0 m1 m2 m3 m4) :
    Calls Tryz.prog 107 #[.agg #[.slice B0 m0 d0, .slice B1 m1 d1, .slice B2 m2 d2, .slice B3 m3 d3, .slice B4 m4 d4]] w fun e w' => (fitsM m = false ∧ e = .returned (.tuple #[.slice none 0 0, .int .i64 2]) ∧ Below w.heap.size w w') ∨ (fitsM m = true ∧ ∃ A c, e = .returned (.tuple #[.slice A (encB m).length c, .int .i64 0]) ∧ w'.ownsRow w.heap.size 5 1 (.slice A (encB m).length c) (encB m).length (bcells (encB m)) ∧ Below w.heap.size w w') := by
  have hV : Below w.heap.size w (w.alloc (Obj.cells #[.slice B0 m0 d0, .slice B1 m1 d1, .slice B2 m2 d2, .slice B3 m3 d3, .slice B4 m4 d4] 28)) := below_al1 (Below.refl _ _)
  have HV := Lib.hid hV
  have HM := Lib.hid (h.below hV)
  have HX := Lib.hid (blk_new w (Obj.cells #[.slice B0 m0 d0, .slice B1 m1 d1, .slice B2 m2 d2, .slice B3 m3 d3, .slice B4 m4 d4] 28))
  have KF := Lib.hid (fun W hW => fitsM_calls W B0 B1 B2 B3 B4 m0 m1 m2 m3 m4 d0 d1 d2 d3 d4 m h.e0 h.e1 h.e2 h.e3 h.e4 ((h.below hV).below hW).lt ((h.below hV).below hW).r0 ((h.below hV).below hW).r1 ((h.below hV).below hW).r2 ((h.below hV).below hW).r4)
  cases hf : fitsM m
  · have HFm := Lib.hid hf
    rw [hf] at KF
    clear h hV hf
    go_enter Tryz.func107, Tryz.ntmps107
    go_wp2_with (go_at_call 149; refine (KF.out _ (Below.refl _ _)).mono ?_; rintro e w1 ⟨rfl, hb1⟩)
    go_ret2
    exact .inl ⟨trivial, rfl, HV.out.trans (hb1.mono HV.out.size)⟩
  · have F := fitsM_open hf
    have l1 := F.recs_len
    have l2 := F.funcs_len
    have l3 := F.imps_len
    have l4 := F.nums_len
    have l5 := F.texts_len
    have l6 := F.parts_len
    rw [hf] at KF
    have KJ : Hid (∀ (W : World) (A1 A2 A3 A4 A5 : Option Addr) (g1 g2 g3 g4 g5 : Nat), (Rd.slice (Rd.int .u8)).Flat (· < W.heap.size) W (partsM m) [.slice A1 (recsB m.recs).length g1, .slice A2 (funcsB m.funcs).length g2, .slice A3 (impsB m.imports).length g3, .slice A4 (numsB m.ints).length g4, .slice A5 (textsB m.texts).length g5] → ∀ (t : TypeId) (c : Nat), Calls Tryz.prog 150 #[.slice (some ⟨W.heap.size, 0, none⟩) 5 c] (W.alloc (Obj.cells #[.slice A1 (recsB m.recs).length g1, .slice A2 (funcsB m.funcs).length g2, .slice A3 (impsB m.imports).length g3, .slice A4 (numsB m.ints).length g4, .slice A5 (textsB m.texts).length g5] t (0, 0))) fun e w' => ∃ A' c', e = .returned (.slice A' (encB m).length c') ∧ Hid (w'.ownsRow W.heap.size 5 1 (.slice A' (encB m).length c') (encB m).length (bcells (encB m))) ∧ Below W.heap.size W w') := Lib.hid (fun W A1 A2 A3 A4 A5 g1 g2 g3 g4 g5 hfl t c => by
      have hb0 := (Below.refl W.heap.size W).alloc (Nat.le_refl _) (Obj.cells #[.slice A1 (recsB m.recs).length g1, .slice A2 (funcsB m.funcs).length g2, .slice A3 (impsB m.imports).length g3, .slice A4 (numsB m.ints).length g4, .slice A5 (textsB m.texts).length g5] t (0, 0))
      have hS0 : ∀ b, b < W.heap.size → b < (W.alloc (Obj.cells #[.slice A1 (recsB m.recs).length g1, .slice A2 (funcsB m.funcs).length g2, .slice A3 (impsB m.imports).length g3, .slice A4 (numsB m.ints).length g4, .slice A5 (textsB m.texts).length g5] t (0, 0))).heap.size := fun b hb => by simp; omega
      have hrow : (Rd.slice (Rd.int .u8)).Row (· < (W.alloc (Obj.cells #[.slice A1 (recsB m.recs).length g1, .slice A2 (funcsB m.funcs).length g2, .slice A3 (impsB m.imports).length g3, .slice A4 (numsB m.ints).length g4, .slice A5 (textsB m.texts).length g5] t (0, 0))).heap.size) (W.alloc (Obj.cells #[.slice A1 (recsB m.recs).length g1, .slice A2 (funcsB m.funcs).length g2, .slice A3 (impsB m.imports).length g3, .slice A4 (numsB m.ints).length g4, .slice A5 (textsB m.texts).length g5] t (0, 0))) (some ⟨W.heap.size, 0, none⟩) (partsM m) :=
        Rd.Row.of_blk (blk_new W _) (by simp) ((hfl.keep (fun b hb => hb0.block b hb)).mono hS0) (fun j v hj => by simpa using hj)
      refine (pjoin_calls _ _ 5 c (partsM m) rfl (by decide) 30000 l6 (by decide) (fun b hb => hb) hrow).mono ?_
      rintro e w' ⟨A', c', rfl, ho, hb⟩
      exact ⟨A', c', rfl, Lib.hid (own_down ho (by simp)), hb0.trans (hb.mono (by simp))⟩)
    have K1 := Lib.hid (fun W hW => records_calls W B0 B1 B2 B3 B4 m0 m1 m2 m3 m4 d0 d1 d2 d3 d4 m.recs h.e0 (by have := h.e0; have := F.recs; omega) (fun x hx => by have := (F.recd x hx).1; omega) (by omega) ((h.below hV).below hW).lt ((h.below hV).below hW).r0)
    have K2 := Lib.hid (fun W hW => functions_calls W B0 B1 B2 B3 B4 m0 m1 m2 m3 m4 d0 d1 d2 d3 d4 m.funcs h.e1 (by have := h.e1; have := F.funcs; omega) (fun x hx => by obtain ⟨a1, _, _, a4, _, _, a7, _⟩ := F.func x hx; omega) (by omega) ((h.below hV).below hW).lt ((h.below hV).below hW).r1)
    have K3 := Lib.hid (fun W hW => imports_calls W B0 B1 B2 B3 B4 m0 m1 m2 m3 m4 d0 d1 d2 d3 d4 m.imports h.e2 (by have := h.e2; have := F.imports; omega) (fun x hx => by have := (F.imp x hx).1; omega) (by omega) ((h.below hV).below hW).lt ((h.below hV).below hW).r2)
    have K4 := Lib.hid (fun W hW => numbers_calls W B0 B1 B2 B3 B4 m0 m1 m2 m3 m4 d0 d1 d2 d3 d4 m.ints h.e3 (by have := h.e3; have := F.ints; omega) (by omega) ((h.below hV).below hW).lt ((h.below hV).below hW).r3)
    have K5 := Lib.hid (fun W hW => texts_calls W B0 B1 B2 B3 B4 m0 m1 m2 m3 m4 d0 d1 d2 d3 d4 m.texts h.e4 (by have := h.e4; have := F.texts; omega) (by omega) ((h.below hV).below hW).lt ((h.below hV).below hW).r4)
    have hsw := HV.out.size
    have HFl := Lib.hid (enc_flat F)
    have HW : Hid (Below w.heap.size w (w.alloc (Obj.cells #[.slice B0 m0 d0, .slice B1 m1 d1, .slice B2 m2 d2, .slice B3 m3 d3, .slice B4 m4 d4] 28))) := HV
    clear l1 l2 l3 l4 l5 l6 F h hV hf
    generalize (recsB m.recs) = L1 at *
    generalize (funcsB m.funcs) = L2 at *
    generalize (impsB m.imports) = L3 at *
    generalize (numsB m.ints) = L4 at *
    generalize (textsB m.texts) = L5 at *
    generalize encB m = LL at *
    go_enter Tryz.func107, Tryz.ntmps107
    go_wp2_with (go_at_call 149; refine (KF.out _ (Below.refl _ _)).mono ?_; rintro e w1 ⟨rfl, hb1⟩; have HB1 := Lib.hid hb1; clear hb1)
    have HX1 := Lib.hid (blk_below HX.out HB1.out (by simp))
    have HKb := Lib.hid (fun W (hW : Below w1.heap.size w1 W) => HB1.out.trans (hW.mono HB1.out.size))
    have HBw := Lib.hid (HV.out.trans (HB1.out.mono HV.out.size))
    have hs1 := HBw.out.size
    clear hsw
    go_region_held3 (fun w' => w'.cell? ⟨w.heap.size, 0, none⟩ = some (.slice B0 m0 d0) ∧ w'.cell? ⟨w.heap.size, 1, none⟩ = some (.slice B1 m1 d1) ∧ w'.cell? ⟨w.heap.size, 2, none⟩ = some (.slice B2 m2 d2) ∧ w'.cell? ⟨w.heap.size, 3, none⟩ = some (.slice B3 m3 d3) ∧ w'.cell? ⟨w.heap.size, 4, none⟩ = some (.slice B4 m4 d4) ∧ Below w1.heap.size w1 w')
      (first
        | exact hold5 HX1.out (Below.refl _ _)
        | exact hold5 HX1.out (Below.refl _ _).drew
        | exact hold5 HX1.out (by assumption)
        | exact hold5 HX1.out (HB5.out.alloc HB5.out.size _))
      (first
        | (go_at_call 151; refine (K1.out _ (HKb.out _ (held5' (by assumption)))).mono ?_; rintro e w' ⟨A1, g1, rfl, ho, hb⟩; have HO1 := Lib.hid ho; have hbW : Below w1.heap.size w1 w' := held5 (by assumption) hb; clear ho hb)
        | (go_at_call 152; refine (K2.out _ (HKb.out _ (held5' (by assumption)))).mono ?_; rintro e w' ⟨A2, g2, rfl, ho, hb⟩; have HO2 := Lib.hid ho; have HP1 := Lib.hid (own_below HO1.out hb); have hbW : Below w1.heap.size w1 w' := held5 (by assumption) hb; clear ho hb)
        | (go_at_call 153; refine (K3.out _ (HKb.out _ (held5' (by assumption)))).mono ?_; rintro e w' ⟨A3, g3, rfl, ho, hb⟩; have HO3 := Lib.hid ho; have HP2 := Lib.hid (own_below HO2.out hb); have HQ1 := Lib.hid (own_below HP1.out hb); have hbW : Below w1.heap.size w1 w' := held5 (by assumption) hb; clear ho hb)
        | (go_at_call 154; refine (K4.out _ (HKb.out _ (held5' (by assumption)))).mono ?_; rintro e w' ⟨A4, g4, rfl, ho, hb⟩; have HO4 := Lib.hid ho; have HP3 := Lib.hid (own_below HO3.out hb); have HQ2 := Lib.hid (own_below HP2.out hb); have HR1 := Lib.hid (own_below HQ1.out hb); have hbW : Below w1.heap.size w1 w' := held5 (by assumption) hb; clear ho hb)
        | (go_at_call 155; refine (K5.out _ (HKb.out _ (held5' (by assumption)))).mono ?_; rintro e w' ⟨A5, g5, rfl, ho, hb⟩; have HF5 := Lib.hid (HFl.out _ _ _ _ _ _ _ _ _ _ _ _ _ _ _ _ (own_below HR1.out hb) (own_below HQ2.out hb) (own_below HP3.out hb) (own_below HO4.out hb) ho); have hbW : Below w1.heap.size w1 w' := held5 (by assumption) hb; have HB5 := Lib.hid hbW; clear ho hb)
        | (go_at_call 150; refine (KJ.out _ _ _ _ _ _ _ _ _ _ _ HF5.out _ _).mono ?_; rintro e w' ⟨A6, g6, rfl, ho, hb⟩; have HO6 := ho; have HB6 := Lib.hid (HB5.out.trans (hb.mono HB5.out.size)); have hbW : Below w1.heap.size w1 w' := HB6.out; have hs5 := HB5.out.size; clear ho hb))
    all_goals
      go_wp2
      go_ret2
      exact .inr ⟨trivial, A6, g6, rfl, own_down HO6.out (Nat.le_trans hs1 hs5), HBw.out.trans (HB6.out.mono hs1)⟩
end Go.Proofs.YtmceaeoeakkppaaGreatDoor
namespace Go.Proofs.YtmceaeoeakkppaaGreatDoor
open Go.RowKit Go.Sort
set_option linter.unusedVariables false
theorem below_cell {w w1 : World} {g i : Nat} {v : Value} (h : w.cell? ⟨g, i, none⟩ = some v) (hb : Below w.heap.size w w1) : w1.cell? ⟨g, i, none⟩ = some v := (hb.cell (p := ⟨g, i, none⟩) (World.block_lt_of_cell? w _ h)).trans h
theorem below_a1 (w : World) (o : Go.Obj) : Below w.heap.size w (w.alloc o) := (Below.refl _ _).alloc (Nat.le_refl _) o
set_option maxHeartbeats 4000000 in
theorem ck1_calls {S : Nat → Prop} (w : World) (m : Md) (B0 B1 B2 B3 B4 : Option Addr) (m0 m1 m2 m3 m4 d0 d1 d2 d3 d4 : Nat) (h : MRow S w m B0 B1 B2 B3 B4 m0 m1 m2 m3 m4) (f : Fn) (G0 G3 G4 : Option Addr) (g0 g3 g4 : Nat) (p q : Nat) (hp : w.heap[p]? = some (.cells #[.slice B0 m0 d0, .slice B1 m1 d1, .slice B2 m2 d2, .slice B3 m3 d3, .slice B4 m4 d4] 28 (0, 0))) (hq : w.heap[q]? = some (.cells #[.slice G0 f.args.length g0, .int .i64 f.ret.kind, .int .i64 f.ret.n, .slice G3 f.locals.length g3, .slice G4 f.code.length g4] 67 (0, 0))) (l0 : f.args.length ≤ 140737488351232) (l3 : f.locals.length ≤ 140737488351232) (i : Ins) (ha : 0 ≤ i.a) :
    Calls Tryz.prog 108 #[.agg #[.int .i64 i.op, .int .i64 i.a, .int .i64 i.b], .pointer (some ⟨p, 0, none⟩), .pointer (some ⟨q, 0, none⟩)] w fun e w' => e = .returned (.bool (!namesL m f i)) ∧ Below w.heap.size w w' := by
  have hb := below_a1 w (Obj.cells #[.int .i64 i.op, .int .i64 i.a, .int .i64 i.b] 62)
  have K := Lib.hid (names_calls (w.alloc (Obj.cells #[.int .i64 i.op, .int .i64 i.a, .int .i64 i.b] 62)) B0 B1 B2 B3 B4 G0 G3 G4 m0 m1 m2 m3 m4 f.args.length f.locals.length f.code.length d0 d1 d2 d3 d4 g0 g3 g4 f.ret.kind f.ret.n i.op i.a i.b m.recs h.e0 (h.below hb).lt (h.below hb).r0 ha l0 l3)
  have HZ : Hid (namesN m.recs m1 m2 m3 m4 f.args.length f.locals.length f.code.length i.op i.a i.b = namesL m f i) := Lib.hid (by rw [← h.e1, ← h.e2, ← h.e3, ← h.e4]; rfl)
  rw [HZ.out] at K
  have hp2 := blk_below hp hb (blk_lt hp)
  have hq2 := blk_below hq hb (blk_lt hq)
  have c0 := (blk_cell hp2 0 : _ = some (Value.slice B0 m0 d0))
  have c1 := (blk_cell hp2 1 : _ = some (Value.slice B1 m1 d1))
  have c2 := (blk_cell hp2 2 : _ = some (Value.slice B2 m2 d2))
  have c3 := (blk_cell hp2 3 : _ = some (Value.slice B3 m3 d3))
  have c4 := (blk_cell hp2 4 : _ = some (Value.slice B4 m4 d4))
  have f0 := (blk_cell hq2 0 : _ = some (Value.slice G0 f.args.length g0))
  have f1 := (blk_cell hq2 1 : _ = some (Value.int .i64 f.ret.kind))
  have f2 := (blk_cell hq2 2 : _ = some (Value.int .i64 f.ret.n))
  have f3 := (blk_cell hq2 3 : _ = some (Value.slice G3 f.locals.length g3))
  have f4 := (blk_cell hq2 4 : _ = some (Value.slice G4 f.code.length g4))
  clear h hp hq hp2 hq2 hb HZ
  generalize namesL m f i = z at *
  go_enter Tryz.func108, Tryz.ntmps108
  go_wp2_with (go_at_call 109; refine K.out.mono ?_; rintro e w1 ⟨rfl, hb1⟩)
  go_ret
  exact ⟨rfl, below_al1 hb1⟩
theorem ck2_calls (w : World) (k n : Int) : Calls Tryz.prog 112 #[.agg #[.int .i64 k, .int .i64 n]] w fun e w' => e = .returned (.bool (k == 5)) ∧ Below w.heap.size w w' := by
  go_enter Tryz.func112, Tryz.ntmps112
  go_wp2
  go_ret
  exact ⟨rfl, below_al1 (Below.refl _ _)⟩
/-- May a host take, or answer, a type? -/
def hostL (t : Ty) : Bool := t.kind == 1 || t.kind == 5
theorem ck31_calls (w : World) (k n : Int) : Calls Tryz.prog 115 #[.agg #[.int .i64 k, .int .i64 n]] w fun e w' => e = .returned (.bool (!hostL ⟨k, n⟩)) ∧ Below w.heap.size w w' := by
  have K : Hid (∀ W, Calls Tryz.prog 114 #[.agg #[.int .i64 k, .int .i64 n]] W fun e w' => e = .returned (.bool (hostL ⟨k, n⟩)) ∧ Below W.heap.size W w') := Lib.hid (fun W => host_calls W k n)
  generalize hostL ⟨k, n⟩ = z at *
  go_enter Tryz.func115, Tryz.ntmps115
  go_wp2_with (go_at_call 114; refine (K.out _).mono ?_; rintro e w1 ⟨rfl, hb1⟩)
  go_ret
  exact ⟨rfl, below_al1 hb1⟩
theorem eg_ck1 : ∀ (args : Array Value) (w : World), (callFunc 108 args).run Tryz.prog w = .ok (.enter 108 args) w := eg_of Tryz.func108 (by kernel_rfl) rfl
theorem eg_ck2 : ∀ (args : Array Value) (w : World), (callFunc 112 args).run Tryz.prog w = .ok (.enter 112 args) w := eg_of Tryz.func112 (by kernel_rfl) rfl
theorem eg_ck3 : ∀ (args : Array Value) (w : World), (callFunc 113 args).run Tryz.prog w = .ok (.enter 113 args) w := eg_of Tryz.func113 (by kernel_rfl) rfl
theorem eg_ck31 : ∀ (args : Array Value) (w : World), (callFunc 115 args).run Tryz.prog w = .ok (.enter 115 args) w := eg_of Tryz.func115 (by kernel_rfl) rfl
def badI (x : Imp) : Bool := !hostL x.ret || x.args.any fun t => !hostL t
set_option maxHeartbeats 4000000 in
theorem ck3_calls {S : Nat → Prop} (w : World) (A0 : Option Addr) (d0 : Nat) (x : Imp) (hS : ∀ b, S b → b < w.heap.size) (hl : x.args.length ≤ 100000) (r0 : k_ty.Row S w A0 x.args) : Calls Tryz.prog 113 #[.agg #[.slice A0 x.args.length d0, .int .i64 x.ret.kind, .int .i64 x.ret.n]] w fun e w' => e = .returned (.bool (badI x)) ∧ Below w.heap.size w w' := by
  have hb := below_a1 w (Obj.cells #[.slice A0 x.args.length d0, .int .i64 x.ret.kind, .int .i64 x.ret.n] 79)
  have HX := Lib.hid (blk_new w (Obj.cells #[.slice A0 x.args.length d0, .int .i64 x.ret.kind, .int .i64 x.ret.n] 79))
  have K1 : Hid (∀ W, Calls Tryz.prog 114 #[.agg #[.int .i64 x.ret.kind, .int .i64 x.ret.n]] W fun e w' => e = .returned (.bool (hostL x.ret)) ∧ Below W.heap.size W w') := Lib.hid (fun W => host_calls W x.ret.kind x.ret.n)
  have K2 := Lib.hid (fun W (hW : Below (w.alloc (Obj.cells #[.slice A0 x.args.length d0, .int .i64 x.ret.kind, .int .i64 x.ret.n] 79)).heap.size (w.alloc (Obj.cells #[.slice A0 x.args.length d0, .int .i64 x.ret.kind, .int .i64 x.ret.n] 79)) W) => contains_Ty W A0 x.args.length d0 x.args rfl (by omega) (fun b h => Nat.lt_of_lt_of_le (hS b h) (Nat.le_trans hb.size hW.size)) (r0.keep (fun b h => (hW.block b (Nat.lt_of_lt_of_le (hS b h) hb.size)).trans (hb.block b (hS b h)))) 115 eg_ck31 #[] (fun t => !hostL t) (fun W x _ _ _ _ => ck31_calls W x.kind x.n))
  have HZ : Hid (badI x = (!hostL x.ret || x.args.any fun t => !hostL t)) := Lib.hid rfl
  generalize hostL x.ret = z1 at *
  generalize (x.args.any fun t => !hostL t) = z2 at *
  generalize x.args.length = n at *
  clear r0 hS hb
  cases z1
  · focus
    go_enter Tryz.func113, Tryz.ntmps113
    go_wp2_with (go_at_call 114; refine (K1.out _).mono ?_; rintro e w1 ⟨rfl, hb1⟩)
    go_ret
    exact ⟨ret_bool (by rw [HZ.out]; simp), below_al1 hb1⟩
  · go_enter Tryz.func113, Tryz.ntmps113
    go_wp2_with (first
      | (go_at_call 114; refine (K1.out _).mono ?_; rintro e w1 ⟨rfl, hb1⟩; have e0 := (blk_cell (blk_below HX.out hb1 (by simp)) 0 : _ = some (Value.slice A0 n d0)))
      | (go_at_call 111; refine (K2.out _ hb1).mono ?_; rintro e w2 ⟨rfl, hb2⟩))
    go_ret
    exact ⟨ret_bool (by rw [HZ.out]; simp), below_al1 (hb1.trans (hb2.mono hb1.size))⟩
def badF (m : Md) (f : Fn) : Bool := (f.code.any fun i => !namesL m f i) || f.locals.any fun t => t.kind == 5
/-- What sane.Check says of a module. -/
def saneL (m : Md) : Int := if fitsM m = true then (if (m.funcs.any fun f => badF m f) = true then 1 else if m.imports.any badI = true then 1 else 0) else 2
theorem any_none {α : Type} {p : α → Bool} {xs : List α} (h : ∀ j, j < xs.length → ∀ y, xs[j]? = some y → p y = false) : xs.any p = false := by
  rw [List.any_eq_false]
  intro x hx
  obtain ⟨j, hj⟩ := List.getElem?_of_mem hx
  simp [h j (List.getElem?_eq_some_iff.1 hj).1 x hj]
set_option maxRecDepth 100000 in
set_option maxHeartbeats 8000000 in
theorem sane_calls {S : Nat → Prop} (w : World) (m : Md) (B0 B1 B2 B3 B4 : Option Addr) (m0 m1 m2 m3 m4 d0 d1 d2 d3 d4 : Nat) (h : MRow S w m B0 B1 B2 B3 B4 m0 m1 m2 m3 m4) :
    Calls Tryz.prog 79 #[.agg #[.slice B0 m0 d0, .slice B1 m1 d1, .slice B2 m2 d2, .slice B3 m3 d3, .slice B4 m4 d4]] w fun e w' => e = .returned (.int .i64 (saneL m)) ∧ Below w.heap.size w w' := by
  have hV := below_a1 w (Obj.cells #[.slice B0 m0 d0, .slice B1 m1 d1, .slice B2 m2 d2, .slice B3 m3 d3, .slice B4 m4 d4] 28)
  have HV := Lib.hid hV
  have HM := Lib.hid (h.below hV)
  have HX := Lib.hid (blk_new w (Obj.cells #[.slice B0 m0 d0, .slice B1 m1 d1, .slice B2 m2 d2, .slice B3 m3 d3, .slice B4 m4 d4] 28))
  have hsw : w.heap.size < (w.alloc (Obj.cells #[.slice B0 m0 d0, .slice B1 m1 d1, .slice B2 m2 d2, .slice B3 m3 d3, .slice B4 m4 d4] 28)).heap.size := by simp
  have KE := Lib.hid (enc_calls (w.alloc (Obj.cells #[.slice B0 m0 d0, .slice B1 m1 d1, .slice B2 m2 d2, .slice B3 m3 d3, .slice B4 m4 d4] 28)) m B0 B1 B2 B3 B4 m0 m1 m2 m3 m4 d0 d1 d2 d3 d4 (h.below hV))
  cases hf : fitsM m
  · have HS : Hid (saneL m = 2) := Lib.hid (by simp [saneL, hf])
    have KE2 : Hid _ := Lib.hid (KE.out.mono (R' := fun e w' => e = .returned (.tuple #[.slice none 0 0, .int .i64 2]) ∧ Below (w.alloc (Obj.cells #[.slice B0 m0 d0, .slice B1 m1 d1, .slice B2 m2 d2, .slice B3 m3 d3, .slice B4 m4 d4] 28)).heap.size (w.alloc (Obj.cells #[.slice B0 m0 d0, .slice B1 m1 d1, .slice B2 m2 d2, .slice B3 m3 d3, .slice B4 m4 d4] 28)) w') (fun e w' h => by
      rcases h with ⟨_, h⟩ | ⟨h, _⟩
      · exact h
      · rw [hf] at h; cases h))
    clear h hV hf KE
    go_enter Tryz.func79, Tryz.ntmps79
    go_wp2_with (go_at_call 107; refine KE2.out.mono ?_; rintro e w1 ⟨rfl, hb1⟩)
    go_ret
    exact ⟨ret_int HS.out.symm, HV.out.trans (hb1.mono HV.out.size)⟩
  · have F := fitsM_open hf
    have HF := Lib.hid F
    have hm1 : m1 ≤ 8 := by have := h.e1; have := F.funcs; omega
    have hm2 : m2 ≤ 8 := by have := h.e2; have := F.imports; omega
    have HS : Hid (saneL m = if (m.funcs.any fun f => badF m f) = true then 1 else if m.imports.any badI = true then 1 else 0) := Lib.hid (by simp [saneL, hf])
    have KE2 : Hid (Calls _ _ _ _ (fun e w' => ∃ A c, e = .returned (.tuple #[.slice A (encB m).length c, .int .i64 0]) ∧ Below (w.alloc (Obj.cells #[.slice B0 m0 d0, .slice B1 m1 d1, .slice B2 m2 d2, .slice B3 m3 d3, .slice B4 m4 d4] 28)).heap.size (w.alloc (Obj.cells #[.slice B0 m0 d0, .slice B1 m1 d1, .slice B2 m2 d2, .slice B3 m3 d3, .slice B4 m4 d4] 28)) w')) := Lib.hid (KE.out.mono (fun e w' h => by
      rcases h with ⟨h, _⟩ | ⟨_, A, c, h1, _, h2⟩
      · rw [hf] at h; cases h
      · exact ⟨A, c, h1, h2⟩))
    have e1 := (blk_cell HX.out 1 : _ = some (Value.slice B1 m1 d1))
    have HN1 := Lib.hid h.e1
    clear h hV hf KE F
    generalize (encB m).length = L at *
    go_enter Tryz.func79, Tryz.ntmps79
    go_wp2_with (go_at_call 107; refine KE2.out.mono ?_; rintro e w1 ⟨A, c, rfl, hb1⟩; have HB1 := Lib.hid hb1; have e11 := below_cell e1 hb1; clear hb1)
    go_loopw [6, 7, 20] (fun _ _ ix wr => ∃ k : Nat, k ≤ m1 ∧ ix = .int .i64 k ∧ (∀ j, j < k → ∀ f, m.funcs[j]? = some f → badF m f = false) ∧ Below (w.alloc (Obj.cells #[.slice B0 m0 d0, .slice B1 m1 d1, .slice B2 m2 d2, .slice B3 m3 d3, .slice B4 m4 d4] 28)).heap.size (w.alloc (Obj.cells #[.slice B0 m0 d0, .slice B1 m1 d1, .slice B2 m2 d2, .slice B3 m3 d3, .slice B4 m4 d4] 28)) wr) (fun _ _ ix _ => m1 - (intOf ix).toNat)
    case atStart => exact ⟨0, Nat.zero_le _, rfl, fun j hj => absurd hj (by omega), HB1.out⟩
    case round =>
      obtain ⟨k, hk, rfl, hno, hb⟩ := hrel
      have HNo := Lib.hid hno
      have HB := Lib.hid hb
      have HMr := Lib.hid (HM.out.below hb)
      have HXr := Lib.hid (blk_below HX.out hb hsw)
      have hszr := hb.size
      by_cases hlt : k < m1
      · obtain ⟨f, hx⟩ : ∃ f, m.funcs[k]? = some f := ⟨_, List.getElem?_eq_getElem (by have := HN1.out; omega)⟩
        obtain ⟨b, o, G0, g0, G3, g3, G4, g4, rfl, hSb, q0, q1, q2, q3, q4, l0, m00, r0, f1, f2, l3, m3', r3, l4, m4', r4⟩ := k_func_at HMr.out.r1 hx
        obtain ⟨a1, a2, a3, a4, a5, a6, a7, a8⟩ := HF.out.func f (List.mem_of_getElem? hx)
        have hbA := below_a1 wr (Obj.cells #[.slice G0 f.args.length g0, .int .i64 f.ret.kind, .int .i64 f.ret.n, .slice G3 f.locals.length g3, .slice G4 f.code.length g4] 67)
        have HXA := Lib.hid (blk_new wr (Obj.cells #[.slice G0 f.args.length g0, .int .i64 f.ret.kind, .int .i64 f.ret.n, .slice G3 f.locals.length g3, .slice G4 f.code.length g4] 67))
        have HXM := Lib.hid (blk_alloc HXr.out (Obj.cells #[.slice G0 f.args.length g0, .int .i64 f.ret.kind, .int .i64 f.ret.n, .slice G3 f.locals.length g3, .slice G4 f.code.length g4] 67))
        have HMA := Lib.hid (HMr.out.below hbA)
        have HBA := Lib.hid (HB.out.trans (hbA.mono hb.size))
        have HR3 := Lib.hid (r3.keep (fun b h => hbA.block b (HMr.out.lt b h)))
        have HR4 := Lib.hid (r4.keep (fun b h => hbA.block b (HMr.out.lt b h)))
        have K1 := Lib.hid (contains_Ins (wr.alloc (Obj.cells #[.slice G0 f.args.length g0, .int .i64 f.ret.kind, .int .i64 f.ret.n, .slice G3 f.locals.length g3, .slice G4 f.code.length g4] 67)) G4 f.code.length g4 f.code rfl (by omega) HMA.out.lt HR4.out 108 eg_ck1 #[.pointer (some ⟨w.heap.size, 0, none⟩), .pointer (some ⟨wr.heap.size, 0, none⟩)] (fun i => !namesL m f i)
          (fun W i hi _ _ _ hb => ck1_calls W m B0 _ B2 B3 B4 m0 m1 m2 m3 m4 d0 d1 d2 d3 d4 (HMA.out.below hb) f G0 G3 G4 g0 g3 g4 w.heap.size wr.heap.size (blk_below HXM.out hb (blk_lt HXM.out)) (blk_below HXA.out hb (blk_lt HXA.out)) (by omega) (by omega) i (goodI_open (a8 i hi)).2.1))
        have K2 := Lib.hid (fun W (hW : Below (wr.alloc (Obj.cells #[.slice G0 f.args.length g0, .int .i64 f.ret.kind, .int .i64 f.ret.n, .slice G3 f.locals.length g3, .slice G4 f.code.length g4] 67)).heap.size (wr.alloc (Obj.cells #[.slice G0 f.args.length g0, .int .i64 f.ret.kind, .int .i64 f.ret.n, .slice G3 f.locals.length g3, .slice G4 f.code.length g4] 67)) W) => contains_Ty W G3 f.locals.length g3 f.locals rfl (by omega) (HMA.out.below hW).lt (HR3.out.keep (fun b h => hW.block b (HMA.out.lt b h))) 112 eg_ck2 #[] (fun t => t.kind == 5) (fun W x _ _ _ _ => ck2_calls W x.kind x.n))
        have HZ : Hid (badF m f = ((f.code.any fun i => !namesL m f i) || f.locals.any fun t => t.kind == 5)) := Lib.hid rfl
        have HK := Lib.hid hx
        have HAny : Hid (badF m f = true → (m.funcs.any fun f => badF m f) = true) := Lib.hid (fun h => List.any_eq_true.2 ⟨f, List.mem_of_getElem? hx, h⟩)
        clear hx hno hb r0 r3 r4 hbA f1 f2 hSb a8 a5 a2
        generalize (f.code.any fun i => !namesL m f i) = z1 at *
        generalize (f.locals.any fun t => t.kind == 5) = z2 at *
        cases z1
        · cases z2
          · go_wp2_with (first
              | (go_at_call 110; refine K1.out.mono ?_; rintro e w2 ⟨rfl, hb2⟩; have e3 := (blk_cell (blk_below HXA.out hb2 (blk_lt HXA.out)) 3 : _ = some (Value.slice G3 f.locals.length g3)))
              | (go_at_call 111; refine (K2.out _ hb2).mono ?_; rintro e w3 ⟨rfl, hb3⟩; have HB3 := Lib.hid (HBA.out.trans ((hb2.trans (hb3.mono hb2.size)).mono HBA.out.size)); clear hb2 hb3 e3))
            go_roundw
            case rel => exact ⟨k + 1, by omega, by go_num, fun j hj f' hf' => by
              by_cases e : j = k
              · subst e; rw [HK.out] at hf'; cases hf'; exact HZ.out
              · exact HNo.out j (by omega) f' hf', HB3.out⟩
            case measure => simp [intOf]; omega
          · go_wp2_with (first
              | (go_at_call 110; refine K1.out.mono ?_; rintro e w2 ⟨rfl, hb2⟩; have e3 := (blk_cell (blk_below HXA.out hb2 (blk_lt HXA.out)) 3 : _ = some (Value.slice G3 f.locals.length g3)))
              | (go_at_call 111; refine (K2.out _ hb2).mono ?_; rintro e w3 ⟨rfl, hb3⟩; have HB3 := Lib.hid (HBA.out.trans ((hb2.trans (hb3.mono hb2.size)).mono HBA.out.size)); clear hb2 hb3 e3))
            go_ret
            exact ⟨ret_int (by rw [HS.out, if_pos (HAny.out HZ.out)]), HV.out.trans (HB3.out.mono HV.out.size)⟩
        · go_wp2_with (go_at_call 110; refine K1.out.mono ?_; rintro e w2 ⟨rfl, hb2⟩; have HB3 := Lib.hid (HBA.out.trans (hb2.mono HBA.out.size)); clear hb2)
          go_ret
          exact ⟨ret_int (by rw [HS.out, if_pos (HAny.out (by rw [HZ.out]; rfl))]), HV.out.trans (HB3.out.mono HV.out.size)⟩
      · have HA : Hid ((m.funcs.any fun f => badF m f) = false) := Lib.hid (any_none (fun j hj => HNo.out j (by have := HN1.out; omega)))
        have K3 := Lib.hid (contains_Imp wr B2 m2 d2 m.imports HMr.out.e2 (by omega) HMr.out.lt HMr.out.r2 113 eg_ck3 #[] badI
          (fun W x G0 g0 hx _ _ s0 _ _ hb => ck3_calls W G0 g0 x (fun b h => Nat.lt_of_lt_of_le (HMr.out.lt b h) hb.size) (by have := (HF.out.imp x hx).1; omega) s0))
        have e2 := (blk_cell HXr.out 2 : _ = some (Value.slice B2 m2 d2))
        have HS2 : Hid (saneL m = if m.imports.any badI = true then 1 else 0) := Lib.hid (by rw [HS.out, HA.out]; simp)
        clear hno hb
        generalize m.imports.any badI = z at *
        cases z
        all_goals
          go_wp2_with (go_at_call 116; refine K3.out.mono ?_; rintro e w2 ⟨rfl, hb2⟩)
          go_ret
          exact ⟨ret_int (by rw [HS2.out]; rfl), HV.out.trans ((HB.out.trans (hb2.mono hszr)).mono HV.out.size)⟩
theorem saneL_zero {m : Md} (h : saneL m = 0) : fitsM m = true ∧ (∀ f ∈ m.funcs, (∀ i ∈ f.code, namesL m f i = true) ∧ ∀ t ∈ f.locals, t.kind ≠ 5) ∧ ∀ x ∈ m.imports, hostL x.ret = true ∧ ∀ t ∈ x.args, hostL t = true := by
  unfold saneL at h
  split at h
  · rename_i hf
    split at h
    · omega
    · rename_i h1
      split at h
      · omega
      · rename_i h2
        simp only [Bool.not_eq_true, List.any_eq_false] at h1 h2
        refine ⟨hf, fun f hf' => ?_, fun x hx => ?_⟩
        · have := h1 f hf'
          simp [badF] at this
          exact ⟨this.1, this.2⟩
        · have := h2 x hx
          simp [badI] at this
          exact this
  · omega
/-- Can it begin? -/
def mainL (m : Md) : Bool := decide (saneL m = 0) && match m.funcs with
  | f :: _ => decide (f.args.length = 0) && (f.ret.kind == 1)
  | [] => false
set_option maxHeartbeats 4000000 in
theorem main_calls {S : Nat → Prop} (w : World) (m : Md) (B0 B1 B2 B3 B4 : Option Addr) (m0 m1 m2 m3 m4 d0 d1 d2 d3 d4 : Nat) (h : MRow S w m B0 B1 B2 B3 B4 m0 m1 m2 m3 m4) :
    Calls Tryz.prog 80 #[.agg #[.slice B0 m0 d0, .slice B1 m1 d1, .slice B2 m2 d2, .slice B3 m3 d3, .slice B4 m4 d4]] w fun e w' => e = .returned (.bool (mainL m)) ∧ Below w.heap.size w w' := by
  have hV := below_a1 w (Obj.cells #[.slice B0 m0 d0, .slice B1 m1 d1, .slice B2 m2 d2, .slice B3 m3 d3, .slice B4 m4 d4] 28)
  have HV := Lib.hid hV
  have HM := Lib.hid (h.below hV)
  have HX := Lib.hid (blk_new w (Obj.cells #[.slice B0 m0 d0, .slice B1 m1 d1, .slice B2 m2 d2, .slice B3 m3 d3, .slice B4 m4 d4] 28))
  have KS := Lib.hid (sane_calls (w.alloc (Obj.cells #[.slice B0 m0 d0, .slice B1 m1 d1, .slice B2 m2 d2, .slice B3 m3 d3, .slice B4 m4 d4] 28)) m B0 B1 B2 B3 B4 m0 m1 m2 m3 m4 d0 d1 d2 d3 d4 (h.below hV))
  by_cases hz : saneL m = 0
  · have F := fitsM_open (saneL_zero hz).1
    have hn1 := h.e1
    have hone := F.one
    obtain ⟨f, hx⟩ : ∃ f, m.funcs[0]? = some f := ⟨_, List.getElem?_eq_getElem (by omega)⟩
    have HZ : Hid (mainL m = (decide ((f.args.length : Int) = 0) && (f.ret.kind == 1))) := Lib.hid (by
      unfold mainL
      rw [hz]
      cases hm : m.funcs with
      | nil => rw [hm] at hone; simp at hone
      | cons f' l => rw [hm] at hx; simp at hx; subst hx; simp)
    obtain ⟨b, o, G0, g0, G3, g3, G4, g4, rfl, hSb, q0, q1, q2, q3, q4, l0, m00, r0, f1, f2, l3, m3', r3, l4, m4', r4⟩ := k_func_at HM.out.r1 hx
    simp only [Nat.zero_mul, Nat.add_zero] at q0 q1
    have hm1 : 0 < m1 := by omega
    rw [hz] at KS
    have e1 := (blk_cell HX.out 1 : _ = some (Value.slice (some ⟨b, o, none⟩) m1 d1))
    clear h hV hz F hx q2 q3 q4 r0 r3 r4 f1 f2 hone
    generalize f.args.length = n at *
    generalize f.ret.kind = rk at *
    by_cases hn : (n : Int) = 0
    · have hd : (((n : Int)) == 0) = true := by simpa using hn
      have hd2 : decide ((n : Int) = 0) = true := decide_eq_true hn
      rw [hd2] at HZ
      go_enter Tryz.func80, Tryz.ntmps80
      go_wp2_with (go_at_call 79; refine KS.out.mono ?_; rintro e w1 ⟨rfl, hb1⟩; have e11 := below_cell e1 hb1; have q01 := below_cell q0 hb1; have q11 := below_cell q1 hb1)
      go_ret
      exact ⟨ret_bool (by rw [HZ.out]; simp), HV.out.trans (hb1.mono HV.out.size)⟩
    · have hd : (((n : Int)) == 0) = false := by simpa using hn
      have hd2 : decide ((n : Int) = 0) = false := decide_eq_false hn
      rw [hd2] at HZ
      go_enter Tryz.func80, Tryz.ntmps80
      go_wp2_with (go_at_call 79; refine KS.out.mono ?_; rintro e w1 ⟨rfl, hb1⟩; have e11 := below_cell e1 hb1; have q01 := below_cell q0 hb1; have q11 := below_cell q1 hb1)
      go_ret
      exact ⟨ret_bool (by rw [HZ.out]; simp), HV.out.trans (hb1.mono HV.out.size)⟩
  · have HZ : Hid (mainL m = false) := Lib.hid (by unfold mainL; rw [decide_eq_false hz]; rfl)
    have hq : (saneL m == 0) = false := by simpa using hz
    clear h hV hz
    generalize saneL m = x at *
    go_enter Tryz.func80, Tryz.ntmps80
    go_wp2_with (go_at_call 79; refine KS.out.mono ?_; rintro e w1 ⟨rfl, hb1⟩)
    go_ret
    exact ⟨ret_bool (by rw [HZ.out]), HV.out.trans (hb1.mono HV.out.size)⟩
end Go.Proofs.YtmceaeoeakkppaaGreatDoor
