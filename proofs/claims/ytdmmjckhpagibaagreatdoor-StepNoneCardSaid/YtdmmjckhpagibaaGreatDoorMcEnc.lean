/- module.Encode. -/
import Derived.Test.YtdmmjckhpagibaaGreatDoorMcFun
import Derived.Deep.RegionHeld3
namespace Go.Proofs.YtdmmjckhpagibaaGreatDoor
open Go.RowKit Go.Sort
set_option linter.unusedVariables false
theorem flat_bound {α : Type} (f : α → List Int) (c : Nat) : ∀ {xs : List α}, (∀ x ∈ xs, (f x).length ≤ c) → (xs.flatMap f).length ≤ xs.length * c
  | [], _ => by simp
  | x :: xs, h => by
    have h1 := h x (by simp)
    have h2 := flat_bound f c (xs := xs) (fun y hy => h y (by simp [hy]))
    rw [List.flatMap_cons, List.length_append, List.length_cons, Nat.add_mul]
    omega
theorem flat_isB {α : Type} {f : α → List Int} {xs : List α} (h : ∀ x ∈ xs, isB (f x)) : isB (xs.flatMap f) := fun y hy => by
  obtain ⟨x, hx, hy⟩ := List.mem_flatMap.1 hy
  exact h x hx y hy
theorem kindB_isB (t : Ty) : isB (kindB t) := isB_append (varB_isB _) (varB_isB _)
theorem typesB_isB (xs : List Ty) : isB (typesB xs) := isB_append (varB_isB _) (flat_isB fun x _ => kindB_isB x)
theorem recsB_isB (xs : List (List Ty)) : isB (recsB xs) := isB_append (varB_isB _) (flat_isB fun x _ => typesB_isB x)
theorem funcB_isB (f : Fn) : isB (funcB f) := isB_append (isB_append (isB_append (typesB_isB _) (kindB_isB _)) (typesB_isB _)) (isB_append (varB_isB _) (flat_isB fun x _ => instB_isB x))
theorem funcsB_isB (xs : List Fn) : isB (funcsB xs) := isB_append (varB_isB _) (flat_isB fun x _ => funcB_isB x)
theorem impsB_isB (xs : List Imp) : isB (impsB xs) := isB_append (varB_isB _) (flat_isB fun x _ => isB_append (typesB_isB _) (kindB_isB _))
theorem numsB_isB (xs : List Int) : isB (numsB xs) := isB_append (varB_isB _) (flat_isB fun x _ => fixB_isB _ _)
theorem strB_isB (s : ByteArray) : isB (strB s) := fun x hx => by
  simp only [strB, List.mem_map] at hx
  obtain ⟨b, _, rfl⟩ := hx
  have := b.toNat_lt
  omega
theorem textsB_isB (xs : List ByteArray) : isB (textsB xs) := isB_append (varB_isB _) (flat_isB fun x _ => isB_append (varB_isB _) (strB_isB x))
/-- The bounds of a type's two numbers in a list. -/
def okTs (xs : List Ty) : Prop := ∀ t ∈ xs, t.kind.toNat < 18446744073709551616 ∧ t.n.toNat < 18446744073709551616
theorem kindB_len {t : Ty} (h : t.kind.toNat < 18446744073709551616 ∧ t.n.toNat < 18446744073709551616) : (kindB t).length ≤ 20 := by
  have h1 := varB_ten h.1
  have h2 := varB_ten h.2
  rw [kindB, List.length_append]; omega
theorem good_ok {t : Ty} {r : Int} (h : good t r = true) (hr : r ≤ 1000) : t.kind.toNat < 18446744073709551616 ∧ t.n.toNat < 18446744073709551616 := by
  unfold good at h
  split at h
  · simp at h; omega
  · split at h
    · simp at h; omega
    · split at h
      · simp at h; omega
      · simp at h
theorem goodL_open {xs : List Ty} {r most : Int} (h : goodL xs r most = true) : (xs.length : Int) ≤ most ∧ ∀ t ∈ xs, good t r = true := by
  unfold goodL at h
  simp only [Bool.and_eq_true, decide_eq_true_eq, Bool.not_eq_true', List.any_eq_false] at h
  exact ⟨h.1, fun t ht => by simpa using h.2 t ht⟩
theorem typesB_len {xs : List Ty} {k : Nat} (hk : xs.length ≤ k) (hk2 : k ≤ 1000) (h : ∀ t ∈ xs, t.kind.toNat < 18446744073709551616 ∧ t.n.toNat < 18446744073709551616) : (typesB xs).length ≤ 10 + k * 20 := by
  have h1 := varB_ten (v := xs.length) (by omega)
  have h2 := flat_bound kindB 20 (fun x hx => kindB_len (h x hx))
  rw [typesB, List.length_append]; omega
theorem instB_len (i : Ins) : (instB i).length ≤ 21 := by
  unfold instB
  split
  · rename_i h
    obtain ⟨_, h2, h3, h4, h5, _⟩ := goodI_open h
    have h1 := varB_ten (v := i.a.toNat) (by omega)
    have h6 := varB_ten (v := i.b.toNat) (by omega)
    rw [List.length_cons, List.length_append]
    split <;> split <;> simp <;> omega
  · simp
/-- What the code says of a module that may be. -/
structure Fits (m : Md) : Prop where
  recs : m.recs.length ≤ 8
  recd : ∀ x ∈ m.recs, x.length ≤ 6 ∧ ∀ t ∈ x, good t m.recs.length = true
  one : 1 ≤ m.funcs.length
  funcs : m.funcs.length ≤ 8
  func : ∀ f ∈ m.funcs, f.args.length ≤ 4 ∧ (∀ t ∈ f.args, good t m.recs.length = true) ∧ good f.ret m.recs.length = true ∧ f.args.length + f.locals.length ≤ 8 ∧ (∀ t ∈ f.locals, good t m.recs.length = true) ∧ 1 ≤ f.code.length ∧ f.code.length ≤ 64 ∧ ∀ i ∈ f.code, goodI i = true
  imports : m.imports.length ≤ 8
  imp : ∀ x ∈ m.imports, x.args.length ≤ 4 ∧ (∀ t ∈ x.args, good t m.recs.length = true) ∧ good x.ret m.recs.length = true
  ints : m.ints.length ≤ 16
  texts : m.texts.length ≤ 16
  text : ∀ s ∈ m.texts, s.size ≤ 32
theorem fitF_open {f : Fn} {r : Int} (h : fitF f r = true) : f.args.length ≤ 4 ∧ (∀ t ∈ f.args, good t r = true) ∧ good f.ret r = true ∧ f.args.length + f.locals.length ≤ 8 ∧ (∀ t ∈ f.locals, good t r = true) ∧ 1 ≤ f.code.length ∧ f.code.length ≤ 64 ∧ ∀ i ∈ f.code, goodI i = true := by
  unfold fitF at h
  simp only [Bool.and_eq_true, decide_eq_true_eq, Bool.not_eq_true', List.any_eq_false] at h
  obtain ⟨h1, h2, h3, h4, h5, h6⟩ := h
  obtain ⟨a1, a2⟩ := goodL_open h1
  obtain ⟨b1, b2⟩ := goodL_open h3
  exact ⟨by omega, a2, h2, by omega, b2, by omega, by omega, fun i hi => by simpa using h6 i hi⟩
theorem fitsM_open {m : Md} (h : fitsM m = true) : Fits m := by
  unfold fitsM at h
  simp only [Bool.and_eq_true, decide_eq_true_eq, Bool.not_eq_true', List.any_eq_false, Bool.or_eq_true, not_or] at h
  obtain ⟨h1, h2, h3, h4, h5, h6, h7, h8, h9, h10⟩ := h
  refine ⟨by omega, fun x hx => ?_, by omega, by omega, fun f hf => fitF_open (by simpa using h5 f hf), by omega, fun x hx => ?_, by omega, by omega, fun s hs => by have := h10 s hs; simp at this; omega⟩
  · obtain ⟨a1, a2⟩ := goodL_open (xs := x) (r := m.recs.length) (most := 6) (by simpa using h2 x hx)
    exact ⟨by omega, a2⟩
  · obtain ⟨a0, b0⟩ := h7 x hx
    obtain ⟨a1, a2⟩ := goodL_open (xs := x.args) (r := m.recs.length) (most := 4) (by simpa using a0)
    exact ⟨by omega, a2, by simpa using b0⟩
theorem Fits.recs_len {m : Md} (h : Fits m) : (recsB m.recs).length ≤ 2000 := by
  have h0 := h.recs
  have h1 := varB_ten (v := m.recs.length) (by omega)
  have h2 := flat_bound typesB 130 (xs := m.recs) (fun x hx => by have := h.recd x hx; exact Nat.le_trans (typesB_len (k := 6) this.1 (by decide) (fun t ht => good_ok (this.2 t ht) (by omega))) (by decide))
  rw [recsB, List.length_append]; omega
theorem Fits.funcs_len {m : Md} (h : Fits m) : (funcsB m.funcs).length ≤ 20000 := by
  have h0 := h.funcs
  have hr := h.recs
  have h1 := varB_ten (v := m.funcs.length) (by omega)
  have h2 := flat_bound funcB 2000 (xs := m.funcs) (fun f hf => by
    obtain ⟨a1, a2, a3, a4, a5, a6, a7, a8⟩ := h.func f hf
    have g1 := typesB_len (k := 4) a1 (by decide) (fun t ht => good_ok (a2 t ht) (by omega))
    have g2 := typesB_len (k := 8) (xs := f.locals) (by omega) (by decide) (fun t ht => good_ok (a5 t ht) (by omega))
    have g3 := kindB_len (good_ok a3 (by omega))
    have g4 := varB_ten (v := f.code.length) (by omega)
    have g5 := flat_bound instB 21 (xs := f.code) (fun i _ => instB_len i)
    simp only [funcB, List.length_append]; omega)
  rw [funcsB, List.length_append]; omega
theorem Fits.imps_len {m : Md} (h : Fits m) : (impsB m.imports).length ≤ 2000 := by
  have h0 := h.imports
  have hr := h.recs
  have h1 := varB_ten (v := m.imports.length) (by omega)
  have h2 := flat_bound impB 110 (xs := m.imports) (fun f hf => by
    obtain ⟨a1, a2, a3⟩ := h.imp f hf
    have g1 := typesB_len (k := 4) a1 (by decide) (fun t ht => good_ok (a2 t ht) (by omega))
    have g3 := kindB_len (good_ok a3 (by omega))
    simp only [impB, List.length_append]; omega)
  rw [impsB, List.length_append]; omega
theorem Fits.nums_len {m : Md} (h : Fits m) : (numsB m.ints).length ≤ 2000 := by
  have h0 := h.ints
  have h1 := varB_ten (v := m.ints.length) (by omega)
  have h2 := flat_bound numB 8 (xs := m.ints) (fun f hf => by simp [numB, fixB_len])
  rw [numsB, List.length_append]; omega
theorem Fits.texts_len {m : Md} (h : Fits m) : (textsB m.texts).length ≤ 2000 := by
  have h0 := h.texts
  have h1 := varB_ten (v := m.texts.length) (by omega)
  have h2 := flat_bound textB 50 (xs := m.texts) (fun f hf => by
    have a := h.text f hf
    have g1 := varB_ten (v := f.size) (by omega)
    rw [textB, List.length_append, strB_len]; omega)
  rw [textsB, List.length_append]; omega
/-- A module's parts, and its bytes. -/
def partsM (m : Md) : List (List Int) := [recsB m.recs, funcsB m.funcs, impsB m.imports, numsB m.ints, textsB m.texts]
def encB (m : Md) : List Int := joinB (partsM m)
theorem Fits.parts_len {m : Md} (h : Fits m) : (partsB (partsM m)).length ≤ 30000 := by
  have h1 := h.recs_len
  have h2 := h.funcs_len
  have h3 := h.imps_len
  have h4 := h.nums_len
  have h5 := h.texts_len
  have v1 := varB_ten (v := (recsB m.recs).length) (by omega)
  have v2 := varB_ten (v := (funcsB m.funcs).length) (by omega)
  have v3 := varB_ten (v := (impsB m.imports).length) (by omega)
  have v4 := varB_ten (v := (numsB m.ints).length) (by omega)
  have v5 := varB_ten (v := (textsB m.texts).length) (by omega)
  simp only [partsM, partsB, List.flatMap_cons, List.flatMap_nil, List.length_append, List.length_nil]
  omega
theorem hold5 {W w1 : World} {g : Nat} {t : TypeId} {a b c d e : Value} (h : W.heap[g]? = some (.cells #[a, b, c, d, e] t (0, 0))) (hb : Below W.heap.size W w1) : w1.cell? ⟨g, 0, none⟩ = some a ∧ w1.cell? ⟨g, 1, none⟩ = some b ∧ w1.cell? ⟨g, 2, none⟩ = some c ∧ w1.cell? ⟨g, 3, none⟩ = some d ∧ w1.cell? ⟨g, 4, none⟩ = some e ∧ Below W.heap.size W w1 := by
  have h := blk_below h hb (blk_lt h)
  exact ⟨blk_cell h 0, blk_cell h 1, blk_cell h 2, blk_cell h 3, blk_cell h 4, hb⟩
theorem held5 {a b c d e : Prop} {W w1 w2 : World} (h : a ∧ b ∧ c ∧ d ∧ e ∧ Below W.heap.size W w1) (hb : Below w1.heap.size w1 w2) : Below W.heap.size W w2 := h.2.2.2.2.2.trans (hb.mono h.2.2.2.2.2.size)
theorem held5' {a b c d e : Prop} {W w1 : World} (h : a ∧ b ∧ c ∧ d ∧ e ∧ Below W.heap.size W w1) : Below W.heap.size W w1 := h.2.2.2.2.2
/-- A part of which the bytes are a list's. -/
theorem Part.own {w w' : World} {L : List Int} {e : Ending} (h : Part w L e w') : ∃ A c, e = .returned (.slice A L.length c) ∧ Hid (w'.ownsRow w.heap.size 5 1 (.slice A L.length c) L.length (bcells L)) ∧ Below w.heap.size w w' := h
/-- A module that is read. -/
structure MRow (S : Nat → Prop) (w : World) (m : Md) (B0 B1 B2 B3 B4 : Option Addr) (m0 m1 m2 m3 m4 : Nat) : Prop where
  e0 : m.recs.length = m0
  e1 : m.funcs.length = m1
  e2 : m.imports.length = m2
  e3 : m.ints.length = m3
  e4 : m.texts.length = m4
  r0 : (Rd.slice k_ty).Row S w B0 m.recs
  r1 : k_func.Row S w B1 m.funcs
  r2 : k_imp.Row S w B2 m.imports
  r3 : (Rd.int .u64).Row S w B3 m.ints
  r4 : Rd.str.Row S w B4 m.texts
  lt : ∀ b, S b → b < w.heap.size
theorem MRow.below {S : Nat → Prop} {w w' : World} {m : Md} {B0 B1 B2 B3 B4 : Option Addr} {m0 m1 m2 m3 m4 : Nat} (h : MRow S w m B0 B1 B2 B3 B4 m0 m1 m2 m3 m4) (hb : Below w.heap.size w w') : MRow S w' m B0 B1 B2 B3 B4 m0 m1 m2 m3 m4 :=
  have hk := fun b hb' => hb.block b (h.lt b hb')
  ⟨h.e0, h.e1, h.e2, h.e3, h.e4, h.r0.keep hk, h.r1.keep hk, h.r2.keep hk, h.r3.keep hk, h.r4.keep hk, fun b hb' => Nat.lt_of_lt_of_le (h.lt b hb') hb.size⟩
theorem part_sl {w : World} {base : Nat} {L : List Int} {A : Option Addr} {c : Nat} (h : w.ownsRow base 5 1 (.slice A L.length c) L.length (bcells L)) (hB : isB L) (hl : L.length ≤ 1000000) : (Rd.slice (Rd.int .u8)).K (· < w.heap.size) w L [.slice A L.length c] :=
  ⟨_, rfl, Rd.Sl.of_own (d := Rd.int .u8) h (fun g hg => (h.lt g hg).2) (byte_flat.2 ⟨rfl, hB⟩) (by omega)⟩
theorem enc_flat {m : Md} (F : Fits m) (W : World) (b1 b2 b3 b4 b5 : Nat) (A1 A2 A3 A4 A5 : Option Addr) (g1 g2 g3 g4 g5 : Nat) (o1 : W.ownsRow b1 5 1 (.slice A1 (recsB m.recs).length g1) (recsB m.recs).length (bcells (recsB m.recs))) (o2 : W.ownsRow b2 5 1 (.slice A2 (funcsB m.funcs).length g2) (funcsB m.funcs).length (bcells (funcsB m.funcs))) (o3 : W.ownsRow b3 5 1 (.slice A3 (impsB m.imports).length g3) (impsB m.imports).length (bcells (impsB m.imports))) (o4 : W.ownsRow b4 5 1 (.slice A4 (numsB m.ints).length g4) (numsB m.ints).length (bcells (numsB m.ints))) (o5 : W.ownsRow b5 5 1 (.slice A5 (textsB m.texts).length g5) (textsB m.texts).length (bcells (textsB m.texts))) :
    (Rd.slice (Rd.int .u8)).Flat (· < W.heap.size) W (partsM m) [.slice A1 (recsB m.recs).length g1, .slice A2 (funcsB m.funcs).length g2, .slice A3 (impsB m.imports).length g3, .slice A4 (numsB m.ints).length g4, .slice A5 (textsB m.texts).length g5] := by
  have l1 := F.recs_len
  have l2 := F.funcs_len
  have l3 := F.imps_len
  have l4 := F.nums_len
  have l5 := F.texts_len
  exact Rd.Flat.cons (part_sl o1 (recsB_isB _) (by omega)) (Rd.Flat.cons (part_sl o2 (funcsB_isB _) (by omega)) (Rd.Flat.cons (part_sl o3 (impsB_isB _) (by omega)) (Rd.Flat.cons (part_sl o4 (numsB_isB _) (by omega)) (Rd.Flat.cons (part_sl o5 (textsB_isB _) (by omega)) (Rd.Flat.nil _ _ _)))))
set_option maxRecDepth 100000 in
set_option maxHeartbeats 8000000 in
theorem enc_calls {S : Nat → Prop} (w : World) (m : Md) (B0 B1 B2 B3 B4 : Option Addr) (m0 m1 m2 m3 m4 d0 d1 d2 d3 d4 : Nat) (h : MRow S w m B0 B1 B2 B3 B4 m0 m1 m2 m3 m4) :
    Calls Tryz.prog 66 #[.agg #[.slice B0 m0 d0, .slice B1 m1 d1, .slice B2 m2 d2, .slice B3 m3 d3, .slice B4 m4 d4]] w fun e w' => (fitsM m = false ∧ e = .returned (.tuple #[.slice none 0 0, .int .i64 2]) ∧ Below w.heap.size w w') ∨ (fitsM m = true ∧ ∃ A c, e = .returned (.tuple #[.slice A (encB m).length c, .int .i64 0]) ∧ w'.ownsRow w.heap.size 5 1 (.slice A (encB m).length c) (encB m).length (bcells (encB m)) ∧ Below w.heap.size w w') := by
  have hV : Below w.heap.size w (w.alloc (Obj.cells #[.slice B0 m0 d0, .slice B1 m1 d1, .slice B2 m2 d2, .slice B3 m3 d3, .slice B4 m4 d4] 34)) := below_al1 (Below.refl _ _)
  have HV := Lib.hid hV
  have HM := Lib.hid (h.below hV)
  have HX := Lib.hid (blk_new w (Obj.cells #[.slice B0 m0 d0, .slice B1 m1 d1, .slice B2 m2 d2, .slice B3 m3 d3, .slice B4 m4 d4] 34))
  have KF := Lib.hid (fun W hW => fitsM_calls W B0 B1 B2 B3 B4 m0 m1 m2 m3 m4 d0 d1 d2 d3 d4 m h.e0 h.e1 h.e2 h.e3 h.e4 ((h.below hV).below hW).lt ((h.below hV).below hW).r0 ((h.below hV).below hW).r1 ((h.below hV).below hW).r2 ((h.below hV).below hW).r4)
  cases hf : fitsM m
  · have HFm := Lib.hid hf
    rw [hf] at KF
    clear h hV hf
    go_enter Tryz.func66, Tryz.ntmps66
    go_wp2_with (go_at_call 97; refine (KF.out _ (Below.refl _ _)).mono ?_; rintro e w1 ⟨rfl, hb1⟩)
    go_ret2
    exact .inl ⟨trivial, rfl, HV.out.trans (hb1.mono HV.out.size)⟩
  · have F := fitsM_open hf
    have l1 := F.recs_len
    have l2 := F.funcs_len
    have l3 := F.imps_len
    have l4 := F.nums_len
    have l5 := F.texts_len
    have l6 := F.parts_len
    rw [hf] at KF
    have KJ : Hid (∀ (W : World) (A1 A2 A3 A4 A5 : Option Addr) (g1 g2 g3 g4 g5 : Nat), (Rd.slice (Rd.int .u8)).Flat (· < W.heap.size) W (partsM m) [.slice A1 (recsB m.recs).length g1, .slice A2 (funcsB m.funcs).length g2, .slice A3 (impsB m.imports).length g3, .slice A4 (numsB m.ints).length g4, .slice A5 (textsB m.texts).length g5] → ∀ (t : TypeId) (c : Nat), Calls Tryz.prog 98 #[.slice (some ⟨W.heap.size, 0, none⟩) 5 c] (W.alloc (Obj.cells #[.slice A1 (recsB m.recs).length g1, .slice A2 (funcsB m.funcs).length g2, .slice A3 (impsB m.imports).length g3, .slice A4 (numsB m.ints).length g4, .slice A5 (textsB m.texts).length g5] t (0, 0))) fun e w' => ∃ A' c', e = .returned (.slice A' (encB m).length c') ∧ Hid (w'.ownsRow W.heap.size 5 1 (.slice A' (encB m).length c') (encB m).length (bcells (encB m))) ∧ Below W.heap.size W w') := Lib.hid (fun W A1 A2 A3 A4 A5 g1 g2 g3 g4 g5 hfl t c => by
      have hb0 := (Below.refl W.heap.size W).alloc (Nat.le_refl _) (Obj.cells #[.slice A1 (recsB m.recs).length g1, .slice A2 (funcsB m.funcs).length g2, .slice A3 (impsB m.imports).length g3, .slice A4 (numsB m.ints).length g4, .slice A5 (textsB m.texts).length g5] t (0, 0))
      have hS0 : ∀ b, b < W.heap.size → b < (W.alloc (Obj.cells #[.slice A1 (recsB m.recs).length g1, .slice A2 (funcsB m.funcs).length g2, .slice A3 (impsB m.imports).length g3, .slice A4 (numsB m.ints).length g4, .slice A5 (textsB m.texts).length g5] t (0, 0))).heap.size := fun b hb => by simp; omega
      have hrow : (Rd.slice (Rd.int .u8)).Row (· < (W.alloc (Obj.cells #[.slice A1 (recsB m.recs).length g1, .slice A2 (funcsB m.funcs).length g2, .slice A3 (impsB m.imports).length g3, .slice A4 (numsB m.ints).length g4, .slice A5 (textsB m.texts).length g5] t (0, 0))).heap.size) (W.alloc (Obj.cells #[.slice A1 (recsB m.recs).length g1, .slice A2 (funcsB m.funcs).length g2, .slice A3 (impsB m.imports).length g3, .slice A4 (numsB m.ints).length g4, .slice A5 (textsB m.texts).length g5] t (0, 0))) (some ⟨W.heap.size, 0, none⟩) (partsM m) :=
        Rd.Row.of_blk (blk_new W _) (by simp) ((hfl.keep (fun b hb => hb0.block b hb)).mono hS0) (fun j v hj => by simpa using hj)
      refine (pjoin_calls _ _ 5 c (partsM m) rfl (by decide) 30000 l6 (by decide) (fun b hb => hb) hrow).mono ?_
      rintro e w' ⟨A', c', rfl, ho, hb⟩
      exact ⟨A', c', rfl, Lib.hid (own_down ho (by simp)), hb0.trans (hb.mono (by simp))⟩)
    have K1 := Lib.hid (fun W hW => records_calls W B0 B1 B2 B3 B4 m0 m1 m2 m3 m4 d0 d1 d2 d3 d4 m.recs h.e0 (by have := h.e0; have := F.recs; omega) (fun x hx => by have := (F.recd x hx).1; omega) (by omega) ((h.below hV).below hW).lt ((h.below hV).below hW).r0)
    have K2 := Lib.hid (fun W hW => functions_calls W B0 B1 B2 B3 B4 m0 m1 m2 m3 m4 d0 d1 d2 d3 d4 m.funcs h.e1 (by have := h.e1; have := F.funcs; omega) (fun x hx => by obtain ⟨a1, _, _, a4, _, _, a7, _⟩ := F.func x hx; omega) (by omega) ((h.below hV).below hW).lt ((h.below hV).below hW).r1)
    have K3 := Lib.hid (fun W hW => imports_calls W B0 B1 B2 B3 B4 m0 m1 m2 m3 m4 d0 d1 d2 d3 d4 m.imports h.e2 (by have := h.e2; have := F.imports; omega) (fun x hx => by have := (F.imp x hx).1; omega) (by omega) ((h.below hV).below hW).lt ((h.below hV).below hW).r2)
    have K4 := Lib.hid (fun W hW => numbers_calls W B0 B1 B2 B3 B4 m0 m1 m2 m3 m4 d0 d1 d2 d3 d4 m.ints h.e3 (by have := h.e3; have := F.ints; omega) (by omega) ((h.below hV).below hW).lt ((h.below hV).below hW).r3)
    have K5 := Lib.hid (fun W hW => texts_calls W B0 B1 B2 B3 B4 m0 m1 m2 m3 m4 d0 d1 d2 d3 d4 m.texts h.e4 (by have := h.e4; have := F.texts; omega) (by omega) ((h.below hV).below hW).lt ((h.below hV).below hW).r4)
    have hsw := HV.out.size
    have HFl := Lib.hid (enc_flat F)
    have HW : Hid (Below w.heap.size w (w.alloc (Obj.cells #[.slice B0 m0 d0, .slice B1 m1 d1, .slice B2 m2 d2, .slice B3 m3 d3, .slice B4 m4 d4] 34))) := HV
    clear l1 l2 l3 l4 l5 l6 F h hV hf
    generalize (recsB m.recs) = L1 at *
    generalize (funcsB m.funcs) = L2 at *
    generalize (impsB m.imports) = L3 at *
    generalize (numsB m.ints) = L4 at *
    generalize (textsB m.texts) = L5 at *
    generalize encB m = LL at *
    go_enter Tryz.func66, Tryz.ntmps66
    go_wp2_with (go_at_call 97; refine (KF.out _ (Below.refl _ _)).mono ?_; rintro e w1 ⟨rfl, hb1⟩; have HB1 := Lib.hid hb1; clear hb1)
    have HX1 := Lib.hid (blk_below HX.out HB1.out (by simp))
    have HKb := Lib.hid (fun W (hW : Below w1.heap.size w1 W) => HB1.out.trans (hW.mono HB1.out.size))
    have HBw := Lib.hid (HV.out.trans (HB1.out.mono HV.out.size))
    have hs1 := HBw.out.size
    clear hsw
    go_region_held3 (fun w' => w'.cell? ⟨w.heap.size, 0, none⟩ = some (.slice B0 m0 d0) ∧ w'.cell? ⟨w.heap.size, 1, none⟩ = some (.slice B1 m1 d1) ∧ w'.cell? ⟨w.heap.size, 2, none⟩ = some (.slice B2 m2 d2) ∧ w'.cell? ⟨w.heap.size, 3, none⟩ = some (.slice B3 m3 d3) ∧ w'.cell? ⟨w.heap.size, 4, none⟩ = some (.slice B4 m4 d4) ∧ Below w1.heap.size w1 w')
      (first
        | exact hold5 HX1.out (Below.refl _ _)
        | exact hold5 HX1.out (Below.refl _ _).drew
        | exact hold5 HX1.out (by assumption)
        | exact hold5 HX1.out (HB5.out.alloc HB5.out.size _))
      (first
        | (go_at_call 99; refine (K1.out _ (HKb.out _ (held5' (by assumption)))).mono ?_; rintro e w' ⟨A1, g1, rfl, ho, hb⟩; have HO1 := Lib.hid ho; have hbW : Below w1.heap.size w1 w' := held5 (by assumption) hb; clear ho hb)
        | (go_at_call 100; refine (K2.out _ (HKb.out _ (held5' (by assumption)))).mono ?_; rintro e w' ⟨A2, g2, rfl, ho, hb⟩; have HO2 := Lib.hid ho; have HP1 := Lib.hid (own_below HO1.out hb); have hbW : Below w1.heap.size w1 w' := held5 (by assumption) hb; clear ho hb)
        | (go_at_call 101; refine (K3.out _ (HKb.out _ (held5' (by assumption)))).mono ?_; rintro e w' ⟨A3, g3, rfl, ho, hb⟩; have HO3 := Lib.hid ho; have HP2 := Lib.hid (own_below HO2.out hb); have HQ1 := Lib.hid (own_below HP1.out hb); have hbW : Below w1.heap.size w1 w' := held5 (by assumption) hb; clear ho hb)
        | (go_at_call 102; refine (K4.out _ (HKb.out _ (held5' (by assumption)))).mono ?_; rintro e w' ⟨A4, g4, rfl, ho, hb⟩; have HO4 := Lib.hid ho; have HP3 := Lib.hid (own_below HO3.out hb); have HQ2 := Lib.hid (own_below HP2.out hb); have HR1 := Lib.hid (own_below HQ1.out hb); have hbW : Below w1.heap.size w1 w' := held5 (by assumption) hb; clear ho hb)
        | (go_at_call 103; refine (K5.out _ (HKb.out _ (held5' (by assumption)))).mono ?_; rintro e w' ⟨A5, g5, rfl, ho, hb⟩; have HF5 := Lib.hid (HFl.out _ _ _ _ _ _ _ _ _ _ _ _ _ _ _ _ (own_below HR1.out hb) (own_below HQ2.out hb) (own_below HP3.out hb) (own_below HO4.out hb) ho); have hbW : Below w1.heap.size w1 w' := held5 (by assumption) hb; have HB5 := Lib.hid hbW; clear ho hb)
        | (go_at_call 98; refine (KJ.out _ _ _ _ _ _ _ _ _ _ _ HF5.out _ _).mono ?_; rintro e w' ⟨A6, g6, rfl, ho, hb⟩; have HO6 := ho; have HB6 := Lib.hid (HB5.out.trans (hb.mono HB5.out.size)); have hbW : Below w1.heap.size w1 w' := HB6.out; have hs5 := HB5.out.size; clear ho hb))
    all_goals
      go_wp2
      go_ret2
      exact .inr ⟨trivial, A6, g6, rfl, own_down HO6.out (Nat.le_trans hs1 hs5), HBw.out.trans (HB6.out.mono hs1)⟩
end Go.Proofs.YtdmmjckhpagibaaGreatDoor
