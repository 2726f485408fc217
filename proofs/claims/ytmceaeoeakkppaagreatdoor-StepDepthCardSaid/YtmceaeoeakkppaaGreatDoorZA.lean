/- Base: Plain words on memory: what a value's cells say of a datum (Rd), a slice that is read (Row, Sl), and how the arguments of a law are opened. Data: The program's structs as Lean structures, and what their cells say. Printed by gen_data.py of this repo. Own: Slices that a call owns: append with any source; from what is owned to what is read. Keep: What a call keeps but for what is its own: footprints. Bytes: Bytes: rows of them that a call owns or reads; the bytes of a number. Cnt: How many bytes of a number are meant. NumVar: num.Var: the bytes of a number. KlKind: kind.Ref, Sub, Join, Good and the reference's. KlJoin: kind.Join and the reference's Join2, a way at a time. Printed by gen_kind.py of this repo. McGood: kind.Good; kind.Sub and kind.Join over letters. Printed by gen_mc.py of this repo out of XGood. -/
import Derived.Test.YtmceaeoeakkppaaGreatDoorProg
import Derived.WalkKit
import Derived.ProofKit
import Derived.OpenShut
import Derived.ShutString
import Derived.ChangeOld
import Derived.Below
import Derived.SizedLaws
import Derived.Deep.Draws
import Derived.Deep.AppendLies
import Derived.Maps.AppendAt
import Derived.Laws.OwnMore
import Derived.Laws.MakeOwn
import Derived.Deep.OwnRows
import Derived.OwnWalk
import Derived.Tactics
import Derived.KernelRfl
import Derived.RowKit3
import Derived.LoopTactic
import Derived.Lib.Hide
import Derived.RegionTactic
import Derived.Deep.RegionLaw
import Derived.Deep.RegionHeld3
import Derived.WalkArith
import Derived.Lib.SliceRun
import Derived.Laws.StructEq
import Derived.Laws.ResultCell
namespace Go.Proofs.YtmceaeoeakkppaaGreatDoor
open Go.RowKit

theorem block_of_add (a : Addr) (n : Nat) : (a.add n).block = a.block := by unfold Addr.add; split <;> rfl
theorem add_of_add (a : Addr) (i j : Nat) : (a.add i).add j = a.add (i + j) := by
  unfold Addr.add
  by_cases hi : i = 0 <;> by_cases hj : j = 0 <;> simp [hi, hj, Nat.add_assoc]
theorem add_at (b o n : Nat) : (⟨b, o, none⟩ : Addr).add n = ⟨b, o + n, none⟩ := by
  unfold Addr.add; split <;> simp_all
theorem spot_none {w : World} {a : Addr} {v : Value} (h : w.cell? a = some v) : a = ⟨a.block, a.off, none⟩ := by
  obtain ⟨b, o, s⟩ := a
  cases s with
  | none => rfl
  | some s =>
    exfalso
    simp only [World.cell?] at h
    split at h <;> simp_all

theorem blk_cell {w : World} {g : Nat} {t : TypeId} {cs : Array Value} (h : w.heap[g]? = some (.cells cs t (0, 0))) (i : Nat) : w.cell? ⟨g, i, none⟩ = cs[i]? := by simp [World.cell?, h]
theorem blk_frozen {w : World} {g : Nat} {t : TypeId} {cs : Array Value} (h : w.heap[g]? = some (.cells cs t (0, 0))) (i : Nat) : w.frozen? ⟨g, i, none⟩ = false := by simp [World.frozen?, h]
theorem blk_lt {w : World} {g : Nat} {o : Obj} (h : w.heap[g]? = some o) : g < w.heap.size := (Array.getElem?_eq_some_iff.1 h).1
theorem blk_alloc {w : World} {g : Nat} {o : Obj} (h : w.heap[g]? = some o) (o' : Obj) : (w.alloc o').heap[g]? = some o := (Below.heap_alloc w o' g (blk_lt h)).trans h
theorem blk_new (w : World) (o : Obj) : (w.alloc o).heap[w.heap.size]? = some o := by show (w.heap.push o)[w.heap.size]? = _; simp
theorem blk_new2 (w : World) (o o' : Obj) : ((w.alloc o).alloc o').heap[w.heap.size + 1]? = some o' := by simpa using blk_new (w.alloc o) o'
theorem blk_new3 (w : World) (a b c : Go.Obj) : (((w.alloc a).alloc b).alloc c).heap[w.heap.size + 1 + 1]? = some c := by simpa using blk_new ((w.alloc a).alloc b) c
theorem blk_new4 (w : World) (a b c d : Go.Obj) : ((((w.alloc a).alloc b).alloc c).alloc d).heap[w.heap.size + 1 + 1 + 1]? = some d := by simpa using blk_new (((w.alloc a).alloc b).alloc c) d
theorem blk_set {w : World} {g : Nat} {t : TypeId} {cs : Array Value} (h : w.heap[g]? = some (.cells cs t (0, 0))) (i : Nat) (u : Value) : (w.setCell ⟨g, i, none⟩ u).heap[g]? = some (.cells (cs.setIfInBounds i u) t (0, 0)) := by simp [World.setCell, Array.getElem?_modify, h]
theorem blk_far {w : World} {g : Nat} {o : Obj} (h : w.heap[g]? = some o) {p : Addr} (hp : g ≠ p.block) (u : Value) : (w.setCell p u).heap[g]? = some o := (Below.heap_setCell w p u g hp).trans h
theorem blk_below {w w1 : World} {B g : Nat} {o : Obj} (h : w.heap[g]? = some o) (hb : Below B w w1) (hg : g < B) : w1.heap[g]? = some o := (hb.block g hg).trans h
theorem blk_grown {w w1 : World} {g : Nat} {o : Obj} {row : Option Nat} (h : w.heap[g]? = some o) (hg : w.grownBy w1 row) (hne : some g ≠ row) : w1.heap[g]? = some o := (hg.block g (blk_lt h) hne).trans h
theorem blk_ne {w : World} {g g' : Nat} {t t' : TypeId} {cs cs' : Array Value} {fr fr' : Nat × Nat} (h : w.heap[g]? = some (.cells cs t fr)) (h' : w.heap[g']? = some (.cells cs' t' fr')) (hne : t ≠ t') : g ≠ g' := by
  rintro rfl
  rw [h] at h'
  injection h' with h'
  injection h' with _ ht
  exact hne ht
/-- All old cells and marks read as before. -/
theorem bcell {W w1 : World} (hb : Below W.heap.size W w1) : (∀ b o, b < W.heap.size → w1.cell? ⟨b, o, none⟩ = W.cell? ⟨b, o, none⟩) ∧ (∀ b o, b < W.heap.size → w1.frozen? ⟨b, o, none⟩ = W.frozen? ⟨b, o, none⟩) :=
  ⟨fun b o h => hb.cell (p := ⟨b, o, none⟩) h, fun b o h => hb.frozen (p := ⟨b, o, none⟩) h⟩
theorem foldl_take {α β : Type} (f : β → α → β) (z : β) (xs : List α) (k : Nat) (x : α) (hx : xs[k]? = some x) : (xs.take (k + 1)).foldl f z = f ((xs.take k).foldl f z) x := by
  obtain ⟨hk, rfl⟩ := List.getElem?_eq_some_iff.1 hx
  rw [List.take_succ_eq_append_getElem hk, List.foldl_append]; rfl
theorem foldl_all {α β : Type} (f : β → α → β) (z : β) (xs : List α) (k : Nat) (hk : k ≤ xs.length) (h : ¬ k < xs.length) : (xs.take k).foldl f z = xs.foldl f z := by rw [List.take_of_length_le (by omega)]
theorem ret_int {k : IntKind} {a b : Int} (h : a = b) : Ending.returned (.int k a) = .returned (.int k b) := by rw [h]
theorem ret_bool {a b : Bool} (h : a = b) : Ending.returned (.bool a) = .returned (.bool b) := by rw [h]

/-- What the cells of a value say of a datum; S: the blocks that are looked into. -/
structure Rd (α : Type) where
  sz : Nat
  K : (Nat → Prop) → World → α → List Value → Prop
  len : ∀ {S : Nat → Prop} {w : World} {x : α} {cs : List Value}, K S w x cs → cs.length = sz
  keep : ∀ {S : Nat → Prop} {w w' : World} {x : α} {cs : List Value}, (∀ b, S b → w'.heap[b]? = w.heap[b]?) → K S w x cs → K S w' x cs
  mono : ∀ {S S' : Nat → Prop} {w : World} {x : α} {cs : List Value}, (∀ b, S b → S' b) → K S w x cs → K S' w x cs

namespace Rd
variable {α β : Type}
/-- The elements that lie from an address on. -/
def Row (d : Rd α) (S : Nat → Prop) (w : World) (A : Option Addr) (xs : List α) : Prop :=
  0 < xs.length → ∃ b o, A = some ⟨b, o, none⟩ ∧ S b ∧ ∀ i, (h : i < xs.length) → ∃ cs, d.K S w (xs[i]'h) cs ∧ ∀ j v, cs[j]? = some v → w.cell? ⟨b, o + i * d.sz + j, none⟩ = some v
/-- A slice that is read. -/
def Sl (d : Rd α) (S : Nat → Prop) (w : World) (v : Value) (xs : List α) : Prop :=
  ∃ A c, v = .slice A xs.length c ∧ xs.length ≤ c ∧ xs.length ≤ 140737488351232 ∧ d.Row S w A xs

theorem Row.keep {d : Rd α} {S : Nat → Prop} {w w' : World} {A : Option Addr} {xs : List α} (hk : ∀ b, S b → w'.heap[b]? = w.heap[b]?) (h : d.Row S w A xs) : d.Row S w' A xs := by
  intro hp
  obtain ⟨b, o, e, hb, hc⟩ := h hp
  refine ⟨b, o, e, hb, fun i hi => ?_⟩
  obtain ⟨cs, hK, hcell⟩ := hc i hi
  exact ⟨cs, d.keep hk hK, fun j v hj => (World.cell?_of_block (a := ⟨b, o + i * d.sz + j, none⟩) (hk b hb)).trans (hcell j v hj)⟩
theorem Row.mono {d : Rd α} {S S' : Nat → Prop} {w : World} {A : Option Addr} {xs : List α} (hk : ∀ b, S b → S' b) (h : d.Row S w A xs) : d.Row S' w A xs := by
  intro hp
  obtain ⟨b, o, e, hb, hc⟩ := h hp
  refine ⟨b, o, e, hk b hb, fun i hi => ?_⟩
  obtain ⟨cs, hK, hcell⟩ := hc i hi
  exact ⟨cs, d.mono hk hK, hcell⟩
theorem Row.nil (d : Rd α) (S : Nat → Prop) (w : World) (A : Option Addr) : d.Row S w A [] := fun h => absurd h (Nat.lt_irrefl 0)
theorem Sl.keep {d : Rd α} {S : Nat → Prop} {w w' : World} {v : Value} {xs : List α} (hk : ∀ b, S b → w'.heap[b]? = w.heap[b]?) (h : d.Sl S w v xs) : d.Sl S w' v xs := by
  obtain ⟨A, c, e, h1, h2, h3⟩ := h
  exact ⟨A, c, e, h1, h2, h3.keep hk⟩
theorem Sl.mono {d : Rd α} {S S' : Nat → Prop} {w : World} {v : Value} {xs : List α} (hk : ∀ b, S b → S' b) (h : d.Sl S w v xs) : d.Sl S' w v xs := by
  obtain ⟨A, c, e, h1, h2, h3⟩ := h
  exact ⟨A, c, e, h1, h2, h3.mono hk⟩

/-! the kinds -/
def int (k : IntKind) : Rd Int where
  sz := 1
  K := fun _ _ x cs => cs = [.int k x] ∧ (Lit.int k x).wf = true
  len := fun h => by rw [h.1]; rfl
  keep := fun _ h => h
  mono := fun _ h => h
def bool : Rd Bool where
  sz := 1
  K := fun _ _ x cs => cs = [.bool x]
  len := fun h => by rw [h]; rfl
  keep := fun _ h => h
  mono := fun _ h => h
def str : Rd ByteArray where
  sz := 1
  K := fun _ _ x cs => cs = [.string x] ∧ x.size ≤ 140737488351232
  len := fun h => by rw [h.1]; rfl
  keep := fun _ h => h
  mono := fun _ h => h
def slice (d : Rd α) : Rd (List α) where
  sz := 1
  K := fun S w xs cs => ∃ v, cs = [v] ∧ d.Sl S w v xs
  len := fun ⟨v, e, _⟩ => by rw [e]; rfl
  keep := fun hk ⟨v, e, h⟩ => ⟨v, e, h.keep hk⟩
  mono := fun hk ⟨v, e, h⟩ => ⟨v, e, h.mono hk⟩
def pair (a : Rd α) (b : Rd β) : Rd (α × β) where
  sz := a.sz + b.sz
  K := fun S w x cs => ∃ c1 c2, cs = c1 ++ c2 ∧ a.K S w x.1 c1 ∧ b.K S w x.2 c2
  len := fun ⟨c1, c2, e, h1, h2⟩ => by rw [e, List.length_append, a.len h1, b.len h2]
  keep := fun hk ⟨c1, c2, e, h1, h2⟩ => ⟨c1, c2, e, a.keep hk h1, b.keep hk h2⟩
  mono := fun hk ⟨c1, c2, e, h1, h2⟩ => ⟨c1, c2, e, a.mono hk h1, b.mono hk h2⟩
def iso (d : Rd α) (f : β → α) : Rd β where
  sz := d.sz
  K := fun S w x cs => d.K S w (f x) cs
  len := fun h => d.len h
  keep := fun hk h => d.keep hk h
  mono := fun hk h => d.mono hk h
end Rd

/-! opening what came in -/
section
variable {P : Program} {H : Type} {enc : TypeId × Value → H} {w : World} {base : Nat} {spare : Nat → Bool} {held : Bool} {α β : Type}
/-- Whatever reads as data of type t, no larger than may be, reads as d says. -/
def Opens (P : Program) (t : TypeId) (d : Rd α) : Prop :=
  P.cellsOf t = d.sz ∧ 0 < P.bytesOf t ∧ ∀ {H : Type} (enc : TypeId × Value → H) (w : World) (base : Nat) (spare : Nat → Bool) (held : Bool) (fuel : Nat) (cs : List Value) (x : DataW H × List MemPlace),
    DataW.trod enc P w base spare held fuel t cs = some x → (∀ n ∈ x.1.weights P t, n ≤ 140737488351232) → ∃ v, d.K (· < w.heap.size) w v cs

theorem opens_int {t : TypeId} {k : IntKind} (ht : P.underlying t = some (.int k)) (hc : P.cellsOf t = 1) (hb : 0 < P.bytesOf t) : Opens P t (Rd.int k) :=
  ⟨hc, hb, fun enc w base spare held fuel cs x h _ => by
    obtain ⟨n, e, _, hw⟩ := DataW.trod_int ht h
    exact ⟨n, e, hw⟩⟩
theorem opens_bool {t : TypeId} (ht : P.underlying t = some .bool) (hc : P.cellsOf t = 1) (hb : 0 < P.bytesOf t) : Opens P t Rd.bool :=
  ⟨hc, hb, fun enc w base spare held fuel cs x h _ => by
    obtain ⟨n, e, _⟩ := DataW.trod_bool ht h
    exact ⟨n, e⟩⟩
theorem opens_str {t : TypeId} (ht : P.underlying t = some .string) (hc : P.cellsOf t = 1) (hb : 0 < P.bytesOf t) : Opens P t Rd.str :=
  ⟨hc, hb, fun enc w base spare held fuel cs x h hz => by
    obtain ⟨n, e, hx, hw⟩ := DataW.trod_string ht h
    subst hx
    have := hz n.data.toList.length (by simp [DataW.weights])
    exact ⟨n, e, by rwa [Array.length_toList] at this⟩⟩
theorem opens_iso {t : TypeId} {d : Rd α} (h : Opens P t d) (f : β → α) (g : α → β) (hfg : ∀ x, f (g x) = x) : Opens P t (d.iso f) :=
  ⟨h.1, h.2.1, fun enc w base spare held fuel cs x hx hz => by
    obtain ⟨v, hv⟩ := h.2.2 enc w base spare held fuel cs x hx hz
    exact ⟨g v, by show d.K _ _ (f (g v)) _; rw [hfg]; exact hv⟩⟩

theorem exists_list {γ : Type} (Q : Nat → γ → Prop) : ∀ n : Nat, (∀ i, i < n → ∃ x, Q i x) → ∃ xs : List γ, xs.length = n ∧ ∀ i (h : i < xs.length), Q i (xs[i]'h)
  | 0, _ => ⟨[], rfl, fun i h => absurd h (by simp)⟩
  | n + 1, h => by
    obtain ⟨xs, hl, hx⟩ := exists_list Q n (fun i hi => h i (by omega))
    obtain ⟨x, hq⟩ := h n (by omega)
    refine ⟨xs ++ [x], by simp [hl], fun i hi => ?_⟩
    by_cases hin : i < xs.length
    · rw [List.getElem_append_left hin]; exact hx i hin
    · have : i = n := by simp at hi; omega
      subst this
      rw [List.getElem_append_right (by omega)]
      simpa [hl] using hq

theorem weights_mem_all {H : Type} {P : Program} {e : TypeId} : ∀ {l : List (DataW H)} {d : DataW H}, d ∈ l → ∀ n ∈ d.weights P e, n ∈ DataW.weightsAll P e l
  | a :: l, d, hd, n, hn => by
    simp only [DataW.weightsAll, List.mem_append]
    rcases List.mem_cons.1 hd with rfl | hd
    · exact .inl hn
    · exact .inr (weights_mem_all hd n hn)
theorem opens_slice {t e : TypeId} {d : Rd α} (ht : P.underlying t = some (.slice e)) (hc : P.cellsOf t = 1) (hb : 0 < P.bytesOf t) (hpos : 0 < d.sz) (he : Opens P e d) : Opens P t (Rd.slice d) :=
  ⟨hc, hb, fun enc w base spare held fuel cs x h hz => by
    rcases DataW.trod_slice ht h with ⟨hcs, _⟩ | ⟨a, len, cap, elems, rest, n, _, rfl, hx, hb, hl, hm, hlen, hel, _, _⟩
    · exact ⟨[], _, hcs, none, 0, rfl, Nat.le_refl _, Nat.zero_le _, Rd.Row.nil _ _ _ _⟩
    · subst hx
      have hlR : len ≤ 140737488351232 := by
        have h1 := hz ((elems.length + rest.length) * P.bytesOf e) (by simp [DataW.weights, ht])
        have h2 : elems.length + rest.length ≤ (elems.length + rest.length) * P.bytesOf e := Nat.le_mul_of_pos_right _ he.2.1
        omega
      have key : ∀ i, i < len → ∃ y, (∃ cs', d.K (· < w.heap.size) w y cs' ∧ ∀ j v, cs'[j]? = some v → w.cell? ((a.add (i * d.sz)).add j) = some v) := by
        intro i hi
        have h1 := hel i hi
        rw [List.getElem?_eq_getElem (by omega), he.1] at h1
        simp only [Option.bind_eq_some_iff] at h1
        obtain ⟨cs', hcells, ht'⟩ := h1
        obtain ⟨v, hv⟩ := he.2.2 enc w base spare held n cs' _ ht' (fun m hm' => hz m (by
          simp only [DataW.weights, ht, List.mem_cons, List.mem_append]
          exact .inr (.inl (weights_mem_all (List.mem_map.2 ⟨_, List.getElem_mem _, rfl⟩) m hm'))))
        obtain ⟨_, hl', hcell⟩ := World.cells?_some hcells
        refine ⟨v, cs', hv, fun j u hj => ?_⟩
        have hjlt : j < d.sz := by
          have := (List.getElem?_eq_some_iff.1 hj).1
          omega
        rw [hcell j hjlt]; exact hj
      obtain ⟨xs, hxl, hxs⟩ := exists_list _ len key
      subst hxl
      refine ⟨xs, _, rfl, some a, cap, rfl, hl, hlR, fun hp => ?_⟩
      have hspot : a = ⟨a.block, a.off, none⟩ := by
        obtain ⟨cs', hK, hcell⟩ := hxs 0 hp
        have hl0 := d.len hK
        have := hcell 0 (cs'[0]'(by omega)) (List.getElem?_eq_getElem (by omega))
        simp only [Nat.zero_mul, Addr.add, if_true] at this
        exact spot_none this
      have hlt : a.block < w.heap.size := by
        obtain ⟨cs', hK, hcell⟩ := hxs 0 hp
        have hl0 := d.len hK
        have := hcell 0 (cs'[0]'(by omega)) (List.getElem?_eq_getElem (by omega))
        simp only [Nat.zero_mul, Addr.add, if_true] at this
        exact World.block_lt_of_cell? w _ this
      refine ⟨a.block, a.off, by rw [← hspot], hlt, fun i hi => ?_⟩
      obtain ⟨cs', hK, hcell⟩ := hxs i hi
      refine ⟨cs', hK, fun j u hj => ?_⟩
      have := hcell j u hj
      rw [add_of_add, hspot, add_at, ← Nat.add_assoc] at this
      exact this⟩

/-- The fields of a struct from one on. -/
def OpensF (P : Program) (fs : List Field) (off : Nat) (d : Rd α) : Prop :=
  ∀ {H : Type} (enc : TypeId × Value → H) (w : World) (base : Nat) (spare : Nat → Bool) (held : Bool) (fuel : Nat) (cs : List Value),
    cs.length = d.sz → (∀ (i : Nat) (f : Field), fs[i]? = some f → ∃ x, DataW.trod enc P w base spare held fuel f.type ((cs.drop (f.offset - off)).take (P.cellsOf f.type)) = some x ∧ off ≤ f.offset ∧ ∀ n ∈ x.1.weights P f.type, n ≤ 140737488351232) → ∃ v, d.K (· < w.heap.size) w v cs

theorem opensF_last {f : Field} {off : Nat} {d : Rd α} (ho : f.offset = off) (h : Opens P f.type d) : OpensF P [f] off d := by
  intro H enc w base spare held fuel cs hl hf
  obtain ⟨x, hx, _, hz⟩ := hf 0 f rfl
  rw [ho, Nat.sub_self, List.drop_zero, h.1, ← hl, List.take_length] at hx
  exact h.2.2 enc w base spare held fuel cs x hx hz
theorem opensF_cons {f : Field} {fs : List Field} {off : Nat} {a : Rd α} {b : Rd β} (ho : f.offset = off) (h : Opens P f.type a) (hs : ∀ g ∈ fs, off + a.sz ≤ g.offset) (hr : OpensF P fs (off + a.sz) b) : OpensF P (f :: fs) off (a.pair b) := by
  intro H enc w base spare held fuel cs hl hf
  obtain ⟨x, hx, _, hz⟩ := hf 0 f rfl
  rw [ho, Nat.sub_self, List.drop_zero, h.1] at hx
  have hl' : cs.length = a.sz + b.sz := hl
  obtain ⟨v, hv⟩ := h.2.2 enc w base spare held fuel _ x hx hz
  obtain ⟨u, hu⟩ := hr enc w base spare held fuel (cs.drop a.sz) (by rw [List.length_drop]; omega) (fun i g hg => by
    obtain ⟨y, hy, hle, hz'⟩ := hf (i + 1) g (by simpa using hg)
    have hge := hs g (List.mem_of_getElem? hg)
    refine ⟨y, ?_, hge, hz'⟩
    rw [List.drop_drop, show a.sz + (g.offset - (off + a.sz)) = g.offset - off by omega]
    exact hy)
  exact ⟨(v, u), _, _, (List.take_append_drop a.sz cs).symm, hv, hu⟩
theorem opens_struct {t : TypeId} {fs : Array Field} {d : Rd α} (ht : P.underlying t = some (.struct fs)) (hc : P.cellsOf t = d.sz) (hb : 0 < P.bytesOf t) (h : OpensF P fs.toList 0 d) : Opens P t d :=
  ⟨hc, hb, fun enc w base spare held fuel cs x hx hz => by
    obtain ⟨xs, n, _, hx', hl, hlen, hall⟩ := DataW.trod_struct ht hx
    subst hx'
    refine h enc w base spare held n cs (by rw [hl, hc]) (fun i f hf => ?_)
    have hf' : fs[i]? = some f := by rw [← hf]; exact Array.getElem?_toList.symm
    have h1 := hall i f hf'
    have hi : i < xs.length := by have := (Array.getElem?_eq_some_iff.1 hf').1; omega
    refine ⟨xs[i], by rw [Nat.sub_zero, h1, List.getElem?_eq_getElem hi], Nat.zero_le _, fun m hm => hz m ?_⟩
    simp only [DataW.weights, ht]
    exact DataW.weights_mem_each (j := i) (t := f.type) (d := xs[i].1) (by rw [List.getElem?_map, hf]; rfl) (by rw [List.getElem?_map, List.getElem?_eq_getElem hi]; rfl) m hm⟩
theorem arg_slice {r : Reach} {b0 : Nat} {t e : TypeId} {v : Value} {dd : DataW H} {p : List MemPlace} {d : Rd α} (ht : P.underlying t = some (.slice e)) (ho : Opens P t (Rd.slice d)) (hval : Value.okWide P w r b0 t v) (h : DataW.Trod enc P w base spare held t v dd p) (hz : ∀ n ∈ dd.weights P t, n ≤ 140737488351232) :
    ∃ A c xs, v = .slice A xs.length c ∧ xs.length ≤ c ∧ xs.length ≤ 140737488351232 ∧ d.Row (· < w.heap.size) w A xs := by
  obtain ⟨a, len, cap, rfl⟩ := Go.WideShapes.okWide_slice ht hval
  obtain ⟨fuel, hf⟩ := h
  obtain ⟨xs, v', e1, A, c, e2, h1, h2, h3⟩ := ho.2.2 enc w base spare held fuel _ _ hf hz
  have e3 : Value.slice a len cap = v' := by simpa [Value.cells] using e1
  rw [e2] at e3
  exact ⟨A, c, xs, e3, h1, h2, h3⟩
theorem arg_struct {r : Reach} {b0 : Nat} {t : TypeId} {fs : Array Field} {v : Value} {dd : DataW H} {p : List MemPlace} {d : Rd α} (ht : P.underlying t = some (.struct fs)) (ho : Opens P t d) (hval : Value.okWide P w r b0 t v) (h : DataW.Trod enc P w base spare held t v dd p) (hz : ∀ n ∈ dd.weights P t, n ≤ 140737488351232) :
    ∃ cs x, v = .agg cs.toArray ∧ d.K (· < w.heap.size) w x cs := by
  obtain ⟨cs, rfl, _⟩ := Go.WideShapes.okWide_struct ht hval
  obtain ⟨fuel, hf⟩ := h
  obtain ⟨x, hx⟩ := ho.2.2 enc w base spare held fuel _ _ hf hz
  exact ⟨cs.toList, x, by simp, by simpa [Value.cells] using hx⟩
end
end Go.Proofs.YtmceaeoeakkppaaGreatDoor
namespace Go.Proofs.YtmceaeoeakkppaaGreatDoor
open Go.RowKit
set_option linter.unusedVariables false

/-! Ty -/
structure Ty where
  kind : Int
  n : Int
  deriving Inhabited, DecidableEq
def Ty.zero : Ty := (⟨0, 0⟩ : Ty)
def k_ty : Rd Ty := ((Rd.int .i64).pair (Rd.int .i64)).iso (fun x => (x.kind, x.n))
theorem k_ty_sz : k_ty.sz = 2 := rfl
theorem k_ty_open {S : Nat → Prop} {w : World} {x : Ty} {cs : List Value} (h : k_ty.K S w x cs) : cs = [.int .i64 x.kind, .int .i64 x.n] ∧ (Lit.int .i64 x.kind).wf = true ∧ (Lit.int .i64 x.n).wf = true := by
  obtain ⟨_, _, rfl, ⟨rfl, f0⟩, ⟨rfl, f1⟩⟩ := h
  exact ⟨rfl, f0, f1⟩
theorem k_ty_mk {S : Nat → Prop} {w : World} (x : Ty) (f0 : (Lit.int .i64 x.kind).wf = true) (f1 : (Lit.int .i64 x.n).wf = true) : k_ty.K S w x [.int .i64 x.kind, .int .i64 x.n] := ⟨[.int .i64 x.kind], [.int .i64 x.n], rfl, ⟨rfl, f0⟩, ⟨rfl, f1⟩⟩
theorem k_ty_at {S : Nat → Prop} {w : World} {A : Option Addr} {xs : List Ty} {i : Nat} {x : Ty} (h : k_ty.Row S w A xs) (hx : xs[i]? = some x) : ∃ b o , A = some ⟨b, o, none⟩ ∧ S b ∧ w.cell? ⟨b, o + i * 2, none⟩ = some (.int .i64 x.kind) ∧ w.cell? ⟨b, o + i * 2 + 1, none⟩ = some (.int .i64 x.n) ∧ (Lit.int .i64 x.kind).wf = true ∧ (Lit.int .i64 x.n).wf = true := by
  obtain ⟨hi, rfl⟩ := List.getElem?_eq_some_iff.1 hx
  obtain ⟨b, o, rfl, hb, hc⟩ := h (by omega)
  obtain ⟨cs, hK, hcell⟩ := hc i hi
  obtain ⟨rfl, f0, f1⟩ := k_ty_open hK
  exact ⟨b, o, rfl, hb, hcell 0 _ rfl, hcell 1 _ rfl, f0, f1⟩

/-! Ins -/
structure Ins where
  op : Int
  a : Int
  b : Int
  deriving Inhabited, DecidableEq
def Ins.zero : Ins := (⟨0, 0, 0⟩ : Ins)
def k_instr : Rd Ins := ((Rd.int .i64).pair ((Rd.int .i64).pair (Rd.int .i64))).iso (fun x => (x.op, x.a, x.b))
theorem k_instr_sz : k_instr.sz = 3 := rfl
theorem k_instr_open {S : Nat → Prop} {w : World} {x : Ins} {cs : List Value} (h : k_instr.K S w x cs) : cs = [.int .i64 x.op, .int .i64 x.a, .int .i64 x.b] ∧ (Lit.int .i64 x.op).wf = true ∧ (Lit.int .i64 x.a).wf = true ∧ (Lit.int .i64 x.b).wf = true := by
  obtain ⟨_, _, rfl, ⟨rfl, f0⟩, ⟨_, _, rfl, ⟨rfl, f1⟩, ⟨rfl, f2⟩⟩⟩ := h
  exact ⟨rfl, f0, f1, f2⟩
theorem k_instr_mk {S : Nat → Prop} {w : World} (x : Ins) (f0 : (Lit.int .i64 x.op).wf = true) (f1 : (Lit.int .i64 x.a).wf = true) (f2 : (Lit.int .i64 x.b).wf = true) : k_instr.K S w x [.int .i64 x.op, .int .i64 x.a, .int .i64 x.b] := ⟨[.int .i64 x.op], [.int .i64 x.a, .int .i64 x.b], rfl, ⟨rfl, f0⟩, ⟨[.int .i64 x.a], [.int .i64 x.b], rfl, ⟨rfl, f1⟩, ⟨rfl, f2⟩⟩⟩
theorem k_instr_at {S : Nat → Prop} {w : World} {A : Option Addr} {xs : List Ins} {i : Nat} {x : Ins} (h : k_instr.Row S w A xs) (hx : xs[i]? = some x) : ∃ b o , A = some ⟨b, o, none⟩ ∧ S b ∧ w.cell? ⟨b, o + i * 3, none⟩ = some (.int .i64 x.op) ∧ w.cell? ⟨b, o + i * 3 + 1, none⟩ = some (.int .i64 x.a) ∧ w.cell? ⟨b, o + i * 3 + 2, none⟩ = some (.int .i64 x.b) ∧ (Lit.int .i64 x.op).wf = true ∧ (Lit.int .i64 x.a).wf = true ∧ (Lit.int .i64 x.b).wf = true := by
  obtain ⟨hi, rfl⟩ := List.getElem?_eq_some_iff.1 hx
  obtain ⟨b, o, rfl, hb, hc⟩ := h (by omega)
  obtain ⟨cs, hK, hcell⟩ := hc i hi
  obtain ⟨rfl, f0, f1, f2⟩ := k_instr_open hK
  exact ⟨b, o, rfl, hb, hcell 0 _ rfl, hcell 1 _ rfl, hcell 2 _ rfl, f0, f1, f2⟩

/-! Fn -/
structure Fn where
  args : (List Ty)
  ret : Ty
  locals : (List Ty)
  code : (List Ins)
  deriving Inhabited, DecidableEq
def Fn.zero : Fn := (⟨[], (⟨0, 0⟩ : Ty), [], []⟩ : Fn)
def k_func : Rd Fn := ((Rd.slice k_ty).pair (k_ty.pair ((Rd.slice k_ty).pair (Rd.slice k_instr)))).iso (fun x => (x.args, x.ret, x.locals, x.code))
theorem k_func_sz : k_func.sz = 5 := rfl
theorem k_func_open {S : Nat → Prop} {w : World} {x : Fn} {cs : List Value} (h : k_func.K S w x cs) : ∃ A0 c0 A3 c3 A4 c4, cs = [.slice A0 x.args.length c0, .int .i64 x.ret.kind, .int .i64 x.ret.n, .slice A3 x.locals.length c3, .slice A4 x.code.length c4] ∧ x.args.length ≤ c0 ∧ x.args.length ≤ 140737488351232 ∧ k_ty.Row S w A0 x.args ∧ (Lit.int .i64 x.ret.kind).wf = true ∧ (Lit.int .i64 x.ret.n).wf = true ∧ x.locals.length ≤ c3 ∧ x.locals.length ≤ 140737488351232 ∧ k_ty.Row S w A3 x.locals ∧ x.code.length ≤ c4 ∧ x.code.length ≤ 140737488351232 ∧ k_instr.Row S w A4 x.code := by
  obtain ⟨_, _, rfl, ⟨_, rfl, A0, c0, rfl, l0, m0, r0⟩, ⟨_, _, rfl, ⟨_, _, rfl, ⟨rfl, f1⟩, ⟨rfl, f2⟩⟩, ⟨_, _, rfl, ⟨_, rfl, A3, c3, rfl, l3, m3, r3⟩, ⟨_, rfl, A4, c4, rfl, l4, m4, r4⟩⟩⟩⟩ := h
  exact ⟨A0, c0, A3, c3, A4, c4, rfl, l0, m0, r0, f1, f2, l3, m3, r3, l4, m4, r4⟩
theorem k_func_mk {S : Nat → Prop} {w : World} (x : Fn) {A0 : Option Addr} {c0 : Nat} (l0 : x.args.length ≤ c0) (m0 : x.args.length ≤ 140737488351232) (r0 : k_ty.Row S w A0 x.args) (f1 : (Lit.int .i64 x.ret.kind).wf = true) (f2 : (Lit.int .i64 x.ret.n).wf = true) {A3 : Option Addr} {c3 : Nat} (l3 : x.locals.length ≤ c3) (m3 : x.locals.length ≤ 140737488351232) (r3 : k_ty.Row S w A3 x.locals) {A4 : Option Addr} {c4 : Nat} (l4 : x.code.length ≤ c4) (m4 : x.code.length ≤ 140737488351232) (r4 : k_instr.Row S w A4 x.code) : k_func.K S w x [.slice A0 x.args.length c0, .int .i64 x.ret.kind, .int .i64 x.ret.n, .slice A3 x.locals.length c3, .slice A4 x.code.length c4] := ⟨[.slice A0 x.args.length c0], [.int .i64 x.ret.kind, .int .i64 x.ret.n, .slice A3 x.locals.length c3, .slice A4 x.code.length c4], rfl, ⟨_, rfl, A0, c0, rfl, l0, m0, r0⟩, ⟨[.int .i64 x.ret.kind, .int .i64 x.ret.n], [.slice A3 x.locals.length c3, .slice A4 x.code.length c4], rfl, ⟨[.int .i64 x.ret.kind], [.int .i64 x.ret.n], rfl, ⟨rfl, f1⟩, ⟨rfl, f2⟩⟩, ⟨[.slice A3 x.locals.length c3], [.slice A4 x.code.length c4], rfl, ⟨_, rfl, A3, c3, rfl, l3, m3, r3⟩, ⟨_, rfl, A4, c4, rfl, l4, m4, r4⟩⟩⟩⟩
theorem k_func_at {S : Nat → Prop} {w : World} {A : Option Addr} {xs : List Fn} {i : Nat} {x : Fn} (h : k_func.Row S w A xs) (hx : xs[i]? = some x) : ∃ b o A0 c0 A3 c3 A4 c4, A = some ⟨b, o, none⟩ ∧ S b ∧ w.cell? ⟨b, o + i * 5, none⟩ = some (.slice A0 x.args.length c0) ∧ w.cell? ⟨b, o + i * 5 + 1, none⟩ = some (.int .i64 x.ret.kind) ∧ w.cell? ⟨b, o + i * 5 + 2, none⟩ = some (.int .i64 x.ret.n) ∧ w.cell? ⟨b, o + i * 5 + 3, none⟩ = some (.slice A3 x.locals.length c3) ∧ w.cell? ⟨b, o + i * 5 + 4, none⟩ = some (.slice A4 x.code.length c4) ∧ x.args.length ≤ c0 ∧ x.args.length ≤ 140737488351232 ∧ k_ty.Row S w A0 x.args ∧ (Lit.int .i64 x.ret.kind).wf = true ∧ (Lit.int .i64 x.ret.n).wf = true ∧ x.locals.length ≤ c3 ∧ x.locals.length ≤ 140737488351232 ∧ k_ty.Row S w A3 x.locals ∧ x.code.length ≤ c4 ∧ x.code.length ≤ 140737488351232 ∧ k_instr.Row S w A4 x.code := by
  obtain ⟨hi, rfl⟩ := List.getElem?_eq_some_iff.1 hx
  obtain ⟨b, o, rfl, hb, hc⟩ := h (by omega)
  obtain ⟨cs, hK, hcell⟩ := hc i hi
  obtain ⟨A0, c0, A3, c3, A4, c4, rfl, l0, m0, r0, f1, f2, l3, m3, r3, l4, m4, r4⟩ := k_func_open hK
  exact ⟨b, o, A0, c0, A3, c3, A4, c4, rfl, hb, hcell 0 _ rfl, hcell 1 _ rfl, hcell 2 _ rfl, hcell 3 _ rfl, hcell 4 _ rfl, l0, m0, r0, f1, f2, l3, m3, r3, l4, m4, r4⟩

/-! Imp -/
structure Imp where
  args : (List Ty)
  ret : Ty
  deriving Inhabited, DecidableEq
def Imp.zero : Imp := (⟨[], (⟨0, 0⟩ : Ty)⟩ : Imp)
def k_imp : Rd Imp := ((Rd.slice k_ty).pair k_ty).iso (fun x => (x.args, x.ret))
theorem k_imp_sz : k_imp.sz = 3 := rfl
theorem k_imp_open {S : Nat → Prop} {w : World} {x : Imp} {cs : List Value} (h : k_imp.K S w x cs) : ∃ A0 c0, cs = [.slice A0 x.args.length c0, .int .i64 x.ret.kind, .int .i64 x.ret.n] ∧ x.args.length ≤ c0 ∧ x.args.length ≤ 140737488351232 ∧ k_ty.Row S w A0 x.args ∧ (Lit.int .i64 x.ret.kind).wf = true ∧ (Lit.int .i64 x.ret.n).wf = true := by
  obtain ⟨_, _, rfl, ⟨_, rfl, A0, c0, rfl, l0, m0, r0⟩, ⟨_, _, rfl, ⟨rfl, f1⟩, ⟨rfl, f2⟩⟩⟩ := h
  exact ⟨A0, c0, rfl, l0, m0, r0, f1, f2⟩
theorem k_imp_mk {S : Nat → Prop} {w : World} (x : Imp) {A0 : Option Addr} {c0 : Nat} (l0 : x.args.length ≤ c0) (m0 : x.args.length ≤ 140737488351232) (r0 : k_ty.Row S w A0 x.args) (f1 : (Lit.int .i64 x.ret.kind).wf = true) (f2 : (Lit.int .i64 x.ret.n).wf = true) : k_imp.K S w x [.slice A0 x.args.length c0, .int .i64 x.ret.kind, .int .i64 x.ret.n] := ⟨[.slice A0 x.args.length c0], [.int .i64 x.ret.kind, .int .i64 x.ret.n], rfl, ⟨_, rfl, A0, c0, rfl, l0, m0, r0⟩, ⟨[.int .i64 x.ret.kind], [.int .i64 x.ret.n], rfl, ⟨rfl, f1⟩, ⟨rfl, f2⟩⟩⟩
theorem k_imp_at {S : Nat → Prop} {w : World} {A : Option Addr} {xs : List Imp} {i : Nat} {x : Imp} (h : k_imp.Row S w A xs) (hx : xs[i]? = some x) : ∃ b o A0 c0, A = some ⟨b, o, none⟩ ∧ S b ∧ w.cell? ⟨b, o + i * 3, none⟩ = some (.slice A0 x.args.length c0) ∧ w.cell? ⟨b, o + i * 3 + 1, none⟩ = some (.int .i64 x.ret.kind) ∧ w.cell? ⟨b, o + i * 3 + 2, none⟩ = some (.int .i64 x.ret.n) ∧ x.args.length ≤ c0 ∧ x.args.length ≤ 140737488351232 ∧ k_ty.Row S w A0 x.args ∧ (Lit.int .i64 x.ret.kind).wf = true ∧ (Lit.int .i64 x.ret.n).wf = true := by
  obtain ⟨hi, rfl⟩ := List.getElem?_eq_some_iff.1 hx
  obtain ⟨b, o, rfl, hb, hc⟩ := h (by omega)
  obtain ⟨cs, hK, hcell⟩ := hc i hi
  obtain ⟨A0, c0, rfl, l0, m0, r0, f1, f2⟩ := k_imp_open hK
  exact ⟨b, o, A0, c0, rfl, hb, hcell 0 _ rfl, hcell 1 _ rfl, hcell 2 _ rfl, l0, m0, r0, f1, f2⟩

/-! Md -/
structure Md where
  recs : (List (List Ty))
  funcs : (List Fn)
  imports : (List Imp)
  ints : (List Int)
  texts : (List ByteArray)
  deriving Inhabited, DecidableEq
def Md.zero : Md := (⟨[], [], [], [], []⟩ : Md)
def k_mod : Rd Md := ((Rd.slice (Rd.slice k_ty)).pair ((Rd.slice k_func).pair ((Rd.slice k_imp).pair ((Rd.slice (Rd.int .u64)).pair (Rd.slice Rd.str))))).iso (fun x => (x.recs, x.funcs, x.imports, x.ints, x.texts))
theorem k_mod_sz : k_mod.sz = 5 := rfl
theorem k_mod_open {S : Nat → Prop} {w : World} {x : Md} {cs : List Value} (h : k_mod.K S w x cs) : ∃ A0 c0 A1 c1 A2 c2 A3 c3 A4 c4, cs = [.slice A0 x.recs.length c0, .slice A1 x.funcs.length c1, .slice A2 x.imports.length c2, .slice A3 x.ints.length c3, .slice A4 x.texts.length c4] ∧ x.recs.length ≤ c0 ∧ x.recs.length ≤ 140737488351232 ∧ (Rd.slice k_ty).Row S w A0 x.recs ∧ x.funcs.length ≤ c1 ∧ x.funcs.length ≤ 140737488351232 ∧ k_func.Row S w A1 x.funcs ∧ x.imports.length ≤ c2 ∧ x.imports.length ≤ 140737488351232 ∧ k_imp.Row S w A2 x.imports ∧ x.ints.length ≤ c3 ∧ x.ints.length ≤ 140737488351232 ∧ (Rd.int .u64).Row S w A3 x.ints ∧ x.texts.length ≤ c4 ∧ x.texts.length ≤ 140737488351232 ∧ Rd.str.Row S w A4 x.texts := by
  obtain ⟨_, _, rfl, ⟨_, rfl, A0, c0, rfl, l0, m0, r0⟩, ⟨_, _, rfl, ⟨_, rfl, A1, c1, rfl, l1, m1, r1⟩, ⟨_, _, rfl, ⟨_, rfl, A2, c2, rfl, l2, m2, r2⟩, ⟨_, _, rfl, ⟨_, rfl, A3, c3, rfl, l3, m3, r3⟩, ⟨_, rfl, A4, c4, rfl, l4, m4, r4⟩⟩⟩⟩⟩ := h
  exact ⟨A0, c0, A1, c1, A2, c2, A3, c3, A4, c4, rfl, l0, m0, r0, l1, m1, r1, l2, m2, r2, l3, m3, r3, l4, m4, r4⟩
theorem k_mod_mk {S : Nat → Prop} {w : World} (x : Md) {A0 : Option Addr} {c0 : Nat} (l0 : x.recs.length ≤ c0) (m0 : x.recs.length ≤ 140737488351232) (r0 : (Rd.slice k_ty).Row S w A0 x.recs) {A1 : Option Addr} {c1 : Nat} (l1 : x.funcs.length ≤ c1) (m1 : x.funcs.length ≤ 140737488351232) (r1 : k_func.Row S w A1 x.funcs) {A2 : Option Addr} {c2 : Nat} (l2 : x.imports.length ≤ c2) (m2 : x.imports.length ≤ 140737488351232) (r2 : k_imp.Row S w A2 x.imports) {A3 : Option Addr} {c3 : Nat} (l3 : x.ints.length ≤ c3) (m3 : x.ints.length ≤ 140737488351232) (r3 : (Rd.int .u64).Row S w A3 x.ints) {A4 : Option Addr} {c4 : Nat} (l4 : x.texts.length ≤ c4) (m4 : x.texts.length ≤ 140737488351232) (r4 : Rd.str.Row S w A4 x.texts) : k_mod.K S w x [.slice A0 x.recs.length c0, .slice A1 x.funcs.length c1, .slice A2 x.imports.length c2, .slice A3 x.ints.length c3, .slice A4 x.texts.length c4] := ⟨[.slice A0 x.recs.length c0], [.slice A1 x.funcs.length c1, .slice A2 x.imports.length c2, .slice A3 x.ints.length c3, .slice A4 x.texts.length c4], rfl, ⟨_, rfl, A0, c0, rfl, l0, m0, r0⟩, ⟨[.slice A1 x.funcs.length c1], [.slice A2 x.imports.length c2, .slice A3 x.ints.length c3, .slice A4 x.texts.length c4], rfl, ⟨_, rfl, A1, c1, rfl, l1, m1, r1⟩, ⟨[.slice A2 x.imports.length c2], [.slice A3 x.ints.length c3, .slice A4 x.texts.length c4], rfl, ⟨_, rfl, A2, c2, rfl, l2, m2, r2⟩, ⟨[.slice A3 x.ints.length c3], [.slice A4 x.texts.length c4], rfl, ⟨_, rfl, A3, c3, rfl, l3, m3, r3⟩, ⟨_, rfl, A4, c4, rfl, l4, m4, r4⟩⟩⟩⟩⟩
theorem k_mod_at {S : Nat → Prop} {w : World} {A : Option Addr} {xs : List Md} {i : Nat} {x : Md} (h : k_mod.Row S w A xs) (hx : xs[i]? = some x) : ∃ b o A0 c0 A1 c1 A2 c2 A3 c3 A4 c4, A = some ⟨b, o, none⟩ ∧ S b ∧ w.cell? ⟨b, o + i * 5, none⟩ = some (.slice A0 x.recs.length c0) ∧ w.cell? ⟨b, o + i * 5 + 1, none⟩ = some (.slice A1 x.funcs.length c1) ∧ w.cell? ⟨b, o + i * 5 + 2, none⟩ = some (.slice A2 x.imports.length c2) ∧ w.cell? ⟨b, o + i * 5 + 3, none⟩ = some (.slice A3 x.ints.length c3) ∧ w.cell? ⟨b, o + i * 5 + 4, none⟩ = some (.slice A4 x.texts.length c4) ∧ x.recs.length ≤ c0 ∧ x.recs.length ≤ 140737488351232 ∧ (Rd.slice k_ty).Row S w A0 x.recs ∧ x.funcs.length ≤ c1 ∧ x.funcs.length ≤ 140737488351232 ∧ k_func.Row S w A1 x.funcs ∧ x.imports.length ≤ c2 ∧ x.imports.length ≤ 140737488351232 ∧ k_imp.Row S w A2 x.imports ∧ x.ints.length ≤ c3 ∧ x.ints.length ≤ 140737488351232 ∧ (Rd.int .u64).Row S w A3 x.ints ∧ x.texts.length ≤ c4 ∧ x.texts.length ≤ 140737488351232 ∧ Rd.str.Row S w A4 x.texts := by
  obtain ⟨hi, rfl⟩ := List.getElem?_eq_some_iff.1 hx
  obtain ⟨b, o, rfl, hb, hc⟩ := h (by omega)
  obtain ⟨cs, hK, hcell⟩ := hc i hi
  obtain ⟨A0, c0, A1, c1, A2, c2, A3, c3, A4, c4, rfl, l0, m0, r0, l1, m1, r1, l2, m2, r2, l3, m3, r3, l4, m4, r4⟩ := k_mod_open hK
  exact ⟨b, o, A0, c0, A1, c1, A2, c2, A3, c3, A4, c4, rfl, hb, hcell 0 _ rfl, hcell 1 _ rfl, hcell 2 _ rfl, hcell 3 _ rfl, hcell 4 _ rfl, l0, m0, r0, l1, m1, r1, l2, m2, r2, l3, m3, r3, l4, m4, r4⟩

/-! Shp -/
structure Shp where
  seen : Bool
  stack : (List Ty)
  deriving Inhabited, DecidableEq
def Shp.zero : Shp := (⟨false, []⟩ : Shp)
def k_shape : Rd Shp := (Rd.bool.pair (Rd.slice k_ty)).iso (fun x => (x.seen, x.stack))
theorem k_shape_sz : k_shape.sz = 2 := rfl
theorem k_shape_open {S : Nat → Prop} {w : World} {x : Shp} {cs : List Value} (h : k_shape.K S w x cs) : ∃ A1 c1, cs = [.bool x.seen, .slice A1 x.stack.length c1] ∧ x.stack.length ≤ c1 ∧ x.stack.length ≤ 140737488351232 ∧ k_ty.Row S w A1 x.stack := by
  obtain ⟨_, _, rfl, rfl, ⟨_, rfl, A1, c1, rfl, l1, m1, r1⟩⟩ := h
  exact ⟨A1, c1, rfl, l1, m1, r1⟩
theorem k_shape_mk {S : Nat → Prop} {w : World} (x : Shp) {A1 : Option Addr} {c1 : Nat} (l1 : x.stack.length ≤ c1) (m1 : x.stack.length ≤ 140737488351232) (r1 : k_ty.Row S w A1 x.stack) : k_shape.K S w x [.bool x.seen, .slice A1 x.stack.length c1] := ⟨[.bool x.seen], [.slice A1 x.stack.length c1], rfl, rfl, ⟨_, rfl, A1, c1, rfl, l1, m1, r1⟩⟩
theorem k_shape_at {S : Nat → Prop} {w : World} {A : Option Addr} {xs : List Shp} {i : Nat} {x : Shp} (h : k_shape.Row S w A xs) (hx : xs[i]? = some x) : ∃ b o A1 c1, A = some ⟨b, o, none⟩ ∧ S b ∧ w.cell? ⟨b, o + i * 2, none⟩ = some (.bool x.seen) ∧ w.cell? ⟨b, o + i * 2 + 1, none⟩ = some (.slice A1 x.stack.length c1) ∧ x.stack.length ≤ c1 ∧ x.stack.length ≤ 140737488351232 ∧ k_ty.Row S w A1 x.stack := by
  obtain ⟨hi, rfl⟩ := List.getElem?_eq_some_iff.1 hx
  obtain ⟨b, o, rfl, hb, hc⟩ := h (by omega)
  obtain ⟨cs, hK, hcell⟩ := hc i hi
  obtain ⟨A1, c1, rfl, l1, m1, r1⟩ := k_shape_open hK
  exact ⟨b, o, A1, c1, rfl, hb, hcell 0 _ rfl, hcell 1 _ rfl, l1, m1, r1⟩

/-! Ob -/
structure Ob where
  kind : Int
  n : Int
  words : (List Int)
  bytes : (List Int)
  deriving Inhabited, DecidableEq
def Ob.zero : Ob := (⟨0, 0, [], []⟩ : Ob)
def k_obj : Rd Ob := ((Rd.int .i64).pair ((Rd.int .i64).pair ((Rd.slice (Rd.int .u64)).pair (Rd.slice (Rd.int .u8))))).iso (fun x => (x.kind, x.n, x.words, x.bytes))
theorem k_obj_sz : k_obj.sz = 4 := rfl
theorem k_obj_open {S : Nat → Prop} {w : World} {x : Ob} {cs : List Value} (h : k_obj.K S w x cs) : ∃ A2 c2 A3 c3, cs = [.int .i64 x.kind, .int .i64 x.n, .slice A2 x.words.length c2, .slice A3 x.bytes.length c3] ∧ (Lit.int .i64 x.kind).wf = true ∧ (Lit.int .i64 x.n).wf = true ∧ x.words.length ≤ c2 ∧ x.words.length ≤ 140737488351232 ∧ (Rd.int .u64).Row S w A2 x.words ∧ x.bytes.length ≤ c3 ∧ x.bytes.length ≤ 140737488351232 ∧ (Rd.int .u8).Row S w A3 x.bytes := by
  obtain ⟨_, _, rfl, ⟨rfl, f0⟩, ⟨_, _, rfl, ⟨rfl, f1⟩, ⟨_, _, rfl, ⟨_, rfl, A2, c2, rfl, l2, m2, r2⟩, ⟨_, rfl, A3, c3, rfl, l3, m3, r3⟩⟩⟩⟩ := h
  exact ⟨A2, c2, A3, c3, rfl, f0, f1, l2, m2, r2, l3, m3, r3⟩
theorem k_obj_mk {S : Nat → Prop} {w : World} (x : Ob) (f0 : (Lit.int .i64 x.kind).wf = true) (f1 : (Lit.int .i64 x.n).wf = true) {A2 : Option Addr} {c2 : Nat} (l2 : x.words.length ≤ c2) (m2 : x.words.length ≤ 140737488351232) (r2 : (Rd.int .u64).Row S w A2 x.words) {A3 : Option Addr} {c3 : Nat} (l3 : x.bytes.length ≤ c3) (m3 : x.bytes.length ≤ 140737488351232) (r3 : (Rd.int .u8).Row S w A3 x.bytes) : k_obj.K S w x [.int .i64 x.kind, .int .i64 x.n, .slice A2 x.words.length c2, .slice A3 x.bytes.length c3] := ⟨[.int .i64 x.kind], [.int .i64 x.n, .slice A2 x.words.length c2, .slice A3 x.bytes.length c3], rfl, ⟨rfl, f0⟩, ⟨[.int .i64 x.n], [.slice A2 x.words.length c2, .slice A3 x.bytes.length c3], rfl, ⟨rfl, f1⟩, ⟨[.slice A2 x.words.length c2], [.slice A3 x.bytes.length c3], rfl, ⟨_, rfl, A2, c2, rfl, l2, m2, r2⟩, ⟨_, rfl, A3, c3, rfl, l3, m3, r3⟩⟩⟩⟩
theorem k_obj_at {S : Nat → Prop} {w : World} {A : Option Addr} {xs : List Ob} {i : Nat} {x : Ob} (h : k_obj.Row S w A xs) (hx : xs[i]? = some x) : ∃ b o A2 c2 A3 c3, A = some ⟨b, o, none⟩ ∧ S b ∧ w.cell? ⟨b, o + i * 4, none⟩ = some (.int .i64 x.kind) ∧ w.cell? ⟨b, o + i * 4 + 1, none⟩ = some (.int .i64 x.n) ∧ w.cell? ⟨b, o + i * 4 + 2, none⟩ = some (.slice A2 x.words.length c2) ∧ w.cell? ⟨b, o + i * 4 + 3, none⟩ = some (.slice A3 x.bytes.length c3) ∧ (Lit.int .i64 x.kind).wf = true ∧ (Lit.int .i64 x.n).wf = true ∧ x.words.length ≤ c2 ∧ x.words.length ≤ 140737488351232 ∧ (Rd.int .u64).Row S w A2 x.words ∧ x.bytes.length ≤ c3 ∧ x.bytes.length ≤ 140737488351232 ∧ (Rd.int .u8).Row S w A3 x.bytes := by
  obtain ⟨hi, rfl⟩ := List.getElem?_eq_some_iff.1 hx
  obtain ⟨b, o, rfl, hb, hc⟩ := h (by omega)
  obtain ⟨cs, hK, hcell⟩ := hc i hi
  obtain ⟨A2, c2, A3, c3, rfl, f0, f1, l2, m2, r2, l3, m3, r3⟩ := k_obj_open hK
  exact ⟨b, o, A2, c2, A3, c3, rfl, hb, hcell 0 _ rfl, hcell 1 _ rfl, hcell 2 _ rfl, hcell 3 _ rfl, f0, f1, l2, m2, r2, l3, m3, r3⟩

/-! Fr -/
structure Fr where
  func : Int
  pc : Int
  locals : (List Int)
  stack : (List Int)
  deriving Inhabited, DecidableEq
def Fr.zero : Fr := (⟨0, 0, [], []⟩ : Fr)
def k_frame : Rd Fr := ((Rd.int .i64).pair ((Rd.int .i64).pair ((Rd.slice (Rd.int .u64)).pair (Rd.slice (Rd.int .u64))))).iso (fun x => (x.func, x.pc, x.locals, x.stack))
theorem k_frame_sz : k_frame.sz = 4 := rfl
theorem k_frame_open {S : Nat → Prop} {w : World} {x : Fr} {cs : List Value} (h : k_frame.K S w x cs) : ∃ A2 c2 A3 c3, cs = [.int .i64 x.func, .int .i64 x.pc, .slice A2 x.locals.length c2, .slice A3 x.stack.length c3] ∧ (Lit.int .i64 x.func).wf = true ∧ (Lit.int .i64 x.pc).wf = true ∧ x.locals.length ≤ c2 ∧ x.locals.length ≤ 140737488351232 ∧ (Rd.int .u64).Row S w A2 x.locals ∧ x.stack.length ≤ c3 ∧ x.stack.length ≤ 140737488351232 ∧ (Rd.int .u64).Row S w A3 x.stack := by
  obtain ⟨_, _, rfl, ⟨rfl, f0⟩, ⟨_, _, rfl, ⟨rfl, f1⟩, ⟨_, _, rfl, ⟨_, rfl, A2, c2, rfl, l2, m2, r2⟩, ⟨_, rfl, A3, c3, rfl, l3, m3, r3⟩⟩⟩⟩ := h
  exact ⟨A2, c2, A3, c3, rfl, f0, f1, l2, m2, r2, l3, m3, r3⟩
theorem k_frame_mk {S : Nat → Prop} {w : World} (x : Fr) (f0 : (Lit.int .i64 x.func).wf = true) (f1 : (Lit.int .i64 x.pc).wf = true) {A2 : Option Addr} {c2 : Nat} (l2 : x.locals.length ≤ c2) (m2 : x.locals.length ≤ 140737488351232) (r2 : (Rd.int .u64).Row S w A2 x.locals) {A3 : Option Addr} {c3 : Nat} (l3 : x.stack.length ≤ c3) (m3 : x.stack.length ≤ 140737488351232) (r3 : (Rd.int .u64).Row S w A3 x.stack) : k_frame.K S w x [.int .i64 x.func, .int .i64 x.pc, .slice A2 x.locals.length c2, .slice A3 x.stack.length c3] := ⟨[.int .i64 x.func], [.int .i64 x.pc, .slice A2 x.locals.length c2, .slice A3 x.stack.length c3], rfl, ⟨rfl, f0⟩, ⟨[.int .i64 x.pc], [.slice A2 x.locals.length c2, .slice A3 x.stack.length c3], rfl, ⟨rfl, f1⟩, ⟨[.slice A2 x.locals.length c2], [.slice A3 x.stack.length c3], rfl, ⟨_, rfl, A2, c2, rfl, l2, m2, r2⟩, ⟨_, rfl, A3, c3, rfl, l3, m3, r3⟩⟩⟩⟩
theorem k_frame_at {S : Nat → Prop} {w : World} {A : Option Addr} {xs : List Fr} {i : Nat} {x : Fr} (h : k_frame.Row S w A xs) (hx : xs[i]? = some x) : ∃ b o A2 c2 A3 c3, A = some ⟨b, o, none⟩ ∧ S b ∧ w.cell? ⟨b, o + i * 4, none⟩ = some (.int .i64 x.func) ∧ w.cell? ⟨b, o + i * 4 + 1, none⟩ = some (.int .i64 x.pc) ∧ w.cell? ⟨b, o + i * 4 + 2, none⟩ = some (.slice A2 x.locals.length c2) ∧ w.cell? ⟨b, o + i * 4 + 3, none⟩ = some (.slice A3 x.stack.length c3) ∧ (Lit.int .i64 x.func).wf = true ∧ (Lit.int .i64 x.pc).wf = true ∧ x.locals.length ≤ c2 ∧ x.locals.length ≤ 140737488351232 ∧ (Rd.int .u64).Row S w A2 x.locals ∧ x.stack.length ≤ c3 ∧ x.stack.length ≤ 140737488351232 ∧ (Rd.int .u64).Row S w A3 x.stack := by
  obtain ⟨hi, rfl⟩ := List.getElem?_eq_some_iff.1 hx
  obtain ⟨b, o, rfl, hb, hc⟩ := h (by omega)
  obtain ⟨cs, hK, hcell⟩ := hc i hi
  obtain ⟨A2, c2, A3, c3, rfl, f0, f1, l2, m2, r2, l3, m3, r3⟩ := k_frame_open hK
  exact ⟨b, o, A2, c2, A3, c3, rfl, hb, hcell 0 _ rfl, hcell 1 _ rfl, hcell 2 _ rfl, hcell 3 _ rfl, f0, f1, l2, m2, r2, l3, m3, r3⟩

/-! Han -/
structure Han where
  kind : Int
  desc : Int
  opn : Bool
  deriving Inhabited, DecidableEq
def Han.zero : Han := (⟨0, 0, false⟩ : Han)
def k_han : Rd Han := ((Rd.int .i64).pair ((Rd.int .u64).pair Rd.bool)).iso (fun x => (x.kind, x.desc, x.opn))
theorem k_han_sz : k_han.sz = 3 := rfl
theorem k_han_open {S : Nat → Prop} {w : World} {x : Han} {cs : List Value} (h : k_han.K S w x cs) : cs = [.int .i64 x.kind, .int .u64 x.desc, .bool x.opn] ∧ (Lit.int .i64 x.kind).wf = true ∧ (Lit.int .u64 x.desc).wf = true := by
  obtain ⟨_, _, rfl, ⟨rfl, f0⟩, ⟨_, _, rfl, ⟨rfl, f1⟩, rfl⟩⟩ := h
  exact ⟨rfl, f0, f1⟩
theorem k_han_mk {S : Nat → Prop} {w : World} (x : Han) (f0 : (Lit.int .i64 x.kind).wf = true) (f1 : (Lit.int .u64 x.desc).wf = true) : k_han.K S w x [.int .i64 x.kind, .int .u64 x.desc, .bool x.opn] := ⟨[.int .i64 x.kind], [.int .u64 x.desc, .bool x.opn], rfl, ⟨rfl, f0⟩, ⟨[.int .u64 x.desc], [.bool x.opn], rfl, ⟨rfl, f1⟩, rfl⟩⟩
theorem k_han_at {S : Nat → Prop} {w : World} {A : Option Addr} {xs : List Han} {i : Nat} {x : Han} (h : k_han.Row S w A xs) (hx : xs[i]? = some x) : ∃ b o , A = some ⟨b, o, none⟩ ∧ S b ∧ w.cell? ⟨b, o + i * 3, none⟩ = some (.int .i64 x.kind) ∧ w.cell? ⟨b, o + i * 3 + 1, none⟩ = some (.int .u64 x.desc) ∧ w.cell? ⟨b, o + i * 3 + 2, none⟩ = some (.bool x.opn) ∧ (Lit.int .i64 x.kind).wf = true ∧ (Lit.int .u64 x.desc).wf = true := by
  obtain ⟨hi, rfl⟩ := List.getElem?_eq_some_iff.1 hx
  obtain ⟨b, o, rfl, hb, hc⟩ := h (by omega)
  obtain ⟨cs, hK, hcell⟩ := hc i hi
  obtain ⟨rfl, f0, f1⟩ := k_han_open hK
  exact ⟨b, o, rfl, hb, hcell 0 _ rfl, hcell 1 _ rfl, hcell 2 _ rfl, f0, f1⟩

/-! St -/
structure St where
  frames : (List Fr)
  heap : (List Ob)
  hans : (List Han)
  quota : Int
  used : Int
  en : Int
  value : Int
  deriving Inhabited, DecidableEq
def St.zero : St := (⟨[], [], [], 0, 0, 0, 0⟩ : St)
def k_state : Rd St := ((Rd.slice k_frame).pair ((Rd.slice k_obj).pair ((Rd.slice k_han).pair ((Rd.int .i64).pair ((Rd.int .i64).pair ((Rd.int .i64).pair (Rd.int .u64))))))).iso (fun x => (x.frames, x.heap, x.hans, x.quota, x.used, x.en, x.value))
theorem k_state_sz : k_state.sz = 7 := rfl
theorem k_state_open {S : Nat → Prop} {w : World} {x : St} {cs : List Value} (h : k_state.K S w x cs) : ∃ A0 c0 A1 c1 A2 c2, cs = [.slice A0 x.frames.length c0, .slice A1 x.heap.length c1, .slice A2 x.hans.length c2, .int .i64 x.quota, .int .i64 x.used, .int .i64 x.en, .int .u64 x.value] ∧ x.frames.length ≤ c0 ∧ x.frames.length ≤ 140737488351232 ∧ k_frame.Row S w A0 x.frames ∧ x.heap.length ≤ c1 ∧ x.heap.length ≤ 140737488351232 ∧ k_obj.Row S w A1 x.heap ∧ x.hans.length ≤ c2 ∧ x.hans.length ≤ 140737488351232 ∧ k_han.Row S w A2 x.hans ∧ (Lit.int .i64 x.quota).wf = true ∧ (Lit.int .i64 x.used).wf = true ∧ (Lit.int .i64 x.en).wf = true ∧ (Lit.int .u64 x.value).wf = true := by
  obtain ⟨_, _, rfl, ⟨_, rfl, A0, c0, rfl, l0, m0, r0⟩, ⟨_, _, rfl, ⟨_, rfl, A1, c1, rfl, l1, m1, r1⟩, ⟨_, _, rfl, ⟨_, rfl, A2, c2, rfl, l2, m2, r2⟩, ⟨_, _, rfl, ⟨rfl, f3⟩, ⟨_, _, rfl, ⟨rfl, f4⟩, ⟨_, _, rfl, ⟨rfl, f5⟩, ⟨rfl, f6⟩⟩⟩⟩⟩⟩⟩ := h
  exact ⟨A0, c0, A1, c1, A2, c2, rfl, l0, m0, r0, l1, m1, r1, l2, m2, r2, f3, f4, f5, f6⟩
theorem k_state_mk {S : Nat → Prop} {w : World} (x : St) {A0 : Option Addr} {c0 : Nat} (l0 : x.frames.length ≤ c0) (m0 : x.frames.length ≤ 140737488351232) (r0 : k_frame.Row S w A0 x.frames) {A1 : Option Addr} {c1 : Nat} (l1 : x.heap.length ≤ c1) (m1 : x.heap.length ≤ 140737488351232) (r1 : k_obj.Row S w A1 x.heap) {A2 : Option Addr} {c2 : Nat} (l2 : x.hans.length ≤ c2) (m2 : x.hans.length ≤ 140737488351232) (r2 : k_han.Row S w A2 x.hans) (f3 : (Lit.int .i64 x.quota).wf = true) (f4 : (Lit.int .i64 x.used).wf = true) (f5 : (Lit.int .i64 x.en).wf = true) (f6 : (Lit.int .u64 x.value).wf = true) : k_state.K S w x [.slice A0 x.frames.length c0, .slice A1 x.heap.length c1, .slice A2 x.hans.length c2, .int .i64 x.quota, .int .i64 x.used, .int .i64 x.en, .int .u64 x.value] := ⟨[.slice A0 x.frames.length c0], [.slice A1 x.heap.length c1, .slice A2 x.hans.length c2, .int .i64 x.quota, .int .i64 x.used, .int .i64 x.en, .int .u64 x.value], rfl, ⟨_, rfl, A0, c0, rfl, l0, m0, r0⟩, ⟨[.slice A1 x.heap.length c1], [.slice A2 x.hans.length c2, .int .i64 x.quota, .int .i64 x.used, .int .i64 x.en, .int .u64 x.value], rfl, ⟨_, rfl, A1, c1, rfl, l1, m1, r1⟩, ⟨[.slice A2 x.hans.length c2], [.int .i64 x.quota, .int .i64 x.used, .int .i64 x.en, .int .u64 x.value], rfl, ⟨_, rfl, A2, c2, rfl, l2, m2, r2⟩, ⟨[.int .i64 x.quota], [.int .i64 x.used, .int .i64 x.en, .int .u64 x.value], rfl, ⟨rfl, f3⟩, ⟨[.int .i64 x.used], [.int .i64 x.en, .int .u64 x.value], rfl, ⟨rfl, f4⟩, ⟨[.int .i64 x.en], [.int .u64 x.value], rfl, ⟨rfl, f5⟩, ⟨rfl, f6⟩⟩⟩⟩⟩⟩⟩
theorem k_state_at {S : Nat → Prop} {w : World} {A : Option Addr} {xs : List St} {i : Nat} {x : St} (h : k_state.Row S w A xs) (hx : xs[i]? = some x) : ∃ b o A0 c0 A1 c1 A2 c2, A = some ⟨b, o, none⟩ ∧ S b ∧ w.cell? ⟨b, o + i * 7, none⟩ = some (.slice A0 x.frames.length c0) ∧ w.cell? ⟨b, o + i * 7 + 1, none⟩ = some (.slice A1 x.heap.length c1) ∧ w.cell? ⟨b, o + i * 7 + 2, none⟩ = some (.slice A2 x.hans.length c2) ∧ w.cell? ⟨b, o + i * 7 + 3, none⟩ = some (.int .i64 x.quota) ∧ w.cell? ⟨b, o + i * 7 + 4, none⟩ = some (.int .i64 x.used) ∧ w.cell? ⟨b, o + i * 7 + 5, none⟩ = some (.int .i64 x.en) ∧ w.cell? ⟨b, o + i * 7 + 6, none⟩ = some (.int .u64 x.value) ∧ x.frames.length ≤ c0 ∧ x.frames.length ≤ 140737488351232 ∧ k_frame.Row S w A0 x.frames ∧ x.heap.length ≤ c1 ∧ x.heap.length ≤ 140737488351232 ∧ k_obj.Row S w A1 x.heap ∧ x.hans.length ≤ c2 ∧ x.hans.length ≤ 140737488351232 ∧ k_han.Row S w A2 x.hans ∧ (Lit.int .i64 x.quota).wf = true ∧ (Lit.int .i64 x.used).wf = true ∧ (Lit.int .i64 x.en).wf = true ∧ (Lit.int .u64 x.value).wf = true := by
  obtain ⟨hi, rfl⟩ := List.getElem?_eq_some_iff.1 hx
  obtain ⟨b, o, rfl, hb, hc⟩ := h (by omega)
  obtain ⟨cs, hK, hcell⟩ := hc i hi
  obtain ⟨A0, c0, A1, c1, A2, c2, rfl, l0, m0, r0, l1, m1, r1, l2, m2, r2, f3, f4, f5, f6⟩ := k_state_open hK
  exact ⟨b, o, A0, c0, A1, c1, A2, c2, rfl, hb, hcell 0 _ rfl, hcell 1 _ rfl, hcell 2 _ rfl, hcell 3 _ rfl, hcell 4 _ rfl, hcell 5 _ rfl, hcell 6 _ rfl, l0, m0, r0, l1, m1, r1, l2, m2, r2, f3, f4, f5, f6⟩

/-! Evt -/
structure Evt where
  imp : Int
  args : (List Int)
  deriving Inhabited, DecidableEq
def Evt.zero : Evt := (⟨0, []⟩ : Evt)
def k_event : Rd Evt := ((Rd.int .i64).pair (Rd.slice (Rd.int .u64))).iso (fun x => (x.imp, x.args))
theorem k_event_sz : k_event.sz = 2 := rfl
theorem k_event_open {S : Nat → Prop} {w : World} {x : Evt} {cs : List Value} (h : k_event.K S w x cs) : ∃ A1 c1, cs = [.int .i64 x.imp, .slice A1 x.args.length c1] ∧ (Lit.int .i64 x.imp).wf = true ∧ x.args.length ≤ c1 ∧ x.args.length ≤ 140737488351232 ∧ (Rd.int .u64).Row S w A1 x.args := by
  obtain ⟨_, _, rfl, ⟨rfl, f0⟩, ⟨_, rfl, A1, c1, rfl, l1, m1, r1⟩⟩ := h
  exact ⟨A1, c1, rfl, f0, l1, m1, r1⟩
theorem k_event_mk {S : Nat → Prop} {w : World} (x : Evt) (f0 : (Lit.int .i64 x.imp).wf = true) {A1 : Option Addr} {c1 : Nat} (l1 : x.args.length ≤ c1) (m1 : x.args.length ≤ 140737488351232) (r1 : (Rd.int .u64).Row S w A1 x.args) : k_event.K S w x [.int .i64 x.imp, .slice A1 x.args.length c1] := ⟨[.int .i64 x.imp], [.slice A1 x.args.length c1], rfl, ⟨rfl, f0⟩, ⟨_, rfl, A1, c1, rfl, l1, m1, r1⟩⟩
theorem k_event_at {S : Nat → Prop} {w : World} {A : Option Addr} {xs : List Evt} {i : Nat} {x : Evt} (h : k_event.Row S w A xs) (hx : xs[i]? = some x) : ∃ b o A1 c1, A = some ⟨b, o, none⟩ ∧ S b ∧ w.cell? ⟨b, o + i * 2, none⟩ = some (.int .i64 x.imp) ∧ w.cell? ⟨b, o + i * 2 + 1, none⟩ = some (.slice A1 x.args.length c1) ∧ (Lit.int .i64 x.imp).wf = true ∧ x.args.length ≤ c1 ∧ x.args.length ≤ 140737488351232 ∧ (Rd.int .u64).Row S w A1 x.args := by
  obtain ⟨hi, rfl⟩ := List.getElem?_eq_some_iff.1 hx
  obtain ⟨b, o, rfl, hb, hc⟩ := h (by omega)
  obtain ⟨cs, hK, hcell⟩ := hc i hi
  obtain ⟨A1, c1, rfl, f0, l1, m1, r1⟩ := k_event_open hK
  exact ⟨b, o, A1, c1, rfl, hb, hcell 0 _ rfl, hcell 1 _ rfl, f0, l1, m1, r1⟩

/-! Odr -/
structure Odr where
  kind : Int
  a : Int
  b : Int
  c : Int
  deriving Inhabited, DecidableEq
def Odr.zero : Odr := (⟨0, 0, 0, 0⟩ : Odr)
def k_order : Rd Odr := ((Rd.int .i64).pair ((Rd.int .i64).pair ((Rd.int .i64).pair (Rd.int .i64)))).iso (fun x => (x.kind, x.a, x.b, x.c))
theorem k_order_sz : k_order.sz = 4 := rfl
theorem k_order_open {S : Nat → Prop} {w : World} {x : Odr} {cs : List Value} (h : k_order.K S w x cs) : cs = [.int .i64 x.kind, .int .i64 x.a, .int .i64 x.b, .int .i64 x.c] ∧ (Lit.int .i64 x.kind).wf = true ∧ (Lit.int .i64 x.a).wf = true ∧ (Lit.int .i64 x.b).wf = true ∧ (Lit.int .i64 x.c).wf = true := by
  obtain ⟨_, _, rfl, ⟨rfl, f0⟩, ⟨_, _, rfl, ⟨rfl, f1⟩, ⟨_, _, rfl, ⟨rfl, f2⟩, ⟨rfl, f3⟩⟩⟩⟩ := h
  exact ⟨rfl, f0, f1, f2, f3⟩
theorem k_order_mk {S : Nat → Prop} {w : World} (x : Odr) (f0 : (Lit.int .i64 x.kind).wf = true) (f1 : (Lit.int .i64 x.a).wf = true) (f2 : (Lit.int .i64 x.b).wf = true) (f3 : (Lit.int .i64 x.c).wf = true) : k_order.K S w x [.int .i64 x.kind, .int .i64 x.a, .int .i64 x.b, .int .i64 x.c] := ⟨[.int .i64 x.kind], [.int .i64 x.a, .int .i64 x.b, .int .i64 x.c], rfl, ⟨rfl, f0⟩, ⟨[.int .i64 x.a], [.int .i64 x.b, .int .i64 x.c], rfl, ⟨rfl, f1⟩, ⟨[.int .i64 x.b], [.int .i64 x.c], rfl, ⟨rfl, f2⟩, ⟨rfl, f3⟩⟩⟩⟩
theorem k_order_at {S : Nat → Prop} {w : World} {A : Option Addr} {xs : List Odr} {i : Nat} {x : Odr} (h : k_order.Row S w A xs) (hx : xs[i]? = some x) : ∃ b o , A = some ⟨b, o, none⟩ ∧ S b ∧ w.cell? ⟨b, o + i * 4, none⟩ = some (.int .i64 x.kind) ∧ w.cell? ⟨b, o + i * 4 + 1, none⟩ = some (.int .i64 x.a) ∧ w.cell? ⟨b, o + i * 4 + 2, none⟩ = some (.int .i64 x.b) ∧ w.cell? ⟨b, o + i * 4 + 3, none⟩ = some (.int .i64 x.c) ∧ (Lit.int .i64 x.kind).wf = true ∧ (Lit.int .i64 x.a).wf = true ∧ (Lit.int .i64 x.b).wf = true ∧ (Lit.int .i64 x.c).wf = true := by
  obtain ⟨hi, rfl⟩ := List.getElem?_eq_some_iff.1 hx
  obtain ⟨b, o, rfl, hb, hc⟩ := h (by omega)
  obtain ⟨cs, hK, hcell⟩ := hc i hi
  obtain ⟨rfl, f0, f1, f2, f3⟩ := k_order_open hK
  exact ⟨b, o, rfl, hb, hcell 0 _ rfl, hcell 1 _ rfl, hcell 2 _ rfl, hcell 3 _ rfl, f0, f1, f2, f3⟩

/-! HanAct -/
structure HanAct where
  what : Int
  kind : Int
  n : Int
  deriving Inhabited, DecidableEq
def HanAct.zero : HanAct := (⟨0, 0, 0⟩ : HanAct)
def k_hanact : Rd HanAct := ((Rd.int .i64).pair ((Rd.int .i64).pair (Rd.int .u64))).iso (fun x => (x.what, x.kind, x.n))
theorem k_hanact_sz : k_hanact.sz = 3 := rfl
theorem k_hanact_open {S : Nat → Prop} {w : World} {x : HanAct} {cs : List Value} (h : k_hanact.K S w x cs) : cs = [.int .i64 x.what, .int .i64 x.kind, .int .u64 x.n] ∧ (Lit.int .i64 x.what).wf = true ∧ (Lit.int .i64 x.kind).wf = true ∧ (Lit.int .u64 x.n).wf = true := by
  obtain ⟨_, _, rfl, ⟨rfl, f0⟩, ⟨_, _, rfl, ⟨rfl, f1⟩, ⟨rfl, f2⟩⟩⟩ := h
  exact ⟨rfl, f0, f1, f2⟩
theorem k_hanact_mk {S : Nat → Prop} {w : World} (x : HanAct) (f0 : (Lit.int .i64 x.what).wf = true) (f1 : (Lit.int .i64 x.kind).wf = true) (f2 : (Lit.int .u64 x.n).wf = true) : k_hanact.K S w x [.int .i64 x.what, .int .i64 x.kind, .int .u64 x.n] := ⟨[.int .i64 x.what], [.int .i64 x.kind, .int .u64 x.n], rfl, ⟨rfl, f0⟩, ⟨[.int .i64 x.kind], [.int .u64 x.n], rfl, ⟨rfl, f1⟩, ⟨rfl, f2⟩⟩⟩
theorem k_hanact_at {S : Nat → Prop} {w : World} {A : Option Addr} {xs : List HanAct} {i : Nat} {x : HanAct} (h : k_hanact.Row S w A xs) (hx : xs[i]? = some x) : ∃ b o , A = some ⟨b, o, none⟩ ∧ S b ∧ w.cell? ⟨b, o + i * 3, none⟩ = some (.int .i64 x.what) ∧ w.cell? ⟨b, o + i * 3 + 1, none⟩ = some (.int .i64 x.kind) ∧ w.cell? ⟨b, o + i * 3 + 2, none⟩ = some (.int .u64 x.n) ∧ (Lit.int .i64 x.what).wf = true ∧ (Lit.int .i64 x.kind).wf = true ∧ (Lit.int .u64 x.n).wf = true := by
  obtain ⟨hi, rfl⟩ := List.getElem?_eq_some_iff.1 hx
  obtain ⟨b, o, rfl, hb, hc⟩ := h (by omega)
  obtain ⟨cs, hK, hcell⟩ := hc i hi
  obtain ⟨rfl, f0, f1, f2⟩ := k_hanact_open hK
  exact ⟨b, o, rfl, hb, hcell 0 _ rfl, hcell 1 _ rfl, hcell 2 _ rfl, f0, f1, f2⟩

/-! Ask -/
structure Ask where
  what : Int
  n : Int
  deriving Inhabited, DecidableEq
def Ask.zero : Ask := (⟨0, 0⟩ : Ask)
def k_ask : Rd Ask := ((Rd.int .i64).pair (Rd.int .i64)).iso (fun x => (x.what, x.n))
theorem k_ask_sz : k_ask.sz = 2 := rfl
theorem k_ask_open {S : Nat → Prop} {w : World} {x : Ask} {cs : List Value} (h : k_ask.K S w x cs) : cs = [.int .i64 x.what, .int .i64 x.n] ∧ (Lit.int .i64 x.what).wf = true ∧ (Lit.int .i64 x.n).wf = true := by
  obtain ⟨_, _, rfl, ⟨rfl, f0⟩, ⟨rfl, f1⟩⟩ := h
  exact ⟨rfl, f0, f1⟩
theorem k_ask_mk {S : Nat → Prop} {w : World} (x : Ask) (f0 : (Lit.int .i64 x.what).wf = true) (f1 : (Lit.int .i64 x.n).wf = true) : k_ask.K S w x [.int .i64 x.what, .int .i64 x.n] := ⟨[.int .i64 x.what], [.int .i64 x.n], rfl, ⟨rfl, f0⟩, ⟨rfl, f1⟩⟩
theorem k_ask_at {S : Nat → Prop} {w : World} {A : Option Addr} {xs : List Ask} {i : Nat} {x : Ask} (h : k_ask.Row S w A xs) (hx : xs[i]? = some x) : ∃ b o , A = some ⟨b, o, none⟩ ∧ S b ∧ w.cell? ⟨b, o + i * 2, none⟩ = some (.int .i64 x.what) ∧ w.cell? ⟨b, o + i * 2 + 1, none⟩ = some (.int .i64 x.n) ∧ (Lit.int .i64 x.what).wf = true ∧ (Lit.int .i64 x.n).wf = true := by
  obtain ⟨hi, rfl⟩ := List.getElem?_eq_some_iff.1 hx
  obtain ⟨b, o, rfl, hb, hc⟩ := h (by omega)
  obtain ⟨cs, hK, hcell⟩ := hc i hi
  obtain ⟨rfl, f0, f1⟩ := k_ask_open hK
  exact ⟨b, o, rfl, hb, hcell 0 _ rfl, hcell 1 _ rfl, f0, f1⟩
theorem row_u64_at {S : Nat → Prop} {w : World} {A : Option Addr} {xs : List Int} {i : Nat} {x : Int} (h : (Rd.int .u64).Row S w A xs) (hx : xs[i]? = some x) : ∃ b o, A = some ⟨b, o, none⟩ ∧ S b ∧ w.cell? ⟨b, o + i, none⟩ = some (.int .u64 x) ∧ (Lit.int .u64 x).wf = true := by
  obtain ⟨hi, rfl⟩ := List.getElem?_eq_some_iff.1 hx
  obtain ⟨b, o, rfl, hb, hc⟩ := h (by omega)
  obtain ⟨cs, ⟨rfl, hw⟩, hcell⟩ := hc i hi
  refine ⟨b, o, rfl, hb, ?_, hw⟩
  have h1 := hcell 0 _ rfl
  simpa [Rd.int, Rd.str] using h1
theorem row_i64_at {S : Nat → Prop} {w : World} {A : Option Addr} {xs : List Int} {i : Nat} {x : Int} (h : (Rd.int .i64).Row S w A xs) (hx : xs[i]? = some x) : ∃ b o, A = some ⟨b, o, none⟩ ∧ S b ∧ w.cell? ⟨b, o + i, none⟩ = some (.int .i64 x) ∧ (Lit.int .i64 x).wf = true := by
  obtain ⟨hi, rfl⟩ := List.getElem?_eq_some_iff.1 hx
  obtain ⟨b, o, rfl, hb, hc⟩ := h (by omega)
  obtain ⟨cs, ⟨rfl, hw⟩, hcell⟩ := hc i hi
  refine ⟨b, o, rfl, hb, ?_, hw⟩
  have h1 := hcell 0 _ rfl
  simpa [Rd.int, Rd.str] using h1
theorem row_u8_at {S : Nat → Prop} {w : World} {A : Option Addr} {xs : List Int} {i : Nat} {x : Int} (h : (Rd.int .u8).Row S w A xs) (hx : xs[i]? = some x) : ∃ b o, A = some ⟨b, o, none⟩ ∧ S b ∧ w.cell? ⟨b, o + i, none⟩ = some (.int .u8 x) ∧ (Lit.int .u8 x).wf = true := by
  obtain ⟨hi, rfl⟩ := List.getElem?_eq_some_iff.1 hx
  obtain ⟨b, o, rfl, hb, hc⟩ := h (by omega)
  obtain ⟨cs, ⟨rfl, hw⟩, hcell⟩ := hc i hi
  refine ⟨b, o, rfl, hb, ?_, hw⟩
  have h1 := hcell 0 _ rfl
  simpa [Rd.int, Rd.str] using h1
theorem row_str_at {S : Nat → Prop} {w : World} {A : Option Addr} {xs : List ByteArray} {i : Nat} {x : ByteArray} (h : Rd.str.Row S w A xs) (hx : xs[i]? = some x) : ∃ b o, A = some ⟨b, o, none⟩ ∧ S b ∧ w.cell? ⟨b, o + i, none⟩ = some (.string x) ∧ x.size ≤ 140737488351232 := by
  obtain ⟨hi, rfl⟩ := List.getElem?_eq_some_iff.1 hx
  obtain ⟨b, o, rfl, hb, hc⟩ := h (by omega)
  obtain ⟨cs, ⟨rfl, hw⟩, hcell⟩ := hc i hi
  refine ⟨b, o, rfl, hb, ?_, hw⟩
  have h1 := hcell 0 _ rfl
  simpa [Rd.int, Rd.str] using h1
theorem row_slice_at {α : Type} {d : Rd α} {S : Nat → Prop} {w : World} {A : Option Addr} {xs : List (List α)} {i : Nat} {x : List α} (h : (Rd.slice d).Row S w A xs) (hx : xs[i]? = some x) : ∃ b o A0 c0, A = some ⟨b, o, none⟩ ∧ S b ∧ w.cell? ⟨b, o + i, none⟩ = some (.slice A0 x.length c0) ∧ x.length ≤ c0 ∧ x.length ≤ 140737488351232 ∧ d.Row S w A0 x := by
  obtain ⟨hi, rfl⟩ := List.getElem?_eq_some_iff.1 hx
  obtain ⟨b, o, rfl, hb, hc⟩ := h (by omega)
  obtain ⟨cs, ⟨_, rfl, A0, c0, rfl, l0, m0, r0⟩, hcell⟩ := hc i hi
  refine ⟨b, o, A0, c0, rfl, hb, ?_, l0, m0, r0⟩
  have h1 := hcell 0 _ rfl
  simpa [Rd.slice] using h1
end Go.Proofs.YtmceaeoeakkppaaGreatDoor
namespace Go.Proofs.YtmceaeoeakkppaaGreatDoor
open Go.RowKit
set_option linter.unusedVariables false

theorem grown_below {B : Nat} {a w w' : World} {row : Option Nat} (h : Below B a w) (hg : w.grownBy w' row) (hB : B ≤ w.heap.size) (hr : row = none ∨ ∃ g, row = some g ∧ B ≤ g) : Below B a w' :=
  h.grown hg hB (fun k hk => by
    rcases hr with hr | ⟨g, hr, hle⟩
    · rw [hr] at hk; cases hk
    · rw [hr] at hk; cases hk; exact hle)

section
variable {P : Program} (w : World)

/-- Cells that lie one behind the other (nothing, where there are none). -/
def Lie (w : World) (A : Option Addr) (m : Nat) (news : List Value) : Prop :=
  0 < m → ∃ b o, A = some ⟨b, o, none⟩ ∧ ∀ j u, news[j]? = some u → w.cell? ⟨b, o + j, none⟩ = some u

theorem lie_blk {w : World} {b m : Nat} {news : List Value} {cs : Array Value} {t : TypeId} {fr : Nat × Nat} (h : w.heap[b]? = some (.cells cs t fr)) (hc : ∀ (j : Nat) (u : Value), news[j]? = some u → cs[j]? = some u) : Lie w (some ⟨b, 0, none⟩) m news :=
  fun _ => ⟨b, 0, rfl, fun j u hj => by
    have : w.cell? ⟨b, 0 + j, none⟩ = cs[0 + j]? := by simp [World.cell?, h]
    rw [this, Nat.zero_add]; exact hc j u hj⟩
theorem lie_new {w : World} {m b : Nat} (cs : List Value) (t : TypeId) (fr : Nat × Nat) (hb : b = w.heap.size) : Lie (w.alloc (.cells cs.toArray t fr)) (some ⟨b, 0, none⟩) m cs := by
  subst hb
  exact lie_blk (blk_new w _) (fun j u hj => by simpa using hj)
theorem below_drewN {B : Nat} {w W : World} (h : Below B w W) (n : Nat) : Below B w (W.drewN n) := ⟨h.os, h.tape, h.output, h.size, h.block⟩
theorem blk_drewN {w : World} {g : Nat} {o : Go.Obj} (h : w.heap[g]? = some o) (n : Nat) : (w.drewN n).heap[g]? = some o := h
theorem lie_drew {w : World} {A : Option Addr} {m : Nat} {news : List Value} (h : Lie w A m news) : Lie w.drew A m news := h
theorem own_drew {w : World} {base : Nat} {e : TypeId} {size : Nat} {v : Value} {n : Nat} {xs : List Value} (h : w.ownsRow base e size v n xs) : w.drew.ownsRow base e size v n xs := h
theorem blk_drew {w : World} {g : Nat} {o : Obj} (h : w.heap[g]? = some o) : w.drew.heap[g]? = some o := h
/-- A box of seven cells in a world that has grown. -/
theorem box7 {W w1 : World} {g : Nat} {t : TypeId} {a b c d e f q : Value} (h : W.heap[g]? = some (.cells #[a, b, c, d, e, f, q] t (0, 0))) (hb : Below W.heap.size W w1) :
    w1.cell? ⟨g, 0, none⟩ = some a ∧ w1.cell? ⟨g, 1, none⟩ = some b ∧ w1.cell? ⟨g, 2, none⟩ = some c ∧ w1.cell? ⟨g, 3, none⟩ = some d ∧ w1.cell? ⟨g, 4, none⟩ = some e ∧ w1.cell? ⟨g, 5, none⟩ = some f ∧ w1.cell? ⟨g, 6, none⟩ = some q ∧ Below W.heap.size W w1 := by
  have hc := blk_cell (blk_below h hb (blk_lt h))
  exact ⟨hc 0, hc 1, hc 2, hc 3, hc 4, hc 5, hc 6, hb⟩
theorem held_below {a b c d e f q : Prop} {W w1 w2 : World} (h : a ∧ b ∧ c ∧ d ∧ e ∧ f ∧ q ∧ Below W.heap.size W w1) (hb : Below w1.heap.size w1 w2) : Below W.heap.size W w2 :=
  h.2.2.2.2.2.2.2.trans (hb.mono h.2.2.2.2.2.2.2.size)
theorem Lie.below {w w' : World} {A : Option Addr} {m : Nat} {news : List Value} (h : Lie w A m news) (hb : Below w.heap.size w w') : Lie w' A m news := fun hp => by
  obtain ⟨b, o, e, hc⟩ := h hp
  exact ⟨b, o, e, fun j u hj => (hb.cell (World.block_lt_of_cell? w _ (hc j u hj))).trans (hc j u hj)⟩
theorem own_shape {w : World} {base : Nat} {e : TypeId} {size : Nat} {v : Value} {n : Nat} {xs : List Value} (h : w.ownsRow base e size v n xs) : ∃ A c, v = .slice A n c ∧ n ≤ c ∧ c ≤ maxLen ∧ (0 < n → ∃ g, A = some ⟨g, 0, none⟩ ∧ base ≤ g ∧ g < w.heap.size) := by
  rcases h.2 with ⟨rfl, rfl⟩ | ⟨g, cap, cur, rfl, hb, hh, h4, h5, h6⟩
  · exact ⟨none, 0, rfl, Nat.le_refl _, Nat.zero_le _, fun h => absurd h (Nat.lt_irrefl 0)⟩
  · exact ⟨_, cap, rfl, h4, h5, fun _ => ⟨g, rfl, hb, blk_lt hh⟩⟩
theorem own_blk {w : World} {base : Nat} {e : TypeId} {size n c : Nat} {g : Nat} {xs : List Value} (h : w.ownsRow base e size (.slice (some ⟨g, 0, none⟩) n c) n xs) : ∃ cur, w.heap[g]? = some (.cells cur e (0, 0)) := by
  rcases h.2 with ⟨h', _⟩ | ⟨g', cap, cur, h', _, hh, _⟩
  · cases h'
  · cases h'; exact ⟨cur, hh⟩
theorem own_ne_blk {w : World} {base : Nat} {e t : TypeId} {size n : Nat} {v : Value} {g : Nat} {xs : List Value} {cs : Array Value} {fr : Nat × Nat} (h : w.ownsRow base e size v n xs) (hb : w.heap[g]? = some (.cells cs t fr)) (hne : e ≠ t) : v.ownBlock ≠ some g := by
  rcases h.2 with ⟨rfl, _⟩ | ⟨g', cap, cur, rfl, _, hh, _⟩
  · simp [Value.ownBlock]
  · intro hv
    have : g' = g := by simpa [Value.ownBlock] using hv
    subst this
    exact blk_ne hh hb hne rfl
/-- What is owned lies in blocks from base on: a store elsewhere, a call that keeps what there is. -/
theorem own_keep {w w' : World} {base : Nat} {e : TypeId} {size : Nat} {v : Value} {n : Nat} {xs : List Value} (h : w.ownsRow base e size v n xs) (hk : ∀ g, v.ownBlock = some g → w'.heap[g]? = w.heap[g]?) : w'.ownsRow base e size v n xs := by
  refine ⟨h.1, ?_⟩
  rcases h.2 with h2 | ⟨g, cap, cur, rfl, hb, hh, h4⟩
  · exact .inl h2
  · exact .inr ⟨g, cap, cur, rfl, hb, (hk g rfl).trans hh, h4⟩
theorem own_below {w w' : World} {base : Nat} {e : TypeId} {size : Nat} {v : Value} {n : Nat} {xs : List Value} (h : w.ownsRow base e size v n xs) (hb : Below w.heap.size w w') : w'.ownsRow base e size v n xs :=
  own_keep h (fun g hg => hb.block g (h.lt g hg).2)
theorem own_set_far {w : World} {base : Nat} {e : TypeId} {size : Nat} {v : Value} {n : Nat} {xs : List Value} (h : w.ownsRow base e size v n xs) {p : Addr} (hp : v.ownBlock ≠ some p.block) (u : Value) : (w.setCell p u).ownsRow base e size v n xs :=
  own_keep h (fun g hg => Below.heap_setCell w p u g (fun e => hp (by rw [hg, e])))
theorem own_ge {w : World} {base : Nat} {e : TypeId} {size : Nat} {v : Value} {n : Nat} {xs : List Value} (h : w.ownsRow base e size v n xs) : v.ownBlock = none ∨ ∃ g, v.ownBlock = some g ∧ base ≤ g := by
  cases hv : v.ownBlock with
  | none => exact .inl rfl
  | some g => exact .inr ⟨g, rfl, (h.lt g hv).1⟩

theorem run_app (t ty e : TypeId) {z : Value} {size bytes : Nat} (ht : P.underlying t = some (.slice e)) (hinfo : (P.info? e).map (fun i => (i.zero, i.size, i.bytes)) = some (some z, size, bytes)) (hzs : z.cells.size = size) (hsz : 0 < size) (hb0 : 0 < bytes)
    (base : Nat) {v : Value} {n : Nat} {xs : List Value} (hown : w.ownsRow base e size v n xs) {A : Option Addr} {m c : Nat} {news : List Value} (hl : news.length = m * size) (hsrc : Lie w A m news) (h1 : ∀ u ∈ news, u.oneCell' = true)
    (hbytes : (n + m) * bytes ≤ 140737488355328) (hbase : base ≤ w.heap.size) :
    ∃ v' w', (Builtin.append_ #[t, t] ty #[v, .slice A m c]).run P w = .ok v' w' ∧ w'.ownsRow base e size v' (n + m) (xs ++ news) ∧ w.grownBy w' v.ownBlock ∧ (v'.ownBlock = v.ownBlock ∨ v'.ownBlock = some w.heap.size) := by
  obtain ⟨i, hi, hz, hs, hby⟩ := info_parts hinfo
  have h63 : n + m ≤ maxLen := by
    have : n + m ≤ (n + m) * bytes := Nat.le_mul_of_pos_right _ hb0
    simp only [maxLen]; omega
  have nilcase : m = 0 → news = [] → (∀ c, (Builtin.append_ #[t, t] ty #[v, .slice none 0 c]).run P w = .ok v w) := by
    intro _ _ c
    rcases hown.2 with ⟨rfl, rfl⟩ | ⟨g, cap, cur, rfl, _, _, hnc, _⟩
    · simp [Builtin.append_, run_underlying ht, sizeOf, typeInfo, hi, Builtin.lenOf, Builtin.firstCells]
    · simp [Builtin.append_, run_underlying ht, sizeOf, typeInfo, hi, Builtin.lenOf, Builtin.firstCells, hnc, storeCells]
  cases A with
  | none =>
    have hm : m = 0 := by
      rcases Nat.eq_zero_or_pos m with h0 | h0
      · exact h0
      · obtain ⟨b, o, h, _⟩ := hsrc h0; cases h
    subst hm
    have hn : news = [] := List.eq_nil_of_length_eq_zero (by simpa using hl)
    subst hn
    exact ⟨v, w, nilcase rfl rfl c, by simpa using hown, World.grownBy.refl w _, .inl rfl⟩
  | some ad =>
    have hcells : ∀ j u, news[j]? = some u → w.cell? (ad.add j) = some u := by
      intro j u hu
      rcases Nat.eq_zero_or_pos m with h0 | h0
      · subst h0
        have hn : news = [] := List.eq_nil_of_length_eq_zero (by simpa using hl)
        subst hn
        simp at hu
      · obtain ⟨b, o, h, hc⟩ := hsrc h0
        cases h
        rw [add_at]; exact hc j u hu
    obtain ⟨v', w', hrun, h2, h3, _, h5⟩ := run_append_own_at (P := P) w base t ty e i z size bytes ht hi hz hs hby hzs hsz v n xs hown ad m c news hl hcells h1 h63 hbytes hbase
    exact ⟨v', w', hrun, h2, h3, h5⟩

theorem wp_app {o : Oper} {a : Act} {K : Act → World → Prop} {Q : Exit → Act → World → Prop} (s x : Operand) (t : TypeId)
    (ho : o.op = .call { callee := .builtin .append, args := #[s, x], argTypes := #[t, t] }) (e : TypeId) {z : Value} {size bytes : Nat} (ht : P.underlying t = some (.slice e)) (hinfo : (P.info? e).map (fun i => (i.zero, i.size, i.bytes)) = some (some z, size, bytes)) (hzs : z.cells.size = size) (hsz : 0 < size) (hb0 : 0 < bytes)
    (base : Nat) {v : Value} {n : Nat} {xs : List Value} (hs : a.eval s = v) (hown : w.ownsRow base e size v n xs) {A : Option Addr} {m c : Nat} {news : List Value} (hx : a.eval x = .slice A m c) (hl : news.length = m * size) (hsrc : Lie w A m news) (h1 : ∀ u ∈ news, u.oneCell' = true)
    (hbytes : (n + m) * bytes ≤ 140737488355328) (hbase : base ≤ w.heap.size)
    (h : ∀ v' w', w'.ownsRow base e size v' (n + m) (xs ++ news) → w.grownBy w' v.ownBlock → (v'.ownBlock = v.ownBlock ∨ v'.ownBlock = some w.heap.size) → K (a.put o.dst v') w') : o.wp P a w K Q := by
  obtain ⟨v', w', hr, h2, h3, h4⟩ := run_app (P := P) w t o.type e ht hinfo hzs hsz hb0 base hown (c := c) hl hsrc h1 hbytes hbase
  unfold Oper.wp execOp
  simp only [ho, resolve, invoke, builtin, Sem.run_bind, Sem.run_pure, Result.andThen_ok, List.map_toArray, List.map_cons, List.map_nil, hs, hx, hr]
  exact h v' w' h2 h3 h4

/-- At the list of a plain region's operations (behind 'at_builtin'). -/
theorem list_app {ops : Array Oper} {rest : List Oper} {o : Oper} {a : Act} {Q : Exit → Act → World → Prop} (hgd : o.guard = none) (s x : Operand) (t : TypeId)
    (ho : o.op = .call { callee := .builtin .append, args := #[s, x], argTypes := #[t, t] }) (e : TypeId) {z : Value} {size bytes : Nat} (ht : P.underlying t = some (.slice e)) (hinfo : (P.info? e).map (fun i => (i.zero, i.size, i.bytes)) = some (some z, size, bytes)) (hzs : z.cells.size = size) (hsz : 0 < size) (hb0 : 0 < bytes)
    (base : Nat) {v : Value} {n : Nat} {xs : List Value} (hs : a.eval s = v) (hown : w.ownsRow base e size v n xs) {A : Option Addr} {m c : Nat} {news : List Value} (hx : a.eval x = .slice A m c) (hl : news.length = m * size) (hsrc : Lie w A m news) (h1 : ∀ u ∈ news, u.oneCell' = true)
    (hbytes : (n + m) * bytes ≤ 140737488355328) (hbase : base ≤ w.heap.size)
    (h : ∀ v' w', w'.ownsRow base e size v' (n + m) (xs ++ news) → w.grownBy w' v.ownBlock → (v'.ownBlock = v.ownBlock ∨ v'.ownBlock = some w.heap.size) → wpList P ops Q rest (a.put o.dst v') w') : wpList P ops Q (o :: rest) a w :=
  wpList_plain hgd fun _ hK => wp_app w s x t ho e ht hinfo hzs hsz hb0 base hs hown hx hl hsrc h1 hbytes hbase fun v' w' h2 h3 h4 => hK _ _ (h v' w' h2 h3 h4)

/-- At a step of a region that draws its order. -/
theorem step_app {ops : Array Oper} {o : Oper} {a : Act} {K : Act → World → Prop} {Q : Exit → Act → World → Prop} {E : Prop} (hgd : o.guard = none) (s x : Operand) (t : TypeId)
    (ho : o.op = .call { callee := .builtin .append, args := #[s, x], argTypes := #[t, t] }) (e : TypeId) {z : Value} {size bytes : Nat} (ht : P.underlying t = some (.slice e)) (hinfo : (P.info? e).map (fun i => (i.zero, i.size, i.bytes)) = some (some z, size, bytes)) (hzs : z.cells.size = size) (hsz : 0 < size) (hb0 : 0 < bytes)
    (base : Nat) {v : Value} {n : Nat} {xs : List Value} (hs : a.eval s = v) (hown : w.ownsRow base e size v n xs) {A : Option Addr} {m c : Nat} {news : List Value} (hx : a.eval x = .slice A m c) (hl : news.length = m * size) (hsrc : Lie w A m news) (h1 : ∀ u ∈ news, u.oneCell' = true)
    (hbytes : (n + m) * bytes ≤ 140737488355328) (hbase : base ≤ w.heap.size)
    (h : ∀ v' w', w'.ownsRow base e size v' (n + m) (xs ++ news) → w.grownBy w' v.ownBlock → (v'.ownBlock = v.ownBlock ∨ v'.ownBlock = some w.heap.size) → K (a.put o.dst v') w') :
    if Region.wanted o (yielded ops a.tmps) = true then Oper.wp P o a w K Q else E := by
  have hw : Region.wanted o (yielded ops a.tmps) = true := by simp [Region.wanted, hgd]
  rw [if_pos hw]
  exact wp_app w s x t ho e ht hinfo hzs hsz hb0 base hs hown hx hl hsrc h1 hbytes hbase h
end

/-! flat lists of cells -/
namespace Rd
variable {α : Type}
def Flat (d : Rd α) (S : Nat → Prop) (w : World) : List α → List Value → Prop
  | [], cells => cells = []
  | x :: xs, cells => ∃ c r, cells = c ++ r ∧ d.K S w x c ∧ Flat d S w xs r
theorem Flat.length {d : Rd α} {S : Nat → Prop} {w : World} : ∀ {xs : List α} {cells : List Value}, d.Flat S w xs cells → cells.length = xs.length * d.sz
  | [], cells, h => by rw [show cells = [] from h]; simp
  | x :: xs, cells, h => by
    obtain ⟨c, r, rfl, hK, hr⟩ := h
    rw [List.length_append, d.len hK, Flat.length hr, List.length_cons, Nat.add_mul]; omega
theorem Flat.append {d : Rd α} {S : Nat → Prop} {w : World} {ys : List α} {c2 : List Value} (h2 : d.Flat S w ys c2) : ∀ {xs : List α} {c1 : List Value}, d.Flat S w xs c1 → d.Flat S w (xs ++ ys) (c1 ++ c2)
  | [], c1, h => by rw [show c1 = [] from h]; exact h2
  | x :: xs, c1, h => by
    obtain ⟨c, r, rfl, hK, hr⟩ := h
    exact ⟨c, r ++ c2, by rw [List.append_assoc], hK, Flat.append h2 hr⟩
theorem Flat.keep {d : Rd α} {S : Nat → Prop} {w w' : World} (hk : ∀ b, S b → w'.heap[b]? = w.heap[b]?) : ∀ {xs : List α} {cells : List Value}, d.Flat S w xs cells → d.Flat S w' xs cells
  | [], cells, h => h
  | x :: xs, cells, h => by
    obtain ⟨c, r, rfl, hK, hr⟩ := h
    exact ⟨c, r, rfl, d.keep hk hK, Flat.keep hk hr⟩
theorem Flat.mono {d : Rd α} {S S' : Nat → Prop} {w : World} (hk : ∀ b, S b → S' b) : ∀ {xs : List α} {cells : List Value}, d.Flat S w xs cells → d.Flat S' w xs cells
  | [], cells, h => h
  | x :: xs, cells, h => by
    obtain ⟨c, r, rfl, hK, hr⟩ := h
    exact ⟨c, r, rfl, d.mono hk hK, Flat.mono hk hr⟩
theorem Flat.one {d : Rd α} {S : Nat → Prop} {w : World} {x : α} {c : List Value} (h : d.K S w x c) : d.Flat S w [x] c := ⟨c, [], by simp, h, rfl⟩
theorem Flat.get {d : Rd α} {S : Nat → Prop} {w : World} : ∀ {xs : List α} {cells : List Value} (h : d.Flat S w xs cells) (i : Nat) (hi : i < xs.length), ∃ cs, d.K S w (xs[i]'hi) cs ∧ ∀ j v, cs[j]? = some v → cells[i * d.sz + j]? = some v
  | [], cells, h, i, hi => absurd hi (by simp)
  | x :: xs, cells, h, 0, hi => by
    obtain ⟨c, r, rfl, hK, hr⟩ := h
    exact ⟨c, hK, fun j v hj => by rw [Nat.zero_mul, Nat.zero_add, List.getElem?_append_left (List.getElem?_eq_some_iff.1 hj).1]; exact hj⟩
  | x :: xs, cells, h, i + 1, hi => by
    obtain ⟨c, r, rfl, hK, hr⟩ := h
    obtain ⟨cs, hK', hc⟩ := Flat.get hr i (by simpa using hi)
    refine ⟨cs, hK', fun j v hj => ?_⟩
    have hl := d.len hK
    rw [List.getElem?_append_right (by rw [hl, Nat.add_mul]; omega), show (i + 1) * d.sz + j - c.length = i * d.sz + j by rw [hl, Nat.add_mul]; omega]
    exact hc j v hj
theorem Flat.nil (d : Rd α) (S : Nat → Prop) (w : World) : d.Flat S w [] [] := rfl
theorem Flat.cons {d : Rd α} {S : Nat → Prop} {w : World} {x : α} {xs : List α} {c r : List Value} (h : d.K S w x c) (hr : d.Flat S w xs r) : d.Flat S w (x :: xs) (c ++ r) := ⟨c, r, rfl, h, hr⟩
theorem Row.of_flat {d : Rd α} {S : Nat → Prop} {w : World} {b o : Nat} {xs : List α} {cells : List Value} (hb : S b) (h : d.Flat S w xs cells) (hc : ∀ j v, cells[j]? = some v → w.cell? ⟨b, o + j, none⟩ = some v) : d.Row S w (some ⟨b, o, none⟩) xs := by
  intro _
  refine ⟨b, o, rfl, hb, fun i hi => ?_⟩
  obtain ⟨cs, hK, hcs⟩ := h.get i hi
  exact ⟨cs, hK, fun j v hj => by rw [Nat.add_assoc]; exact hc _ _ (hcs j v hj)⟩
theorem Row.of_blk {d : Rd α} {S : Nat → Prop} {w : World} {b : Nat} {xs : List α} {cells : List Value} {cs : Array Value} {t : TypeId} {fr : Nat × Nat} (hw : w.heap[b]? = some (.cells cs t fr)) (hb : S b) (h : d.Flat S w xs cells) (hc : ∀ (j : Nat) (v : Value), cells[j]? = some v → cs[j]? = some v) : d.Row S w (some ⟨b, 0, none⟩) xs :=
  Row.of_flat hb h (fun j v hj => by
    have : w.cell? ⟨b, 0 + j, none⟩ = cs[0 + j]? := by simp [World.cell?, hw]
    rw [this, Nat.zero_add]; exact hc j v hj)
/-- What is owned can be read. -/
theorem Sl.of_own {d : Rd α} {S : Nat → Prop} {w : World} {base : Nat} {e : TypeId} {v : Value} {xs : List α} {cells : List Value} (ho : w.ownsRow base e d.sz v xs.length cells) (hb : ∀ g, v.ownBlock = some g → S g) (h : d.Flat S w xs cells) (hlen : xs.length ≤ 140737488351232) : d.Sl S w v xs := by
  rcases ho.2 with ⟨rfl, h0⟩ | ⟨g, cap, cur, rfl, h2, h3, h4, h5, h6⟩
  · have : xs = [] := List.eq_nil_of_length_eq_zero (by simpa using h0)
    subst this
    exact ⟨none, 0, rfl, Nat.le_refl _, Nat.zero_le _, Row.nil _ _ _ _⟩
  · refine ⟨_, cap, rfl, h4, hlen, Row.of_flat (hb g rfl) h (fun j v hj => ?_)⟩
    have := ho.cells (g := g) rfl j v hj
    rw [add_at] at this
    exact this
/-- The cells of a row that is read. -/
theorem Row.flat {d : Rd α} {S : Nat → Prop} {w : World} {A : Option Addr} {xs : List α} (h : d.Row S w A xs) : ∃ cells, d.Flat S w xs cells ∧ Lie w A xs.length cells := by
  suffices hs : ∀ (ys : List α) (b o k : Nat), (∀ i, (hi : i < ys.length) → ∃ cs, d.K S w (ys[i]'hi) cs ∧ ∀ j v, cs[j]? = some v → w.cell? ⟨b, o + (k + i) * d.sz + j, none⟩ = some v) → ∃ cells, d.Flat S w ys cells ∧ ∀ j v, cells[j]? = some v → w.cell? ⟨b, o + k * d.sz + j, none⟩ = some v by
    rcases Nat.eq_zero_or_pos xs.length with h0 | h0
    · have : xs = [] := List.eq_nil_of_length_eq_zero h0
      subst this
      exact ⟨[], rfl, fun hp => absurd hp (by simp)⟩
    · obtain ⟨b, o, rfl, hb, hc⟩ := h h0
      obtain ⟨cells, hf, hcell⟩ := hs xs b o 0 (fun i hi => by simpa using hc i hi)
      exact ⟨cells, hf, fun _ => ⟨b, o, rfl, fun j u hj => by simpa using hcell j u hj⟩⟩
  intro ys
  induction ys with
  | nil => intro b o k _; exact ⟨[], rfl, fun j v hj => by simp at hj⟩
  | cons y ys ih =>
    intro b o k hall
    obtain ⟨c, hK, hc⟩ := hall 0 (by simp)
    obtain ⟨r, hr, hrc⟩ := ih b o (k + 1) (fun i hi => by
      have := hall (i + 1) (by simpa using hi)
      simpa [Nat.add_assoc, Nat.add_comm 1 i] using this)
    refine ⟨c ++ r, ⟨c, r, rfl, hK, hr⟩, fun j v hj => ?_⟩
    have hl := d.len hK
    by_cases hjc : j < c.length
    · rw [List.getElem?_append_left hjc] at hj
      simpa using hc j v hj
    · rw [List.getElem?_append_right (by omega), hl] at hj
      have := hrc _ v hj
      rw [show o + k * d.sz + j = o + (k + 1) * d.sz + (j - d.sz) by rw [Nat.add_mul]; omega]
      exact this
end Rd
end Go.Proofs.YtmceaeoeakkppaaGreatDoor
namespace Go.Proofs.YtmceaeoeakkppaaGreatDoor
open Go.RowKit
set_option linter.unusedVariables false

/-- All blocks are kept but those of F; new ones may come. -/
structure Keeps (F : Nat → Prop) (w w' : World) : Prop where
  os : w'.os = w.os
  tape : w'.tape = w.tape
  output : w'.output = w.output
  size : w.heap.size ≤ w'.heap.size
  block : ∀ k, k < w.heap.size → ¬ F k → w'.heap[k]? = w.heap[k]?
namespace Keeps
variable {F G : Nat → Prop} {a b c w w' : World}
theorem refl (F : Nat → Prop) (w : World) : Keeps F w w := ⟨rfl, rfl, rfl, Nat.le_refl _, fun _ _ _ => rfl⟩
theorem trans (h : Keeps F a b) (k : Keeps F b c) : Keeps F a c :=
  ⟨k.os.trans h.os, k.tape.trans h.tape, k.output.trans h.output, Nat.le_trans h.size k.size, fun i hi hf => (k.block i (Nat.lt_of_lt_of_le hi h.size) hf).trans (h.block i hi hf)⟩
/-- A step that touches G, of which the old blocks are F's. -/
theorem step (h : Keeps F a b) (k : Keeps G b c) (hG : ∀ x, x < a.heap.size → G x → F x) : Keeps F a c :=
  ⟨k.os.trans h.os, k.tape.trans h.tape, k.output.trans h.output, Nat.le_trans h.size k.size, fun i hi hf => (k.block i (Nat.lt_of_lt_of_le hi h.size) (fun hg => hf (hG i hi hg))).trans (h.block i hi hf)⟩
theorem mono (h : Keeps F a b) (hG : ∀ x, x < a.heap.size → F x → G x) : Keeps G a b :=
  ⟨h.os, h.tape, h.output, h.size, fun i hi hg => h.block i hi (fun hf => hg (hG i hi hf))⟩
theorem of_below (h : Below w.heap.size w w') : Keeps F w w' := ⟨h.os, h.tape, h.output, h.size, fun k hk _ => h.block k hk⟩
theorem below {B : Nat} (h : Keeps F w w') (hB : B ≤ w.heap.size) (hF : ∀ x, x < B → ¬ F x) : Below B w w' := ⟨h.os, h.tape, h.output, h.size, fun k hk => h.block k (Nat.lt_of_lt_of_le hk hB) (hF k hk)⟩
theorem drew (h : Keeps F a w) : Keeps F a w.drew := ⟨h.os, h.tape, h.output, h.size, h.block⟩
theorem alloc (h : Keeps F a w) (o : Go.Obj) : Keeps F a (w.alloc o) :=
  h.step (of_below ((Below.refl w.heap.size w).alloc (Nat.le_refl _) o) : Keeps (fun _ => False) _ _) (fun _ _ h => h.elim)
theorem setCell (h : Keeps F a w) {p : Addr} (hp : p.block < a.heap.size → F p.block) (u : Value) : Keeps F a (w.setCell p u) :=
  have hs : (w.setCell p u).heap.size = w.heap.size := by simp
  ⟨h.os, h.tape, h.output, by rw [hs]; exact h.size, fun k hk hf => (Below.heap_setCell w p u k (fun e => hf (by rw [e]; exact hp (by rw [← e]; exact hk)))).trans (h.block k hk hf)⟩
theorem grown {row : Option Nat} (h : Keeps F a w) (hg : w.grownBy w' row) (hr : ∀ g, row = some g → g < a.heap.size → F g) : Keeps F a w' :=
  have hs : w.heap.size ≤ w'.heap.size := (Below.grown (B := 0) (Below.refl 0 w) hg (Nat.zero_le _) (fun _ _ => Nat.zero_le _)).size
  ⟨((Below.refl 0 w).grown hg (Nat.zero_le _) (fun _ _ => Nat.zero_le _)).os.trans h.os, ((Below.refl 0 w).grown hg (Nat.zero_le _) (fun _ _ => Nat.zero_le _)).tape.trans h.tape, ((Below.refl 0 w).grown hg (Nat.zero_le _) (fun _ _ => Nat.zero_le _)).output.trans h.output, Nat.le_trans h.size hs,
    fun k hk hf => (hg.block k (Nat.lt_of_lt_of_le hk h.size) (fun e => hf (hr k e.symm hk))).trans (h.block k hk hf)⟩
end Keeps
theorem blk_keeps {F : Nat → Prop} {w w1 : World} {g : Nat} {o : Go.Obj} (h : w.heap[g]? = some o) (hb : Keeps F w w1) (hg : ¬ F g) : w1.heap[g]? = some o := (hb.block g (blk_lt h) hg).trans h
theorem own_keeps {F : Nat → Prop} {w w' : World} {base : Nat} {e : TypeId} {size : Nat} {v : Value} {n : Nat} {xs : List Value} (h : w.ownsRow base e size v n xs) (hb : Keeps F w w') (hF : ∀ g, v.ownBlock = some g → ¬ F g) : w'.ownsRow base e size v n xs :=
  own_keep h (fun g hg => hb.block g (h.lt g hg).2 (hF g hg))
theorem own_zero {w : World} {base : Nat} {e : TypeId} {size : Nat} {v : Value} {n : Nat} {xs : List Value} (h : w.ownsRow base e size v n xs) : w.ownsRow 0 e size v n xs := by
  refine ⟨h.1, ?_⟩
  rcases h.2 with h2 | ⟨g, cap, cur, h1, _, h3⟩
  · exact .inl h2
  · exact .inr ⟨g, cap, cur, h1, Nat.zero_le _, h3⟩
/-- The cells of what is owned, where it is not nothing. -/
theorem own_at {w : World} {base : Nat} {e : TypeId} {size : Nat} {v : Value} {n : Nat} {xs : List Value} (h : w.ownsRow base e size v n xs) (hn : 0 < n) : ∃ g c cur, v = .slice (some ⟨g, 0, none⟩) n c ∧ v.ownBlock = some g ∧ g < w.heap.size ∧ n ≤ c ∧ w.heap[g]? = some (.cells cur e (0, 0)) ∧ (∀ (j : Nat) (u : Value), xs[j]? = some u → w.cell? ⟨g, j, none⟩ = some u) ∧ ∀ j, w.frozen? ⟨g, j, none⟩ = false := by
  rcases h.2 with ⟨_, h0⟩ | ⟨g, cap, cur, rfl, hb, hh, h4, h5, h6⟩
  · omega
  · refine ⟨g, cap, cur, rfl, rfl, blk_lt hh, h4, hh, fun j u hj => ?_, blk_frozen hh⟩
    have := h.cells (g := g) rfl j u hj
    rw [add_at, Nat.zero_add] at this
    exact this
theorem own_lie {w : World} {base : Nat} {e : TypeId} {size n c : Nat} {A : Option Addr} {xs : List Value} (h : w.ownsRow base e size (.slice A n c) n xs) : Lie w A n xs := by
  rcases h.2 with ⟨_, h0⟩ | ⟨g, cap, cur, e, h1, h2, h3, h4, h5, h6⟩
  · exact fun h => by omega
  · cases e
    exact lie_blk h2 (fun j u hj => by
      rw [← h6, List.getElem?_take] at hj
      split at hj
      · simpa using hj
      · cases hj)
end Go.Proofs.YtmceaeoeakkppaaGreatDoor
namespace Go.Proofs.YtmceaeoeakkppaaGreatDoor
open Go.RowKit
set_option linter.unusedVariables false
def bcells (bs : List Int) : List Value := bs.map (.int .u8 ·)
theorem bcells_length (bs : List Int) : (bcells bs).length = bs.length * 1 := by simp [bcells]
theorem bcells_append (a b : List Int) : bcells (a ++ b) = bcells a ++ bcells b := by simp [bcells]
theorem bcells_one (bs : List Int) : ∀ u ∈ bcells bs, u.oneCell' = true := by
  intro u hu
  simp only [bcells, List.mem_map] at hu
  obtain ⟨_, _, rfl⟩ := hu
  rfl
theorem bcells_at {bs : List Int} {k : Nat} {x : Int} (h : bs[k]? = some x) : (bcells bs)[k]? = some (.int .u8 x) := by simp [bcells, h]
def isB (bs : List Int) : Prop := ∀ x ∈ bs, 0 ≤ x ∧ x ≤ 255
theorem isB_append {a b : List Int} (h1 : isB a) (h2 : isB b) : isB (a ++ b) := fun x hx => (List.mem_append.1 hx).elim (h1 x) (h2 x)
theorem isB_one {x : Int} (h : 0 ≤ x ∧ x ≤ 255) : isB [x] := fun y hy => by rw [List.mem_singleton.1 hy]; exact h
theorem byte_flat {S : Nat → Prop} {w : World} {bs : List Int} {cells : List Value} : (Rd.int .u8).Flat S w bs cells ↔ cells = bcells bs ∧ isB bs := by
  induction bs generalizing cells with
  | nil => simp [Rd.Flat, bcells, isB]
  | cons b bs ih =>
    constructor
    · rintro ⟨c, r, rfl, ⟨rfl, hb⟩, hr⟩
      obtain ⟨rfl, hw⟩ := ih.1 hr
      exact ⟨rfl, fun x hx => by
        rcases List.mem_cons.1 hx with rfl | hx
        · exact bounds_u8 hb
        · exact hw x hx⟩
    · rintro ⟨rfl, hw⟩
      exact ⟨[.int .u8 b], bcells bs, rfl, ⟨rfl, WalkArith.wf_u8 (hw b (by simp))⟩, ih.2 ⟨rfl, fun x hx => hw x (by simp [hx])⟩⟩
theorem byte_info : (Tryz.prog.info? 5).map (fun i => (i.zero, i.size, i.bytes)) = some (some (.int .u8 0), 1, 1) := by kernel_rfl
/-- The bytes of a number by Var. -/
def varB (v : Nat) : List Int := if v < 128 then [(v : Int)] else ((128 + v % 128 : Nat) : Int) :: varB (v / 128)
theorem varB_small {v : Nat} (h : v < 128) : varB v = [(v : Int)] := by rw [varB, if_pos h]
theorem varB_big {v : Nat} (h : ¬ v < 128) : varB v = ((128 + v % 128 : Nat) : Int) :: varB (v / 128) := by rw [varB, if_neg h]
theorem varB_isB (v : Nat) : isB (varB v) := by
  induction v using Nat.strongRecOn with
  | _ v ih =>
    by_cases h : v < 128
    · rw [varB_small h]; exact isB_one (by omega)
    · rw [varB_big h]
      intro x hx
      rcases List.mem_cons.1 hx with rfl | hx
      · omega
      · exact ih _ (by omega) x hx
theorem varB_len (v k : Nat) (h : v < 128 ^ (k + 1)) : (varB v).length ≤ k + 1 := by
  induction k generalizing v with
  | zero => rw [varB_small (by simpa using h)]; simp
  | succ k ih =>
    by_cases hv : v < 128
    · rw [varB_small hv]; simp
    · rw [varB_big hv, List.length_cons]
      have : v / 128 < 128 ^ (k + 1) := by rw [Nat.div_lt_iff_lt_mul (by decide)]; rw [Nat.pow_succ] at h; exact h
      have := ih _ this
      omega
theorem varB_ten {v : Nat} (h : v < 18446744073709551616) : (varB v).length ≤ 10 := varB_len v 9 (Nat.lt_of_lt_of_le h (by decide))
theorem varB_pos (v : Nat) : 0 < (varB v).length := by
  by_cases h : v < 128
  · rw [varB_small h]; simp
  · rw [varB_big h]; simp
theorem or128 (x : Int) (h : 0 ≤ x ∧ x ≤ 255) : Go.bits .or .u8 x 128 = 128 + x % 128 := by
  have : ∀ n : Fin 256, Go.bits .or .u8 (n.val : Int) 128 = 128 + (n.val : Int) % 128 := by decide +kernel
  have h2 := this ⟨x.toNat, by omega⟩
  simp only at h2
  rwa [show ((x.toNat : Nat) : Int) = x by omega] at h2
/-- A row that is made at once. -/
theorem own_made (w : World) (e : TypeId) (size n : Nat) (cs : List Value) (hl : cs.length = n * size) (hm : n ≤ maxLen) : (w.alloc (.cells cs.toArray e (0, 0))).ownsRow w.heap.size e size (.slice (some ⟨w.heap.size, 0, none⟩) n n) n cs :=
  ⟨hl, .inr ⟨w.heap.size, n, cs.toArray, rfl, Nat.le_refl _, blk_new w _, Nat.le_refl _, hm, by simpa using hl, by rw [← hl]; simp⟩⟩
end Go.Proofs.YtmceaeoeakkppaaGreatDoor
namespace Go.Proofs.YtmceaeoeakkppaaGreatDoor
def cnt (n : Int) : Nat := if n < 0 then 0 else if 8 < n then 8 else n.toNat
theorem cnt_le (n : Int) : cnt n ≤ 8 := by unfold cnt; split; omega; split <;> omega
end Go.Proofs.YtmceaeoeakkppaaGreatDoor
namespace Go.Proofs.YtmceaeoeakkppaaGreatDoor
open Go.RowKit
set_option linter.unusedVariables false
theorem byte1 (x : Int) : ∀ u ∈ ([.int .u8 x] : List Value), u.oneCell' = true := bcells_one [x]
theorem bsnoc (bs : List Int) (x : Int) : bcells (bs ++ [x]) = bcells bs ++ [.int .u8 x] := bcells_append _ _
theorem own_row_ge {w : World} {base : Nat} {e : TypeId} {size : Nat} {v : Value} {n : Nat} {xs : List Value} (h : w.ownsRow base e size v n xs) : v.ownBlock = none ∨ ∃ g, v.ownBlock = some g ∧ base ≤ g := own_ge h
set_option maxRecDepth 100000 in
theorem var_calls (w : World) (v : Nat) (hv : v < 18446744073709551616) : Calls Tryz.prog 207 #[.int .u64 v] w fun e w' => ∃ A c, e = .returned (.slice A (varB v).length c) ∧ w'.ownsRow w.heap.size 5 1 (.slice A (varB v).length c) (varB v).length (bcells (varB v)) ∧ Below w.heap.size w w' := by
  have hlen := varB_ten hv
  go_enter Tryz.func207, Tryz.ntmps207
  go_wp2
  go_loopw [0, 3] (fun x out wr => ∃ (n : Nat) (pre : List Int) (A : Option Addr) (c : Nat), x = .int .u64 n ∧ n < 18446744073709551616 ∧ out = .slice A pre.length c ∧ Hid (wr.ownsRow w.heap.size 5 1 (.slice A pre.length c) pre.length (bcells pre)) ∧ Hid (pre ++ varB n = varB v) ∧ pre.length ≤ 10 ∧ Below w.heap.size w wr) (fun x _ _ => (intOf x).toNat)
  case atStart => exact ⟨v, [], none, 0, rfl, hv, rfl, Lib.hid ⟨rfl, .inl ⟨rfl, rfl⟩⟩, Lib.hid rfl, by simp, Below.refl _ _⟩
  case round =>
    obtain ⟨n, pre, A, c, rfl, hn, rfl, HO, HE, hp, hb⟩ := hrel
    have hsz := hb.size
    have hor := or128 ((n : Int) % 256) (by omega)
    by_cases hlt : n < 128
    · go_wp2_with (at_builtin; refine list_app _ rfl (.tmp 14) (.tmp 17) _ rfl 5 Tryz.underlying74 byte_info rfl (by decide) (by decide) w.heap.size (n := pre.length) (xs := bcells pre) rfl (by exact HO.out.alloc _) (news := [.int .u8 (n : Int)]) rfl rfl (by exact lie_new _ _ _ rfl) (by exact byte1 _) (by omega) (by simp; omega) ?_; intro v' w3 hown hg hat; have hB := Lib.hid (grown_below (hb.alloc hsz _) hg (by simp; omega) (own_row_ge HO.out)); obtain ⟨A3, c3, rfl, hn3, _, _⟩ := own_shape hown; have HO3 := Lib.hid hown; clear hown hg hat)
      go_ret
      have he := HE.out
      rw [varB_small hlt] at he
      rw [← he, List.length_append]
      exact ⟨_, _, rfl, by rw [bsnoc]; exact HO3.out, hB.out⟩
    · have hlp : pre.length + (varB n).length ≤ 10 := by rw [← List.length_append, HE.out]; exact hlen
      have hpos := varB_pos n
      go_wp2_with (at_builtin; refine list_app _ rfl (.tmp 8) (.tmp 12) _ rfl 5 Tryz.underlying74 byte_info rfl (by decide) (by decide) w.heap.size (n := pre.length) (xs := bcells pre) rfl (by exact HO.out.alloc _) (news := [.int .u8 (128 + (n : Int) % 128)]) rfl rfl (by exact lie_new _ _ _ rfl) (by exact byte1 _) (by omega) (by simp; omega) ?_; intro v' w3 hown hg hat; have hB := Lib.hid (grown_below (hb.alloc hsz _) hg (by simp; omega) (own_row_ge HO.out)); obtain ⟨A3, c3, rfl, hn3, _, _⟩ := own_shape hown; have HO3 := Lib.hid hown; clear hown hg hat)
      go_roundw
      case rel =>
        refine ⟨n / 128, pre ++ [128 + (n : Int) % 128], A3, c3, ?_, by omega, by rw [List.length_append]; rfl, Lib.hid (by rw [List.length_append, bsnoc]; exact HO3.out), Lib.hid ?_, by rw [List.length_append, List.length_singleton]; omega, hB.out⟩
        · go_num
        · have he := HE.out
          rw [varB_big hlt] at he
          rw [List.append_assoc, ← he]
          congr 2
      case measure => simp [intOf]; omega
end Go.Proofs.YtmceaeoeakkppaaGreatDoor
namespace Go.Proofs.YtmceaeoeakkppaaGreatDoor
open Go.RowKit
set_option linter.unusedVariables false
def isRef (k : Int) : Bool := decide (k = 2) || decide (k = 3) || decide (k = 4) || decide (k = 6) || decide (k = 7)
def sub (a b : Ty) : Bool := decide (a = b) || decide (b.kind = 8) || (isRef a.kind && isRef b.kind && (decide (a.kind = 6) || decide (b.kind = 7)))
def join (a b : Ty) : Ty := if sub a b then b else if sub b a then a else if isRef a.kind && isRef b.kind then ⟨7, 0⟩ else ⟨8, 0⟩
def good (t : Ty) (recs : Int) : Bool := if t.kind = 1 ∨ t.kind = 2 ∨ t.kind = 3 ∨ t.kind = 7 then decide (t.n = 0) else if t.kind = 4 then decide (0 ≤ t.n) && decide (t.n < recs) else if t.kind = 5 then decide (0 ≤ t.n) && decide (t.n < 4) else false

theorem ref_calls (w : World) (k n : Int) : Calls Tryz.prog 213 #[.agg #[.int .i64 k, .int .i64 n]] w fun e w' => e = .returned (.bool (isRef k)) ∧ Below w.heap.size w w' := by
  have hk : k = 2 ∨ k = 3 ∨ k = 4 ∨ k = 6 ∨ k = 7 ∨ (k ≠ 2 ∧ k ≠ 3 ∧ k ≠ 4 ∧ k ≠ 6 ∧ k ≠ 7) := by omega
  rcases hk with rfl | rfl | rfl | rfl | rfl | ⟨h1, h2, h3, h4, h5⟩
  all_goals first
    | (go_enter Tryz.func213, Tryz.ntmps213
       go_wp2
       go_ret
       exact ⟨rfl, (Below.refl _ _).alloc (Nat.le_refl _) _⟩)
    | (have hr : isRef k = false := by simp [isRef, *]
       rw [hr]
       have b1 : (k == 2) = false := by simpa using h1
       have b2 : (k == 3) = false := by simpa using h2
       have b3 : (k == 4) = false := by simpa using h3
       have b4 : (k == 6) = false := by simpa using h4
       have b5 : (k == 7) = false := by simpa using h5
       clear h1 h2 h3 h4 h5 hr
       go_enter Tryz.func213, Tryz.ntmps213
       go_wp2
       go_ret
       exact ⟨rfl, (Below.refl _ _).alloc (Nat.le_refl _) _⟩)

theorem sub_calls (w : World) (a b : Ty) : Calls Tryz.prog 193 #[.agg #[.int .i64 a.kind, .int .i64 a.n], .agg #[.int .i64 b.kind, .int .i64 b.n]] w fun e w' => e = .returned (.bool (sub a b)) ∧ Below w.heap.size w w' := by
  obtain ⟨ak, an⟩ := a
  obtain ⟨bk, bn⟩ := b
  simp only
  go_enter Tryz.func193, Tryz.ntmps193
  go_wp2_with (first
    | (go_at_call 213; have hq := HB1; refine (ref_calls _ _ _).mono ?_; rintro e w2 ⟨rfl, hb2⟩
       have HB2 := Lib.hid (HB1.out.trans (hb2.mono (by omega)))
       have hs4 : w.heap.size < w2.heap.size := by have := hb2.size; omega
       have hs5 : w.heap.size + 1 < w2.heap.size := by have := hb2.size; omega
       obtain ⟨hc2, hf2⟩ := bcell hb2
       clear hb2)
    | (go_at_call 213; refine (ref_calls _ _ _).mono ?_; rintro e w1 ⟨rfl, hb1⟩
       have HB1 := Lib.hid ((((Below.refl w.heap.size w).alloc (Nat.le_refl _) _).alloc (by simp) _).trans (hb1.mono (by simp <;> omega)))
       have hs2 : w.heap.size < w1.heap.size := by have := hb1.size; simp at this; omega
       have hs3 : w.heap.size + 1 < w1.heap.size := by have := hb1.size; simp at this; omega
       obtain ⟨hc1, hf1⟩ := bcell hb1
       clear hb1))
  all_goals go_ret
  all_goals refine ⟨ret_bool ?_, ?_⟩
  all_goals first
    | exact HB2.out
    | exact HB1.out
    | exact ((Below.refl _ _).alloc (Nat.le_refl _) _).alloc (by simp) _
    | (simp [sub, *]; done)
    | (try clear hc1 hf1
       try clear hc2 hf2
       simp_all [sub, Bool.beq_eq_decide_eq]; done)

end Go.Proofs.YtmceaeoeakkppaaGreatDoor
namespace Go.Proofs.YtmceaeoeakkppaaGreatDoor
open Go.RowKit
set_option linter.unusedVariables false
set_option maxHeartbeats 800000 in
theorem join_1 (w : World) (a b : Ty) (e1 : sub a b = true) : Calls Tryz.prog 162 #[.agg #[.int .i64 a.kind, .int .i64 a.n], .agg #[.int .i64 b.kind, .int .i64 b.n]] w fun e w' => e = .returned (.agg #[.int .i64 b.kind, .int .i64 b.n]) ∧ Below w.heap.size w w' := by
  obtain ⟨ak, an⟩ := a
  obtain ⟨bk, bn⟩ := b
  simp only at *
  have E1 := Lib.hid e1
  clear e1
  go_enter Tryz.func162, Tryz.ntmps162
  go_wp2_with (first
      | (go_at_call 213; have hq := HB3; refine (ref_calls _ bk _).mono ?_; rintro e w4 ⟨he, hb4⟩
         obtain rfl := he.trans (ret_bool E4.out)
         have HB4 := Lib.hid (HB3.out.trans (hb4.mono (by omega)))
         have hs4 : w.heap.size + 1 + 1 < w4.heap.size := by have := hb4.size; omega
         have hs4a : w.heap.size + 1 < w4.heap.size := by omega
         have hs4b : w.heap.size < w4.heap.size := by omega
         obtain ⟨hc4, hf4⟩ := bcell hb4
         have X4 := Lib.hid (blk_below X3.out hb4 hs3)
         clear he hb4)
      | (go_at_call 213; have hq := HB2; refine (ref_calls _ ak _).mono ?_; rintro e w3 ⟨he, hb3⟩
         obtain rfl := he.trans (ret_bool E3.out)
         have HB3 := Lib.hid (HB2.out.trans (hb3.mono (by omega)))
         have hs3 : w.heap.size + 1 + 1 < w3.heap.size := by have := hb3.size; omega
         have hs3a : w.heap.size + 1 < w3.heap.size := by omega
         have hs3b : w.heap.size < w3.heap.size := by omega
         obtain ⟨hc3, hf3⟩ := bcell hb3
         have X3 := Lib.hid (blk_below X2.out hb3 hs2)
         clear he hb3)
      | (go_at_call 193; have hq := HB1; refine (sub_calls _ ⟨bk, bn⟩ ⟨ak, an⟩).mono ?_; rintro e w2 ⟨he, hb2⟩
         obtain rfl := he.trans (ret_bool E2.out)
         have HB2 := Lib.hid (HB1.out.trans (hb2.mono (by omega)))
         have hs2 : w.heap.size + 1 + 1 < w2.heap.size := by have := hb2.size; omega
         have hs2a : w.heap.size + 1 < w2.heap.size := by omega
         have hs2b : w.heap.size < w2.heap.size := by omega
         obtain ⟨hc2, hf2⟩ := bcell hb2
         have X2 := Lib.hid (blk_below X1.out hb2 hs1)
         clear he hb2)
      | (go_at_call 193; refine (sub_calls _ ⟨ak, an⟩ ⟨bk, bn⟩).mono ?_; rintro e w1 ⟨he, hb1⟩
         obtain rfl := he.trans (ret_bool E1.out)
         have HB1 := Lib.hid (((((Below.refl w.heap.size w).alloc (Nat.le_refl _) _).alloc (by simp) _).alloc (by simp <;> omega) _).trans (hb1.mono (by simp <;> omega)))
         have hs1 : w.heap.size + 1 + 1 < w1.heap.size := by have := hb1.size; simp at this; omega
         have hs1a : w.heap.size + 1 < w1.heap.size := by omega
         have hs1b : w.heap.size < w1.heap.size := by omega
         obtain ⟨hc1, hf1⟩ := bcell hb1
         have X1 := Lib.hid (blk_below (blk_new3 w _ _ _) hb1 (by simp))
         clear he hb1))
  have hcell := blk_cell (blk_set (blk_set X1.out 0 (.int .i64 bk)) 1 (.int .i64 bn))
  exact bodyPost_ret (v := .agg #[.int .i64 bk, .int .i64 bn]) (by simp [results, Tryz.results162, go_sem, hcell]) rfl ⟨rfl, (HB1.out.setCell (by simp <;> omega) _).setCell (by simp <;> omega) _⟩
set_option maxHeartbeats 800000 in
theorem join_2 (w : World) (a b : Ty) (e1 : sub a b = false) (e2 : sub b a = true) : Calls Tryz.prog 162 #[.agg #[.int .i64 a.kind, .int .i64 a.n], .agg #[.int .i64 b.kind, .int .i64 b.n]] w fun e w' => e = .returned (.agg #[.int .i64 a.kind, .int .i64 a.n]) ∧ Below w.heap.size w w' := by
  obtain ⟨ak, an⟩ := a
  obtain ⟨bk, bn⟩ := b
  simp only at *
  have E1 := Lib.hid e1
  have E2 := Lib.hid e2
  clear e1 e2
  go_enter Tryz.func162, Tryz.ntmps162
  go_wp2_with (first
      | (go_at_call 213; have hq := HB3; refine (ref_calls _ bk _).mono ?_; rintro e w4 ⟨he, hb4⟩
         obtain rfl := he.trans (ret_bool E4.out)
         have HB4 := Lib.hid (HB3.out.trans (hb4.mono (by omega)))
         have hs4 : w.heap.size + 1 + 1 < w4.heap.size := by have := hb4.size; omega
         have hs4a : w.heap.size + 1 < w4.heap.size := by omega
         have hs4b : w.heap.size < w4.heap.size := by omega
         obtain ⟨hc4, hf4⟩ := bcell hb4
         have X4 := Lib.hid (blk_below X3.out hb4 hs3)
         clear he hb4)
      | (go_at_call 213; have hq := HB2; refine (ref_calls _ ak _).mono ?_; rintro e w3 ⟨he, hb3⟩
         obtain rfl := he.trans (ret_bool E3.out)
         have HB3 := Lib.hid (HB2.out.trans (hb3.mono (by omega)))
         have hs3 : w.heap.size + 1 + 1 < w3.heap.size := by have := hb3.size; omega
         have hs3a : w.heap.size + 1 < w3.heap.size := by omega
         have hs3b : w.heap.size < w3.heap.size := by omega
         obtain ⟨hc3, hf3⟩ := bcell hb3
         have X3 := Lib.hid (blk_below X2.out hb3 hs2)
         clear he hb3)
      | (go_at_call 193; have hq := HB1; refine (sub_calls _ ⟨bk, bn⟩ ⟨ak, an⟩).mono ?_; rintro e w2 ⟨he, hb2⟩
         obtain rfl := he.trans (ret_bool E2.out)
         have HB2 := Lib.hid (HB1.out.trans (hb2.mono (by omega)))
         have hs2 : w.heap.size + 1 + 1 < w2.heap.size := by have := hb2.size; omega
         have hs2a : w.heap.size + 1 < w2.heap.size := by omega
         have hs2b : w.heap.size < w2.heap.size := by omega
         obtain ⟨hc2, hf2⟩ := bcell hb2
         have X2 := Lib.hid (blk_below X1.out hb2 hs1)
         clear he hb2)
      | (go_at_call 193; refine (sub_calls _ ⟨ak, an⟩ ⟨bk, bn⟩).mono ?_; rintro e w1 ⟨he, hb1⟩
         obtain rfl := he.trans (ret_bool E1.out)
         have HB1 := Lib.hid (((((Below.refl w.heap.size w).alloc (Nat.le_refl _) _).alloc (by simp) _).alloc (by simp <;> omega) _).trans (hb1.mono (by simp <;> omega)))
         have hs1 : w.heap.size + 1 + 1 < w1.heap.size := by have := hb1.size; simp at this; omega
         have hs1a : w.heap.size + 1 < w1.heap.size := by omega
         have hs1b : w.heap.size < w1.heap.size := by omega
         obtain ⟨hc1, hf1⟩ := bcell hb1
         have X1 := Lib.hid (blk_below (blk_new3 w _ _ _) hb1 (by simp))
         clear he hb1))
  have hcell := blk_cell (blk_set (blk_set X2.out 0 (.int .i64 ak)) 1 (.int .i64 an))
  exact bodyPost_ret (v := .agg #[.int .i64 ak, .int .i64 an]) (by simp [results, Tryz.results162, go_sem, hcell]) rfl ⟨rfl, (HB2.out.setCell (by simp <;> omega) _).setCell (by simp <;> omega) _⟩
set_option maxHeartbeats 800000 in
theorem join_3 (w : World) (a b : Ty) (e1 : sub a b = false) (e2 : sub b a = false) (e3 : isRef a.kind = true) (e4 : isRef b.kind = true) : Calls Tryz.prog 162 #[.agg #[.int .i64 a.kind, .int .i64 a.n], .agg #[.int .i64 b.kind, .int .i64 b.n]] w fun e w' => e = .returned (.agg #[.int .i64 7, .int .i64 0]) ∧ Below w.heap.size w w' := by
  obtain ⟨ak, an⟩ := a
  obtain ⟨bk, bn⟩ := b
  simp only at *
  have E1 := Lib.hid e1
  have E2 := Lib.hid e2
  have E3 := Lib.hid e3
  have E4 := Lib.hid e4
  clear e1 e2 e3 e4
  go_enter Tryz.func162, Tryz.ntmps162
  go_wp2_with (first
      | (go_at_call 213; have hq := HB3; refine (ref_calls _ bk _).mono ?_; rintro e w4 ⟨he, hb4⟩
         obtain rfl := he.trans (ret_bool E4.out)
         have HB4 := Lib.hid (HB3.out.trans (hb4.mono (by omega)))
         have hs4 : w.heap.size + 1 + 1 < w4.heap.size := by have := hb4.size; omega
         have hs4a : w.heap.size + 1 < w4.heap.size := by omega
         have hs4b : w.heap.size < w4.heap.size := by omega
         obtain ⟨hc4, hf4⟩ := bcell hb4
         have X4 := Lib.hid (blk_below X3.out hb4 hs3)
         clear he hb4)
      | (go_at_call 213; have hq := HB2; refine (ref_calls _ ak _).mono ?_; rintro e w3 ⟨he, hb3⟩
         obtain rfl := he.trans (ret_bool E3.out)
         have HB3 := Lib.hid (HB2.out.trans (hb3.mono (by omega)))
         have hs3 : w.heap.size + 1 + 1 < w3.heap.size := by have := hb3.size; omega
         have hs3a : w.heap.size + 1 < w3.heap.size := by omega
         have hs3b : w.heap.size < w3.heap.size := by omega
         obtain ⟨hc3, hf3⟩ := bcell hb3
         have X3 := Lib.hid (blk_below X2.out hb3 hs2)
         clear he hb3)
      | (go_at_call 193; have hq := HB1; refine (sub_calls _ ⟨bk, bn⟩ ⟨ak, an⟩).mono ?_; rintro e w2 ⟨he, hb2⟩
         obtain rfl := he.trans (ret_bool E2.out)
         have HB2 := Lib.hid (HB1.out.trans (hb2.mono (by omega)))
         have hs2 : w.heap.size + 1 + 1 < w2.heap.size := by have := hb2.size; omega
         have hs2a : w.heap.size + 1 < w2.heap.size := by omega
         have hs2b : w.heap.size < w2.heap.size := by omega
         obtain ⟨hc2, hf2⟩ := bcell hb2
         have X2 := Lib.hid (blk_below X1.out hb2 hs1)
         clear he hb2)
      | (go_at_call 193; refine (sub_calls _ ⟨ak, an⟩ ⟨bk, bn⟩).mono ?_; rintro e w1 ⟨he, hb1⟩
         obtain rfl := he.trans (ret_bool E1.out)
         have HB1 := Lib.hid (((((Below.refl w.heap.size w).alloc (Nat.le_refl _) _).alloc (by simp) _).alloc (by simp <;> omega) _).trans (hb1.mono (by simp <;> omega)))
         have hs1 : w.heap.size + 1 + 1 < w1.heap.size := by have := hb1.size; simp at this; omega
         have hs1a : w.heap.size + 1 < w1.heap.size := by omega
         have hs1b : w.heap.size < w1.heap.size := by omega
         obtain ⟨hc1, hf1⟩ := bcell hb1
         have X1 := Lib.hid (blk_below (blk_new3 w _ _ _) hb1 (by simp))
         clear he hb1))
  have hcell := blk_cell (blk_set (blk_set X4.out 0 (.int .i64 7)) 1 (.int .i64 0))
  exact bodyPost_ret (v := .agg #[.int .i64 7, .int .i64 0]) (by simp [results, Tryz.results162, go_sem, hcell]) rfl ⟨rfl, (HB4.out.setCell (by simp <;> omega) _).setCell (by simp <;> omega) _⟩
set_option maxHeartbeats 800000 in
theorem join_4 (w : World) (a b : Ty) (e1 : sub a b = false) (e2 : sub b a = false) (e3 : isRef a.kind = false) : Calls Tryz.prog 162 #[.agg #[.int .i64 a.kind, .int .i64 a.n], .agg #[.int .i64 b.kind, .int .i64 b.n]] w fun e w' => e = .returned (.agg #[.int .i64 8, .int .i64 0]) ∧ Below w.heap.size w w' := by
  obtain ⟨ak, an⟩ := a
  obtain ⟨bk, bn⟩ := b
  simp only at *
  have E1 := Lib.hid e1
  have E2 := Lib.hid e2
  have E3 := Lib.hid e3
  clear e1 e2 e3
  go_enter Tryz.func162, Tryz.ntmps162
  go_wp2_with (first
      | (go_at_call 213; have hq := HB3; refine (ref_calls _ bk _).mono ?_; rintro e w4 ⟨he, hb4⟩
         obtain rfl := he.trans (ret_bool E4.out)
         have HB4 := Lib.hid (HB3.out.trans (hb4.mono (by omega)))
         have hs4 : w.heap.size + 1 + 1 < w4.heap.size := by have := hb4.size; omega
         have hs4a : w.heap.size + 1 < w4.heap.size := by omega
         have hs4b : w.heap.size < w4.heap.size := by omega
         obtain ⟨hc4, hf4⟩ := bcell hb4
         have X4 := Lib.hid (blk_below X3.out hb4 hs3)
         clear he hb4)
      | (go_at_call 213; have hq := HB2; refine (ref_calls _ ak _).mono ?_; rintro e w3 ⟨he, hb3⟩
         obtain rfl := he.trans (ret_bool E3.out)
         have HB3 := Lib.hid (HB2.out.trans (hb3.mono (by omega)))
         have hs3 : w.heap.size + 1 + 1 < w3.heap.size := by have := hb3.size; omega
         have hs3a : w.heap.size + 1 < w3.heap.size := by omega
         have hs3b : w.heap.size < w3.heap.size := by omega
         obtain ⟨hc3, hf3⟩ := bcell hb3
         have X3 := Lib.hid (blk_below X2.out hb3 hs2)
         clear he hb3)
      | (go_at_call 193; have hq := HB1; refine (sub_calls _ ⟨bk, bn⟩ ⟨ak, an⟩).mono ?_; rintro e w2 ⟨he, hb2⟩
         obtain rfl := he.trans (ret_bool E2.out)
         have HB2 := Lib.hid (HB1.out.trans (hb2.mono (by omega)))
         have hs2 : w.heap.size + 1 + 1 < w2.heap.size := by have := hb2.size; omega
         have hs2a : w.heap.size + 1 < w2.heap.size := by omega
         have hs2b : w.heap.size < w2.heap.size := by omega
         obtain ⟨hc2, hf2⟩ := bcell hb2
         have X2 := Lib.hid (blk_below X1.out hb2 hs1)
         clear he hb2)
      | (go_at_call 193; refine (sub_calls _ ⟨ak, an⟩ ⟨bk, bn⟩).mono ?_; rintro e w1 ⟨he, hb1⟩
         obtain rfl := he.trans (ret_bool E1.out)
         have HB1 := Lib.hid (((((Below.refl w.heap.size w).alloc (Nat.le_refl _) _).alloc (by simp) _).alloc (by simp <;> omega) _).trans (hb1.mono (by simp <;> omega)))
         have hs1 : w.heap.size + 1 + 1 < w1.heap.size := by have := hb1.size; simp at this; omega
         have hs1a : w.heap.size + 1 < w1.heap.size := by omega
         have hs1b : w.heap.size < w1.heap.size := by omega
         obtain ⟨hc1, hf1⟩ := bcell hb1
         have X1 := Lib.hid (blk_below (blk_new3 w _ _ _) hb1 (by simp))
         clear he hb1))
  have hcell := blk_cell (blk_set (blk_set X3.out 0 (.int .i64 8)) 1 (.int .i64 0))
  exact bodyPost_ret (v := .agg #[.int .i64 8, .int .i64 0]) (by simp [results, Tryz.results162, go_sem, hcell]) rfl ⟨rfl, (HB3.out.setCell (by simp <;> omega) _).setCell (by simp <;> omega) _⟩
set_option maxHeartbeats 800000 in
theorem join_5 (w : World) (a b : Ty) (e1 : sub a b = false) (e2 : sub b a = false) (e3 : isRef a.kind = true) (e4 : isRef b.kind = false) : Calls Tryz.prog 162 #[.agg #[.int .i64 a.kind, .int .i64 a.n], .agg #[.int .i64 b.kind, .int .i64 b.n]] w fun e w' => e = .returned (.agg #[.int .i64 8, .int .i64 0]) ∧ Below w.heap.size w w' := by
  obtain ⟨ak, an⟩ := a
  obtain ⟨bk, bn⟩ := b
  simp only at *
  have E1 := Lib.hid e1
  have E2 := Lib.hid e2
  have E3 := Lib.hid e3
  have E4 := Lib.hid e4
  clear e1 e2 e3 e4
  go_enter Tryz.func162, Tryz.ntmps162
  go_wp2_with (first
      | (go_at_call 213; have hq := HB3; refine (ref_calls _ bk _).mono ?_; rintro e w4 ⟨he, hb4⟩
         obtain rfl := he.trans (ret_bool E4.out)
         have HB4 := Lib.hid (HB3.out.trans (hb4.mono (by omega)))
         have hs4 : w.heap.size + 1 + 1 < w4.heap.size := by have := hb4.size; omega
         have hs4a : w.heap.size + 1 < w4.heap.size := by omega
         have hs4b : w.heap.size < w4.heap.size := by omega
         obtain ⟨hc4, hf4⟩ := bcell hb4
         have X4 := Lib.hid (blk_below X3.out hb4 hs3)
         clear he hb4)
      | (go_at_call 213; have hq := HB2; refine (ref_calls _ ak _).mono ?_; rintro e w3 ⟨he, hb3⟩
         obtain rfl := he.trans (ret_bool E3.out)
         have HB3 := Lib.hid (HB2.out.trans (hb3.mono (by omega)))
         have hs3 : w.heap.size + 1 + 1 < w3.heap.size := by have := hb3.size; omega
         have hs3a : w.heap.size + 1 < w3.heap.size := by omega
         have hs3b : w.heap.size < w3.heap.size := by omega
         obtain ⟨hc3, hf3⟩ := bcell hb3
         have X3 := Lib.hid (blk_below X2.out hb3 hs2)
         clear he hb3)
      | (go_at_call 193; have hq := HB1; refine (sub_calls _ ⟨bk, bn⟩ ⟨ak, an⟩).mono ?_; rintro e w2 ⟨he, hb2⟩
         obtain rfl := he.trans (ret_bool E2.out)
         have HB2 := Lib.hid (HB1.out.trans (hb2.mono (by omega)))
         have hs2 : w.heap.size + 1 + 1 < w2.heap.size := by have := hb2.size; omega
         have hs2a : w.heap.size + 1 < w2.heap.size := by omega
         have hs2b : w.heap.size < w2.heap.size := by omega
         obtain ⟨hc2, hf2⟩ := bcell hb2
         have X2 := Lib.hid (blk_below X1.out hb2 hs1)
         clear he hb2)
      | (go_at_call 193; refine (sub_calls _ ⟨ak, an⟩ ⟨bk, bn⟩).mono ?_; rintro e w1 ⟨he, hb1⟩
         obtain rfl := he.trans (ret_bool E1.out)
         have HB1 := Lib.hid (((((Below.refl w.heap.size w).alloc (Nat.le_refl _) _).alloc (by simp) _).alloc (by simp <;> omega) _).trans (hb1.mono (by simp <;> omega)))
         have hs1 : w.heap.size + 1 + 1 < w1.heap.size := by have := hb1.size; simp at this; omega
         have hs1a : w.heap.size + 1 < w1.heap.size := by omega
         have hs1b : w.heap.size < w1.heap.size := by omega
         obtain ⟨hc1, hf1⟩ := bcell hb1
         have X1 := Lib.hid (blk_below (blk_new3 w _ _ _) hb1 (by simp))
         clear he hb1))
  have hcell := blk_cell (blk_set (blk_set X4.out 0 (.int .i64 8)) 1 (.int .i64 0))
  exact bodyPost_ret (v := .agg #[.int .i64 8, .int .i64 0]) (by simp [results, Tryz.results162, go_sem, hcell]) rfl ⟨rfl, (HB4.out.setCell (by simp <;> omega) _).setCell (by simp <;> omega) _⟩
theorem join_calls (w : World) (a b : Ty) : Calls Tryz.prog 162 #[.agg #[.int .i64 a.kind, .int .i64 a.n], .agg #[.int .i64 b.kind, .int .i64 b.n]] w fun e w' => e = .returned (.agg #[.int .i64 (join a b).kind, .int .i64 (join a b).n]) ∧ Below w.heap.size w w' := by
  unfold join
  cases e1 : sub a b with
  | true => simpa using join_1 w a b e1
  | false =>
    cases e2 : sub b a with
    | true => simpa using join_2 w a b e1 e2
    | false =>
      cases e3 : isRef a.kind with
      | false => simpa using join_4 w a b e1 e2 e3
      | true =>
        cases e4 : isRef b.kind with
        | false => simpa using join_5 w a b e1 e2 e3 e4
        | true => simpa using join_3 w a b e1 e2 e3 e4
end Go.Proofs.YtmceaeoeakkppaaGreatDoor
namespace Go.Proofs.YtmceaeoeakkppaaGreatDoor
open Go.RowKit
set_option linter.unusedVariables false
theorem kind_ways (k : Int) : k = 1 ∨ k = 2 ∨ k = 3 ∨ k = 7 ∨ k = 4 ∨ k = 5 ∨ ((k == 1) = false ∧ (k == 2) = false ∧ (k == 3) = false ∧ (k == 7) = false ∧ (k == 4) = false ∧ (k == 5) = false ∧ ∀ n r, good ⟨k, n⟩ r = false) := by
  have h : k = 1 ∨ k = 2 ∨ k = 3 ∨ k = 7 ∨ k = 4 ∨ k = 5 ∨ (k ≠ 1 ∧ k ≠ 2 ∧ k ≠ 3 ∧ k ≠ 7 ∧ k ≠ 4 ∧ k ≠ 5) := by omega
  rcases h with h | h | h | h | h | h | ⟨h1, h2, h3, h4, h5, h6⟩
  · exact .inl h
  · exact .inr (.inl h)
  · exact .inr (.inr (.inl h))
  · exact .inr (.inr (.inr (.inl h)))
  · exact .inr (.inr (.inr (.inr (.inl h))))
  · exact .inr (.inr (.inr (.inr (.inr (.inl h)))))
  · exact .inr (.inr (.inr (.inr (.inr (.inr ⟨by simpa using h1, by simpa using h2, by simpa using h3, by simpa using h4, by simpa using h5, by simpa using h6, fun n r => by simp [good, h1, h2, h3, h4, h5, h6]⟩)))))

theorem good_calls (w : World) (k n r : Int) : Calls Tryz.prog 204 #[.agg #[.int .i64 k, .int .i64 n], .int .i64 r] w fun e w' => e = .returned (.bool (good ⟨k, n⟩ r)) ∧ Below w.heap.size w w' := by
  rcases kind_ways k with rfl | rfl | rfl | rfl | rfl | rfl | ⟨h1, h2, h3, h4, h5, h6, h7⟩
  all_goals first
    | (have H7 := Lib.hid h7
       clear h7
       go_enter Tryz.func204, Tryz.ntmps204
       go_wp2
       go_ret
       exact ⟨ret_bool (H7.out _ _).symm, (Below.refl _ _).alloc (Nat.le_refl _) _⟩)
    | (go_enter Tryz.func204, Tryz.ntmps204
       go_wp2
       all_goals go_ret
       all_goals exact ⟨by simp_all [good, Bool.beq_eq_decide_eq] <;> omega, (Below.refl _ _).alloc (Nat.le_refl _) _⟩)

theorem sub_any (w : World) (ak an bk bn : Int) : Calls Tryz.prog 193 #[.agg #[.int .i64 ak, .int .i64 an], .agg #[.int .i64 bk, .int .i64 bn]] w fun e w' => e = .returned (.bool (sub ⟨ak, an⟩ ⟨bk, bn⟩)) ∧ Below w.heap.size w w' := sub_calls w ⟨ak, an⟩ ⟨bk, bn⟩
theorem join_any (w : World) (ak an bk bn : Int) : Calls Tryz.prog 162 #[.agg #[.int .i64 ak, .int .i64 an], .agg #[.int .i64 bk, .int .i64 bn]] w fun e w' => e = .returned (.agg #[.int .i64 (join ⟨ak, an⟩ ⟨bk, bn⟩).kind, .int .i64 (join ⟨ak, an⟩ ⟨bk, bn⟩).n]) ∧ Below w.heap.size w w' := join_calls w ⟨ak, an⟩ ⟨bk, bn⟩
end Go.Proofs.YtmceaeoeakkppaaGreatDoor
