/- Plain words on memory: what a value's cells say of a datum (Rd), a slice that is read (Row, Sl), and how the arguments of a law are opened. -/
import Derived.Test.YtdmmjckhpagibaaGreatDoorProg
import Derived.WalkKit
import Derived.ProofKit
import Derived.OpenShut
import Derived.ShutString
import Derived.ChangeOld
import Derived.Below
import Derived.SizedLaws
import Derived.Deep.Draws
import Derived.Deep.AppendLies
import Derived.Maps.AppendAt
import Derived.Laws.OwnMore
import Derived.Laws.MakeOwn
import Derived.Deep.OwnRows
import Derived.OwnWalk
import Derived.Tactics
import Derived.KernelRfl
import Derived.RowKit3
import Derived.LoopTactic
import Derived.Lib.Hide
namespace Go.Proofs.YtdmmjckhpagibaaGreatDoor
open Go.RowKit

theorem block_of_add (a : Addr) (n : Nat) : (a.add n).block = a.block := by unfold Addr.add; split <;> rfl
theorem add_of_add (a : Addr) (i j : Nat) : (a.add i).add j = a.add (i + j) := by
  unfold Addr.add
  by_cases hi : i = 0 <;> by_cases hj : j = 0 <;> simp [hi, hj, Nat.add_assoc]
theorem add_at (b o n : Nat) : (⟨b, o, none⟩ : Addr).add n = ⟨b, o + n, none⟩ := by
  unfold Addr.add; split <;> simp_all
theorem spot_none {w : World} {a : Addr} {v : Value} (h : w.cell? a = some v) : a = ⟨a.block, a.off, none⟩ := by
  obtain ⟨b, o, s⟩ := a
  cases s with
  | none => rfl
  | some s =>
    exfalso
    simp only [World.cell?] at h
    split at h <;> simp_all

theorem blk_cell {w : World} {g : Nat} {t : TypeId} {cs : Array Value} (h : w.heap[g]? = some (.cells cs t (0, 0))) (i : Nat) : w.cell? ⟨g, i, none⟩ = cs[i]? := by simp [World.cell?, h]
theorem blk_frozen {w : World} {g : Nat} {t : TypeId} {cs : Array Value} (h : w.heap[g]? = some (.cells cs t (0, 0))) (i : Nat) : w.frozen? ⟨g, i, none⟩ = false := by simp [World.frozen?, h]
theorem blk_lt {w : World} {g : Nat} {o : Obj} (h : w.heap[g]? = some o) : g < w.heap.size := (Array.getElem?_eq_some_iff.1 h).1
theorem blk_alloc {w : World} {g : Nat} {o : Obj} (h : w.heap[g]? = some o) (o' : Obj) : (w.alloc o').heap[g]? = some o := (Below.heap_alloc w o' g (blk_lt h)).trans h
theorem blk_new (w : World) (o : Obj) : (w.alloc o).heap[w.heap.size]? = some o := by show (w.heap.push o)[w.heap.size]? = _; simp
theorem blk_new2 (w : World) (o o' : Obj) : ((w.alloc o).alloc o').heap[w.heap.size + 1]? = some o' := by simpa using blk_new (w.alloc o) o'
theorem blk_new3 (w : World) (a b c : Go.Obj) : (((w.alloc a).alloc b).alloc c).heap[w.heap.size + 1 + 1]? = some c := by simpa using blk_new ((w.alloc a).alloc b) c
theorem blk_new4 (w : World) (a b c d : Go.Obj) : ((((w.alloc a).alloc b).alloc c).alloc d).heap[w.heap.size + 1 + 1 + 1]? = some d := by simpa using blk_new (((w.alloc a).alloc b).alloc c) d
theorem blk_set {w : World} {g : Nat} {t : TypeId} {cs : Array Value} (h : w.heap[g]? = some (.cells cs t (0, 0))) (i : Nat) (u : Value) : (w.setCell ⟨g, i, none⟩ u).heap[g]? = some (.cells (cs.setIfInBounds i u) t (0, 0)) := by simp [World.setCell, Array.getElem?_modify, h]
theorem blk_far {w : World} {g : Nat} {o : Obj} (h : w.heap[g]? = some o) {p : Addr} (hp : g ≠ p.block) (u : Value) : (w.setCell p u).heap[g]? = some o := (Below.heap_setCell w p u g hp).trans h
theorem blk_below {w w1 : World} {B g : Nat} {o : Obj} (h : w.heap[g]? = some o) (hb : Below B w w1) (hg : g < B) : w1.heap[g]? = some o := (hb.block g hg).trans h
theorem blk_grown {w w1 : World} {g : Nat} {o : Obj} {row : Option Nat} (h : w.heap[g]? = some o) (hg : w.grownBy w1 row) (hne : some g ≠ row) : w1.heap[g]? = some o := (hg.block g (blk_lt h) hne).trans h
theorem blk_ne {w : World} {g g' : Nat} {t t' : TypeId} {cs cs' : Array Value} {fr fr' : Nat × Nat} (h : w.heap[g]? = some (.cells cs t fr)) (h' : w.heap[g']? = some (.cells cs' t' fr')) (hne : t ≠ t') : g ≠ g' := by
  rintro rfl
  rw [h] at h'
  injection h' with h'
  injection h' with _ ht
  exact hne ht
/-- All old cells and marks read as before. -/
theorem bcell {W w1 : World} (hb : Below W.heap.size W w1) : (∀ b o, b < W.heap.size → w1.cell? ⟨b, o, none⟩ = W.cell? ⟨b, o, none⟩) ∧ (∀ b o, b < W.heap.size → w1.frozen? ⟨b, o, none⟩ = W.frozen? ⟨b, o, none⟩) :=
  ⟨fun b o h => hb.cell (p := ⟨b, o, none⟩) h, fun b o h => hb.frozen (p := ⟨b, o, none⟩) h⟩
theorem foldl_take {α β : Type} (f : β → α → β) (z : β) (xs : List α) (k : Nat) (x : α) (hx : xs[k]? = some x) : (xs.take (k + 1)).foldl f z = f ((xs.take k).foldl f z) x := by
  obtain ⟨hk, rfl⟩ := List.getElem?_eq_some_iff.1 hx
  rw [List.take_succ_eq_append_getElem hk, List.foldl_append]; rfl
theorem foldl_all {α β : Type} (f : β → α → β) (z : β) (xs : List α) (k : Nat) (hk : k ≤ xs.length) (h : ¬ k < xs.length) : (xs.take k).foldl f z = xs.foldl f z := by rw [List.take_of_length_le (by omega)]
theorem ret_int {k : IntKind} {a b : Int} (h : a = b) : Ending.returned (.int k a) = .returned (.int k b) := by rw [h]
theorem ret_bool {a b : Bool} (h : a = b) : Ending.returned (.bool a) = .returned (.bool b) := by rw [h]

/-- What the cells of a value say of a datum; S: the blocks that are looked into. -/
structure Rd (α : Type) where
  sz : Nat
  K : (Nat → Prop) → World → α → List Value → Prop
  len : ∀ {S : Nat → Prop} {w : World} {x : α} {cs : List Value}, K S w x cs → cs.length = sz
  keep : ∀ {S : Nat → Prop} {w w' : World} {x : α} {cs : List Value}, (∀ b, S b → w'.heap[b]? = w.heap[b]?) → K S w x cs → K S w' x cs
  mono : ∀ {S S' : Nat → Prop} {w : World} {x : α} {cs : List Value}, (∀ b, S b → S' b) → K S w x cs → K S' w x cs

namespace Rd
variable {α β : Type}
/-- The elements that lie from an address on. -/
def Row (d : Rd α) (S : Nat → Prop) (w : World) (A : Option Addr) (xs : List α) : Prop :=
  0 < xs.length → ∃ b o, A = some ⟨b, o, none⟩ ∧ S b ∧ ∀ i, (h : i < xs.length) → ∃ cs, d.K S w (xs[i]'h) cs ∧ ∀ j v, cs[j]? = some v → w.cell? ⟨b, o + i * d.sz + j, none⟩ = some v
/-- A slice that is read. -/
def Sl (d : Rd α) (S : Nat → Prop) (w : World) (v : Value) (xs : List α) : Prop :=
  ∃ A c, v = .slice A xs.length c ∧ xs.length ≤ c ∧ xs.length ≤ 140737488351232 ∧ d.Row S w A xs

theorem Row.keep {d : Rd α} {S : Nat → Prop} {w w' : World} {A : Option Addr} {xs : List α} (hk : ∀ b, S b → w'.heap[b]? = w.heap[b]?) (h : d.Row S w A xs) : d.Row S w' A xs := by
  intro hp
  obtain ⟨b, o, e, hb, hc⟩ := h hp
  refine ⟨b, o, e, hb, fun i hi => ?_⟩
  obtain ⟨cs, hK, hcell⟩ := hc i hi
  exact ⟨cs, d.keep hk hK, fun j v hj => (World.cell?_of_block (a := ⟨b, o + i * d.sz + j, none⟩) (hk b hb)).trans (hcell j v hj)⟩
theorem Row.mono {d : Rd α} {S S' : Nat → Prop} {w : World} {A : Option Addr} {xs : List α} (hk : ∀ b, S b → S' b) (h : d.Row S w A xs) : d.Row S' w A xs := by
  intro hp
  obtain ⟨b, o, e, hb, hc⟩ := h hp
  refine ⟨b, o, e, hk b hb, fun i hi => ?_⟩
  obtain ⟨cs, hK, hcell⟩ := hc i hi
  exact ⟨cs, d.mono hk hK, hcell⟩
theorem Row.nil (d : Rd α) (S : Nat → Prop) (w : World) (A : Option Addr) : d.Row S w A [] := fun h => absurd h (Nat.lt_irrefl 0)
theorem Sl.keep {d : Rd α} {S : Nat → Prop} {w w' : World} {v : Value} {xs : List α} (hk : ∀ b, S b → w'.heap[b]? = w.heap[b]?) (h : d.Sl S w v xs) : d.Sl S w' v xs := by
  obtain ⟨A, c, e, h1, h2, h3⟩ := h
  exact ⟨A, c, e, h1, h2, h3.keep hk⟩
theorem Sl.mono {d : Rd α} {S S' : Nat → Prop} {w : World} {v : Value} {xs : List α} (hk : ∀ b, S b → S' b) (h : d.Sl S w v xs) : d.Sl S' w v xs := by
  obtain ⟨A, c, e, h1, h2, h3⟩ := h
  exact ⟨A, c, e, h1, h2, h3.mono hk⟩

/-! the kinds -/
def int (k : IntKind) : Rd Int where
  sz := 1
  K := fun _ _ x cs => cs = [.int k x] ∧ (Lit.int k x).wf = true
  len := fun h => by rw [h.1]; rfl
  keep := fun _ h => h
  mono := fun _ h => h
def bool : Rd Bool where
  sz := 1
  K := fun _ _ x cs => cs = [.bool x]
  len := fun h => by rw [h]; rfl
  keep := fun _ h => h
  mono := fun _ h => h
def str : Rd ByteArray where
  sz := 1
  K := fun _ _ x cs => cs = [.string x] ∧ x.size ≤ 140737488351232
  len := fun h => by rw [h.1]; rfl
  keep := fun _ h => h
  mono := fun _ h => h
def slice (d : Rd α) : Rd (List α) where
  sz := 1
  K := fun S w xs cs => ∃ v, cs = [v] ∧ d.Sl S w v xs
  len := fun ⟨v, e, _⟩ => by rw [e]; rfl
  keep := fun hk ⟨v, e, h⟩ => ⟨v, e, h.keep hk⟩
  mono := fun hk ⟨v, e, h⟩ => ⟨v, e, h.mono hk⟩
def pair (a : Rd α) (b : Rd β) : Rd (α × β) where
  sz := a.sz + b.sz
  K := fun S w x cs => ∃ c1 c2, cs = c1 ++ c2 ∧ a.K S w x.1 c1 ∧ b.K S w x.2 c2
  len := fun ⟨c1, c2, e, h1, h2⟩ => by rw [e, List.length_append, a.len h1, b.len h2]
  keep := fun hk ⟨c1, c2, e, h1, h2⟩ => ⟨c1, c2, e, a.keep hk h1, b.keep hk h2⟩
  mono := fun hk ⟨c1, c2, e, h1, h2⟩ => ⟨c1, c2, e, a.mono hk h1, b.mono hk h2⟩
def iso (d : Rd α) (f : β → α) : Rd β where
  sz := d.sz
  K := fun S w x cs => d.K S w (f x) cs
  len := fun h => d.len h
  keep := fun hk h => d.keep hk h
  mono := fun hk h => d.mono hk h
end Rd

/-! opening what came in -/
section
variable {P : Program} {H : Type} {enc : TypeId × Value → H} {w : World} {base : Nat} {spare : Nat → Bool} {held : Bool} {α β : Type}
/-- Whatever reads as data of type t, no larger than may be, reads as d says. -/
def Opens (P : Program) (t : TypeId) (d : Rd α) : Prop :=
  P.cellsOf t = d.sz ∧ 0 < P.bytesOf t ∧ ∀ {H : Type} (enc : TypeId × Value → H) (w : World) (base : Nat) (spare : Nat → Bool) (held : Bool) (fuel : Nat) (cs : List Value) (x : DataW H × List MemPlace),
    DataW.trod enc P w base spare held fuel t cs = some x → (∀ n ∈ x.1.weights P t, n ≤ 140737488351232) → ∃ v, d.K (· < w.heap.size) w v cs

theorem opens_int {t : TypeId} {k : IntKind} (ht : P.underlying t = some (.int k)) (hc : P.cellsOf t = 1) (hb : 0 < P.bytesOf t) : Opens P t (Rd.int k) :=
  ⟨hc, hb, fun enc w base spare held fuel cs x h _ => by
    obtain ⟨n, e, _, hw⟩ := DataW.trod_int ht h
    exact ⟨n, e, hw⟩⟩
theorem opens_bool {t : TypeId} (ht : P.underlying t = some .bool) (hc : P.cellsOf t = 1) (hb : 0 < P.bytesOf t) : Opens P t Rd.bool :=
  ⟨hc, hb, fun enc w base spare held fuel cs x h _ => by
    obtain ⟨n, e, _⟩ := DataW.trod_bool ht h
    exact ⟨n, e⟩⟩
theorem opens_str {t : TypeId} (ht : P.underlying t = some .string) (hc : P.cellsOf t = 1) (hb : 0 < P.bytesOf t) : Opens P t Rd.str :=
  ⟨hc, hb, fun enc w base spare held fuel cs x h hz => by
    obtain ⟨n, e, hx, hw⟩ := DataW.trod_string ht h
    subst hx
    have := hz n.data.toList.length (by simp [DataW.weights])
    exact ⟨n, e, by rwa [Array.length_toList] at this⟩⟩
theorem opens_iso {t : TypeId} {d : Rd α} (h : Opens P t d) (f : β → α) (g : α → β) (hfg : ∀ x, f (g x) = x) : Opens P t (d.iso f) :=
  ⟨h.1, h.2.1, fun enc w base spare held fuel cs x hx hz => by
    obtain ⟨v, hv⟩ := h.2.2 enc w base spare held fuel cs x hx hz
    exact ⟨g v, by show d.K _ _ (f (g v)) _; rw [hfg]; exact hv⟩⟩

theorem exists_list {γ : Type} (Q : Nat → γ → Prop) : ∀ n : Nat, (∀ i, i < n → ∃ x, Q i x) → ∃ xs : List γ, xs.length = n ∧ ∀ i (h : i < xs.length), Q i (xs[i]'h)
  | 0, _ => ⟨[], rfl, fun i h => absurd h (by simp)⟩
  | n + 1, h => by
    obtain ⟨xs, hl, hx⟩ := exists_list Q n (fun i hi => h i (by omega))
    obtain ⟨x, hq⟩ := h n (by omega)
    refine ⟨xs ++ [x], by simp [hl], fun i hi => ?_⟩
    by_cases hin : i < xs.length
    · rw [List.getElem_append_left hin]; exact hx i hin
    · have : i = n := by simp at hi; omega
      subst this
      rw [List.getElem_append_right (by omega)]
      simpa [hl] using hq

theorem weights_mem_all {H : Type} {P : Program} {e : TypeId} : ∀ {l : List (DataW H)} {d : DataW H}, d ∈ l → ∀ n ∈ d.weights P e, n ∈ DataW.weightsAll P e l
  | a :: l, d, hd, n, hn => by
    simp only [DataW.weightsAll, List.mem_append]
    rcases List.mem_cons.1 hd with rfl | hd
    · exact .inl hn
    · exact .inr (weights_mem_all hd n hn)
theorem opens_slice {t e : TypeId} {d : Rd α} (ht : P.underlying t = some (.slice e)) (hc : P.cellsOf t = 1) (hb : 0 < P.bytesOf t) (hpos : 0 < d.sz) (he : Opens P e d) : Opens P t (Rd.slice d) :=
  ⟨hc, hb, fun enc w base spare held fuel cs x h hz => by
    rcases DataW.trod_slice ht h with ⟨hcs, _⟩ | ⟨a, len, cap, elems, rest, n, _, rfl, hx, hb, hl, hm, hlen, hel, _, _⟩
    · exact ⟨[], _, hcs, none, 0, rfl, Nat.le_refl _, Nat.zero_le _, Rd.Row.nil _ _ _ _⟩
    · subst hx
      have hlR : len ≤ 140737488351232 := by
        have h1 := hz ((elems.length + rest.length) * P.bytesOf e) (by simp [DataW.weights, ht])
        have h2 : elems.length + rest.length ≤ (elems.length + rest.length) * P.bytesOf e := Nat.le_mul_of_pos_right _ he.2.1
        omega
      have key : ∀ i, i < len → ∃ y, (∃ cs', d.K (· < w.heap.size) w y cs' ∧ ∀ j v, cs'[j]? = some v → w.cell? ((a.add (i * d.sz)).add j) = some v) := by
        intro i hi
        have h1 := hel i hi
        rw [List.getElem?_eq_getElem (by omega), he.1] at h1
        simp only [Option.bind_eq_some_iff] at h1
        obtain ⟨cs', hcells, ht'⟩ := h1
        obtain ⟨v, hv⟩ := he.2.2 enc w base spare held n cs' _ ht' (fun m hm' => hz m (by
          simp only [DataW.weights, ht, List.mem_cons, List.mem_append]
          exact .inr (.inl (weights_mem_all (List.mem_map.2 ⟨_, List.getElem_mem _, rfl⟩) m hm'))))
        obtain ⟨_, hl', hcell⟩ := World.cells?_some hcells
        refine ⟨v, cs', hv, fun j u hj => ?_⟩
        have hjlt : j < d.sz := by
          have := (List.getElem?_eq_some_iff.1 hj).1
          omega
        rw [hcell j hjlt]; exact hj
      obtain ⟨xs, hxl, hxs⟩ := exists_list _ len key
      subst hxl
      refine ⟨xs, _, rfl, some a, cap, rfl, hl, hlR, fun hp => ?_⟩
      have hspot : a = ⟨a.block, a.off, none⟩ := by
        obtain ⟨cs', hK, hcell⟩ := hxs 0 hp
        have hl0 := d.len hK
        have := hcell 0 (cs'[0]'(by omega)) (List.getElem?_eq_getElem (by omega))
        simp only [Nat.zero_mul, Addr.add, if_true] at this
        exact spot_none this
      have hlt : a.block < w.heap.size := by
        obtain ⟨cs', hK, hcell⟩ := hxs 0 hp
        have hl0 := d.len hK
        have := hcell 0 (cs'[0]'(by omega)) (List.getElem?_eq_getElem (by omega))
        simp only [Nat.zero_mul, Addr.add, if_true] at this
        exact World.block_lt_of_cell? w _ this
      refine ⟨a.block, a.off, by rw [← hspot], hlt, fun i hi => ?_⟩
      obtain ⟨cs', hK, hcell⟩ := hxs i hi
      refine ⟨cs', hK, fun j u hj => ?_⟩
      have := hcell j u hj
      rw [add_of_add, hspot, add_at, ← Nat.add_assoc] at this
      exact this⟩

/-- The fields of a struct from one on. -/
def OpensF (P : Program) (fs : List Field) (off : Nat) (d : Rd α) : Prop :=
  ∀ {H : Type} (enc : TypeId × Value → H) (w : World) (base : Nat) (spare : Nat → Bool) (held : Bool) (fuel : Nat) (cs : List Value),
    cs.length = d.sz → (∀ (i : Nat) (f : Field), fs[i]? = some f → ∃ x, DataW.trod enc P w base spare held fuel f.type ((cs.drop (f.offset - off)).take (P.cellsOf f.type)) = some x ∧ off ≤ f.offset ∧ ∀ n ∈ x.1.weights P f.type, n ≤ 140737488351232) → ∃ v, d.K (· < w.heap.size) w v cs

theorem opensF_last {f : Field} {off : Nat} {d : Rd α} (ho : f.offset = off) (h : Opens P f.type d) : OpensF P [f] off d := by
  intro H enc w base spare held fuel cs hl hf
  obtain ⟨x, hx, _, hz⟩ := hf 0 f rfl
  rw [ho, Nat.sub_self, List.drop_zero, h.1, ← hl, List.take_length] at hx
  exact h.2.2 enc w base spare held fuel cs x hx hz
theorem opensF_cons {f : Field} {fs : List Field} {off : Nat} {a : Rd α} {b : Rd β} (ho : f.offset = off) (h : Opens P f.type a) (hs : ∀ g ∈ fs, off + a.sz ≤ g.offset) (hr : OpensF P fs (off + a.sz) b) : OpensF P (f :: fs) off (a.pair b) := by
  intro H enc w base spare held fuel cs hl hf
  obtain ⟨x, hx, _, hz⟩ := hf 0 f rfl
  rw [ho, Nat.sub_self, List.drop_zero, h.1] at hx
  have hl' : cs.length = a.sz + b.sz := hl
  obtain ⟨v, hv⟩ := h.2.2 enc w base spare held fuel _ x hx hz
  obtain ⟨u, hu⟩ := hr enc w base spare held fuel (cs.drop a.sz) (by rw [List.length_drop]; omega) (fun i g hg => by
    obtain ⟨y, hy, hle, hz'⟩ := hf (i + 1) g (by simpa using hg)
    have hge := hs g (List.mem_of_getElem? hg)
    refine ⟨y, ?_, hge, hz'⟩
    rw [List.drop_drop, show a.sz + (g.offset - (off + a.sz)) = g.offset - off by omega]
    exact hy)
  exact ⟨(v, u), _, _, (List.take_append_drop a.sz cs).symm, hv, hu⟩
theorem opens_struct {t : TypeId} {fs : Array Field} {d : Rd α} (ht : P.underlying t = some (.struct fs)) (hc : P.cellsOf t = d.sz) (hb : 0 < P.bytesOf t) (h : OpensF P fs.toList 0 d) : Opens P t d :=
  ⟨hc, hb, fun enc w base spare held fuel cs x hx hz => by
    obtain ⟨xs, n, _, hx', hl, hlen, hall⟩ := DataW.trod_struct ht hx
    subst hx'
    refine h enc w base spare held n cs (by rw [hl, hc]) (fun i f hf => ?_)
    have hf' : fs[i]? = some f := by rw [← hf]; exact Array.getElem?_toList.symm
    have h1 := hall i f hf'
    have hi : i < xs.length := by have := (Array.getElem?_eq_some_iff.1 hf').1; omega
    refine ⟨xs[i], by rw [Nat.sub_zero, h1, List.getElem?_eq_getElem hi], Nat.zero_le _, fun m hm => hz m ?_⟩
    simp only [DataW.weights, ht]
    exact DataW.weights_mem_each (j := i) (t := f.type) (d := xs[i].1) (by rw [List.getElem?_map, hf]; rfl) (by rw [List.getElem?_map, List.getElem?_eq_getElem hi]; rfl) m hm⟩
theorem arg_slice {r : Reach} {b0 : Nat} {t e : TypeId} {v : Value} {dd : DataW H} {p : List MemPlace} {d : Rd α} (ht : P.underlying t = some (.slice e)) (ho : Opens P t (Rd.slice d)) (hval : Value.okWide P w r b0 t v) (h : DataW.Trod enc P w base spare held t v dd p) (hz : ∀ n ∈ dd.weights P t, n ≤ 140737488351232) :
    ∃ A c xs, v = .slice A xs.length c ∧ xs.length ≤ c ∧ xs.length ≤ 140737488351232 ∧ d.Row (· < w.heap.size) w A xs := by
  obtain ⟨a, len, cap, rfl⟩ := Go.WideShapes.okWide_slice ht hval
  obtain ⟨fuel, hf⟩ := h
  obtain ⟨xs, v', e1, A, c, e2, h1, h2, h3⟩ := ho.2.2 enc w base spare held fuel _ _ hf hz
  have e3 : Value.slice a len cap = v' := by simpa [Value.cells] using e1
  rw [e2] at e3
  exact ⟨A, c, xs, e3, h1, h2, h3⟩
theorem arg_struct {r : Reach} {b0 : Nat} {t : TypeId} {fs : Array Field} {v : Value} {dd : DataW H} {p : List MemPlace} {d : Rd α} (ht : P.underlying t = some (.struct fs)) (ho : Opens P t d) (hval : Value.okWide P w r b0 t v) (h : DataW.Trod enc P w base spare held t v dd p) (hz : ∀ n ∈ dd.weights P t, n ≤ 140737488351232) :
    ∃ cs x, v = .agg cs.toArray ∧ d.K (· < w.heap.size) w x cs := by
  obtain ⟨cs, rfl, _⟩ := Go.WideShapes.okWide_struct ht hval
  obtain ⟨fuel, hf⟩ := h
  obtain ⟨x, hx⟩ := ho.2.2 enc w base spare held fuel _ _ hf hz
  exact ⟨cs.toList, x, by simp, by simpa [Value.cells] using hx⟩
end
end Go.Proofs.YtdmmjckhpagibaaGreatDoor
