/- What a call keeps but for what is its own: footprints. -/
import Derived.Test.YtdmmjckhpagibaaGreatDoorOwn
namespace Go.Proofs.YtdmmjckhpagibaaGreatDoor
open Go.RowKit
set_option linter.unusedVariables false

/-- All blocks are kept but those of F; new ones may come. -/
structure Keeps (F : Nat → Prop) (w w' : World) : Prop where
  os : w'.os = w.os
  tape : w'.tape = w.tape
  output : w'.output = w.output
  size : w.heap.size ≤ w'.heap.size
  block : ∀ k, k < w.heap.size → ¬ F k → w'.heap[k]? = w.heap[k]?
namespace Keeps
variable {F G : Nat → Prop} {a b c w w' : World}
theorem refl (F : Nat → Prop) (w : World) : Keeps F w w := ⟨rfl, rfl, rfl, Nat.le_refl _, fun _ _ _ => rfl⟩
theorem trans (h : Keeps F a b) (k : Keeps F b c) : Keeps F a c :=
  ⟨k.os.trans h.os, k.tape.trans h.tape, k.output.trans h.output, Nat.le_trans h.size k.size, fun i hi hf => (k.block i (Nat.lt_of_lt_of_le hi h.size) hf).trans (h.block i hi hf)⟩
/-- A step that touches G, of which the old blocks are F's. -/
theorem step (h : Keeps F a b) (k : Keeps G b c) (hG : ∀ x, x < a.heap.size → G x → F x) : Keeps F a c :=
  ⟨k.os.trans h.os, k.tape.trans h.tape, k.output.trans h.output, Nat.le_trans h.size k.size, fun i hi hf => (k.block i (Nat.lt_of_lt_of_le hi h.size) (fun hg => hf (hG i hi hg))).trans (h.block i hi hf)⟩
theorem mono (h : Keeps F a b) (hG : ∀ x, x < a.heap.size → F x → G x) : Keeps G a b :=
  ⟨h.os, h.tape, h.output, h.size, fun i hi hg => h.block i hi (fun hf => hg (hG i hi hf))⟩
theorem of_below (h : Below w.heap.size w w') : Keeps F w w' := ⟨h.os, h.tape, h.output, h.size, fun k hk _ => h.block k hk⟩
theorem below {B : Nat} (h : Keeps F w w') (hB : B ≤ w.heap.size) (hF : ∀ x, x < B → ¬ F x) : Below B w w' := ⟨h.os, h.tape, h.output, h.size, fun k hk => h.block k (Nat.lt_of_lt_of_le hk hB) (hF k hk)⟩
theorem drew (h : Keeps F a w) : Keeps F a w.drew := ⟨h.os, h.tape, h.output, h.size, h.block⟩
theorem alloc (h : Keeps F a w) (o : Go.Obj) : Keeps F a (w.alloc o) :=
  h.step (of_below ((Below.refl w.heap.size w).alloc (Nat.le_refl _) o) : Keeps (fun _ => False) _ _) (fun _ _ h => h.elim)
theorem setCell (h : Keeps F a w) {p : Addr} (hp : p.block < a.heap.size → F p.block) (u : Value) : Keeps F a (w.setCell p u) :=
  have hs : (w.setCell p u).heap.size = w.heap.size := by simp
  ⟨h.os, h.tape, h.output, by rw [hs]; exact h.size, fun k hk hf => (Below.heap_setCell w p u k (fun e => hf (by rw [e]; exact hp (by rw [← e]; exact hk)))).trans (h.block k hk hf)⟩
theorem grown {row : Option Nat} (h : Keeps F a w) (hg : w.grownBy w' row) (hr : ∀ g, row = some g → g < a.heap.size → F g) : Keeps F a w' :=
  have hs : w.heap.size ≤ w'.heap.size := (Below.grown (B := 0) (Below.refl 0 w) hg (Nat.zero_le _) (fun _ _ => Nat.zero_le _)).size
  ⟨((Below.refl 0 w).grown hg (Nat.zero_le _) (fun _ _ => Nat.zero_le _)).os.trans h.os, ((Below.refl 0 w).grown hg (Nat.zero_le _) (fun _ _ => Nat.zero_le _)).tape.trans h.tape, ((Below.refl 0 w).grown hg (Nat.zero_le _) (fun _ _ => Nat.zero_le _)).output.trans h.output, Nat.le_trans h.size hs,
    fun k hk hf => (hg.block k (Nat.lt_of_lt_of_le hk h.size) (fun e => hf (hr k e.symm hk))).trans (h.block k hk hf)⟩
end Keeps
theorem blk_keeps {F : Nat → Prop} {w w1 : World} {g : Nat} {o : Go.Obj} (h : w.heap[g]? = some o) (hb : Keeps F w w1) (hg : ¬ F g) : w1.heap[g]? = some o := (hb.block g (blk_lt h) hg).trans h
theorem own_keeps {F : Nat → Prop} {w w' : World} {base : Nat} {e : TypeId} {size : Nat} {v : Value} {n : Nat} {xs : List Value} (h : w.ownsRow base e size v n xs) (hb : Keeps F w w') (hF : ∀ g, v.ownBlock = some g → ¬ F g) : w'.ownsRow base e size v n xs :=
  own_keep h (fun g hg => hb.block g (h.lt g hg).2 (hF g hg))
theorem own_zero {w : World} {base : Nat} {e : TypeId} {size : Nat} {v : Value} {n : Nat} {xs : List Value} (h : w.ownsRow base e size v n xs) : w.ownsRow 0 e size v n xs := by
  refine ⟨h.1, ?_⟩
  rcases h.2 with h2 | ⟨g, cap, cur, h1, _, h3⟩
  · exact .inl h2
  · exact .inr ⟨g, cap, cur, h1, Nat.zero_le _, h3⟩
/-- The cells of what is owned, where it is not nothing. -/
theorem own_at {w : World} {base : Nat} {e : TypeId} {size : Nat} {v : Value} {n : Nat} {xs : List Value} (h : w.ownsRow base e size v n xs) (hn : 0 < n) : ∃ g c cur, v = .slice (some ⟨g, 0, none⟩) n c ∧ v.ownBlock = some g ∧ g < w.heap.size ∧ n ≤ c ∧ w.heap[g]? = some (.cells cur e (0, 0)) ∧ (∀ (j : Nat) (u : Value), xs[j]? = some u → w.cell? ⟨g, j, none⟩ = some u) ∧ ∀ j, w.frozen? ⟨g, j, none⟩ = false := by
  rcases h.2 with ⟨_, h0⟩ | ⟨g, cap, cur, rfl, hb, hh, h4, h5, h6⟩
  · omega
  · refine ⟨g, cap, cur, rfl, rfl, blk_lt hh, h4, hh, fun j u hj => ?_, blk_frozen hh⟩
    have := h.cells (g := g) rfl j u hj
    rw [add_at, Nat.zero_add] at this
    exact this
theorem own_lie {w : World} {base : Nat} {e : TypeId} {size n c : Nat} {A : Option Addr} {xs : List Value} (h : w.ownsRow base e size (.slice A n c) n xs) : Lie w A n xs := by
  rcases h.2 with ⟨_, h0⟩ | ⟨g, cap, cur, e, h1, h2, h3, h4, h5, h6⟩
  · exact fun h => by omega
  · cases e
    exact lie_blk h2 (fun j u hj => by
      rw [← h6, List.getElem?_take] at hj
      split at hj
      · simpa using hj
      · cases hj)
end Go.Proofs.YtdmmjckhpagibaaGreatDoor
