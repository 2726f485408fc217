/- Slices that a call owns: append with any source; from what is owned to what is read. -/
import Derived.Test.YtdmmjckhpagibaaGreatDoorData
import Derived.RegionTactic
import Derived.Deep.RegionLaw
import Derived.Deep.RegionHeld3
namespace Go.Proofs.YtdmmjckhpagibaaGreatDoor
open Go.RowKit
set_option linter.unusedVariables false

theorem grown_below {B : Nat} {a w w' : World} {row : Option Nat} (h : Below B a w) (hg : w.grownBy w' row) (hB : B ≤ w.heap.size) (hr : row = none ∨ ∃ g, row = some g ∧ B ≤ g) : Below B a w' :=
  h.grown hg hB (fun k hk => by
    rcases hr with hr | ⟨g, hr, hle⟩
    · rw [hr] at hk; cases hk
    · rw [hr] at hk; cases hk; exact hle)

section
variable {P : Program} (w : World)

/-- Cells that lie one behind the other (nothing, where there are none). -/
def Lie (w : World) (A : Option Addr) (m : Nat) (news : List Value) : Prop :=
  0 < m → ∃ b o, A = some ⟨b, o, none⟩ ∧ ∀ j u, news[j]? = some u → w.cell? ⟨b, o + j, none⟩ = some u

theorem lie_blk {w : World} {b m : Nat} {news : List Value} {cs : Array Value} {t : TypeId} {fr : Nat × Nat} (h : w.heap[b]? = some (.cells cs t fr)) (hc : ∀ (j : Nat) (u : Value), news[j]? = some u → cs[j]? = some u) : Lie w (some ⟨b, 0, none⟩) m news :=
  fun _ => ⟨b, 0, rfl, fun j u hj => by
    have : w.cell? ⟨b, 0 + j, none⟩ = cs[0 + j]? := by simp [World.cell?, h]
    rw [this, Nat.zero_add]; exact hc j u hj⟩
theorem lie_new {w : World} {m b : Nat} (cs : List Value) (t : TypeId) (fr : Nat × Nat) (hb : b = w.heap.size) : Lie (w.alloc (.cells cs.toArray t fr)) (some ⟨b, 0, none⟩) m cs := by
  subst hb
  exact lie_blk (blk_new w _) (fun j u hj => by simpa using hj)
theorem below_drewN {B : Nat} {w W : World} (h : Below B w W) (n : Nat) : Below B w (W.drewN n) := ⟨h.os, h.tape, h.output, h.size, h.block⟩
theorem blk_drewN {w : World} {g : Nat} {o : Go.Obj} (h : w.heap[g]? = some o) (n : Nat) : (w.drewN n).heap[g]? = some o := h
theorem lie_drew {w : World} {A : Option Addr} {m : Nat} {news : List Value} (h : Lie w A m news) : Lie w.drew A m news := h
theorem own_drew {w : World} {base : Nat} {e : TypeId} {size : Nat} {v : Value} {n : Nat} {xs : List Value} (h : w.ownsRow base e size v n xs) : w.drew.ownsRow base e size v n xs := h
theorem blk_drew {w : World} {g : Nat} {o : Obj} (h : w.heap[g]? = some o) : w.drew.heap[g]? = some o := h
/-- A box of seven cells in a world that has grown. -/
theorem box7 {W w1 : World} {g : Nat} {t : TypeId} {a b c d e f q : Value} (h : W.heap[g]? = some (.cells #[a, b, c, d, e, f, q] t (0, 0))) (hb : Below W.heap.size W w1) :
    w1.cell? ⟨g, 0, none⟩ = some a ∧ w1.cell? ⟨g, 1, none⟩ = some b ∧ w1.cell? ⟨g, 2, none⟩ = some c ∧ w1.cell? ⟨g, 3, none⟩ = some d ∧ w1.cell? ⟨g, 4, none⟩ = some e ∧ w1.cell? ⟨g, 5, none⟩ = some f ∧ w1.cell? ⟨g, 6, none⟩ = some q ∧ Below W.heap.size W w1 := by
  have hc := blk_cell (blk_below h hb (blk_lt h))
  exact ⟨hc 0, hc 1, hc 2, hc 3, hc 4, hc 5, hc 6, hb⟩
theorem held_below {a b c d e f q : Prop} {W w1 w2 : World} (h : a ∧ b ∧ c ∧ d ∧ e ∧ f ∧ q ∧ Below W.heap.size W w1) (hb : Below w1.heap.size w1 w2) : Below W.heap.size W w2 :=
  h.2.2.2.2.2.2.2.trans (hb.mono h.2.2.2.2.2.2.2.size)
theorem Lie.below {w w' : World} {A : Option Addr} {m : Nat} {news : List Value} (h : Lie w A m news) (hb : Below w.heap.size w w') : Lie w' A m news := fun hp => by
  obtain ⟨b, o, e, hc⟩ := h hp
  exact ⟨b, o, e, fun j u hj => (hb.cell (World.block_lt_of_cell? w _ (hc j u hj))).trans (hc j u hj)⟩
theorem own_shape {w : World} {base : Nat} {e : TypeId} {size : Nat} {v : Value} {n : Nat} {xs : List Value} (h : w.ownsRow base e size v n xs) : ∃ A c, v = .slice A n c ∧ n ≤ c ∧ c ≤ maxLen ∧ (0 < n → ∃ g, A = some ⟨g, 0, none⟩ ∧ base ≤ g ∧ g < w.heap.size) := by
  rcases h.2 with ⟨rfl, rfl⟩ | ⟨g, cap, cur, rfl, hb, hh, h4, h5, h6⟩
  · exact ⟨none, 0, rfl, Nat.le_refl _, Nat.zero_le _, fun h => absurd h (Nat.lt_irrefl 0)⟩
  · exact ⟨_, cap, rfl, h4, h5, fun _ => ⟨g, rfl, hb, blk_lt hh⟩⟩
theorem own_blk {w : World} {base : Nat} {e : TypeId} {size n c : Nat} {g : Nat} {xs : List Value} (h : w.ownsRow base e size (.slice (some ⟨g, 0, none⟩) n c) n xs) : ∃ cur, w.heap[g]? = some (.cells cur e (0, 0)) := by
  rcases h.2 with ⟨h', _⟩ | ⟨g', cap, cur, h', _, hh, _⟩
  · cases h'
  · cases h'; exact ⟨cur, hh⟩
theorem own_ne_blk {w : World} {base : Nat} {e t : TypeId} {size n : Nat} {v : Value} {g : Nat} {xs : List Value} {cs : Array Value} {fr : Nat × Nat} (h : w.ownsRow base e size v n xs) (hb : w.heap[g]? = some (.cells cs t fr)) (hne : e ≠ t) : v.ownBlock ≠ some g := by
  rcases h.2 with ⟨rfl, _⟩ | ⟨g', cap, cur, rfl, _, hh, _⟩
  · simp [Value.ownBlock]
  · intro hv
    have : g' = g := by simpa [Value.ownBlock] using hv
    subst this
    exact blk_ne hh hb hne rfl
/-- What is owned lies in blocks from base on: a store elsewhere, a call that keeps what there is. -/
theorem own_keep {w w' : World} {base : Nat} {e : TypeId} {size : Nat} {v : Value} {n : Nat} {xs : List Value} (h : w.ownsRow base e size v n xs) (hk : ∀ g, v.ownBlock = some g → w'.heap[g]? = w.heap[g]?) : w'.ownsRow base e size v n xs := by
  refine ⟨h.1, ?_⟩
  rcases h.2 with h2 | ⟨g, cap, cur, rfl, hb, hh, h4⟩
  · exact .inl h2
  · exact .inr ⟨g, cap, cur, rfl, hb, (hk g rfl).trans hh, h4⟩
theorem own_below {w w' : World} {base : Nat} {e : TypeId} {size : Nat} {v : Value} {n : Nat} {xs : List Value} (h : w.ownsRow base e size v n xs) (hb : Below w.heap.size w w') : w'.ownsRow base e size v n xs :=
  own_keep h (fun g hg => hb.block g (h.lt g hg).2)
theorem own_set_far {w : World} {base : Nat} {e : TypeId} {size : Nat} {v : Value} {n : Nat} {xs : List Value} (h : w.ownsRow base e size v n xs) {p : Addr} (hp : v.ownBlock ≠ some p.block) (u : Value) : (w.setCell p u).ownsRow base e size v n xs :=
  own_keep h (fun g hg => Below.heap_setCell w p u g (fun e => hp (by rw [hg, e])))
theorem own_ge {w : World} {base : Nat} {e : TypeId} {size : Nat} {v : Value} {n : Nat} {xs : List Value} (h : w.ownsRow base e size v n xs) : v.ownBlock = none ∨ ∃ g, v.ownBlock = some g ∧ base ≤ g := by
  cases hv : v.ownBlock with
  | none => exact .inl rfl
  | some g => exact .inr ⟨g, rfl, (h.lt g hv).1⟩

theorem run_app (t ty e : TypeId) {z : Value} {size bytes : Nat} (ht : P.underlying t = some (.slice e)) (hinfo : (P.info? e).map (fun i => (i.zero, i.size, i.bytes)) = some (some z, size, bytes)) (hzs : z.cells.size = size) (hsz : 0 < size) (hb0 : 0 < bytes)
    (base : Nat) {v : Value} {n : Nat} {xs : List Value} (hown : w.ownsRow base e size v n xs) {A : Option Addr} {m c : Nat} {news : List Value} (hl : news.length = m * size) (hsrc : Lie w A m news) (h1 : ∀ u ∈ news, u.oneCell' = true)
    (hbytes : (n + m) * bytes ≤ 140737488355328) (hbase : base ≤ w.heap.size) :
    ∃ v' w', (Builtin.append_ #[t, t] ty #[v, .slice A m c]).run P w = .ok v' w' ∧ w'.ownsRow base e size v' (n + m) (xs ++ news) ∧ w.grownBy w' v.ownBlock ∧ (v'.ownBlock = v.ownBlock ∨ v'.ownBlock = some w.heap.size) := by
  obtain ⟨i, hi, hz, hs, hby⟩ := info_parts hinfo
  have h63 : n + m ≤ maxLen := by
    have : n + m ≤ (n + m) * bytes := Nat.le_mul_of_pos_right _ hb0
    simp only [maxLen]; omega
  have nilcase : m = 0 → news = [] → (∀ c, (Builtin.append_ #[t, t] ty #[v, .slice none 0 c]).run P w = .ok v w) := by
    intro _ _ c
    rcases hown.2 with ⟨rfl, rfl⟩ | ⟨g, cap, cur, rfl, _, _, hnc, _⟩
    · simp [Builtin.append_, run_underlying ht, sizeOf, typeInfo, hi, Builtin.lenOf, Builtin.firstCells]
    · simp [Builtin.append_, run_underlying ht, sizeOf, typeInfo, hi, Builtin.lenOf, Builtin.firstCells, hnc, storeCells]
  cases A with
  | none =>
    have hm : m = 0 := by
      rcases Nat.eq_zero_or_pos m with h0 | h0
      · exact h0
      · obtain ⟨b, o, h, _⟩ := hsrc h0; cases h
    subst hm
    have hn : news = [] := List.eq_nil_of_length_eq_zero (by simpa using hl)
    subst hn
    exact ⟨v, w, nilcase rfl rfl c, by simpa using hown, World.grownBy.refl w _, .inl rfl⟩
  | some ad =>
    have hcells : ∀ j u, news[j]? = some u → w.cell? (ad.add j) = some u := by
      intro j u hu
      rcases Nat.eq_zero_or_pos m with h0 | h0
      · subst h0
        have hn : news = [] := List.eq_nil_of_length_eq_zero (by simpa using hl)
        subst hn
        simp at hu
      · obtain ⟨b, o, h, hc⟩ := hsrc h0
        cases h
        rw [add_at]; exact hc j u hu
    obtain ⟨v', w', hrun, h2, h3, _, h5⟩ := run_append_own_at (P := P) w base t ty e i z size bytes ht hi hz hs hby hzs hsz v n xs hown ad m c news hl hcells h1 h63 hbytes hbase
    exact ⟨v', w', hrun, h2, h3, h5⟩

theorem wp_app {o : Oper} {a : Act} {K : Act → World → Prop} {Q : Exit → Act → World → Prop} (s x : Operand) (t : TypeId)
    (ho : o.op = .call { callee := .builtin .append, args := #[s, x], argTypes := #[t, t] }) (e : TypeId) {z : Value} {size bytes : Nat} (ht : P.underlying t = some (.slice e)) (hinfo : (P.info? e).map (fun i => (i.zero, i.size, i.bytes)) = some (some z, size, bytes)) (hzs : z.cells.size = size) (hsz : 0 < size) (hb0 : 0 < bytes)
    (base : Nat) {v : Value} {n : Nat} {xs : List Value} (hs : a.eval s = v) (hown : w.ownsRow base e size v n xs) {A : Option Addr} {m c : Nat} {news : List Value} (hx : a.eval x = .slice A m c) (hl : news.length = m * size) (hsrc : Lie w A m news) (h1 : ∀ u ∈ news, u.oneCell' = true)
    (hbytes : (n + m) * bytes ≤ 140737488355328) (hbase : base ≤ w.heap.size)
    (h : ∀ v' w', w'.ownsRow base e size v' (n + m) (xs ++ news) → w.grownBy w' v.ownBlock → (v'.ownBlock = v.ownBlock ∨ v'.ownBlock = some w.heap.size) → K (a.put o.dst v') w') : o.wp P a w K Q := by
  obtain ⟨v', w', hr, h2, h3, h4⟩ := run_app (P := P) w t o.type e ht hinfo hzs hsz hb0 base hown (c := c) hl hsrc h1 hbytes hbase
  unfold Oper.wp execOp
  simp only [ho, resolve, invoke, builtin, Sem.run_bind, Sem.run_pure, Result.andThen_ok, List.map_toArray, List.map_cons, List.map_nil, hs, hx, hr]
  exact h v' w' h2 h3 h4

/-- At the list of a plain region's operations (behind 'at_builtin'). -/
theorem list_app {ops : Array Oper} {rest : List Oper} {o : Oper} {a : Act} {Q : Exit → Act → World → Prop} (hgd : o.guard = none) (s x : Operand) (t : TypeId)
    (ho : o.op = .call { callee := .builtin .append, args := #[s, x], argTypes := #[t, t] }) (e : TypeId) {z : Value} {size bytes : Nat} (ht : P.underlying t = some (.slice e)) (hinfo : (P.info? e).map (fun i => (i.zero, i.size, i.bytes)) = some (some z, size, bytes)) (hzs : z.cells.size = size) (hsz : 0 < size) (hb0 : 0 < bytes)
    (base : Nat) {v : Value} {n : Nat} {xs : List Value} (hs : a.eval s = v) (hown : w.ownsRow base e size v n xs) {A : Option Addr} {m c : Nat} {news : List Value} (hx : a.eval x = .slice A m c) (hl : news.length = m * size) (hsrc : Lie w A m news) (h1 : ∀ u ∈ news, u.oneCell' = true)
    (hbytes : (n + m) * bytes ≤ 140737488355328) (hbase : base ≤ w.heap.size)
    (h : ∀ v' w', w'.ownsRow base e size v' (n + m) (xs ++ news) → w.grownBy w' v.ownBlock → (v'.ownBlock = v.ownBlock ∨ v'.ownBlock = some w.heap.size) → wpList P ops Q rest (a.put o.dst v') w') : wpList P ops Q (o :: rest) a w :=
  wpList_plain hgd fun _ hK => wp_app w s x t ho e ht hinfo hzs hsz hb0 base hs hown hx hl hsrc h1 hbytes hbase fun v' w' h2 h3 h4 => hK _ _ (h v' w' h2 h3 h4)

/-- At a step of a region that draws its order. -/
theorem step_app {ops : Array Oper} {o : Oper} {a : Act} {K : Act → World → Prop} {Q : Exit → Act → World → Prop} {E : Prop} (hgd : o.guard = none) (s x : Operand) (t : TypeId)
    (ho : o.op = .call { callee := .builtin .append, args := #[s, x], argTypes := #[t, t] }) (e : TypeId) {z : Value} {size bytes : Nat} (ht : P.underlying t = some (.slice e)) (hinfo : (P.info? e).map (fun i => (i.zero, i.size, i.bytes)) = some (some z, size, bytes)) (hzs : z.cells.size = size) (hsz : 0 < size) (hb0 : 0 < bytes)
    (base : Nat) {v : Value} {n : Nat} {xs : List Value} (hs : a.eval s = v) (hown : w.ownsRow base e size v n xs) {A : Option Addr} {m c : Nat} {news : List Value} (hx : a.eval x = .slice A m c) (hl : news.length = m * size) (hsrc : Lie w A m news) (h1 : ∀ u ∈ news, u.oneCell' = true)
    (hbytes : (n + m) * bytes ≤ 140737488355328) (hbase : base ≤ w.heap.size)
    (h : ∀ v' w', w'.ownsRow base e size v' (n + m) (xs ++ news) → w.grownBy w' v.ownBlock → (v'.ownBlock = v.ownBlock ∨ v'.ownBlock = some w.heap.size) → K (a.put o.dst v') w') :
    if Region.wanted o (yielded ops a.tmps) = true then Oper.wp P o a w K Q else E := by
  have hw : Region.wanted o (yielded ops a.tmps) = true := by simp [Region.wanted, hgd]
  rw [if_pos hw]
  exact wp_app w s x t ho e ht hinfo hzs hsz hb0 base hs hown hx hl hsrc h1 hbytes hbase h
end

/-! flat lists of cells -/
namespace Rd
variable {α : Type}
def Flat (d : Rd α) (S : Nat → Prop) (w : World) : List α → List Value → Prop
  | [], cells => cells = []
  | x :: xs, cells => ∃ c r, cells = c ++ r ∧ d.K S w x c ∧ Flat d S w xs r
theorem Flat.length {d : Rd α} {S : Nat → Prop} {w : World} : ∀ {xs : List α} {cells : List Value}, d.Flat S w xs cells → cells.length = xs.length * d.sz
  | [], cells, h => by rw [show cells = [] from h]; simp
  | x :: xs, cells, h => by
    obtain ⟨c, r, rfl, hK, hr⟩ := h
    rw [List.length_append, d.len hK, Flat.length hr, List.length_cons, Nat.add_mul]; omega
theorem Flat.append {d : Rd α} {S : Nat → Prop} {w : World} {ys : List α} {c2 : List Value} (h2 : d.Flat S w ys c2) : ∀ {xs : List α} {c1 : List Value}, d.Flat S w xs c1 → d.Flat S w (xs ++ ys) (c1 ++ c2)
  | [], c1, h => by rw [show c1 = [] from h]; exact h2
  | x :: xs, c1, h => by
    obtain ⟨c, r, rfl, hK, hr⟩ := h
    exact ⟨c, r ++ c2, by rw [List.append_assoc], hK, Flat.append h2 hr⟩
theorem Flat.keep {d : Rd α} {S : Nat → Prop} {w w' : World} (hk : ∀ b, S b → w'.heap[b]? = w.heap[b]?) : ∀ {xs : List α} {cells : List Value}, d.Flat S w xs cells → d.Flat S w' xs cells
  | [], cells, h => h
  | x :: xs, cells, h => by
    obtain ⟨c, r, rfl, hK, hr⟩ := h
    exact ⟨c, r, rfl, d.keep hk hK, Flat.keep hk hr⟩
theorem Flat.mono {d : Rd α} {S S' : Nat → Prop} {w : World} (hk : ∀ b, S b → S' b) : ∀ {xs : List α} {cells : List Value}, d.Flat S w xs cells → d.Flat S' w xs cells
  | [], cells, h => h
  | x :: xs, cells, h => by
    obtain ⟨c, r, rfl, hK, hr⟩ := h
    exact ⟨c, r, rfl, d.mono hk hK, Flat.mono hk hr⟩
theorem Flat.one {d : Rd α} {S : Nat → Prop} {w : World} {x : α} {c : List Value} (h : d.K S w x c) : d.Flat S w [x] c := ⟨c, [], by simp, h, rfl⟩
theorem Flat.get {d : Rd α} {S : Nat → Prop} {w : World} : ∀ {xs : List α} {cells : List Value} (h : d.Flat S w xs cells) (i : Nat) (hi : i < xs.length), ∃ cs, d.K S w (xs[i]'hi) cs ∧ ∀ j v, cs[j]? = some v → cells[i * d.sz + j]? = some v
  | [], cells, h, i, hi => absurd hi (by simp)
  | x :: xs, cells, h, 0, hi => by
    obtain ⟨c, r, rfl, hK, hr⟩ := h
    exact ⟨c, hK, fun j v hj => by rw [Nat.zero_mul, Nat.zero_add, List.getElem?_append_left (List.getElem?_eq_some_iff.1 hj).1]; exact hj⟩
  | x :: xs, cells, h, i + 1, hi => by
    obtain ⟨c, r, rfl, hK, hr⟩ := h
    obtain ⟨cs, hK', hc⟩ := Flat.get hr i (by simpa using hi)
    refine ⟨cs, hK', fun j v hj => ?_⟩
    have hl := d.len hK
    rw [List.getElem?_append_right (by rw [hl, Nat.add_mul]; omega), show (i + 1) * d.sz + j - c.length = i * d.sz + j by rw [hl, Nat.add_mul]; omega]
    exact hc j v hj
theorem Flat.nil (d : Rd α) (S : Nat → Prop) (w : World) : d.Flat S w [] [] := rfl
theorem Flat.cons {d : Rd α} {S : Nat → Prop} {w : World} {x : α} {xs : List α} {c r : List Value} (h : d.K S w x c) (hr : d.Flat S w xs r) : d.Flat S w (x :: xs) (c ++ r) := ⟨c, r, rfl, h, hr⟩
theorem Row.of_flat {d : Rd α} {S : Nat → Prop} {w : World} {b o : Nat} {xs : List α} {cells : List Value} (hb : S b) (h : d.Flat S w xs cells) (hc : ∀ j v, cells[j]? = some v → w.cell? ⟨b, o + j, none⟩ = some v) : d.Row S w (some ⟨b, o, none⟩) xs := by
  intro _
  refine ⟨b, o, rfl, hb, fun i hi => ?_⟩
  obtain ⟨cs, hK, hcs⟩ := h.get i hi
  exact ⟨cs, hK, fun j v hj => by rw [Nat.add_assoc]; exact hc _ _ (hcs j v hj)⟩
theorem Row.of_blk {d : Rd α} {S : Nat → Prop} {w : World} {b : Nat} {xs : List α} {cells : List Value} {cs : Array Value} {t : TypeId} {fr : Nat × Nat} (hw : w.heap[b]? = some (.cells cs t fr)) (hb : S b) (h : d.Flat S w xs cells) (hc : ∀ (j : Nat) (v : Value), cells[j]? = some v → cs[j]? = some v) : d.Row S w (some ⟨b, 0, none⟩) xs :=
  Row.of_flat hb h (fun j v hj => by
    have : w.cell? ⟨b, 0 + j, none⟩ = cs[0 + j]? := by simp [World.cell?, hw]
    rw [this, Nat.zero_add]; exact hc j v hj)
/-- What is owned can be read. -/
theorem Sl.of_own {d : Rd α} {S : Nat → Prop} {w : World} {base : Nat} {e : TypeId} {v : Value} {xs : List α} {cells : List Value} (ho : w.ownsRow base e d.sz v xs.length cells) (hb : ∀ g, v.ownBlock = some g → S g) (h : d.Flat S w xs cells) (hlen : xs.length ≤ 140737488351232) : d.Sl S w v xs := by
  rcases ho.2 with ⟨rfl, h0⟩ | ⟨g, cap, cur, rfl, h2, h3, h4, h5, h6⟩
  · have : xs = [] := List.eq_nil_of_length_eq_zero (by simpa using h0)
    subst this
    exact ⟨none, 0, rfl, Nat.le_refl _, Nat.zero_le _, Row.nil _ _ _ _⟩
  · refine ⟨_, cap, rfl, h4, hlen, Row.of_flat (hb g rfl) h (fun j v hj => ?_)⟩
    have := ho.cells (g := g) rfl j v hj
    rw [add_at] at this
    exact this
/-- The cells of a row that is read. -/
theorem Row.flat {d : Rd α} {S : Nat → Prop} {w : World} {A : Option Addr} {xs : List α} (h : d.Row S w A xs) : ∃ cells, d.Flat S w xs cells ∧ Lie w A xs.length cells := by
  suffices hs : ∀ (ys : List α) (b o k : Nat), (∀ i, (hi : i < ys.length) → ∃ cs, d.K S w (ys[i]'hi) cs ∧ ∀ j v, cs[j]? = some v → w.cell? ⟨b, o + (k + i) * d.sz + j, none⟩ = some v) → ∃ cells, d.Flat S w ys cells ∧ ∀ j v, cells[j]? = some v → w.cell? ⟨b, o + k * d.sz + j, none⟩ = some v by
    rcases Nat.eq_zero_or_pos xs.length with h0 | h0
    · have : xs = [] := List.eq_nil_of_length_eq_zero h0
      subst this
      exact ⟨[], rfl, fun hp => absurd hp (by simp)⟩
    · obtain ⟨b, o, rfl, hb, hc⟩ := h h0
      obtain ⟨cells, hf, hcell⟩ := hs xs b o 0 (fun i hi => by simpa using hc i hi)
      exact ⟨cells, hf, fun _ => ⟨b, o, rfl, fun j u hj => by simpa using hcell j u hj⟩⟩
  intro ys
  induction ys with
  | nil => intro b o k _; exact ⟨[], rfl, fun j v hj => by simp at hj⟩
  | cons y ys ih =>
    intro b o k hall
    obtain ⟨c, hK, hc⟩ := hall 0 (by simp)
    obtain ⟨r, hr, hrc⟩ := ih b o (k + 1) (fun i hi => by
      have := hall (i + 1) (by simpa using hi)
      simpa [Nat.add_assoc, Nat.add_comm 1 i] using this)
    refine ⟨c ++ r, ⟨c, r, rfl, hK, hr⟩, fun j v hj => ?_⟩
    have hl := d.len hK
    by_cases hjc : j < c.length
    · rw [List.getElem?_append_left hjc] at hj
      simpa using hc j v hj
    · rw [List.getElem?_append_right (by omega), hl] at hj
      have := hrc _ v hj
      rw [show o + k * d.sz + j = o + (k + 1) * d.sz + (j - d.sz) by rw [Nat.add_mul]; omega]
      exact this
end Rd
end Go.Proofs.YtdmmjckhpagibaaGreatDoor
