/- The reference's Copy of a state that holds one object and nothing else. -/
import Derived.Test.YtmcjjikhdjoopaaHeapG
import Derived.OrdersHeld
import Derived.Laws.ResultCell
namespace Go.Proofs.Ytmcjjikhdjoopaa
open Go.RowKit
set_option linter.unusedVariables false
theorem op_value {P : Program} {ops : Array Oper} {Q : Exit → Act → World → Prop} {K : Act → World → Prop} {a : Act} {w w' : World} {i : Nat} {o : Oper} {v : Value} (hi : ops[i]? = some o) (hw : Region.wanted o (yielded ops a.tmps) = true) (hr : (execOp a.eval o).run P w = .ok (.value v) w') (h : K (a.put o.dst v) w') : wpOp P ops Q i K a w := by
  unfold wpOp
  simp only [hi, hw, if_true]
  refine .inl ?_
  unfold Oper.wp
  rw [hr]
  exact h
theorem op_store {P : Program} {ops : Array Oper} {Q : Exit → Act → World → Prop} {K : Act → World → Prop} {a : Act} {w w' : World} {i : Nat} {o : Oper} (hi : ops[i]? = some o) (hw : Region.wanted o (yielded ops a.tmps) = true) (hr : (execOp a.eval o).run P w = .ok .skip w') (h : K (a.put o.dst undef) w') : wpOp P ops Q i K a w := by
  unfold wpOp
  simp only [hi, hw, if_true]
  refine .inl ?_
  unfold Oper.wp
  rw [hr]
  exact h
theorem op_wp {P : Program} {ops : Array Oper} {Q : Exit → Act → World → Prop} {K : Act → World → Prop} {a : Act} {w : World} {i : Nat} {o : Oper} (hi : ops[i]? = some o) (hw : Region.wanted o (yielded ops a.tmps) = true) (h : o.wp P a w K Q) : wpOp P ops Q i K a w := by
  unfold wpOp
  simp only [hi, hw, if_true]
  exact .inl h
theorem lie_far {w v : World} {A : Option Addr} {m : Nat} {news : List Value} (h : Lie w A m news) (hk : ∀ b, b < w.heap.size → v.heap[b]? = w.heap[b]?) : Lie v A m news := fun hp => by
  obtain ⟨b, o, e, hc⟩ := h hp
  exact ⟨b, o, e, fun j u hj => (World.cell?_of_block (a := ⟨b, o + j, none⟩) (hk b (World.block_lt_of_cell? w _ (hc j u hj)))).trans (hc j u hj)⟩
theorem own_nil (w : World) (B : Nat) (e : TypeId) (size : Nat) : w.ownsRow B e size (.slice none 0 0) 0 [] := ⟨by simp, .inl ⟨rfl, rfl⟩⟩
theorem own_other {v v' : World} {B B' : Nat} {e e' : TypeId} {s s' n m : Nat} {x u : Value} {xs ys : List Value} (h : v.ownsRow B e s x n xs) (k : v.ownsRow B' e' s' u m ys) (hne : e ≠ e') (hg : v.grownBy v' u.ownBlock) : v'.ownsRow B e s x n xs :=
  own_keep h (fun g hx => by
    obtain ⟨h1, cur, h2⟩ := own_block h hx
    refine hg.block g h1 (fun e1 => ?_)
    obtain ⟨_, cur', h3⟩ := own_block k e1.symm
    exact blk_ne h2 h3 hne rfl)
theorem own_one {w : World} {B : Nat} {e : TypeId} {u x0 x1 x2 x3 : Value} (h : w.ownsRow B e 4 u 1 [x0, x1, x2, x3]) : ∃ g c, u = .slice (some ⟨g, 0, none⟩) 1 c ∧ w.cell? ⟨g, 0, none⟩ = some x0 ∧ w.cell? ⟨g, 1, none⟩ = some x1 ∧ w.cell? ⟨g, 2, none⟩ = some x2 ∧ w.cell? ⟨g, 3, none⟩ = some x3 ∧ B ≤ g := by
  obtain ⟨g, c, cur, rfl, hv, _, _, _, hc, _⟩ := own_at h (by decide)
  exact ⟨g, c, rfl, hc 0 x0 rfl, hc 1 x1 rfl, hc 2 x2 rfl, hc 3 x3 rfl, (h.lt g hv).1⟩
theorem obj_one {k n : Int} {A B : Option Addr} {a b c d : Nat} : ∀ u ∈ [Value.int .i64 k, .int .i64 n, .slice A a c, .slice B b d], u.oneCell' = true := by
  intro u hu
  simp only [List.mem_cons, List.not_mem_nil, or_false] at hu
  rcases hu with rfl | rfl | rfl | rfl <;> rfl
/-- In the region: all is kept but the copy's block, and that one, too, up to the last store. -/
structure CpI (W1 : World) (b3 : Nat) (v : World) : Prop where
  keeps : Keeps (fun x => x = b3) W1 v
  out : v.heap[b3]? = W1.heap[b3]?
  lt : b3 < W1.heap.size
theorem CpI.alloc {W1 v : World} {b3 : Nat} (h : CpI W1 b3 v) (o : Go.Obj) : CpI W1 b3 (v.alloc o) :=
  ⟨h.keeps.alloc o, (Below.heap_alloc v o b3 (Nat.lt_of_lt_of_le h.lt h.keeps.size)).trans h.out, h.lt⟩
theorem CpI.grown {W1 v v' : World} {b3 : Nat} {u : Value} {e : TypeId} {s n : Nat} {xs : List Value} (h : CpI W1 b3 v) (ho : v.ownsRow W1.heap.size e s u n xs) (hg : v.grownBy v' u.ownBlock) : CpI W1 b3 v' :=
  ⟨h.keeps.grown hg (fun g e hlt => absurd (ho.lt g e).1 (by omega)), (hg.block b3 (Nat.lt_of_lt_of_le h.lt h.keeps.size) (fun e => absurd (ho.lt b3 e.symm).1 (by have := h.lt; omega))).trans h.out, h.lt⟩
theorem CpI.nil {W1 v : World} {b3 : Nat} {cs : Array Value} {t : TypeId} (h : CpI W1 b3 v) (H : W1.heap[b3]? = some (.cells cs t (0, 0))) : v.cell? ⟨b3, 1, none⟩ = cs[1]? := blk_cell (h.out.trans H) 1
theorem CpI.fz {W1 v : World} {b3 : Nat} {cs : Array Value} {t : TypeId} (h : CpI W1 b3 v) (H : W1.heap[b3]? = some (.cells cs t (0, 0))) : v.frozen? ⟨b3, 1, none⟩ = false := blk_frozen (h.out.trans H) 1
theorem set7 {W : World} {b : Nat} {t : TypeId} {x0 x1 x2 x3 x4 x5 x6 : Value} (h : W.heap[b]? = some (.cells #[x0, x1, x2, x3, x4, x5, x6] t (0, 0))) (y0 y1 y2 y3 y4 y5 y6 : Value) :
    (((((((W.setCell ⟨b, 0, none⟩ y0).setCell ⟨b, 1, none⟩ y1).setCell ⟨b, 2, none⟩ y2).setCell ⟨b, 3, none⟩ y3).setCell ⟨b, 4, none⟩ y4).setCell ⟨b, 5, none⟩ y5).setCell ⟨b, 6, none⟩ y6).heap[b]? = some (.cells #[y0, y1, y2, y3, y4, y5, y6] t (0, 0)) := by
  simpa using blk_set (blk_set (blk_set (blk_set (blk_set (blk_set (blk_set h 0 y0) 1 y1) 2 y2) 3 y3) 4 y4) 5 y5) 6 y6
theorem far7 {W : World} {b g : Nat} (hg : g ≠ b) (y0 y1 y2 y3 y4 y5 y6 : Value) : (((((((W.setCell ⟨b, 0, none⟩ y0).setCell ⟨b, 1, none⟩ y1).setCell ⟨b, 2, none⟩ y2).setCell ⟨b, 3, none⟩ y3).setCell ⟨b, 4, none⟩ y4).setCell ⟨b, 5, none⟩ y5).setCell ⟨b, 6, none⟩ y6).heap[g]? = W.heap[g]? :=
  (Below.heap_setCell _ _ _ g hg).trans ((Below.heap_setCell _ _ _ g hg).trans ((Below.heap_setCell _ _ _ g hg).trans ((Below.heap_setCell _ _ _ g hg).trans ((Below.heap_setCell _ _ _ g hg).trans ((Below.heap_setCell _ _ _ g hg).trans (Below.heap_setCell _ _ _ g hg))))))
theorem below7 {B : Nat} {w W : World} {b : Nat} (h : Below B w W) (hb : B ≤ b) (y0 y1 y2 y3 y4 y5 y6 : Value) : Below B w (((((((W.setCell ⟨b, 0, none⟩ y0).setCell ⟨b, 1, none⟩ y1).setCell ⟨b, 2, none⟩ y2).setCell ⟨b, 3, none⟩ y3).setCell ⟨b, 4, none⟩ y4).setCell ⟨b, 5, none⟩ y5).setCell ⟨b, 6, none⟩ y6) :=
  ((((((h.setCell (p := ⟨b, 0, none⟩) hb y0).setCell (p := ⟨b, 1, none⟩) hb y1).setCell (p := ⟨b, 2, none⟩) hb y2).setCell (p := ⟨b, 3, none⟩) hb y3).setCell (p := ⟨b, 4, none⟩) hb y4).setCell (p := ⟨b, 5, none⟩) hb y5).setCell (p := ⟨b, 6, none⟩) hb y6
/-- What the one round of the second loop leaves. -/
def CpDone (w wr w2 : World) (hv : Value) (k n : Int) (a b : Nat) (ws bs : List Int) : Prop :=
  ∃ g c' A B c d, w2.heap[w.heap.size]? = wr.heap[w.heap.size]? ∧ w2.heap[w.heap.size + 1]? = wr.heap[w.heap.size + 1]? ∧ w2.heap[w.heap.size + 1 + 1]? = some (.cells #[.slice none 0 0, .slice (some ⟨g, 0, none⟩) 1 c', hv, .int .i64 0, .int .i64 0, .int .i64 0, .int .u64 0] 61 (0, 0)) ∧
    w.heap.size + 4 ≤ g ∧ w2.cell? ⟨g, 0, none⟩ = some (.int .i64 k) ∧ w2.cell? ⟨g, 1, none⟩ = some (.int .i64 n) ∧ w2.cell? ⟨g, 2, none⟩ = some (.slice A a c) ∧ w2.cell? ⟨g, 3, none⟩ = some (.slice B b d) ∧
    w2.ownsRow (w.heap.size + 4) 25 1 (.slice A a c) a (wcells ws) ∧ w2.ownsRow (w.heap.size + 4) 5 1 (.slice B b d) b (bcells bs) ∧ Below w.heap.size w w2
theorem own_base {w : World} {B B' : Nat} {e : TypeId} {s n : Nat} {v : Value} {xs : List Value} (h : w.ownsRow B e s v n xs) (hB : B' ≤ B) : w.ownsRow B' e s v n xs := by
  refine ⟨h.1, ?_⟩
  rcases h.2 with h2 | ⟨g, cap, cur, h1, h2, h3⟩
  · exact .inl h2
  · exact .inr ⟨g, cap, cur, h1, Nat.le_trans hB h2, h3⟩
theorem cp_done {w wr W1 v : World} {hv : Value} {k n : Int} {a b c d cc g : Nat} {A B : Option Addr} {ws bs : List Int} (I : CpI W1 (w.heap.size + 1 + 1) v) (HBx : Below (w.heap.size + 4) wr W1) (HB0 : Below w.heap.size w wr) (hW : W1.heap.size = w.heap.size + 4 + 1)
    (HO : W1.heap[w.heap.size + 1 + 1]? = some (.cells #[.slice none 0 0, .slice none 0 0, hv, .int .i64 0, .int .i64 0, .int .i64 0, .int .u64 0] 61 (0, 0)))
    (ow : v.ownsRow W1.heap.size 25 1 (.slice A a c) a (wcells ws)) (ob : v.ownsRow W1.heap.size 5 1 (.slice B b d) b (bcells bs))
    (hc : v.cell? ⟨g, 0, none⟩ = some (.int .i64 k) ∧ v.cell? ⟨g, 1, none⟩ = some (.int .i64 n) ∧ v.cell? ⟨g, 2, none⟩ = some (.slice A a c) ∧ v.cell? ⟨g, 3, none⟩ = some (.slice B b d) ∧ W1.heap.size ≤ g) :
    CpDone w wr (v.setCell ⟨w.heap.size + 1 + 1, 1, none⟩ (.slice (some ⟨g, 0, none⟩) 1 cc)) hv k n a b ws bs := by
  obtain ⟨h0, h1, h2, h3, hg⟩ := hc
  have far : ∀ x, x ≠ w.heap.size + 1 + 1 → (v.setCell ⟨w.heap.size + 1 + 1, 1, none⟩ (.slice (some ⟨g, 0, none⟩) 1 cc)).heap[x]? = v.heap[x]? := fun x hx => Below.heap_setCell v _ _ x hx
  have old : ∀ x, x < w.heap.size + 4 → x ≠ w.heap.size + 1 + 1 → (v.setCell ⟨w.heap.size + 1 + 1, 1, none⟩ (.slice (some ⟨g, 0, none⟩) 1 cc)).heap[x]? = wr.heap[x]? := fun x hx hne => (far x hne).trans ((I.keeps.block x (by omega) hne).trans (HBx.block x hx))
  have cg : ∀ j, (v.setCell ⟨w.heap.size + 1 + 1, 1, none⟩ (.slice (some ⟨g, 0, none⟩) 1 cc)).cell? ⟨g, j, none⟩ = v.cell? ⟨g, j, none⟩ := fun j => World.cell?_of_block (a := ⟨g, j, none⟩) (far g (by omega))
  refine ⟨g, cc, A, B, c, d, old _ (by omega) (by omega), old _ (by omega) (by omega), blk_set (I.out.trans HO) 1 _, by omega, (cg 0).trans h0, (cg 1).trans h1, (cg 2).trans h2, (cg 3).trans h3, ?_, ?_, ?_⟩
  · exact own_base (own_set_far ow (fun e => by have := (ow.lt _ e).1; simp at this; omega) _) (by omega)
  · exact own_base (own_set_far ob (fun e => by have := (ob.lt _ e).1; simp at this; omega) _) (by omega)
  · have hsz : (v.setCell ⟨w.heap.size + 1 + 1, 1, none⟩ (.slice (some ⟨g, 0, none⟩) 1 cc)).heap.size = v.heap.size := by simp
    have h4 := I.keeps.size
    exact ⟨I.keeps.os.trans (HBx.os.trans HB0.os), I.keeps.tape.trans (HBx.tape.trans HB0.tape), I.keeps.output.trans (HBx.output.trans HB0.output), by rw [hsz]; omega, fun x hx => (old x (by omega) (by omega)).trans (HB0.block x hx)⟩
set_option maxRecDepth 100000 in
set_option maxHeartbeats 8000000 in
theorem refCopy_calls (w : World) (g0 o0 c0 : Nat) (k n : Int) (A B : Option Addr) (a b c d : Nat) (ws bs : List Int) (hws : ws.length = a) (hbs : bs.length = b) (ha : a ≤ 1000000) (hb : b ≤ 1000000)
    (e0 : w.cell? ⟨g0, o0, none⟩ = some (.int .i64 k)) (e1 : w.cell? ⟨g0, o0 + 1, none⟩ = some (.int .i64 n)) (e2 : w.cell? ⟨g0, o0 + 2, none⟩ = some (.slice A a c)) (e3 : w.cell? ⟨g0, o0 + 3, none⟩ = some (.slice B b d)) (hlw : Lie w A a (wcells ws)) (hlb : Lie w B b (bcells bs)) :
    Calls Try.prog 30 #[.agg #[.slice none 0 0, .slice (some ⟨g0, o0, none⟩) 1 c0, .slice none 0 0, .int .i64 0, .int .i64 0, .int .i64 0, .int .u64 0]] w fun e w' =>
      ∃ g c' hv vw vb, e = .returned (.agg #[.slice none 0 0, .slice (some ⟨g, 0, none⟩) 1 c', hv, .int .i64 0, .int .i64 0, .int .i64 0, .int .u64 0]) ∧
        w'.cell? ⟨g, 0, none⟩ = some (.int .i64 k) ∧ w'.cell? ⟨g, 1, none⟩ = some (.int .i64 n) ∧ w'.cell? ⟨g, 2, none⟩ = some vw ∧ w'.cell? ⟨g, 3, none⟩ = some vb ∧
        w'.ownsRow w.heap.size 25 1 vw a (wcells ws) ∧ w'.ownsRow w.heap.size 5 1 vb b (bcells bs) ∧ Below w.heap.size w w' := by
  have HL := Lib.hid hlw
  have HL8 := Lib.hid hlb
  have hg0 := World.block_lt_of_cell? w _ e0
  clear hlw hlb
  go_enter Try.func30, Try.ntmps30
  go_wp2_with fail
  have HB0 : Hid (Below w.heap.size w ((((w.alloc (Obj.cells #[.slice none 0 0, .slice (some ⟨g0, o0, none⟩) 1 c0, .slice none 0 0, .int .i64 0, .int .i64 0, .int .i64 0, .int .u64 0] 61)).alloc (Obj.cells #[.slice none 0 0, .slice none 0 0, .slice none 0 0, .int .i64 0, .int .i64 0, .int .i64 0, .int .u64 0] 61)).alloc (Obj.cells #[.slice none 0 0, .slice none 0 0, .slice (some ⟨w.heap.size + 1 + 1 + 1, 0, none⟩) 0 0, .int .i64 0, .int .i64 0, .int .i64 0, .int .u64 0] 61)).alloc (Obj.cells #[] 111))) :=
    Lib.hid ((((((Below.refl _ _).alloc (Nat.le_refl _) _).alloc (by simp) _).alloc (by simp; omega) _).alloc (by simp; omega) _))
  have H0 := Lib.hid (blk_alloc (blk_alloc (blk_alloc (blk_new w (Obj.cells #[.slice none 0 0, .slice (some ⟨g0, o0, none⟩) 1 c0, .slice none 0 0, .int .i64 0, .int .i64 0, .int .i64 0, .int .u64 0] 61)) (Obj.cells #[.slice none 0 0, .slice none 0 0, .slice none 0 0, .int .i64 0, .int .i64 0, .int .i64 0, .int .u64 0] 61)) (Obj.cells #[.slice none 0 0, .slice none 0 0, .slice (some ⟨w.heap.size + 1 + 1 + 1, 0, none⟩) 0 0, .int .i64 0, .int .i64 0, .int .i64 0, .int .u64 0] 61)) (Obj.cells #[] 111))
  have H1 := Lib.hid (blk_alloc (blk_alloc (blk_new2 w (Obj.cells #[.slice none 0 0, .slice (some ⟨g0, o0, none⟩) 1 c0, .slice none 0 0, .int .i64 0, .int .i64 0, .int .i64 0, .int .u64 0] 61) (Obj.cells #[.slice none 0 0, .slice none 0 0, .slice none 0 0, .int .i64 0, .int .i64 0, .int .i64 0, .int .u64 0] 61)) (Obj.cells #[.slice none 0 0, .slice none 0 0, .slice (some ⟨w.heap.size + 1 + 1 + 1, 0, none⟩) 0 0, .int .i64 0, .int .i64 0, .int .i64 0, .int .u64 0] 61)) (Obj.cells #[] 111))
  have H2 := Lib.hid (blk_alloc (blk_new3 w (Obj.cells #[.slice none 0 0, .slice (some ⟨g0, o0, none⟩) 1 c0, .slice none 0 0, .int .i64 0, .int .i64 0, .int .i64 0, .int .u64 0] 61) (Obj.cells #[.slice none 0 0, .slice none 0 0, .slice none 0 0, .int .i64 0, .int .i64 0, .int .i64 0, .int .u64 0] 61) (Obj.cells #[.slice none 0 0, .slice none 0 0, .slice (some ⟨w.heap.size + 1 + 1 + 1, 0, none⟩) 0 0, .int .i64 0, .int .i64 0, .int .i64 0, .int .u64 0] 61)) (Obj.cells #[] 111))
  generalize hW0 : (((w.alloc (Obj.cells #[.slice none 0 0, .slice (some ⟨g0, o0, none⟩) 1 c0, .slice none 0 0, .int .i64 0, .int .i64 0, .int .i64 0, .int .u64 0] 61)).alloc (Obj.cells #[.slice none 0 0, .slice none 0 0, .slice none 0 0, .int .i64 0, .int .i64 0, .int .i64 0, .int .u64 0] 61)).alloc (Obj.cells #[.slice none 0 0, .slice none 0 0, .slice (some ⟨w.heap.size + 1 + 1 + 1, 0, none⟩) 0 0, .int .i64 0, .int .i64 0, .int .i64 0, .int .u64 0] 61)).alloc (Obj.cells #[] 111) = W0 at *
  have hs0 : W0.heap.size = w.heap.size + 4 := by rw [← hW0]; simp
  clear hW0
  have k0 := blk_cell H0.out
  have x0 := k0 0
  have x1 := k0 1
  have y0 := (HB0.out.cell (p := ⟨g0, o0, none⟩) hg0).trans e0
  have y1 := (HB0.out.cell (p := ⟨g0, o0 + 1, none⟩) hg0).trans e1
  have y2 := (HB0.out.cell (p := ⟨g0, o0 + 2, none⟩) hg0).trans e2
  have y3 := (HB0.out.cell (p := ⟨g0, o0 + 3, none⟩) hg0).trans e3
  simp at x0 x1
  go_loopw [4] (fun i wr => i = .int .i64 0 ∧ wr = W0) (fun _ _ => 0)
  case atStart => exact ⟨rfl, rfl⟩
  case round =>
    obtain ⟨rfl, rfl⟩ := hrel
    go_wp2
    go_loopw [6] (fun i w2 => (i = .int .i64 0 ∧ w2 = wr) ∨ (i = .int .i64 1 ∧ CpDone w wr w2 (.slice (some ⟨w.heap.size + 1 + 1 + 1, 0, none⟩) 0 0) k n a b ws bs)) (fun i _ => 1 - (intOf i).toNat)
    case atStart => exact .inl ⟨rfl, rfl⟩
    case round =>
      rcases hrel with ⟨rfl, rfl⟩ | ⟨rfl, hd⟩
      · go_wp2_with fail
        have HX := Lib.hid (blk_new wr (Obj.cells #[.int .i64 k, .int .i64 n, .slice A a c, .slice B b d] 31))
        have HBx := Lib.hid ((Below.refl wr.heap.size wr).alloc (Nat.le_refl _) (Obj.cells #[.int .i64 k, .int .i64 n, .slice A a c, .slice B b d] 31))
        have hsx : (wr.alloc (Obj.cells #[.int .i64 k, .int .i64 n, .slice A a c, .slice B b d] 31)).heap.size = wr.heap.size + 1 := by simp
        generalize wr.alloc (Obj.cells #[.int .i64 k, .int .i64 n, .slice A a c, .slice B b d] 31) = W1 at *
        rw [hs0] at HX HBx hsx
        refine wp_region_held (S := Keeps (fun x => x = w.heap.size + 1 + 1) W1) (by kernel_rfl) ?_
        have I0 : CpI W1 (w.heap.size + 1 + 1) { W1 with drawn := W1.drawn + 1 } := ⟨⟨rfl, rfl, rfl, Nat.le_refl _, fun _ _ _ => rfl⟩, rfl, by omega⟩
        have HO := Lib.hid (blk_below H2.out HBx.out (by omega))
        have HC : Hid (∀ v, Keeps (fun x => x = w.heap.size + 1 + 1) W1 v → v.cell? ⟨w.heap.size + 4, 0, none⟩ = some (.int .i64 k) ∧ v.cell? ⟨w.heap.size + 4, 1, none⟩ = some (.int .i64 n) ∧ v.cell? ⟨w.heap.size + 4, 2, none⟩ = some (.slice A a c) ∧ v.cell? ⟨w.heap.size + 4, 3, none⟩ = some (.slice B b d)) := Lib.hid (fun v hv => by
          have h := blk_cell (blk_keeps HX.out hv (by omega))
          exact ⟨h 0, h 1, h 2, h 3⟩)
        have HF : Hid (∀ v, Keeps (fun x => x = w.heap.size + 1 + 1) W1 v → ∀ b, b < w.heap.size → v.heap[b]? = w.heap[b]?) := Lib.hid (fun v hv b hb => (hv.block b (by omega) (by omega)).trans ((HBx.out.block b (by omega)).trans (HB0.out.block b hb)))
        have HL1 := Lib.hid (fun (v : World) (hv : Keeps (fun x => x = w.heap.size + 1 + 1) W1 v) => lie_far HL.out (HF.out v hv))
        have HL2 := Lib.hid (fun (v : World) (hv : Keeps (fun x => x = w.heap.size + 1 + 1) W1 v) => lie_far HL8.out (HF.out v hv))
        generalize ({ W1 with drawn := W1.drawn + 1 } : World) = v0 at *
        refine wpAnyH_take (i := 0) (oi := _) (v := .pointer (some ⟨w.heap.size + 1 + 1, 1, none⟩)) rfl (by kernel_rfl) (by kernel_rfl) (by kernel_rfl) (fun _ _ _ h => h) (Or.inl ⟨by rfl, fun v hv => by go_simp⟩) I0.keeps ?_
        simp only [Act.put, List.getElem_toArray, List.getElem_cons_zero, List.setIfInBounds_toArray, List.set_cons_zero, List.set_cons_succ]
        refine wpAnyH_take (i := 2) (oi := _) (v := .pointer (some ⟨w.heap.size + 4, 0, none⟩)) rfl (by kernel_rfl) (by kernel_rfl) (by kernel_rfl) (fun _ _ _ h => h) (Or.inl ⟨by rfl, fun v hv => by go_simp⟩) I0.keeps ?_
        simp only [Act.put, List.getElem_toArray, List.getElem_cons_succ, List.getElem_cons_zero, List.setIfInBounds_toArray, List.set_cons_zero, List.set_cons_succ]
        refine wpAnyH_take (i := 4) (oi := _) (v := .pointer (some ⟨w.heap.size + 4, 1, none⟩)) rfl (by kernel_rfl) (by kernel_rfl) (by kernel_rfl) (fun _ _ _ h => h) (Or.inl ⟨by rfl, fun v hv => by go_simp⟩) I0.keeps ?_
        simp only [Act.put, List.getElem_toArray, List.getElem_cons_succ, List.getElem_cons_zero, List.setIfInBounds_toArray, List.set_cons_zero, List.set_cons_succ]
        refine wpAnyH_take (i := 7) (oi := _) (v := .pointer (some ⟨w.heap.size + 4, 2, none⟩)) rfl (by kernel_rfl) (by kernel_rfl) (by kernel_rfl) (fun _ _ _ h => h) (Or.inl ⟨by rfl, fun v hv => by go_simp⟩) I0.keeps ?_
        simp only [Act.put, List.getElem_toArray, List.getElem_cons_succ, List.getElem_cons_zero, List.setIfInBounds_toArray, List.set_cons_zero, List.set_cons_succ]
        refine wpAnyH_take (i := 11) (oi := _) (v := .pointer (some ⟨w.heap.size + 4, 3, none⟩)) rfl (by kernel_rfl) (by kernel_rfl) (by kernel_rfl) (fun _ _ _ h => h) (Or.inl ⟨by rfl, fun v hv => by go_simp⟩) I0.keeps ?_
        simp only [Act.put, List.getElem_toArray, List.getElem_cons_succ, List.getElem_cons_zero, List.setIfInBounds_toArray, List.set_cons_zero, List.set_cons_succ]
        refine wpAnyH_take (i := 3) (oi := _) (v := .int .i64 k) rfl (by kernel_rfl) (by kernel_rfl) (by kernel_rfl) (fun _ _ _ h => h) (Or.inl ⟨by rfl, fun v hv => by (obtain ⟨q0, q1, q2, q3⟩ := HC.out v hv; go_simp)⟩) I0.keeps ?_
        simp only [Act.put, List.getElem_toArray, List.getElem_cons_succ, List.getElem_cons_zero, List.setIfInBounds_toArray, List.set_cons_zero, List.set_cons_succ]
        refine wpAnyH_take (i := 5) (oi := _) (v := .int .i64 n) rfl (by kernel_rfl) (by kernel_rfl) (by kernel_rfl) (fun _ _ _ h => h) (Or.inl ⟨by rfl, fun v hv => by (obtain ⟨q0, q1, q2, q3⟩ := HC.out v hv; go_simp)⟩) I0.keeps ?_
        simp only [Act.put, List.getElem_toArray, List.getElem_cons_succ, List.getElem_cons_zero, List.setIfInBounds_toArray, List.set_cons_zero, List.set_cons_succ]
        refine wpAnyH_take (i := 8) (oi := _) (v := .slice A a c) rfl (by kernel_rfl) (by kernel_rfl) (by kernel_rfl) (fun _ _ _ h => h) (Or.inl ⟨by rfl, fun v hv => by (obtain ⟨q0, q1, q2, q3⟩ := HC.out v hv; go_simp)⟩) I0.keeps ?_
        simp only [Act.put, List.getElem_toArray, List.getElem_cons_succ, List.getElem_cons_zero, List.setIfInBounds_toArray, List.set_cons_zero, List.set_cons_succ]
        refine wpAnyH_take (i := 12) (oi := _) (v := .slice B b d) rfl (by kernel_rfl) (by kernel_rfl) (by kernel_rfl) (fun _ _ _ h => h) (Or.inl ⟨by rfl, fun v hv => by (obtain ⟨q0, q1, q2, q3⟩ := HC.out v hv; go_simp)⟩) I0.keeps ?_
        simp only [Act.put, List.getElem_toArray, List.getElem_cons_succ, List.getElem_cons_zero, List.setIfInBounds_toArray, List.set_cons_zero, List.set_cons_succ]
        refine wpAnyH_all (rs := [1, 6, 10]) (by kernel_rfl) (by decide) ?_
        refine List.forall_mem_cons.2 ⟨?_, List.forall_mem_cons.2 ⟨?_, List.forall_mem_singleton.2 ?_⟩⟩
        · skip
          have q1 := I0.nil HO.out
          refine op_value (v := .slice none 0 0) (w' := v0) rfl (by rfl) (by go_simp) ⟨I0.keeps, ?_⟩
          simp only [Act.put, List.getElem_toArray, List.getElem_cons_succ, List.getElem_cons_zero, List.setIfInBounds_toArray, List.set_cons_zero, List.set_cons_succ]
          refine wpAnyH_all (rs := [6, 10]) (by kernel_rfl) (by decide) ?_
          refine List.forall_mem_cons.2 ⟨?_, List.forall_mem_singleton.2 ?_⟩
          · skip
            refine op_value (v := .slice (some ⟨v0.heap.size, 0, none⟩) 0 0) (w' := v0.alloc (Obj.cells #[] 25 (0, 0))) rfl (by rfl) (by go_simp) ⟨(I0.alloc _).keeps, ?_⟩
            simp only [Act.put, List.getElem_toArray, List.getElem_cons_succ, List.getElem_cons_zero, List.setIfInBounds_toArray, List.set_cons_zero, List.set_cons_succ]
            have I2 := I0.alloc (Obj.cells #[] 25 (0, 0))
            have o2_64 : (v0.alloc (Obj.cells #[] 25 (0, 0))).ownsRow W1.heap.size 25 1 (.slice (some ⟨v0.heap.size, 0, none⟩) 0 0) 0 [] := World.ownsRow_made v0 #[] 0 I0.keeps.size (Nat.zero_le _) rfl
            generalize hv2 : v0.alloc (Obj.cells #[] 25 (0, 0)) = v2 at *
            generalize hz2 : v0.heap.size = z2 at *
            refine wpAnyH_all (rs := [9, 10]) (by kernel_rfl) (by decide) ?_
            refine List.forall_mem_cons.2 ⟨?_, List.forall_mem_singleton.2 ?_⟩
            · skip
              refine op_wp rfl (by rfl) (wp_app v2 (.tmp 64) (.tmp 66) 28 rfl 25 Try.underlying28 word_info rfl (by decide) (by decide) W1.heap.size (n := 0) (xs := []) rfl o2_64 rfl (by rw [wcells_length, hws]) (HL1.out _ I2.keeps) (wcells_one _) (by omega) I2.keeps.size ?_)
              intro u3 v3 hown hg hat
              simp only [Nat.zero_add, List.nil_append] at hown
              have I3 := I2.grown o2_64 hg
              obtain ⟨A3, c3, rfl, _, _, _⟩ := own_shape hown
              have o3_67 := hown
              clear hown hg hat
              refine ⟨I3.keeps, ?_⟩
              simp only [Act.put, List.getElem_toArray, List.getElem_cons_succ, List.getElem_cons_zero, List.setIfInBounds_toArray, List.set_cons_zero, List.set_cons_succ]
              refine wpAnyH_all (rs := [10]) (by kernel_rfl) (by decide) ?_
              refine List.forall_mem_singleton.2 ?_
              refine op_value (v := .slice (some ⟨v3.heap.size, 0, none⟩) 0 0) (w' := v3.alloc (Obj.cells #[] 5 (0, 0))) rfl (by rfl) (by go_simp) ⟨(I3.alloc _).keeps, ?_⟩
              simp only [Act.put, List.getElem_toArray, List.getElem_cons_succ, List.getElem_cons_zero, List.setIfInBounds_toArray, List.set_cons_zero, List.set_cons_succ]
              have I4 := I3.alloc (Obj.cells #[] 5 (0, 0))
              have o4_67 := o3_67.alloc (Obj.cells #[] 5 (0, 0))
              have o4_68 : (v3.alloc (Obj.cells #[] 5 (0, 0))).ownsRow W1.heap.size 5 1 (.slice (some ⟨v3.heap.size, 0, none⟩) 0 0) 0 [] := World.ownsRow_made v3 #[] 0 I3.keeps.size (Nat.zero_le _) rfl
              generalize hv4 : v3.alloc (Obj.cells #[] 5 (0, 0)) = v4 at *
              generalize hz4 : v3.heap.size = z4 at *
              refine wpAnyH_all (rs := [13]) (by kernel_rfl) (by decide) ?_
              refine List.forall_mem_singleton.2 ?_
              refine op_wp rfl (by rfl) (wp_app v4 (.tmp 68) (.tmp 70) 29 rfl 5 Try.underlying29 byte_info rfl (by decide) (by decide) W1.heap.size (n := 0) (xs := []) rfl o4_68 rfl (by rw [bcells_length, hbs]) (HL2.out _ I4.keeps) (bcells_one _) (by omega) I4.keeps.size ?_)
              intro u5 v5 hown hg hat
              simp only [Nat.zero_add, List.nil_append] at hown
              have I5 := I4.grown o4_68 hg
              have o5_67 := own_other o4_67 o4_68 (by decide) hg
              obtain ⟨A5, c5, rfl, _, _, _⟩ := own_shape hown
              have o5_71 := hown
              clear hown hg hat
              refine ⟨I5.keeps, ?_⟩
              simp only [Act.put, List.getElem_toArray, List.getElem_cons_succ, List.getElem_cons_zero, List.setIfInBounds_toArray, List.set_cons_zero, List.set_cons_succ]
              refine wpAnyH_take (i := 14) (oi := _) (v := .agg #[.int .i64 k, .int .i64 n, .slice A3 a c3, .slice A5 b c5]) rfl (by kernel_rfl) (by kernel_rfl) (by kernel_rfl) (fun _ _ _ h => h) (Or.inl ⟨by rfl, fun v hv => by go_simp⟩) I5.keeps ?_
              simp only [Act.put, List.getElem_toArray, List.getElem_cons_succ, List.getElem_cons_zero, List.setIfInBounds_toArray, List.set_cons_zero, List.set_cons_succ]
              refine wpAnyH_all (rs := [15]) (by kernel_rfl) (by decide) ?_
              refine List.forall_mem_singleton.2 ?_
              refine op_value (v := .slice (some ⟨v5.heap.size, 0, none⟩) 1 1) (w' := v5.alloc (Obj.cells #[.int .i64 k, .int .i64 n, .slice A3 a c3, .slice A5 b c5] 31 (0, 0))) rfl (by rfl) (by go_simp) ⟨(I5.alloc _).keeps, ?_⟩
              simp only [Act.put, List.getElem_toArray, List.getElem_cons_succ, List.getElem_cons_zero, List.setIfInBounds_toArray, List.set_cons_zero, List.set_cons_succ]
              have I6 := I5.alloc (Obj.cells #[.int .i64 k, .int .i64 n, .slice A3 a c3, .slice A5 b c5] 31 (0, 0))
              have l6 := blk_new v5 (Obj.cells #[.int .i64 k, .int .i64 n, .slice A3 a c3, .slice A5 b c5] 31 (0, 0))
              have o6_67 := o5_67.alloc (Obj.cells #[.int .i64 k, .int .i64 n, .slice A3 a c3, .slice A5 b c5] 31 (0, 0))
              have o6_71 := o5_71.alloc (Obj.cells #[.int .i64 k, .int .i64 n, .slice A3 a c3, .slice A5 b c5] 31 (0, 0))
              generalize hv6 : v5.alloc (Obj.cells #[.int .i64 k, .int .i64 n, .slice A3 a c3, .slice A5 b c5] 31 (0, 0)) = v6 at *
              generalize hz6 : v5.heap.size = z6 at *
              refine wpAnyH_all (rs := [16]) (by kernel_rfl) (by decide) ?_
              refine List.forall_mem_singleton.2 ?_
              refine op_wp rfl (by rfl) (wp_app v6 (.tmp 59) (.tmp 73) 34 rfl 31 Try.underlying34 obj_info rfl (by decide) (by decide) W1.heap.size (n := 0) (xs := []) rfl (own_nil _ _ _ _) rfl (news := [.int .i64 k, .int .i64 n, .slice A3 a c3, .slice A5 b c5]) rfl (lie_blk l6 (fun j u hj => by simpa using hj)) obj_one (by decide) I6.keeps.size ?_)
              intro u7 v7 hown hg hat
              simp only [Nat.zero_add, List.nil_append] at hown
              have I7 := I6.grown (own_nil _ _ 31 4) hg
              have o7_67 := own_other o6_67 (own_nil v6 W1.heap.size 31 4) (by decide) hg
              have o7_71 := own_other o6_71 (own_nil v6 W1.heap.size 31 4) (by decide) hg
              obtain ⟨g7, c7, rfl, hc7⟩ := own_one hown
              clear hown hg hat
              refine ⟨I7.keeps, ?_⟩
              simp only [Act.put, List.getElem_toArray, List.getElem_cons_succ, List.getElem_cons_zero, List.setIfInBounds_toArray, List.set_cons_zero, List.set_cons_succ]
              refine wpAnyH_take (i := 17) (oi := _) (v := .pointer (some ⟨w.heap.size + 1 + 1, 1, none⟩)) rfl (by kernel_rfl) (by kernel_rfl) (by kernel_rfl) (fun _ _ _ h => h) (Or.inl ⟨by rfl, fun v hv => by go_simp⟩) I7.keeps ?_
              simp only [Act.put, List.getElem_toArray, List.getElem_cons_succ, List.getElem_cons_zero, List.setIfInBounds_toArray, List.set_cons_zero, List.set_cons_succ]
              refine wpAnyH_all (rs := [18]) (by kernel_rfl) (by decide) ?_
              refine List.forall_mem_singleton.2 ?_
              have q8 := I7.nil HO.out
              have f8 := I7.fz HO.out
              refine op_store (w' := v7.setCell ⟨w.heap.size + 1 + 1, 1, none⟩ (.slice (some ⟨g7, 0, none⟩) 1 c7)) rfl (by rfl) (by go_simp) ⟨I7.keeps.setCell (fun _ => rfl) _, ?_⟩
              refine wpAnyH_done (by kernel_rfl) ?_ _
              go_wp2
              exact ⟨.inr ⟨rfl, cp_done I7 HBx.out HB0.out hsx HO.out o7_67 o7_71 hc7⟩, by decide⟩
            · skip
              refine op_value (v := .slice (some ⟨v2.heap.size, 0, none⟩) 0 0) (w' := v2.alloc (Obj.cells #[] 5 (0, 0))) rfl (by rfl) (by go_simp) ⟨(I2.alloc _).keeps, ?_⟩
              simp only [Act.put, List.getElem_toArray, List.getElem_cons_succ, List.getElem_cons_zero, List.setIfInBounds_toArray, List.set_cons_zero, List.set_cons_succ]
              have I9 := I2.alloc (Obj.cells #[] 5 (0, 0))
              have o9_64 := o2_64.alloc (Obj.cells #[] 5 (0, 0))
              have o9_68 : (v2.alloc (Obj.cells #[] 5 (0, 0))).ownsRow W1.heap.size 5 1 (.slice (some ⟨v2.heap.size, 0, none⟩) 0 0) 0 [] := World.ownsRow_made v2 #[] 0 I2.keeps.size (Nat.zero_le _) rfl
              generalize hv9 : v2.alloc (Obj.cells #[] 5 (0, 0)) = v9 at *
              generalize hz9 : v2.heap.size = z9 at *
              refine wpAnyH_all (rs := [9]) (by kernel_rfl) (by decide) ?_
              refine List.forall_mem_singleton.2 ?_
              refine op_wp rfl (by rfl) (wp_app v9 (.tmp 64) (.tmp 66) 28 rfl 25 Try.underlying28 word_info rfl (by decide) (by decide) W1.heap.size (n := 0) (xs := []) rfl o9_64 rfl (by rw [wcells_length, hws]) (HL1.out _ I9.keeps) (wcells_one _) (by omega) I9.keeps.size ?_)
              intro u10 v10 hown hg hat
              simp only [Nat.zero_add, List.nil_append] at hown
              have I10 := I9.grown o9_64 hg
              have o10_68 := own_other o9_68 o9_64 (by decide) hg
              obtain ⟨A10, c10, rfl, _, _, _⟩ := own_shape hown
              have o10_67 := hown
              clear hown hg hat
              refine ⟨I10.keeps, ?_⟩
              simp only [Act.put, List.getElem_toArray, List.getElem_cons_succ, List.getElem_cons_zero, List.setIfInBounds_toArray, List.set_cons_zero, List.set_cons_succ]
              refine wpAnyH_all (rs := [13]) (by kernel_rfl) (by decide) ?_
              refine List.forall_mem_singleton.2 ?_
              refine op_wp rfl (by rfl) (wp_app v10 (.tmp 68) (.tmp 70) 29 rfl 5 Try.underlying29 byte_info rfl (by decide) (by decide) W1.heap.size (n := 0) (xs := []) rfl o10_68 rfl (by rw [bcells_length, hbs]) (HL2.out _ I10.keeps) (bcells_one _) (by omega) I10.keeps.size ?_)
              intro u11 v11 hown hg hat
              simp only [Nat.zero_add, List.nil_append] at hown
              have I11 := I10.grown o10_68 hg
              have o11_67 := own_other o10_67 o10_68 (by decide) hg
              obtain ⟨A11, c11, rfl, _, _, _⟩ := own_shape hown
              have o11_71 := hown
              clear hown hg hat
              refine ⟨I11.keeps, ?_⟩
              simp only [Act.put, List.getElem_toArray, List.getElem_cons_succ, List.getElem_cons_zero, List.setIfInBounds_toArray, List.set_cons_zero, List.set_cons_succ]
              refine wpAnyH_take (i := 14) (oi := _) (v := .agg #[.int .i64 k, .int .i64 n, .slice A10 a c10, .slice A11 b c11]) rfl (by kernel_rfl) (by kernel_rfl) (by kernel_rfl) (fun _ _ _ h => h) (Or.inl ⟨by rfl, fun v hv => by go_simp⟩) I11.keeps ?_
              simp only [Act.put, List.getElem_toArray, List.getElem_cons_succ, List.getElem_cons_zero, List.setIfInBounds_toArray, List.set_cons_zero, List.set_cons_succ]
              refine wpAnyH_all (rs := [15]) (by kernel_rfl) (by decide) ?_
              refine List.forall_mem_singleton.2 ?_
              refine op_value (v := .slice (some ⟨v11.heap.size, 0, none⟩) 1 1) (w' := v11.alloc (Obj.cells #[.int .i64 k, .int .i64 n, .slice A10 a c10, .slice A11 b c11] 31 (0, 0))) rfl (by rfl) (by go_simp) ⟨(I11.alloc _).keeps, ?_⟩
              simp only [Act.put, List.getElem_toArray, List.getElem_cons_succ, List.getElem_cons_zero, List.setIfInBounds_toArray, List.set_cons_zero, List.set_cons_succ]
              have I12 := I11.alloc (Obj.cells #[.int .i64 k, .int .i64 n, .slice A10 a c10, .slice A11 b c11] 31 (0, 0))
              have l12 := blk_new v11 (Obj.cells #[.int .i64 k, .int .i64 n, .slice A10 a c10, .slice A11 b c11] 31 (0, 0))
              have o12_67 := o11_67.alloc (Obj.cells #[.int .i64 k, .int .i64 n, .slice A10 a c10, .slice A11 b c11] 31 (0, 0))
              have o12_71 := o11_71.alloc (Obj.cells #[.int .i64 k, .int .i64 n, .slice A10 a c10, .slice A11 b c11] 31 (0, 0))
              generalize hv12 : v11.alloc (Obj.cells #[.int .i64 k, .int .i64 n, .slice A10 a c10, .slice A11 b c11] 31 (0, 0)) = v12 at *
              generalize hz12 : v11.heap.size = z12 at *
              refine wpAnyH_all (rs := [16]) (by kernel_rfl) (by decide) ?_
              refine List.forall_mem_singleton.2 ?_
              refine op_wp rfl (by rfl) (wp_app v12 (.tmp 59) (.tmp 73) 34 rfl 31 Try.underlying34 obj_info rfl (by decide) (by decide) W1.heap.size (n := 0) (xs := []) rfl (own_nil _ _ _ _) rfl (news := [.int .i64 k, .int .i64 n, .slice A10 a c10, .slice A11 b c11]) rfl (lie_blk l12 (fun j u hj => by simpa using hj)) obj_one (by decide) I12.keeps.size ?_)
              intro u13 v13 hown hg hat
              simp only [Nat.zero_add, List.nil_append] at hown
              have I13 := I12.grown (own_nil _ _ 31 4) hg
              have o13_67 := own_other o12_67 (own_nil v12 W1.heap.size 31 4) (by decide) hg
              have o13_71 := own_other o12_71 (own_nil v12 W1.heap.size 31 4) (by decide) hg
              obtain ⟨g13, c13, rfl, hc13⟩ := own_one hown
              clear hown hg hat
              refine ⟨I13.keeps, ?_⟩
              simp only [Act.put, List.getElem_toArray, List.getElem_cons_succ, List.getElem_cons_zero, List.setIfInBounds_toArray, List.set_cons_zero, List.set_cons_succ]
              refine wpAnyH_take (i := 17) (oi := _) (v := .pointer (some ⟨w.heap.size + 1 + 1, 1, none⟩)) rfl (by kernel_rfl) (by kernel_rfl) (by kernel_rfl) (fun _ _ _ h => h) (Or.inl ⟨by rfl, fun v hv => by go_simp⟩) I13.keeps ?_
              simp only [Act.put, List.getElem_toArray, List.getElem_cons_succ, List.getElem_cons_zero, List.setIfInBounds_toArray, List.set_cons_zero, List.set_cons_succ]
              refine wpAnyH_all (rs := [18]) (by kernel_rfl) (by decide) ?_
              refine List.forall_mem_singleton.2 ?_
              have q14 := I13.nil HO.out
              have f14 := I13.fz HO.out
              refine op_store (w' := v13.setCell ⟨w.heap.size + 1 + 1, 1, none⟩ (.slice (some ⟨g13, 0, none⟩) 1 c13)) rfl (by rfl) (by go_simp) ⟨I13.keeps.setCell (fun _ => rfl) _, ?_⟩
              refine wpAnyH_done (by kernel_rfl) ?_ _
              go_wp2
              exact ⟨.inr ⟨rfl, cp_done I13 HBx.out HB0.out hsx HO.out o13_67 o13_71 hc13⟩, by decide⟩
          · skip
            refine op_value (v := .slice (some ⟨v0.heap.size, 0, none⟩) 0 0) (w' := v0.alloc (Obj.cells #[] 5 (0, 0))) rfl (by rfl) (by go_simp) ⟨(I0.alloc _).keeps, ?_⟩
            simp only [Act.put, List.getElem_toArray, List.getElem_cons_succ, List.getElem_cons_zero, List.setIfInBounds_toArray, List.set_cons_zero, List.set_cons_succ]
            have I15 := I0.alloc (Obj.cells #[] 5 (0, 0))
            have o15_68 : (v0.alloc (Obj.cells #[] 5 (0, 0))).ownsRow W1.heap.size 5 1 (.slice (some ⟨v0.heap.size, 0, none⟩) 0 0) 0 [] := World.ownsRow_made v0 #[] 0 I0.keeps.size (Nat.zero_le _) rfl
            generalize hv15 : v0.alloc (Obj.cells #[] 5 (0, 0)) = v15 at *
            generalize hz15 : v0.heap.size = z15 at *
            refine wpAnyH_all (rs := [6]) (by kernel_rfl) (by decide) ?_
            refine List.forall_mem_singleton.2 ?_
            refine op_value (v := .slice (some ⟨v15.heap.size, 0, none⟩) 0 0) (w' := v15.alloc (Obj.cells #[] 25 (0, 0))) rfl (by rfl) (by go_simp) ⟨(I15.alloc _).keeps, ?_⟩
            simp only [Act.put, List.getElem_toArray, List.getElem_cons_succ, List.getElem_cons_zero, List.setIfInBounds_toArray, List.set_cons_zero, List.set_cons_succ]
            have I16 := I15.alloc (Obj.cells #[] 25 (0, 0))
            have o16_68 := o15_68.alloc (Obj.cells #[] 25 (0, 0))
            have o16_64 : (v15.alloc (Obj.cells #[] 25 (0, 0))).ownsRow W1.heap.size 25 1 (.slice (some ⟨v15.heap.size, 0, none⟩) 0 0) 0 [] := World.ownsRow_made v15 #[] 0 I15.keeps.size (Nat.zero_le _) rfl
            generalize hv16 : v15.alloc (Obj.cells #[] 25 (0, 0)) = v16 at *
            generalize hz16 : v15.heap.size = z16 at *
            refine wpAnyH_all (rs := [9]) (by kernel_rfl) (by decide) ?_
            refine List.forall_mem_singleton.2 ?_
            refine op_wp rfl (by rfl) (wp_app v16 (.tmp 64) (.tmp 66) 28 rfl 25 Try.underlying28 word_info rfl (by decide) (by decide) W1.heap.size (n := 0) (xs := []) rfl o16_64 rfl (by rw [wcells_length, hws]) (HL1.out _ I16.keeps) (wcells_one _) (by omega) I16.keeps.size ?_)
            intro u17 v17 hown hg hat
            simp only [Nat.zero_add, List.nil_append] at hown
            have I17 := I16.grown o16_64 hg
            have o17_68 := own_other o16_68 o16_64 (by decide) hg
            obtain ⟨A17, c17, rfl, _, _, _⟩ := own_shape hown
            have o17_67 := hown
            clear hown hg hat
            refine ⟨I17.keeps, ?_⟩
            simp only [Act.put, List.getElem_toArray, List.getElem_cons_succ, List.getElem_cons_zero, List.setIfInBounds_toArray, List.set_cons_zero, List.set_cons_succ]
            refine wpAnyH_all (rs := [13]) (by kernel_rfl) (by decide) ?_
            refine List.forall_mem_singleton.2 ?_
            refine op_wp rfl (by rfl) (wp_app v17 (.tmp 68) (.tmp 70) 29 rfl 5 Try.underlying29 byte_info rfl (by decide) (by decide) W1.heap.size (n := 0) (xs := []) rfl o17_68 rfl (by rw [bcells_length, hbs]) (HL2.out _ I17.keeps) (bcells_one _) (by omega) I17.keeps.size ?_)
            intro u18 v18 hown hg hat
            simp only [Nat.zero_add, List.nil_append] at hown
            have I18 := I17.grown o17_68 hg
            have o18_67 := own_other o17_67 o17_68 (by decide) hg
            obtain ⟨A18, c18, rfl, _, _, _⟩ := own_shape hown
            have o18_71 := hown
            clear hown hg hat
            refine ⟨I18.keeps, ?_⟩
            simp only [Act.put, List.getElem_toArray, List.getElem_cons_succ, List.getElem_cons_zero, List.setIfInBounds_toArray, List.set_cons_zero, List.set_cons_succ]
            refine wpAnyH_take (i := 14) (oi := _) (v := .agg #[.int .i64 k, .int .i64 n, .slice A17 a c17, .slice A18 b c18]) rfl (by kernel_rfl) (by kernel_rfl) (by kernel_rfl) (fun _ _ _ h => h) (Or.inl ⟨by rfl, fun v hv => by go_simp⟩) I18.keeps ?_
            simp only [Act.put, List.getElem_toArray, List.getElem_cons_succ, List.getElem_cons_zero, List.setIfInBounds_toArray, List.set_cons_zero, List.set_cons_succ]
            refine wpAnyH_all (rs := [15]) (by kernel_rfl) (by decide) ?_
            refine List.forall_mem_singleton.2 ?_
            refine op_value (v := .slice (some ⟨v18.heap.size, 0, none⟩) 1 1) (w' := v18.alloc (Obj.cells #[.int .i64 k, .int .i64 n, .slice A17 a c17, .slice A18 b c18] 31 (0, 0))) rfl (by rfl) (by go_simp) ⟨(I18.alloc _).keeps, ?_⟩
            simp only [Act.put, List.getElem_toArray, List.getElem_cons_succ, List.getElem_cons_zero, List.setIfInBounds_toArray, List.set_cons_zero, List.set_cons_succ]
            have I19 := I18.alloc (Obj.cells #[.int .i64 k, .int .i64 n, .slice A17 a c17, .slice A18 b c18] 31 (0, 0))
            have l19 := blk_new v18 (Obj.cells #[.int .i64 k, .int .i64 n, .slice A17 a c17, .slice A18 b c18] 31 (0, 0))
            have o19_67 := o18_67.alloc (Obj.cells #[.int .i64 k, .int .i64 n, .slice A17 a c17, .slice A18 b c18] 31 (0, 0))
            have o19_71 := o18_71.alloc (Obj.cells #[.int .i64 k, .int .i64 n, .slice A17 a c17, .slice A18 b c18] 31 (0, 0))
            generalize hv19 : v18.alloc (Obj.cells #[.int .i64 k, .int .i64 n, .slice A17 a c17, .slice A18 b c18] 31 (0, 0)) = v19 at *
            generalize hz19 : v18.heap.size = z19 at *
            refine wpAnyH_all (rs := [16]) (by kernel_rfl) (by decide) ?_
            refine List.forall_mem_singleton.2 ?_
            refine op_wp rfl (by rfl) (wp_app v19 (.tmp 59) (.tmp 73) 34 rfl 31 Try.underlying34 obj_info rfl (by decide) (by decide) W1.heap.size (n := 0) (xs := []) rfl (own_nil _ _ _ _) rfl (news := [.int .i64 k, .int .i64 n, .slice A17 a c17, .slice A18 b c18]) rfl (lie_blk l19 (fun j u hj => by simpa using hj)) obj_one (by decide) I19.keeps.size ?_)
            intro u20 v20 hown hg hat
            simp only [Nat.zero_add, List.nil_append] at hown
            have I20 := I19.grown (own_nil _ _ 31 4) hg
            have o20_67 := own_other o19_67 (own_nil v19 W1.heap.size 31 4) (by decide) hg
            have o20_71 := own_other o19_71 (own_nil v19 W1.heap.size 31 4) (by decide) hg
            obtain ⟨g20, c20, rfl, hc20⟩ := own_one hown
            clear hown hg hat
            refine ⟨I20.keeps, ?_⟩
            simp only [Act.put, List.getElem_toArray, List.getElem_cons_succ, List.getElem_cons_zero, List.setIfInBounds_toArray, List.set_cons_zero, List.set_cons_succ]
            refine wpAnyH_take (i := 17) (oi := _) (v := .pointer (some ⟨w.heap.size + 1 + 1, 1, none⟩)) rfl (by kernel_rfl) (by kernel_rfl) (by kernel_rfl) (fun _ _ _ h => h) (Or.inl ⟨by rfl, fun v hv => by go_simp⟩) I20.keeps ?_
            simp only [Act.put, List.getElem_toArray, List.getElem_cons_succ, List.getElem_cons_zero, List.setIfInBounds_toArray, List.set_cons_zero, List.set_cons_succ]
            refine wpAnyH_all (rs := [18]) (by kernel_rfl) (by decide) ?_
            refine List.forall_mem_singleton.2 ?_
            have q21 := I20.nil HO.out
            have f21 := I20.fz HO.out
            refine op_store (w' := v20.setCell ⟨w.heap.size + 1 + 1, 1, none⟩ (.slice (some ⟨g20, 0, none⟩) 1 c20)) rfl (by rfl) (by go_simp) ⟨I20.keeps.setCell (fun _ => rfl) _, ?_⟩
            refine wpAnyH_done (by kernel_rfl) ?_ _
            go_wp2
            exact ⟨.inr ⟨rfl, cp_done I20 HBx.out HB0.out hsx HO.out o20_67 o20_71 hc20⟩, by decide⟩
        · skip
          refine op_value (v := .slice (some ⟨v0.heap.size, 0, none⟩) 0 0) (w' := v0.alloc (Obj.cells #[] 25 (0, 0))) rfl (by rfl) (by go_simp) ⟨(I0.alloc _).keeps, ?_⟩
          simp only [Act.put, List.getElem_toArray, List.getElem_cons_succ, List.getElem_cons_zero, List.setIfInBounds_toArray, List.set_cons_zero, List.set_cons_succ]
          have I22 := I0.alloc (Obj.cells #[] 25 (0, 0))
          have o22_64 : (v0.alloc (Obj.cells #[] 25 (0, 0))).ownsRow W1.heap.size 25 1 (.slice (some ⟨v0.heap.size, 0, none⟩) 0 0) 0 [] := World.ownsRow_made v0 #[] 0 I0.keeps.size (Nat.zero_le _) rfl
          generalize hv22 : v0.alloc (Obj.cells #[] 25 (0, 0)) = v22 at *
          generalize hz22 : v0.heap.size = z22 at *
          refine wpAnyH_all (rs := [1, 9, 10]) (by kernel_rfl) (by decide) ?_
          refine List.forall_mem_cons.2 ⟨?_, List.forall_mem_cons.2 ⟨?_, List.forall_mem_singleton.2 ?_⟩⟩
          · skip
            have q23 := I22.nil HO.out
            refine op_value (v := .slice none 0 0) (w' := v22) rfl (by rfl) (by go_simp) ⟨I22.keeps, ?_⟩
            simp only [Act.put, List.getElem_toArray, List.getElem_cons_succ, List.getElem_cons_zero, List.setIfInBounds_toArray, List.set_cons_zero, List.set_cons_succ]
            refine wpAnyH_all (rs := [9, 10]) (by kernel_rfl) (by decide) ?_
            refine List.forall_mem_cons.2 ⟨?_, List.forall_mem_singleton.2 ?_⟩
            · skip
              refine op_wp rfl (by rfl) (wp_app v22 (.tmp 64) (.tmp 66) 28 rfl 25 Try.underlying28 word_info rfl (by decide) (by decide) W1.heap.size (n := 0) (xs := []) rfl o22_64 rfl (by rw [wcells_length, hws]) (HL1.out _ I22.keeps) (wcells_one _) (by omega) I22.keeps.size ?_)
              intro u24 v24 hown hg hat
              simp only [Nat.zero_add, List.nil_append] at hown
              have I24 := I22.grown o22_64 hg
              obtain ⟨A24, c24, rfl, _, _, _⟩ := own_shape hown
              have o24_67 := hown
              clear hown hg hat
              refine ⟨I24.keeps, ?_⟩
              simp only [Act.put, List.getElem_toArray, List.getElem_cons_succ, List.getElem_cons_zero, List.setIfInBounds_toArray, List.set_cons_zero, List.set_cons_succ]
              refine wpAnyH_all (rs := [10]) (by kernel_rfl) (by decide) ?_
              refine List.forall_mem_singleton.2 ?_
              refine op_value (v := .slice (some ⟨v24.heap.size, 0, none⟩) 0 0) (w' := v24.alloc (Obj.cells #[] 5 (0, 0))) rfl (by rfl) (by go_simp) ⟨(I24.alloc _).keeps, ?_⟩
              simp only [Act.put, List.getElem_toArray, List.getElem_cons_succ, List.getElem_cons_zero, List.setIfInBounds_toArray, List.set_cons_zero, List.set_cons_succ]
              have I25 := I24.alloc (Obj.cells #[] 5 (0, 0))
              have o25_67 := o24_67.alloc (Obj.cells #[] 5 (0, 0))
              have o25_68 : (v24.alloc (Obj.cells #[] 5 (0, 0))).ownsRow W1.heap.size 5 1 (.slice (some ⟨v24.heap.size, 0, none⟩) 0 0) 0 [] := World.ownsRow_made v24 #[] 0 I24.keeps.size (Nat.zero_le _) rfl
              generalize hv25 : v24.alloc (Obj.cells #[] 5 (0, 0)) = v25 at *
              generalize hz25 : v24.heap.size = z25 at *
              refine wpAnyH_all (rs := [13]) (by kernel_rfl) (by decide) ?_
              refine List.forall_mem_singleton.2 ?_
              refine op_wp rfl (by rfl) (wp_app v25 (.tmp 68) (.tmp 70) 29 rfl 5 Try.underlying29 byte_info rfl (by decide) (by decide) W1.heap.size (n := 0) (xs := []) rfl o25_68 rfl (by rw [bcells_length, hbs]) (HL2.out _ I25.keeps) (bcells_one _) (by omega) I25.keeps.size ?_)
              intro u26 v26 hown hg hat
              simp only [Nat.zero_add, List.nil_append] at hown
              have I26 := I25.grown o25_68 hg
              have o26_67 := own_other o25_67 o25_68 (by decide) hg
              obtain ⟨A26, c26, rfl, _, _, _⟩ := own_shape hown
              have o26_71 := hown
              clear hown hg hat
              refine ⟨I26.keeps, ?_⟩
              simp only [Act.put, List.getElem_toArray, List.getElem_cons_succ, List.getElem_cons_zero, List.setIfInBounds_toArray, List.set_cons_zero, List.set_cons_succ]
              refine wpAnyH_take (i := 14) (oi := _) (v := .agg #[.int .i64 k, .int .i64 n, .slice A24 a c24, .slice A26 b c26]) rfl (by kernel_rfl) (by kernel_rfl) (by kernel_rfl) (fun _ _ _ h => h) (Or.inl ⟨by rfl, fun v hv => by go_simp⟩) I26.keeps ?_
              simp only [Act.put, List.getElem_toArray, List.getElem_cons_succ, List.getElem_cons_zero, List.setIfInBounds_toArray, List.set_cons_zero, List.set_cons_succ]
              refine wpAnyH_all (rs := [15]) (by kernel_rfl) (by decide) ?_
              refine List.forall_mem_singleton.2 ?_
              refine op_value (v := .slice (some ⟨v26.heap.size, 0, none⟩) 1 1) (w' := v26.alloc (Obj.cells #[.int .i64 k, .int .i64 n, .slice A24 a c24, .slice A26 b c26] 31 (0, 0))) rfl (by rfl) (by go_simp) ⟨(I26.alloc _).keeps, ?_⟩
              simp only [Act.put, List.getElem_toArray, List.getElem_cons_succ, List.getElem_cons_zero, List.setIfInBounds_toArray, List.set_cons_zero, List.set_cons_succ]
              have I27 := I26.alloc (Obj.cells #[.int .i64 k, .int .i64 n, .slice A24 a c24, .slice A26 b c26] 31 (0, 0))
              have l27 := blk_new v26 (Obj.cells #[.int .i64 k, .int .i64 n, .slice A24 a c24, .slice A26 b c26] 31 (0, 0))
              have o27_67 := o26_67.alloc (Obj.cells #[.int .i64 k, .int .i64 n, .slice A24 a c24, .slice A26 b c26] 31 (0, 0))
              have o27_71 := o26_71.alloc (Obj.cells #[.int .i64 k, .int .i64 n, .slice A24 a c24, .slice A26 b c26] 31 (0, 0))
              generalize hv27 : v26.alloc (Obj.cells #[.int .i64 k, .int .i64 n, .slice A24 a c24, .slice A26 b c26] 31 (0, 0)) = v27 at *
              generalize hz27 : v26.heap.size = z27 at *
              refine wpAnyH_all (rs := [16]) (by kernel_rfl) (by decide) ?_
              refine List.forall_mem_singleton.2 ?_
              refine op_wp rfl (by rfl) (wp_app v27 (.tmp 59) (.tmp 73) 34 rfl 31 Try.underlying34 obj_info rfl (by decide) (by decide) W1.heap.size (n := 0) (xs := []) rfl (own_nil _ _ _ _) rfl (news := [.int .i64 k, .int .i64 n, .slice A24 a c24, .slice A26 b c26]) rfl (lie_blk l27 (fun j u hj => by simpa using hj)) obj_one (by decide) I27.keeps.size ?_)
              intro u28 v28 hown hg hat
              simp only [Nat.zero_add, List.nil_append] at hown
              have I28 := I27.grown (own_nil _ _ 31 4) hg
              have o28_67 := own_other o27_67 (own_nil v27 W1.heap.size 31 4) (by decide) hg
              have o28_71 := own_other o27_71 (own_nil v27 W1.heap.size 31 4) (by decide) hg
              obtain ⟨g28, c28, rfl, hc28⟩ := own_one hown
              clear hown hg hat
              refine ⟨I28.keeps, ?_⟩
              simp only [Act.put, List.getElem_toArray, List.getElem_cons_succ, List.getElem_cons_zero, List.setIfInBounds_toArray, List.set_cons_zero, List.set_cons_succ]
              refine wpAnyH_take (i := 17) (oi := _) (v := .pointer (some ⟨w.heap.size + 1 + 1, 1, none⟩)) rfl (by kernel_rfl) (by kernel_rfl) (by kernel_rfl) (fun _ _ _ h => h) (Or.inl ⟨by rfl, fun v hv => by go_simp⟩) I28.keeps ?_
              simp only [Act.put, List.getElem_toArray, List.getElem_cons_succ, List.getElem_cons_zero, List.setIfInBounds_toArray, List.set_cons_zero, List.set_cons_succ]
              refine wpAnyH_all (rs := [18]) (by kernel_rfl) (by decide) ?_
              refine List.forall_mem_singleton.2 ?_
              have q29 := I28.nil HO.out
              have f29 := I28.fz HO.out
              refine op_store (w' := v28.setCell ⟨w.heap.size + 1 + 1, 1, none⟩ (.slice (some ⟨g28, 0, none⟩) 1 c28)) rfl (by rfl) (by go_simp) ⟨I28.keeps.setCell (fun _ => rfl) _, ?_⟩
              refine wpAnyH_done (by kernel_rfl) ?_ _
              go_wp2
              exact ⟨.inr ⟨rfl, cp_done I28 HBx.out HB0.out hsx HO.out o28_67 o28_71 hc28⟩, by decide⟩
            · skip
              refine op_value (v := .slice (some ⟨v22.heap.size, 0, none⟩) 0 0) (w' := v22.alloc (Obj.cells #[] 5 (0, 0))) rfl (by rfl) (by go_simp) ⟨(I22.alloc _).keeps, ?_⟩
              simp only [Act.put, List.getElem_toArray, List.getElem_cons_succ, List.getElem_cons_zero, List.setIfInBounds_toArray, List.set_cons_zero, List.set_cons_succ]
              have I30 := I22.alloc (Obj.cells #[] 5 (0, 0))
              have o30_64 := o22_64.alloc (Obj.cells #[] 5 (0, 0))
              have o30_68 : (v22.alloc (Obj.cells #[] 5 (0, 0))).ownsRow W1.heap.size 5 1 (.slice (some ⟨v22.heap.size, 0, none⟩) 0 0) 0 [] := World.ownsRow_made v22 #[] 0 I22.keeps.size (Nat.zero_le _) rfl
              generalize hv30 : v22.alloc (Obj.cells #[] 5 (0, 0)) = v30 at *
              generalize hz30 : v22.heap.size = z30 at *
              refine wpAnyH_all (rs := [9]) (by kernel_rfl) (by decide) ?_
              refine List.forall_mem_singleton.2 ?_
              refine op_wp rfl (by rfl) (wp_app v30 (.tmp 64) (.tmp 66) 28 rfl 25 Try.underlying28 word_info rfl (by decide) (by decide) W1.heap.size (n := 0) (xs := []) rfl o30_64 rfl (by rw [wcells_length, hws]) (HL1.out _ I30.keeps) (wcells_one _) (by omega) I30.keeps.size ?_)
              intro u31 v31 hown hg hat
              simp only [Nat.zero_add, List.nil_append] at hown
              have I31 := I30.grown o30_64 hg
              have o31_68 := own_other o30_68 o30_64 (by decide) hg
              obtain ⟨A31, c31, rfl, _, _, _⟩ := own_shape hown
              have o31_67 := hown
              clear hown hg hat
              refine ⟨I31.keeps, ?_⟩
              simp only [Act.put, List.getElem_toArray, List.getElem_cons_succ, List.getElem_cons_zero, List.setIfInBounds_toArray, List.set_cons_zero, List.set_cons_succ]
              refine wpAnyH_all (rs := [13]) (by kernel_rfl) (by decide) ?_
              refine List.forall_mem_singleton.2 ?_
              refine op_wp rfl (by rfl) (wp_app v31 (.tmp 68) (.tmp 70) 29 rfl 5 Try.underlying29 byte_info rfl (by decide) (by decide) W1.heap.size (n := 0) (xs := []) rfl o31_68 rfl (by rw [bcells_length, hbs]) (HL2.out _ I31.keeps) (bcells_one _) (by omega) I31.keeps.size ?_)
              intro u32 v32 hown hg hat
              simp only [Nat.zero_add, List.nil_append] at hown
              have I32 := I31.grown o31_68 hg
              have o32_67 := own_other o31_67 o31_68 (by decide) hg
              obtain ⟨A32, c32, rfl, _, _, _⟩ := own_shape hown
              have o32_71 := hown
              clear hown hg hat
              refine ⟨I32.keeps, ?_⟩
              simp only [Act.put, List.getElem_toArray, List.getElem_cons_succ, List.getElem_cons_zero, List.setIfInBounds_toArray, List.set_cons_zero, List.set_cons_succ]
              refine wpAnyH_take (i := 14) (oi := _) (v := .agg #[.int .i64 k, .int .i64 n, .slice A31 a c31, .slice A32 b c32]) rfl (by kernel_rfl) (by kernel_rfl) (by kernel_rfl) (fun _ _ _ h => h) (Or.inl ⟨by rfl, fun v hv => by go_simp⟩) I32.keeps ?_
              simp only [Act.put, List.getElem_toArray, List.getElem_cons_succ, List.getElem_cons_zero, List.setIfInBounds_toArray, List.set_cons_zero, List.set_cons_succ]
              refine wpAnyH_all (rs := [15]) (by kernel_rfl) (by decide) ?_
              refine List.forall_mem_singleton.2 ?_
              refine op_value (v := .slice (some ⟨v32.heap.size, 0, none⟩) 1 1) (w' := v32.alloc (Obj.cells #[.int .i64 k, .int .i64 n, .slice A31 a c31, .slice A32 b c32] 31 (0, 0))) rfl (by rfl) (by go_simp) ⟨(I32.alloc _).keeps, ?_⟩
              simp only [Act.put, List.getElem_toArray, List.getElem_cons_succ, List.getElem_cons_zero, List.setIfInBounds_toArray, List.set_cons_zero, List.set_cons_succ]
              have I33 := I32.alloc (Obj.cells #[.int .i64 k, .int .i64 n, .slice A31 a c31, .slice A32 b c32] 31 (0, 0))
              have l33 := blk_new v32 (Obj.cells #[.int .i64 k, .int .i64 n, .slice A31 a c31, .slice A32 b c32] 31 (0, 0))
              have o33_67 := o32_67.alloc (Obj.cells #[.int .i64 k, .int .i64 n, .slice A31 a c31, .slice A32 b c32] 31 (0, 0))
              have o33_71 := o32_71.alloc (Obj.cells #[.int .i64 k, .int .i64 n, .slice A31 a c31, .slice A32 b c32] 31 (0, 0))
              generalize hv33 : v32.alloc (Obj.cells #[.int .i64 k, .int .i64 n, .slice A31 a c31, .slice A32 b c32] 31 (0, 0)) = v33 at *
              generalize hz33 : v32.heap.size = z33 at *
              refine wpAnyH_all (rs := [16]) (by kernel_rfl) (by decide) ?_
              refine List.forall_mem_singleton.2 ?_
              refine op_wp rfl (by rfl) (wp_app v33 (.tmp 59) (.tmp 73) 34 rfl 31 Try.underlying34 obj_info rfl (by decide) (by decide) W1.heap.size (n := 0) (xs := []) rfl (own_nil _ _ _ _) rfl (news := [.int .i64 k, .int .i64 n, .slice A31 a c31, .slice A32 b c32]) rfl (lie_blk l33 (fun j u hj => by simpa using hj)) obj_one (by decide) I33.keeps.size ?_)
              intro u34 v34 hown hg hat
              simp only [Nat.zero_add, List.nil_append] at hown
              have I34 := I33.grown (own_nil _ _ 31 4) hg
              have o34_67 := own_other o33_67 (own_nil v33 W1.heap.size 31 4) (by decide) hg
              have o34_71 := own_other o33_71 (own_nil v33 W1.heap.size 31 4) (by decide) hg
              obtain ⟨g34, c34, rfl, hc34⟩ := own_one hown
              clear hown hg hat
              refine ⟨I34.keeps, ?_⟩
              simp only [Act.put, List.getElem_toArray, List.getElem_cons_succ, List.getElem_cons_zero, List.setIfInBounds_toArray, List.set_cons_zero, List.set_cons_succ]
              refine wpAnyH_take (i := 17) (oi := _) (v := .pointer (some ⟨w.heap.size + 1 + 1, 1, none⟩)) rfl (by kernel_rfl) (by kernel_rfl) (by kernel_rfl) (fun _ _ _ h => h) (Or.inl ⟨by rfl, fun v hv => by go_simp⟩) I34.keeps ?_
              simp only [Act.put, List.getElem_toArray, List.getElem_cons_succ, List.getElem_cons_zero, List.setIfInBounds_toArray, List.set_cons_zero, List.set_cons_succ]
              refine wpAnyH_all (rs := [18]) (by kernel_rfl) (by decide) ?_
              refine List.forall_mem_singleton.2 ?_
              have q35 := I34.nil HO.out
              have f35 := I34.fz HO.out
              refine op_store (w' := v34.setCell ⟨w.heap.size + 1 + 1, 1, none⟩ (.slice (some ⟨g34, 0, none⟩) 1 c34)) rfl (by rfl) (by go_simp) ⟨I34.keeps.setCell (fun _ => rfl) _, ?_⟩
              refine wpAnyH_done (by kernel_rfl) ?_ _
              go_wp2
              exact ⟨.inr ⟨rfl, cp_done I34 HBx.out HB0.out hsx HO.out o34_67 o34_71 hc34⟩, by decide⟩
          · skip
            refine op_wp rfl (by rfl) (wp_app v22 (.tmp 64) (.tmp 66) 28 rfl 25 Try.underlying28 word_info rfl (by decide) (by decide) W1.heap.size (n := 0) (xs := []) rfl o22_64 rfl (by rw [wcells_length, hws]) (HL1.out _ I22.keeps) (wcells_one _) (by omega) I22.keeps.size ?_)
            intro u36 v36 hown hg hat
            simp only [Nat.zero_add, List.nil_append] at hown
            have I36 := I22.grown o22_64 hg
            obtain ⟨A36, c36, rfl, _, _, _⟩ := own_shape hown
            have o36_67 := hown
            clear hown hg hat
            refine ⟨I36.keeps, ?_⟩
            simp only [Act.put, List.getElem_toArray, List.getElem_cons_succ, List.getElem_cons_zero, List.setIfInBounds_toArray, List.set_cons_zero, List.set_cons_succ]
            refine wpAnyH_all (rs := [1, 10]) (by kernel_rfl) (by decide) ?_
            refine List.forall_mem_cons.2 ⟨?_, List.forall_mem_singleton.2 ?_⟩
            · skip
              have q37 := I36.nil HO.out
              refine op_value (v := .slice none 0 0) (w' := v36) rfl (by rfl) (by go_simp) ⟨I36.keeps, ?_⟩
              simp only [Act.put, List.getElem_toArray, List.getElem_cons_succ, List.getElem_cons_zero, List.setIfInBounds_toArray, List.set_cons_zero, List.set_cons_succ]
              refine wpAnyH_all (rs := [10]) (by kernel_rfl) (by decide) ?_
              refine List.forall_mem_singleton.2 ?_
              refine op_value (v := .slice (some ⟨v36.heap.size, 0, none⟩) 0 0) (w' := v36.alloc (Obj.cells #[] 5 (0, 0))) rfl (by rfl) (by go_simp) ⟨(I36.alloc _).keeps, ?_⟩
              simp only [Act.put, List.getElem_toArray, List.getElem_cons_succ, List.getElem_cons_zero, List.setIfInBounds_toArray, List.set_cons_zero, List.set_cons_succ]
              have I38 := I36.alloc (Obj.cells #[] 5 (0, 0))
              have o38_67 := o36_67.alloc (Obj.cells #[] 5 (0, 0))
              have o38_68 : (v36.alloc (Obj.cells #[] 5 (0, 0))).ownsRow W1.heap.size 5 1 (.slice (some ⟨v36.heap.size, 0, none⟩) 0 0) 0 [] := World.ownsRow_made v36 #[] 0 I36.keeps.size (Nat.zero_le _) rfl
              generalize hv38 : v36.alloc (Obj.cells #[] 5 (0, 0)) = v38 at *
              generalize hz38 : v36.heap.size = z38 at *
              refine wpAnyH_all (rs := [13]) (by kernel_rfl) (by decide) ?_
              refine List.forall_mem_singleton.2 ?_
              refine op_wp rfl (by rfl) (wp_app v38 (.tmp 68) (.tmp 70) 29 rfl 5 Try.underlying29 byte_info rfl (by decide) (by decide) W1.heap.size (n := 0) (xs := []) rfl o38_68 rfl (by rw [bcells_length, hbs]) (HL2.out _ I38.keeps) (bcells_one _) (by omega) I38.keeps.size ?_)
              intro u39 v39 hown hg hat
              simp only [Nat.zero_add, List.nil_append] at hown
              have I39 := I38.grown o38_68 hg
              have o39_67 := own_other o38_67 o38_68 (by decide) hg
              obtain ⟨A39, c39, rfl, _, _, _⟩ := own_shape hown
              have o39_71 := hown
              clear hown hg hat
              refine ⟨I39.keeps, ?_⟩
              simp only [Act.put, List.getElem_toArray, List.getElem_cons_succ, List.getElem_cons_zero, List.setIfInBounds_toArray, List.set_cons_zero, List.set_cons_succ]
              refine wpAnyH_take (i := 14) (oi := _) (v := .agg #[.int .i64 k, .int .i64 n, .slice A36 a c36, .slice A39 b c39]) rfl (by kernel_rfl) (by kernel_rfl) (by kernel_rfl) (fun _ _ _ h => h) (Or.inl ⟨by rfl, fun v hv => by go_simp⟩) I39.keeps ?_
              simp only [Act.put, List.getElem_toArray, List.getElem_cons_succ, List.getElem_cons_zero, List.setIfInBounds_toArray, List.set_cons_zero, List.set_cons_succ]
              refine wpAnyH_all (rs := [15]) (by kernel_rfl) (by decide) ?_
              refine List.forall_mem_singleton.2 ?_
              refine op_value (v := .slice (some ⟨v39.heap.size, 0, none⟩) 1 1) (w' := v39.alloc (Obj.cells #[.int .i64 k, .int .i64 n, .slice A36 a c36, .slice A39 b c39] 31 (0, 0))) rfl (by rfl) (by go_simp) ⟨(I39.alloc _).keeps, ?_⟩
              simp only [Act.put, List.getElem_toArray, List.getElem_cons_succ, List.getElem_cons_zero, List.setIfInBounds_toArray, List.set_cons_zero, List.set_cons_succ]
              have I40 := I39.alloc (Obj.cells #[.int .i64 k, .int .i64 n, .slice A36 a c36, .slice A39 b c39] 31 (0, 0))
              have l40 := blk_new v39 (Obj.cells #[.int .i64 k, .int .i64 n, .slice A36 a c36, .slice A39 b c39] 31 (0, 0))
              have o40_67 := o39_67.alloc (Obj.cells #[.int .i64 k, .int .i64 n, .slice A36 a c36, .slice A39 b c39] 31 (0, 0))
              have o40_71 := o39_71.alloc (Obj.cells #[.int .i64 k, .int .i64 n, .slice A36 a c36, .slice A39 b c39] 31 (0, 0))
              generalize hv40 : v39.alloc (Obj.cells #[.int .i64 k, .int .i64 n, .slice A36 a c36, .slice A39 b c39] 31 (0, 0)) = v40 at *
              generalize hz40 : v39.heap.size = z40 at *
              refine wpAnyH_all (rs := [16]) (by kernel_rfl) (by decide) ?_
              refine List.forall_mem_singleton.2 ?_
              refine op_wp rfl (by rfl) (wp_app v40 (.tmp 59) (.tmp 73) 34 rfl 31 Try.underlying34 obj_info rfl (by decide) (by decide) W1.heap.size (n := 0) (xs := []) rfl (own_nil _ _ _ _) rfl (news := [.int .i64 k, .int .i64 n, .slice A36 a c36, .slice A39 b c39]) rfl (lie_blk l40 (fun j u hj => by simpa using hj)) obj_one (by decide) I40.keeps.size ?_)
              intro u41 v41 hown hg hat
              simp only [Nat.zero_add, List.nil_append] at hown
              have I41 := I40.grown (own_nil _ _ 31 4) hg
              have o41_67 := own_other o40_67 (own_nil v40 W1.heap.size 31 4) (by decide) hg
              have o41_71 := own_other o40_71 (own_nil v40 W1.heap.size 31 4) (by decide) hg
              obtain ⟨g41, c41, rfl, hc41⟩ := own_one hown
              clear hown hg hat
              refine ⟨I41.keeps, ?_⟩
              simp only [Act.put, List.getElem_toArray, List.getElem_cons_succ, List.getElem_cons_zero, List.setIfInBounds_toArray, List.set_cons_zero, List.set_cons_succ]
              refine wpAnyH_take (i := 17) (oi := _) (v := .pointer (some ⟨w.heap.size + 1 + 1, 1, none⟩)) rfl (by kernel_rfl) (by kernel_rfl) (by kernel_rfl) (fun _ _ _ h => h) (Or.inl ⟨by rfl, fun v hv => by go_simp⟩) I41.keeps ?_
              simp only [Act.put, List.getElem_toArray, List.getElem_cons_succ, List.getElem_cons_zero, List.setIfInBounds_toArray, List.set_cons_zero, List.set_cons_succ]
              refine wpAnyH_all (rs := [18]) (by kernel_rfl) (by decide) ?_
              refine List.forall_mem_singleton.2 ?_
              have q42 := I41.nil HO.out
              have f42 := I41.fz HO.out
              refine op_store (w' := v41.setCell ⟨w.heap.size + 1 + 1, 1, none⟩ (.slice (some ⟨g41, 0, none⟩) 1 c41)) rfl (by rfl) (by go_simp) ⟨I41.keeps.setCell (fun _ => rfl) _, ?_⟩
              refine wpAnyH_done (by kernel_rfl) ?_ _
              go_wp2
              exact ⟨.inr ⟨rfl, cp_done I41 HBx.out HB0.out hsx HO.out o41_67 o41_71 hc41⟩, by decide⟩
            · skip
              refine op_value (v := .slice (some ⟨v36.heap.size, 0, none⟩) 0 0) (w' := v36.alloc (Obj.cells #[] 5 (0, 0))) rfl (by rfl) (by go_simp) ⟨(I36.alloc _).keeps, ?_⟩
              simp only [Act.put, List.getElem_toArray, List.getElem_cons_succ, List.getElem_cons_zero, List.setIfInBounds_toArray, List.set_cons_zero, List.set_cons_succ]
              have I43 := I36.alloc (Obj.cells #[] 5 (0, 0))
              have o43_67 := o36_67.alloc (Obj.cells #[] 5 (0, 0))
              have o43_68 : (v36.alloc (Obj.cells #[] 5 (0, 0))).ownsRow W1.heap.size 5 1 (.slice (some ⟨v36.heap.size, 0, none⟩) 0 0) 0 [] := World.ownsRow_made v36 #[] 0 I36.keeps.size (Nat.zero_le _) rfl
              generalize hv43 : v36.alloc (Obj.cells #[] 5 (0, 0)) = v43 at *
              generalize hz43 : v36.heap.size = z43 at *
              refine wpAnyH_all (rs := [1, 13]) (by kernel_rfl) (by decide) ?_
              refine List.forall_mem_cons.2 ⟨?_, List.forall_mem_singleton.2 ?_⟩
              · skip
                have q44 := I43.nil HO.out
                refine op_value (v := .slice none 0 0) (w' := v43) rfl (by rfl) (by go_simp) ⟨I43.keeps, ?_⟩
                simp only [Act.put, List.getElem_toArray, List.getElem_cons_succ, List.getElem_cons_zero, List.setIfInBounds_toArray, List.set_cons_zero, List.set_cons_succ]
                refine wpAnyH_all (rs := [13]) (by kernel_rfl) (by decide) ?_
                refine List.forall_mem_singleton.2 ?_
                refine op_wp rfl (by rfl) (wp_app v43 (.tmp 68) (.tmp 70) 29 rfl 5 Try.underlying29 byte_info rfl (by decide) (by decide) W1.heap.size (n := 0) (xs := []) rfl o43_68 rfl (by rw [bcells_length, hbs]) (HL2.out _ I43.keeps) (bcells_one _) (by omega) I43.keeps.size ?_)
                intro u45 v45 hown hg hat
                simp only [Nat.zero_add, List.nil_append] at hown
                have I45 := I43.grown o43_68 hg
                have o45_67 := own_other o43_67 o43_68 (by decide) hg
                obtain ⟨A45, c45, rfl, _, _, _⟩ := own_shape hown
                have o45_71 := hown
                clear hown hg hat
                refine ⟨I45.keeps, ?_⟩
                simp only [Act.put, List.getElem_toArray, List.getElem_cons_succ, List.getElem_cons_zero, List.setIfInBounds_toArray, List.set_cons_zero, List.set_cons_succ]
                refine wpAnyH_take (i := 14) (oi := _) (v := .agg #[.int .i64 k, .int .i64 n, .slice A36 a c36, .slice A45 b c45]) rfl (by kernel_rfl) (by kernel_rfl) (by kernel_rfl) (fun _ _ _ h => h) (Or.inl ⟨by rfl, fun v hv => by go_simp⟩) I45.keeps ?_
                simp only [Act.put, List.getElem_toArray, List.getElem_cons_succ, List.getElem_cons_zero, List.setIfInBounds_toArray, List.set_cons_zero, List.set_cons_succ]
                refine wpAnyH_all (rs := [15]) (by kernel_rfl) (by decide) ?_
                refine List.forall_mem_singleton.2 ?_
                refine op_value (v := .slice (some ⟨v45.heap.size, 0, none⟩) 1 1) (w' := v45.alloc (Obj.cells #[.int .i64 k, .int .i64 n, .slice A36 a c36, .slice A45 b c45] 31 (0, 0))) rfl (by rfl) (by go_simp) ⟨(I45.alloc _).keeps, ?_⟩
                simp only [Act.put, List.getElem_toArray, List.getElem_cons_succ, List.getElem_cons_zero, List.setIfInBounds_toArray, List.set_cons_zero, List.set_cons_succ]
                have I46 := I45.alloc (Obj.cells #[.int .i64 k, .int .i64 n, .slice A36 a c36, .slice A45 b c45] 31 (0, 0))
                have l46 := blk_new v45 (Obj.cells #[.int .i64 k, .int .i64 n, .slice A36 a c36, .slice A45 b c45] 31 (0, 0))
                have o46_67 := o45_67.alloc (Obj.cells #[.int .i64 k, .int .i64 n, .slice A36 a c36, .slice A45 b c45] 31 (0, 0))
                have o46_71 := o45_71.alloc (Obj.cells #[.int .i64 k, .int .i64 n, .slice A36 a c36, .slice A45 b c45] 31 (0, 0))
                generalize hv46 : v45.alloc (Obj.cells #[.int .i64 k, .int .i64 n, .slice A36 a c36, .slice A45 b c45] 31 (0, 0)) = v46 at *
                generalize hz46 : v45.heap.size = z46 at *
                refine wpAnyH_all (rs := [16]) (by kernel_rfl) (by decide) ?_
                refine List.forall_mem_singleton.2 ?_
                refine op_wp rfl (by rfl) (wp_app v46 (.tmp 59) (.tmp 73) 34 rfl 31 Try.underlying34 obj_info rfl (by decide) (by decide) W1.heap.size (n := 0) (xs := []) rfl (own_nil _ _ _ _) rfl (news := [.int .i64 k, .int .i64 n, .slice A36 a c36, .slice A45 b c45]) rfl (lie_blk l46 (fun j u hj => by simpa using hj)) obj_one (by decide) I46.keeps.size ?_)
                intro u47 v47 hown hg hat
                simp only [Nat.zero_add, List.nil_append] at hown
                have I47 := I46.grown (own_nil _ _ 31 4) hg
                have o47_67 := own_other o46_67 (own_nil v46 W1.heap.size 31 4) (by decide) hg
                have o47_71 := own_other o46_71 (own_nil v46 W1.heap.size 31 4) (by decide) hg
                obtain ⟨g47, c47, rfl, hc47⟩ := own_one hown
                clear hown hg hat
                refine ⟨I47.keeps, ?_⟩
                simp only [Act.put, List.getElem_toArray, List.getElem_cons_succ, List.getElem_cons_zero, List.setIfInBounds_toArray, List.set_cons_zero, List.set_cons_succ]
                refine wpAnyH_take (i := 17) (oi := _) (v := .pointer (some ⟨w.heap.size + 1 + 1, 1, none⟩)) rfl (by kernel_rfl) (by kernel_rfl) (by kernel_rfl) (fun _ _ _ h => h) (Or.inl ⟨by rfl, fun v hv => by go_simp⟩) I47.keeps ?_
                simp only [Act.put, List.getElem_toArray, List.getElem_cons_succ, List.getElem_cons_zero, List.setIfInBounds_toArray, List.set_cons_zero, List.set_cons_succ]
                refine wpAnyH_all (rs := [18]) (by kernel_rfl) (by decide) ?_
                refine List.forall_mem_singleton.2 ?_
                have q48 := I47.nil HO.out
                have f48 := I47.fz HO.out
                refine op_store (w' := v47.setCell ⟨w.heap.size + 1 + 1, 1, none⟩ (.slice (some ⟨g47, 0, none⟩) 1 c47)) rfl (by rfl) (by go_simp) ⟨I47.keeps.setCell (fun _ => rfl) _, ?_⟩
                refine wpAnyH_done (by kernel_rfl) ?_ _
                go_wp2
                exact ⟨.inr ⟨rfl, cp_done I47 HBx.out HB0.out hsx HO.out o47_67 o47_71 hc47⟩, by decide⟩
              · skip
                refine op_wp rfl (by rfl) (wp_app v43 (.tmp 68) (.tmp 70) 29 rfl 5 Try.underlying29 byte_info rfl (by decide) (by decide) W1.heap.size (n := 0) (xs := []) rfl o43_68 rfl (by rw [bcells_length, hbs]) (HL2.out _ I43.keeps) (bcells_one _) (by omega) I43.keeps.size ?_)
                intro u49 v49 hown hg hat
                simp only [Nat.zero_add, List.nil_append] at hown
                have I49 := I43.grown o43_68 hg
                have o49_67 := own_other o43_67 o43_68 (by decide) hg
                obtain ⟨A49, c49, rfl, _, _, _⟩ := own_shape hown
                have o49_71 := hown
                clear hown hg hat
                refine ⟨I49.keeps, ?_⟩
                simp only [Act.put, List.getElem_toArray, List.getElem_cons_succ, List.getElem_cons_zero, List.setIfInBounds_toArray, List.set_cons_zero, List.set_cons_succ]
                refine wpAnyH_take (i := 14) (oi := _) (v := .agg #[.int .i64 k, .int .i64 n, .slice A36 a c36, .slice A49 b c49]) rfl (by kernel_rfl) (by kernel_rfl) (by kernel_rfl) (fun _ _ _ h => h) (Or.inl ⟨by rfl, fun v hv => by go_simp⟩) I49.keeps ?_
                simp only [Act.put, List.getElem_toArray, List.getElem_cons_succ, List.getElem_cons_zero, List.setIfInBounds_toArray, List.set_cons_zero, List.set_cons_succ]
                refine wpAnyH_all (rs := [1, 15]) (by kernel_rfl) (by decide) ?_
                refine List.forall_mem_cons.2 ⟨?_, List.forall_mem_singleton.2 ?_⟩
                · skip
                  have q50 := I49.nil HO.out
                  refine op_value (v := .slice none 0 0) (w' := v49) rfl (by rfl) (by go_simp) ⟨I49.keeps, ?_⟩
                  simp only [Act.put, List.getElem_toArray, List.getElem_cons_succ, List.getElem_cons_zero, List.setIfInBounds_toArray, List.set_cons_zero, List.set_cons_succ]
                  refine wpAnyH_all (rs := [15]) (by kernel_rfl) (by decide) ?_
                  refine List.forall_mem_singleton.2 ?_
                  refine op_value (v := .slice (some ⟨v49.heap.size, 0, none⟩) 1 1) (w' := v49.alloc (Obj.cells #[.int .i64 k, .int .i64 n, .slice A36 a c36, .slice A49 b c49] 31 (0, 0))) rfl (by rfl) (by go_simp) ⟨(I49.alloc _).keeps, ?_⟩
                  simp only [Act.put, List.getElem_toArray, List.getElem_cons_succ, List.getElem_cons_zero, List.setIfInBounds_toArray, List.set_cons_zero, List.set_cons_succ]
                  have I51 := I49.alloc (Obj.cells #[.int .i64 k, .int .i64 n, .slice A36 a c36, .slice A49 b c49] 31 (0, 0))
                  have l51 := blk_new v49 (Obj.cells #[.int .i64 k, .int .i64 n, .slice A36 a c36, .slice A49 b c49] 31 (0, 0))
                  have o51_67 := o49_67.alloc (Obj.cells #[.int .i64 k, .int .i64 n, .slice A36 a c36, .slice A49 b c49] 31 (0, 0))
                  have o51_71 := o49_71.alloc (Obj.cells #[.int .i64 k, .int .i64 n, .slice A36 a c36, .slice A49 b c49] 31 (0, 0))
                  generalize hv51 : v49.alloc (Obj.cells #[.int .i64 k, .int .i64 n, .slice A36 a c36, .slice A49 b c49] 31 (0, 0)) = v51 at *
                  generalize hz51 : v49.heap.size = z51 at *
                  refine wpAnyH_all (rs := [16]) (by kernel_rfl) (by decide) ?_
                  refine List.forall_mem_singleton.2 ?_
                  refine op_wp rfl (by rfl) (wp_app v51 (.tmp 59) (.tmp 73) 34 rfl 31 Try.underlying34 obj_info rfl (by decide) (by decide) W1.heap.size (n := 0) (xs := []) rfl (own_nil _ _ _ _) rfl (news := [.int .i64 k, .int .i64 n, .slice A36 a c36, .slice A49 b c49]) rfl (lie_blk l51 (fun j u hj => by simpa using hj)) obj_one (by decide) I51.keeps.size ?_)
                  intro u52 v52 hown hg hat
                  simp only [Nat.zero_add, List.nil_append] at hown
                  have I52 := I51.grown (own_nil _ _ 31 4) hg
                  have o52_67 := own_other o51_67 (own_nil v51 W1.heap.size 31 4) (by decide) hg
                  have o52_71 := own_other o51_71 (own_nil v51 W1.heap.size 31 4) (by decide) hg
                  obtain ⟨g52, c52, rfl, hc52⟩ := own_one hown
                  clear hown hg hat
                  refine ⟨I52.keeps, ?_⟩
                  simp only [Act.put, List.getElem_toArray, List.getElem_cons_succ, List.getElem_cons_zero, List.setIfInBounds_toArray, List.set_cons_zero, List.set_cons_succ]
                  refine wpAnyH_take (i := 17) (oi := _) (v := .pointer (some ⟨w.heap.size + 1 + 1, 1, none⟩)) rfl (by kernel_rfl) (by kernel_rfl) (by kernel_rfl) (fun _ _ _ h => h) (Or.inl ⟨by rfl, fun v hv => by go_simp⟩) I52.keeps ?_
                  simp only [Act.put, List.getElem_toArray, List.getElem_cons_succ, List.getElem_cons_zero, List.setIfInBounds_toArray, List.set_cons_zero, List.set_cons_succ]
                  refine wpAnyH_all (rs := [18]) (by kernel_rfl) (by decide) ?_
                  refine List.forall_mem_singleton.2 ?_
                  have q53 := I52.nil HO.out
                  have f53 := I52.fz HO.out
                  refine op_store (w' := v52.setCell ⟨w.heap.size + 1 + 1, 1, none⟩ (.slice (some ⟨g52, 0, none⟩) 1 c52)) rfl (by rfl) (by go_simp) ⟨I52.keeps.setCell (fun _ => rfl) _, ?_⟩
                  refine wpAnyH_done (by kernel_rfl) ?_ _
                  go_wp2
                  exact ⟨.inr ⟨rfl, cp_done I52 HBx.out HB0.out hsx HO.out o52_67 o52_71 hc52⟩, by decide⟩
                · skip
                  refine op_value (v := .slice (some ⟨v49.heap.size, 0, none⟩) 1 1) (w' := v49.alloc (Obj.cells #[.int .i64 k, .int .i64 n, .slice A36 a c36, .slice A49 b c49] 31 (0, 0))) rfl (by rfl) (by go_simp) ⟨(I49.alloc _).keeps, ?_⟩
                  simp only [Act.put, List.getElem_toArray, List.getElem_cons_succ, List.getElem_cons_zero, List.setIfInBounds_toArray, List.set_cons_zero, List.set_cons_succ]
                  have I54 := I49.alloc (Obj.cells #[.int .i64 k, .int .i64 n, .slice A36 a c36, .slice A49 b c49] 31 (0, 0))
                  have l54 := blk_new v49 (Obj.cells #[.int .i64 k, .int .i64 n, .slice A36 a c36, .slice A49 b c49] 31 (0, 0))
                  have o54_67 := o49_67.alloc (Obj.cells #[.int .i64 k, .int .i64 n, .slice A36 a c36, .slice A49 b c49] 31 (0, 0))
                  have o54_71 := o49_71.alloc (Obj.cells #[.int .i64 k, .int .i64 n, .slice A36 a c36, .slice A49 b c49] 31 (0, 0))
                  generalize hv54 : v49.alloc (Obj.cells #[.int .i64 k, .int .i64 n, .slice A36 a c36, .slice A49 b c49] 31 (0, 0)) = v54 at *
                  generalize hz54 : v49.heap.size = z54 at *
                  refine wpAnyH_all (rs := [1]) (by kernel_rfl) (by decide) ?_
                  refine List.forall_mem_singleton.2 ?_
                  have q55 := I54.nil HO.out
                  refine op_value (v := .slice none 0 0) (w' := v54) rfl (by rfl) (by go_simp) ⟨I54.keeps, ?_⟩
                  simp only [Act.put, List.getElem_toArray, List.getElem_cons_succ, List.getElem_cons_zero, List.setIfInBounds_toArray, List.set_cons_zero, List.set_cons_succ]
                  refine wpAnyH_all (rs := [16]) (by kernel_rfl) (by decide) ?_
                  refine List.forall_mem_singleton.2 ?_
                  refine op_wp rfl (by rfl) (wp_app v54 (.tmp 59) (.tmp 73) 34 rfl 31 Try.underlying34 obj_info rfl (by decide) (by decide) W1.heap.size (n := 0) (xs := []) rfl (own_nil _ _ _ _) rfl (news := [.int .i64 k, .int .i64 n, .slice A36 a c36, .slice A49 b c49]) rfl (lie_blk l54 (fun j u hj => by simpa using hj)) obj_one (by decide) I54.keeps.size ?_)
                  intro u56 v56 hown hg hat
                  simp only [Nat.zero_add, List.nil_append] at hown
                  have I56 := I54.grown (own_nil _ _ 31 4) hg
                  have o56_67 := own_other o54_67 (own_nil v54 W1.heap.size 31 4) (by decide) hg
                  have o56_71 := own_other o54_71 (own_nil v54 W1.heap.size 31 4) (by decide) hg
                  obtain ⟨g56, c56, rfl, hc56⟩ := own_one hown
                  clear hown hg hat
                  refine ⟨I56.keeps, ?_⟩
                  simp only [Act.put, List.getElem_toArray, List.getElem_cons_succ, List.getElem_cons_zero, List.setIfInBounds_toArray, List.set_cons_zero, List.set_cons_succ]
                  refine wpAnyH_take (i := 17) (oi := _) (v := .pointer (some ⟨w.heap.size + 1 + 1, 1, none⟩)) rfl (by kernel_rfl) (by kernel_rfl) (by kernel_rfl) (fun _ _ _ h => h) (Or.inl ⟨by rfl, fun v hv => by go_simp⟩) I56.keeps ?_
                  simp only [Act.put, List.getElem_toArray, List.getElem_cons_succ, List.getElem_cons_zero, List.setIfInBounds_toArray, List.set_cons_zero, List.set_cons_succ]
                  refine wpAnyH_all (rs := [18]) (by kernel_rfl) (by decide) ?_
                  refine List.forall_mem_singleton.2 ?_
                  have q57 := I56.nil HO.out
                  have f57 := I56.fz HO.out
                  refine op_store (w' := v56.setCell ⟨w.heap.size + 1 + 1, 1, none⟩ (.slice (some ⟨g56, 0, none⟩) 1 c56)) rfl (by rfl) (by go_simp) ⟨I56.keeps.setCell (fun _ => rfl) _, ?_⟩
                  refine wpAnyH_done (by kernel_rfl) ?_ _
                  go_wp2
                  exact ⟨.inr ⟨rfl, cp_done I56 HBx.out HB0.out hsx HO.out o56_67 o56_71 hc56⟩, by decide⟩
          · skip
            refine op_value (v := .slice (some ⟨v22.heap.size, 0, none⟩) 0 0) (w' := v22.alloc (Obj.cells #[] 5 (0, 0))) rfl (by rfl) (by go_simp) ⟨(I22.alloc _).keeps, ?_⟩
            simp only [Act.put, List.getElem_toArray, List.getElem_cons_succ, List.getElem_cons_zero, List.setIfInBounds_toArray, List.set_cons_zero, List.set_cons_succ]
            have I58 := I22.alloc (Obj.cells #[] 5 (0, 0))
            have o58_64 := o22_64.alloc (Obj.cells #[] 5 (0, 0))
            have o58_68 : (v22.alloc (Obj.cells #[] 5 (0, 0))).ownsRow W1.heap.size 5 1 (.slice (some ⟨v22.heap.size, 0, none⟩) 0 0) 0 [] := World.ownsRow_made v22 #[] 0 I22.keeps.size (Nat.zero_le _) rfl
            generalize hv58 : v22.alloc (Obj.cells #[] 5 (0, 0)) = v58 at *
            generalize hz58 : v22.heap.size = z58 at *
            refine wpAnyH_all (rs := [1, 9]) (by kernel_rfl) (by decide) ?_
            refine List.forall_mem_cons.2 ⟨?_, List.forall_mem_singleton.2 ?_⟩
            · skip
              have q59 := I58.nil HO.out
              refine op_value (v := .slice none 0 0) (w' := v58) rfl (by rfl) (by go_simp) ⟨I58.keeps, ?_⟩
              simp only [Act.put, List.getElem_toArray, List.getElem_cons_succ, List.getElem_cons_zero, List.setIfInBounds_toArray, List.set_cons_zero, List.set_cons_succ]
              refine wpAnyH_all (rs := [9]) (by kernel_rfl) (by decide) ?_
              refine List.forall_mem_singleton.2 ?_
              refine op_wp rfl (by rfl) (wp_app v58 (.tmp 64) (.tmp 66) 28 rfl 25 Try.underlying28 word_info rfl (by decide) (by decide) W1.heap.size (n := 0) (xs := []) rfl o58_64 rfl (by rw [wcells_length, hws]) (HL1.out _ I58.keeps) (wcells_one _) (by omega) I58.keeps.size ?_)
              intro u60 v60 hown hg hat
              simp only [Nat.zero_add, List.nil_append] at hown
              have I60 := I58.grown o58_64 hg
              have o60_68 := own_other o58_68 o58_64 (by decide) hg
              obtain ⟨A60, c60, rfl, _, _, _⟩ := own_shape hown
              have o60_67 := hown
              clear hown hg hat
              refine ⟨I60.keeps, ?_⟩
              simp only [Act.put, List.getElem_toArray, List.getElem_cons_succ, List.getElem_cons_zero, List.setIfInBounds_toArray, List.set_cons_zero, List.set_cons_succ]
              refine wpAnyH_all (rs := [13]) (by kernel_rfl) (by decide) ?_
              refine List.forall_mem_singleton.2 ?_
              refine op_wp rfl (by rfl) (wp_app v60 (.tmp 68) (.tmp 70) 29 rfl 5 Try.underlying29 byte_info rfl (by decide) (by decide) W1.heap.size (n := 0) (xs := []) rfl o60_68 rfl (by rw [bcells_length, hbs]) (HL2.out _ I60.keeps) (bcells_one _) (by omega) I60.keeps.size ?_)
              intro u61 v61 hown hg hat
              simp only [Nat.zero_add, List.nil_append] at hown
              have I61 := I60.grown o60_68 hg
              have o61_67 := own_other o60_67 o60_68 (by decide) hg
              obtain ⟨A61, c61, rfl, _, _, _⟩ := own_shape hown
              have o61_71 := hown
              clear hown hg hat
              refine ⟨I61.keeps, ?_⟩
              simp only [Act.put, List.getElem_toArray, List.getElem_cons_succ, List.getElem_cons_zero, List.setIfInBounds_toArray, List.set_cons_zero, List.set_cons_succ]
              refine wpAnyH_take (i := 14) (oi := _) (v := .agg #[.int .i64 k, .int .i64 n, .slice A60 a c60, .slice A61 b c61]) rfl (by kernel_rfl) (by kernel_rfl) (by kernel_rfl) (fun _ _ _ h => h) (Or.inl ⟨by rfl, fun v hv => by go_simp⟩) I61.keeps ?_
              simp only [Act.put, List.getElem_toArray, List.getElem_cons_succ, List.getElem_cons_zero, List.setIfInBounds_toArray, List.set_cons_zero, List.set_cons_succ]
              refine wpAnyH_all (rs := [15]) (by kernel_rfl) (by decide) ?_
              refine List.forall_mem_singleton.2 ?_
              refine op_value (v := .slice (some ⟨v61.heap.size, 0, none⟩) 1 1) (w' := v61.alloc (Obj.cells #[.int .i64 k, .int .i64 n, .slice A60 a c60, .slice A61 b c61] 31 (0, 0))) rfl (by rfl) (by go_simp) ⟨(I61.alloc _).keeps, ?_⟩
              simp only [Act.put, List.getElem_toArray, List.getElem_cons_succ, List.getElem_cons_zero, List.setIfInBounds_toArray, List.set_cons_zero, List.set_cons_succ]
              have I62 := I61.alloc (Obj.cells #[.int .i64 k, .int .i64 n, .slice A60 a c60, .slice A61 b c61] 31 (0, 0))
              have l62 := blk_new v61 (Obj.cells #[.int .i64 k, .int .i64 n, .slice A60 a c60, .slice A61 b c61] 31 (0, 0))
              have o62_67 := o61_67.alloc (Obj.cells #[.int .i64 k, .int .i64 n, .slice A60 a c60, .slice A61 b c61] 31 (0, 0))
              have o62_71 := o61_71.alloc (Obj.cells #[.int .i64 k, .int .i64 n, .slice A60 a c60, .slice A61 b c61] 31 (0, 0))
              generalize hv62 : v61.alloc (Obj.cells #[.int .i64 k, .int .i64 n, .slice A60 a c60, .slice A61 b c61] 31 (0, 0)) = v62 at *
              generalize hz62 : v61.heap.size = z62 at *
              refine wpAnyH_all (rs := [16]) (by kernel_rfl) (by decide) ?_
              refine List.forall_mem_singleton.2 ?_
              refine op_wp rfl (by rfl) (wp_app v62 (.tmp 59) (.tmp 73) 34 rfl 31 Try.underlying34 obj_info rfl (by decide) (by decide) W1.heap.size (n := 0) (xs := []) rfl (own_nil _ _ _ _) rfl (news := [.int .i64 k, .int .i64 n, .slice A60 a c60, .slice A61 b c61]) rfl (lie_blk l62 (fun j u hj => by simpa using hj)) obj_one (by decide) I62.keeps.size ?_)
              intro u63 v63 hown hg hat
              simp only [Nat.zero_add, List.nil_append] at hown
              have I63 := I62.grown (own_nil _ _ 31 4) hg
              have o63_67 := own_other o62_67 (own_nil v62 W1.heap.size 31 4) (by decide) hg
              have o63_71 := own_other o62_71 (own_nil v62 W1.heap.size 31 4) (by decide) hg
              obtain ⟨g63, c63, rfl, hc63⟩ := own_one hown
              clear hown hg hat
              refine ⟨I63.keeps, ?_⟩
              simp only [Act.put, List.getElem_toArray, List.getElem_cons_succ, List.getElem_cons_zero, List.setIfInBounds_toArray, List.set_cons_zero, List.set_cons_succ]
              refine wpAnyH_take (i := 17) (oi := _) (v := .pointer (some ⟨w.heap.size + 1 + 1, 1, none⟩)) rfl (by kernel_rfl) (by kernel_rfl) (by kernel_rfl) (fun _ _ _ h => h) (Or.inl ⟨by rfl, fun v hv => by go_simp⟩) I63.keeps ?_
              simp only [Act.put, List.getElem_toArray, List.getElem_cons_succ, List.getElem_cons_zero, List.setIfInBounds_toArray, List.set_cons_zero, List.set_cons_succ]
              refine wpAnyH_all (rs := [18]) (by kernel_rfl) (by decide) ?_
              refine List.forall_mem_singleton.2 ?_
              have q64 := I63.nil HO.out
              have f64 := I63.fz HO.out
              refine op_store (w' := v63.setCell ⟨w.heap.size + 1 + 1, 1, none⟩ (.slice (some ⟨g63, 0, none⟩) 1 c63)) rfl (by rfl) (by go_simp) ⟨I63.keeps.setCell (fun _ => rfl) _, ?_⟩
              refine wpAnyH_done (by kernel_rfl) ?_ _
              go_wp2
              exact ⟨.inr ⟨rfl, cp_done I63 HBx.out HB0.out hsx HO.out o63_67 o63_71 hc63⟩, by decide⟩
            · skip
              refine op_wp rfl (by rfl) (wp_app v58 (.tmp 64) (.tmp 66) 28 rfl 25 Try.underlying28 word_info rfl (by decide) (by decide) W1.heap.size (n := 0) (xs := []) rfl o58_64 rfl (by rw [wcells_length, hws]) (HL1.out _ I58.keeps) (wcells_one _) (by omega) I58.keeps.size ?_)
              intro u65 v65 hown hg hat
              simp only [Nat.zero_add, List.nil_append] at hown
              have I65 := I58.grown o58_64 hg
              have o65_68 := own_other o58_68 o58_64 (by decide) hg
              obtain ⟨A65, c65, rfl, _, _, _⟩ := own_shape hown
              have o65_67 := hown
              clear hown hg hat
              refine ⟨I65.keeps, ?_⟩
              simp only [Act.put, List.getElem_toArray, List.getElem_cons_succ, List.getElem_cons_zero, List.setIfInBounds_toArray, List.set_cons_zero, List.set_cons_succ]
              refine wpAnyH_all (rs := [1, 13]) (by kernel_rfl) (by decide) ?_
              refine List.forall_mem_cons.2 ⟨?_, List.forall_mem_singleton.2 ?_⟩
              · skip
                have q66 := I65.nil HO.out
                refine op_value (v := .slice none 0 0) (w' := v65) rfl (by rfl) (by go_simp) ⟨I65.keeps, ?_⟩
                simp only [Act.put, List.getElem_toArray, List.getElem_cons_succ, List.getElem_cons_zero, List.setIfInBounds_toArray, List.set_cons_zero, List.set_cons_succ]
                refine wpAnyH_all (rs := [13]) (by kernel_rfl) (by decide) ?_
                refine List.forall_mem_singleton.2 ?_
                refine op_wp rfl (by rfl) (wp_app v65 (.tmp 68) (.tmp 70) 29 rfl 5 Try.underlying29 byte_info rfl (by decide) (by decide) W1.heap.size (n := 0) (xs := []) rfl o65_68 rfl (by rw [bcells_length, hbs]) (HL2.out _ I65.keeps) (bcells_one _) (by omega) I65.keeps.size ?_)
                intro u67 v67 hown hg hat
                simp only [Nat.zero_add, List.nil_append] at hown
                have I67 := I65.grown o65_68 hg
                have o67_67 := own_other o65_67 o65_68 (by decide) hg
                obtain ⟨A67, c67, rfl, _, _, _⟩ := own_shape hown
                have o67_71 := hown
                clear hown hg hat
                refine ⟨I67.keeps, ?_⟩
                simp only [Act.put, List.getElem_toArray, List.getElem_cons_succ, List.getElem_cons_zero, List.setIfInBounds_toArray, List.set_cons_zero, List.set_cons_succ]
                refine wpAnyH_take (i := 14) (oi := _) (v := .agg #[.int .i64 k, .int .i64 n, .slice A65 a c65, .slice A67 b c67]) rfl (by kernel_rfl) (by kernel_rfl) (by kernel_rfl) (fun _ _ _ h => h) (Or.inl ⟨by rfl, fun v hv => by go_simp⟩) I67.keeps ?_
                simp only [Act.put, List.getElem_toArray, List.getElem_cons_succ, List.getElem_cons_zero, List.setIfInBounds_toArray, List.set_cons_zero, List.set_cons_succ]
                refine wpAnyH_all (rs := [15]) (by kernel_rfl) (by decide) ?_
                refine List.forall_mem_singleton.2 ?_
                refine op_value (v := .slice (some ⟨v67.heap.size, 0, none⟩) 1 1) (w' := v67.alloc (Obj.cells #[.int .i64 k, .int .i64 n, .slice A65 a c65, .slice A67 b c67] 31 (0, 0))) rfl (by rfl) (by go_simp) ⟨(I67.alloc _).keeps, ?_⟩
                simp only [Act.put, List.getElem_toArray, List.getElem_cons_succ, List.getElem_cons_zero, List.setIfInBounds_toArray, List.set_cons_zero, List.set_cons_succ]
                have I68 := I67.alloc (Obj.cells #[.int .i64 k, .int .i64 n, .slice A65 a c65, .slice A67 b c67] 31 (0, 0))
                have l68 := blk_new v67 (Obj.cells #[.int .i64 k, .int .i64 n, .slice A65 a c65, .slice A67 b c67] 31 (0, 0))
                have o68_67 := o67_67.alloc (Obj.cells #[.int .i64 k, .int .i64 n, .slice A65 a c65, .slice A67 b c67] 31 (0, 0))
                have o68_71 := o67_71.alloc (Obj.cells #[.int .i64 k, .int .i64 n, .slice A65 a c65, .slice A67 b c67] 31 (0, 0))
                generalize hv68 : v67.alloc (Obj.cells #[.int .i64 k, .int .i64 n, .slice A65 a c65, .slice A67 b c67] 31 (0, 0)) = v68 at *
                generalize hz68 : v67.heap.size = z68 at *
                refine wpAnyH_all (rs := [16]) (by kernel_rfl) (by decide) ?_
                refine List.forall_mem_singleton.2 ?_
                refine op_wp rfl (by rfl) (wp_app v68 (.tmp 59) (.tmp 73) 34 rfl 31 Try.underlying34 obj_info rfl (by decide) (by decide) W1.heap.size (n := 0) (xs := []) rfl (own_nil _ _ _ _) rfl (news := [.int .i64 k, .int .i64 n, .slice A65 a c65, .slice A67 b c67]) rfl (lie_blk l68 (fun j u hj => by simpa using hj)) obj_one (by decide) I68.keeps.size ?_)
                intro u69 v69 hown hg hat
                simp only [Nat.zero_add, List.nil_append] at hown
                have I69 := I68.grown (own_nil _ _ 31 4) hg
                have o69_67 := own_other o68_67 (own_nil v68 W1.heap.size 31 4) (by decide) hg
                have o69_71 := own_other o68_71 (own_nil v68 W1.heap.size 31 4) (by decide) hg
                obtain ⟨g69, c69, rfl, hc69⟩ := own_one hown
                clear hown hg hat
                refine ⟨I69.keeps, ?_⟩
                simp only [Act.put, List.getElem_toArray, List.getElem_cons_succ, List.getElem_cons_zero, List.setIfInBounds_toArray, List.set_cons_zero, List.set_cons_succ]
                refine wpAnyH_take (i := 17) (oi := _) (v := .pointer (some ⟨w.heap.size + 1 + 1, 1, none⟩)) rfl (by kernel_rfl) (by kernel_rfl) (by kernel_rfl) (fun _ _ _ h => h) (Or.inl ⟨by rfl, fun v hv => by go_simp⟩) I69.keeps ?_
                simp only [Act.put, List.getElem_toArray, List.getElem_cons_succ, List.getElem_cons_zero, List.setIfInBounds_toArray, List.set_cons_zero, List.set_cons_succ]
                refine wpAnyH_all (rs := [18]) (by kernel_rfl) (by decide) ?_
                refine List.forall_mem_singleton.2 ?_
                have q70 := I69.nil HO.out
                have f70 := I69.fz HO.out
                refine op_store (w' := v69.setCell ⟨w.heap.size + 1 + 1, 1, none⟩ (.slice (some ⟨g69, 0, none⟩) 1 c69)) rfl (by rfl) (by go_simp) ⟨I69.keeps.setCell (fun _ => rfl) _, ?_⟩
                refine wpAnyH_done (by kernel_rfl) ?_ _
                go_wp2
                exact ⟨.inr ⟨rfl, cp_done I69 HBx.out HB0.out hsx HO.out o69_67 o69_71 hc69⟩, by decide⟩
              · skip
                refine op_wp rfl (by rfl) (wp_app v65 (.tmp 68) (.tmp 70) 29 rfl 5 Try.underlying29 byte_info rfl (by decide) (by decide) W1.heap.size (n := 0) (xs := []) rfl o65_68 rfl (by rw [bcells_length, hbs]) (HL2.out _ I65.keeps) (bcells_one _) (by omega) I65.keeps.size ?_)
                intro u71 v71 hown hg hat
                simp only [Nat.zero_add, List.nil_append] at hown
                have I71 := I65.grown o65_68 hg
                have o71_67 := own_other o65_67 o65_68 (by decide) hg
                obtain ⟨A71, c71, rfl, _, _, _⟩ := own_shape hown
                have o71_71 := hown
                clear hown hg hat
                refine ⟨I71.keeps, ?_⟩
                simp only [Act.put, List.getElem_toArray, List.getElem_cons_succ, List.getElem_cons_zero, List.setIfInBounds_toArray, List.set_cons_zero, List.set_cons_succ]
                refine wpAnyH_take (i := 14) (oi := _) (v := .agg #[.int .i64 k, .int .i64 n, .slice A65 a c65, .slice A71 b c71]) rfl (by kernel_rfl) (by kernel_rfl) (by kernel_rfl) (fun _ _ _ h => h) (Or.inl ⟨by rfl, fun v hv => by go_simp⟩) I71.keeps ?_
                simp only [Act.put, List.getElem_toArray, List.getElem_cons_succ, List.getElem_cons_zero, List.setIfInBounds_toArray, List.set_cons_zero, List.set_cons_succ]
                refine wpAnyH_all (rs := [1, 15]) (by kernel_rfl) (by decide) ?_
                refine List.forall_mem_cons.2 ⟨?_, List.forall_mem_singleton.2 ?_⟩
                · skip
                  have q72 := I71.nil HO.out
                  refine op_value (v := .slice none 0 0) (w' := v71) rfl (by rfl) (by go_simp) ⟨I71.keeps, ?_⟩
                  simp only [Act.put, List.getElem_toArray, List.getElem_cons_succ, List.getElem_cons_zero, List.setIfInBounds_toArray, List.set_cons_zero, List.set_cons_succ]
                  refine wpAnyH_all (rs := [15]) (by kernel_rfl) (by decide) ?_
                  refine List.forall_mem_singleton.2 ?_
                  refine op_value (v := .slice (some ⟨v71.heap.size, 0, none⟩) 1 1) (w' := v71.alloc (Obj.cells #[.int .i64 k, .int .i64 n, .slice A65 a c65, .slice A71 b c71] 31 (0, 0))) rfl (by rfl) (by go_simp) ⟨(I71.alloc _).keeps, ?_⟩
                  simp only [Act.put, List.getElem_toArray, List.getElem_cons_succ, List.getElem_cons_zero, List.setIfInBounds_toArray, List.set_cons_zero, List.set_cons_succ]
                  have I73 := I71.alloc (Obj.cells #[.int .i64 k, .int .i64 n, .slice A65 a c65, .slice A71 b c71] 31 (0, 0))
                  have l73 := blk_new v71 (Obj.cells #[.int .i64 k, .int .i64 n, .slice A65 a c65, .slice A71 b c71] 31 (0, 0))
                  have o73_67 := o71_67.alloc (Obj.cells #[.int .i64 k, .int .i64 n, .slice A65 a c65, .slice A71 b c71] 31 (0, 0))
                  have o73_71 := o71_71.alloc (Obj.cells #[.int .i64 k, .int .i64 n, .slice A65 a c65, .slice A71 b c71] 31 (0, 0))
                  generalize hv73 : v71.alloc (Obj.cells #[.int .i64 k, .int .i64 n, .slice A65 a c65, .slice A71 b c71] 31 (0, 0)) = v73 at *
                  generalize hz73 : v71.heap.size = z73 at *
                  refine wpAnyH_all (rs := [16]) (by kernel_rfl) (by decide) ?_
                  refine List.forall_mem_singleton.2 ?_
                  refine op_wp rfl (by rfl) (wp_app v73 (.tmp 59) (.tmp 73) 34 rfl 31 Try.underlying34 obj_info rfl (by decide) (by decide) W1.heap.size (n := 0) (xs := []) rfl (own_nil _ _ _ _) rfl (news := [.int .i64 k, .int .i64 n, .slice A65 a c65, .slice A71 b c71]) rfl (lie_blk l73 (fun j u hj => by simpa using hj)) obj_one (by decide) I73.keeps.size ?_)
                  intro u74 v74 hown hg hat
                  simp only [Nat.zero_add, List.nil_append] at hown
                  have I74 := I73.grown (own_nil _ _ 31 4) hg
                  have o74_67 := own_other o73_67 (own_nil v73 W1.heap.size 31 4) (by decide) hg
                  have o74_71 := own_other o73_71 (own_nil v73 W1.heap.size 31 4) (by decide) hg
                  obtain ⟨g74, c74, rfl, hc74⟩ := own_one hown
                  clear hown hg hat
                  refine ⟨I74.keeps, ?_⟩
                  simp only [Act.put, List.getElem_toArray, List.getElem_cons_succ, List.getElem_cons_zero, List.setIfInBounds_toArray, List.set_cons_zero, List.set_cons_succ]
                  refine wpAnyH_take (i := 17) (oi := _) (v := .pointer (some ⟨w.heap.size + 1 + 1, 1, none⟩)) rfl (by kernel_rfl) (by kernel_rfl) (by kernel_rfl) (fun _ _ _ h => h) (Or.inl ⟨by rfl, fun v hv => by go_simp⟩) I74.keeps ?_
                  simp only [Act.put, List.getElem_toArray, List.getElem_cons_succ, List.getElem_cons_zero, List.setIfInBounds_toArray, List.set_cons_zero, List.set_cons_succ]
                  refine wpAnyH_all (rs := [18]) (by kernel_rfl) (by decide) ?_
                  refine List.forall_mem_singleton.2 ?_
                  have q75 := I74.nil HO.out
                  have f75 := I74.fz HO.out
                  refine op_store (w' := v74.setCell ⟨w.heap.size + 1 + 1, 1, none⟩ (.slice (some ⟨g74, 0, none⟩) 1 c74)) rfl (by rfl) (by go_simp) ⟨I74.keeps.setCell (fun _ => rfl) _, ?_⟩
                  refine wpAnyH_done (by kernel_rfl) ?_ _
                  go_wp2
                  exact ⟨.inr ⟨rfl, cp_done I74 HBx.out HB0.out hsx HO.out o74_67 o74_71 hc74⟩, by decide⟩
                · skip
                  refine op_value (v := .slice (some ⟨v71.heap.size, 0, none⟩) 1 1) (w' := v71.alloc (Obj.cells #[.int .i64 k, .int .i64 n, .slice A65 a c65, .slice A71 b c71] 31 (0, 0))) rfl (by rfl) (by go_simp) ⟨(I71.alloc _).keeps, ?_⟩
                  simp only [Act.put, List.getElem_toArray, List.getElem_cons_succ, List.getElem_cons_zero, List.setIfInBounds_toArray, List.set_cons_zero, List.set_cons_succ]
                  have I76 := I71.alloc (Obj.cells #[.int .i64 k, .int .i64 n, .slice A65 a c65, .slice A71 b c71] 31 (0, 0))
                  have l76 := blk_new v71 (Obj.cells #[.int .i64 k, .int .i64 n, .slice A65 a c65, .slice A71 b c71] 31 (0, 0))
                  have o76_67 := o71_67.alloc (Obj.cells #[.int .i64 k, .int .i64 n, .slice A65 a c65, .slice A71 b c71] 31 (0, 0))
                  have o76_71 := o71_71.alloc (Obj.cells #[.int .i64 k, .int .i64 n, .slice A65 a c65, .slice A71 b c71] 31 (0, 0))
                  generalize hv76 : v71.alloc (Obj.cells #[.int .i64 k, .int .i64 n, .slice A65 a c65, .slice A71 b c71] 31 (0, 0)) = v76 at *
                  generalize hz76 : v71.heap.size = z76 at *
                  refine wpAnyH_all (rs := [1]) (by kernel_rfl) (by decide) ?_
                  refine List.forall_mem_singleton.2 ?_
                  have q77 := I76.nil HO.out
                  refine op_value (v := .slice none 0 0) (w' := v76) rfl (by rfl) (by go_simp) ⟨I76.keeps, ?_⟩
                  simp only [Act.put, List.getElem_toArray, List.getElem_cons_succ, List.getElem_cons_zero, List.setIfInBounds_toArray, List.set_cons_zero, List.set_cons_succ]
                  refine wpAnyH_all (rs := [16]) (by kernel_rfl) (by decide) ?_
                  refine List.forall_mem_singleton.2 ?_
                  refine op_wp rfl (by rfl) (wp_app v76 (.tmp 59) (.tmp 73) 34 rfl 31 Try.underlying34 obj_info rfl (by decide) (by decide) W1.heap.size (n := 0) (xs := []) rfl (own_nil _ _ _ _) rfl (news := [.int .i64 k, .int .i64 n, .slice A65 a c65, .slice A71 b c71]) rfl (lie_blk l76 (fun j u hj => by simpa using hj)) obj_one (by decide) I76.keeps.size ?_)
                  intro u78 v78 hown hg hat
                  simp only [Nat.zero_add, List.nil_append] at hown
                  have I78 := I76.grown (own_nil _ _ 31 4) hg
                  have o78_67 := own_other o76_67 (own_nil v76 W1.heap.size 31 4) (by decide) hg
                  have o78_71 := own_other o76_71 (own_nil v76 W1.heap.size 31 4) (by decide) hg
                  obtain ⟨g78, c78, rfl, hc78⟩ := own_one hown
                  clear hown hg hat
                  refine ⟨I78.keeps, ?_⟩
                  simp only [Act.put, List.getElem_toArray, List.getElem_cons_succ, List.getElem_cons_zero, List.setIfInBounds_toArray, List.set_cons_zero, List.set_cons_succ]
                  refine wpAnyH_take (i := 17) (oi := _) (v := .pointer (some ⟨w.heap.size + 1 + 1, 1, none⟩)) rfl (by kernel_rfl) (by kernel_rfl) (by kernel_rfl) (fun _ _ _ h => h) (Or.inl ⟨by rfl, fun v hv => by go_simp⟩) I78.keeps ?_
                  simp only [Act.put, List.getElem_toArray, List.getElem_cons_succ, List.getElem_cons_zero, List.setIfInBounds_toArray, List.set_cons_zero, List.set_cons_succ]
                  refine wpAnyH_all (rs := [18]) (by kernel_rfl) (by decide) ?_
                  refine List.forall_mem_singleton.2 ?_
                  have q79 := I78.nil HO.out
                  have f79 := I78.fz HO.out
                  refine op_store (w' := v78.setCell ⟨w.heap.size + 1 + 1, 1, none⟩ (.slice (some ⟨g78, 0, none⟩) 1 c78)) rfl (by rfl) (by go_simp) ⟨I78.keeps.setCell (fun _ => rfl) _, ?_⟩
                  refine wpAnyH_done (by kernel_rfl) ?_ _
                  go_wp2
                  exact ⟨.inr ⟨rfl, cp_done I78 HBx.out HB0.out hsx HO.out o78_67 o78_71 hc78⟩, by decide⟩
        · skip
          refine op_value (v := .slice (some ⟨v0.heap.size, 0, none⟩) 0 0) (w' := v0.alloc (Obj.cells #[] 5 (0, 0))) rfl (by rfl) (by go_simp) ⟨(I0.alloc _).keeps, ?_⟩
          simp only [Act.put, List.getElem_toArray, List.getElem_cons_succ, List.getElem_cons_zero, List.setIfInBounds_toArray, List.set_cons_zero, List.set_cons_succ]
          have I80 := I0.alloc (Obj.cells #[] 5 (0, 0))
          have o80_68 : (v0.alloc (Obj.cells #[] 5 (0, 0))).ownsRow W1.heap.size 5 1 (.slice (some ⟨v0.heap.size, 0, none⟩) 0 0) 0 [] := World.ownsRow_made v0 #[] 0 I0.keeps.size (Nat.zero_le _) rfl
          generalize hv80 : v0.alloc (Obj.cells #[] 5 (0, 0)) = v80 at *
          generalize hz80 : v0.heap.size = z80 at *
          refine wpAnyH_all (rs := [1, 6]) (by kernel_rfl) (by decide) ?_
          refine List.forall_mem_cons.2 ⟨?_, List.forall_mem_singleton.2 ?_⟩
          · skip
            have q81 := I80.nil HO.out
            refine op_value (v := .slice none 0 0) (w' := v80) rfl (by rfl) (by go_simp) ⟨I80.keeps, ?_⟩
            simp only [Act.put, List.getElem_toArray, List.getElem_cons_succ, List.getElem_cons_zero, List.setIfInBounds_toArray, List.set_cons_zero, List.set_cons_succ]
            refine wpAnyH_all (rs := [6]) (by kernel_rfl) (by decide) ?_
            refine List.forall_mem_singleton.2 ?_
            refine op_value (v := .slice (some ⟨v80.heap.size, 0, none⟩) 0 0) (w' := v80.alloc (Obj.cells #[] 25 (0, 0))) rfl (by rfl) (by go_simp) ⟨(I80.alloc _).keeps, ?_⟩
            simp only [Act.put, List.getElem_toArray, List.getElem_cons_succ, List.getElem_cons_zero, List.setIfInBounds_toArray, List.set_cons_zero, List.set_cons_succ]
            have I82 := I80.alloc (Obj.cells #[] 25 (0, 0))
            have o82_68 := o80_68.alloc (Obj.cells #[] 25 (0, 0))
            have o82_64 : (v80.alloc (Obj.cells #[] 25 (0, 0))).ownsRow W1.heap.size 25 1 (.slice (some ⟨v80.heap.size, 0, none⟩) 0 0) 0 [] := World.ownsRow_made v80 #[] 0 I80.keeps.size (Nat.zero_le _) rfl
            generalize hv82 : v80.alloc (Obj.cells #[] 25 (0, 0)) = v82 at *
            generalize hz82 : v80.heap.size = z82 at *
            refine wpAnyH_all (rs := [9]) (by kernel_rfl) (by decide) ?_
            refine List.forall_mem_singleton.2 ?_
            refine op_wp rfl (by rfl) (wp_app v82 (.tmp 64) (.tmp 66) 28 rfl 25 Try.underlying28 word_info rfl (by decide) (by decide) W1.heap.size (n := 0) (xs := []) rfl o82_64 rfl (by rw [wcells_length, hws]) (HL1.out _ I82.keeps) (wcells_one _) (by omega) I82.keeps.size ?_)
            intro u83 v83 hown hg hat
            simp only [Nat.zero_add, List.nil_append] at hown
            have I83 := I82.grown o82_64 hg
            have o83_68 := own_other o82_68 o82_64 (by decide) hg
            obtain ⟨A83, c83, rfl, _, _, _⟩ := own_shape hown
            have o83_67 := hown
            clear hown hg hat
            refine ⟨I83.keeps, ?_⟩
            simp only [Act.put, List.getElem_toArray, List.getElem_cons_succ, List.getElem_cons_zero, List.setIfInBounds_toArray, List.set_cons_zero, List.set_cons_succ]
            refine wpAnyH_all (rs := [13]) (by kernel_rfl) (by decide) ?_
            refine List.forall_mem_singleton.2 ?_
            refine op_wp rfl (by rfl) (wp_app v83 (.tmp 68) (.tmp 70) 29 rfl 5 Try.underlying29 byte_info rfl (by decide) (by decide) W1.heap.size (n := 0) (xs := []) rfl o83_68 rfl (by rw [bcells_length, hbs]) (HL2.out _ I83.keeps) (bcells_one _) (by omega) I83.keeps.size ?_)
            intro u84 v84 hown hg hat
            simp only [Nat.zero_add, List.nil_append] at hown
            have I84 := I83.grown o83_68 hg
            have o84_67 := own_other o83_67 o83_68 (by decide) hg
            obtain ⟨A84, c84, rfl, _, _, _⟩ := own_shape hown
            have o84_71 := hown
            clear hown hg hat
            refine ⟨I84.keeps, ?_⟩
            simp only [Act.put, List.getElem_toArray, List.getElem_cons_succ, List.getElem_cons_zero, List.setIfInBounds_toArray, List.set_cons_zero, List.set_cons_succ]
            refine wpAnyH_take (i := 14) (oi := _) (v := .agg #[.int .i64 k, .int .i64 n, .slice A83 a c83, .slice A84 b c84]) rfl (by kernel_rfl) (by kernel_rfl) (by kernel_rfl) (fun _ _ _ h => h) (Or.inl ⟨by rfl, fun v hv => by go_simp⟩) I84.keeps ?_
            simp only [Act.put, List.getElem_toArray, List.getElem_cons_succ, List.getElem_cons_zero, List.setIfInBounds_toArray, List.set_cons_zero, List.set_cons_succ]
            refine wpAnyH_all (rs := [15]) (by kernel_rfl) (by decide) ?_
            refine List.forall_mem_singleton.2 ?_
            refine op_value (v := .slice (some ⟨v84.heap.size, 0, none⟩) 1 1) (w' := v84.alloc (Obj.cells #[.int .i64 k, .int .i64 n, .slice A83 a c83, .slice A84 b c84] 31 (0, 0))) rfl (by rfl) (by go_simp) ⟨(I84.alloc _).keeps, ?_⟩
            simp only [Act.put, List.getElem_toArray, List.getElem_cons_succ, List.getElem_cons_zero, List.setIfInBounds_toArray, List.set_cons_zero, List.set_cons_succ]
            have I85 := I84.alloc (Obj.cells #[.int .i64 k, .int .i64 n, .slice A83 a c83, .slice A84 b c84] 31 (0, 0))
            have l85 := blk_new v84 (Obj.cells #[.int .i64 k, .int .i64 n, .slice A83 a c83, .slice A84 b c84] 31 (0, 0))
            have o85_67 := o84_67.alloc (Obj.cells #[.int .i64 k, .int .i64 n, .slice A83 a c83, .slice A84 b c84] 31 (0, 0))
            have o85_71 := o84_71.alloc (Obj.cells #[.int .i64 k, .int .i64 n, .slice A83 a c83, .slice A84 b c84] 31 (0, 0))
            generalize hv85 : v84.alloc (Obj.cells #[.int .i64 k, .int .i64 n, .slice A83 a c83, .slice A84 b c84] 31 (0, 0)) = v85 at *
            generalize hz85 : v84.heap.size = z85 at *
            refine wpAnyH_all (rs := [16]) (by kernel_rfl) (by decide) ?_
            refine List.forall_mem_singleton.2 ?_
            refine op_wp rfl (by rfl) (wp_app v85 (.tmp 59) (.tmp 73) 34 rfl 31 Try.underlying34 obj_info rfl (by decide) (by decide) W1.heap.size (n := 0) (xs := []) rfl (own_nil _ _ _ _) rfl (news := [.int .i64 k, .int .i64 n, .slice A83 a c83, .slice A84 b c84]) rfl (lie_blk l85 (fun j u hj => by simpa using hj)) obj_one (by decide) I85.keeps.size ?_)
            intro u86 v86 hown hg hat
            simp only [Nat.zero_add, List.nil_append] at hown
            have I86 := I85.grown (own_nil _ _ 31 4) hg
            have o86_67 := own_other o85_67 (own_nil v85 W1.heap.size 31 4) (by decide) hg
            have o86_71 := own_other o85_71 (own_nil v85 W1.heap.size 31 4) (by decide) hg
            obtain ⟨g86, c86, rfl, hc86⟩ := own_one hown
            clear hown hg hat
            refine ⟨I86.keeps, ?_⟩
            simp only [Act.put, List.getElem_toArray, List.getElem_cons_succ, List.getElem_cons_zero, List.setIfInBounds_toArray, List.set_cons_zero, List.set_cons_succ]
            refine wpAnyH_take (i := 17) (oi := _) (v := .pointer (some ⟨w.heap.size + 1 + 1, 1, none⟩)) rfl (by kernel_rfl) (by kernel_rfl) (by kernel_rfl) (fun _ _ _ h => h) (Or.inl ⟨by rfl, fun v hv => by go_simp⟩) I86.keeps ?_
            simp only [Act.put, List.getElem_toArray, List.getElem_cons_succ, List.getElem_cons_zero, List.setIfInBounds_toArray, List.set_cons_zero, List.set_cons_succ]
            refine wpAnyH_all (rs := [18]) (by kernel_rfl) (by decide) ?_
            refine List.forall_mem_singleton.2 ?_
            have q87 := I86.nil HO.out
            have f87 := I86.fz HO.out
            refine op_store (w' := v86.setCell ⟨w.heap.size + 1 + 1, 1, none⟩ (.slice (some ⟨g86, 0, none⟩) 1 c86)) rfl (by rfl) (by go_simp) ⟨I86.keeps.setCell (fun _ => rfl) _, ?_⟩
            refine wpAnyH_done (by kernel_rfl) ?_ _
            go_wp2
            exact ⟨.inr ⟨rfl, cp_done I86 HBx.out HB0.out hsx HO.out o86_67 o86_71 hc86⟩, by decide⟩
          · skip
            refine op_value (v := .slice (some ⟨v80.heap.size, 0, none⟩) 0 0) (w' := v80.alloc (Obj.cells #[] 25 (0, 0))) rfl (by rfl) (by go_simp) ⟨(I80.alloc _).keeps, ?_⟩
            simp only [Act.put, List.getElem_toArray, List.getElem_cons_succ, List.getElem_cons_zero, List.setIfInBounds_toArray, List.set_cons_zero, List.set_cons_succ]
            have I88 := I80.alloc (Obj.cells #[] 25 (0, 0))
            have o88_68 := o80_68.alloc (Obj.cells #[] 25 (0, 0))
            have o88_64 : (v80.alloc (Obj.cells #[] 25 (0, 0))).ownsRow W1.heap.size 25 1 (.slice (some ⟨v80.heap.size, 0, none⟩) 0 0) 0 [] := World.ownsRow_made v80 #[] 0 I80.keeps.size (Nat.zero_le _) rfl
            generalize hv88 : v80.alloc (Obj.cells #[] 25 (0, 0)) = v88 at *
            generalize hz88 : v80.heap.size = z88 at *
            refine wpAnyH_all (rs := [1, 9]) (by kernel_rfl) (by decide) ?_
            refine List.forall_mem_cons.2 ⟨?_, List.forall_mem_singleton.2 ?_⟩
            · skip
              have q89 := I88.nil HO.out
              refine op_value (v := .slice none 0 0) (w' := v88) rfl (by rfl) (by go_simp) ⟨I88.keeps, ?_⟩
              simp only [Act.put, List.getElem_toArray, List.getElem_cons_succ, List.getElem_cons_zero, List.setIfInBounds_toArray, List.set_cons_zero, List.set_cons_succ]
              refine wpAnyH_all (rs := [9]) (by kernel_rfl) (by decide) ?_
              refine List.forall_mem_singleton.2 ?_
              refine op_wp rfl (by rfl) (wp_app v88 (.tmp 64) (.tmp 66) 28 rfl 25 Try.underlying28 word_info rfl (by decide) (by decide) W1.heap.size (n := 0) (xs := []) rfl o88_64 rfl (by rw [wcells_length, hws]) (HL1.out _ I88.keeps) (wcells_one _) (by omega) I88.keeps.size ?_)
              intro u90 v90 hown hg hat
              simp only [Nat.zero_add, List.nil_append] at hown
              have I90 := I88.grown o88_64 hg
              have o90_68 := own_other o88_68 o88_64 (by decide) hg
              obtain ⟨A90, c90, rfl, _, _, _⟩ := own_shape hown
              have o90_67 := hown
              clear hown hg hat
              refine ⟨I90.keeps, ?_⟩
              simp only [Act.put, List.getElem_toArray, List.getElem_cons_succ, List.getElem_cons_zero, List.setIfInBounds_toArray, List.set_cons_zero, List.set_cons_succ]
              refine wpAnyH_all (rs := [13]) (by kernel_rfl) (by decide) ?_
              refine List.forall_mem_singleton.2 ?_
              refine op_wp rfl (by rfl) (wp_app v90 (.tmp 68) (.tmp 70) 29 rfl 5 Try.underlying29 byte_info rfl (by decide) (by decide) W1.heap.size (n := 0) (xs := []) rfl o90_68 rfl (by rw [bcells_length, hbs]) (HL2.out _ I90.keeps) (bcells_one _) (by omega) I90.keeps.size ?_)
              intro u91 v91 hown hg hat
              simp only [Nat.zero_add, List.nil_append] at hown
              have I91 := I90.grown o90_68 hg
              have o91_67 := own_other o90_67 o90_68 (by decide) hg
              obtain ⟨A91, c91, rfl, _, _, _⟩ := own_shape hown
              have o91_71 := hown
              clear hown hg hat
              refine ⟨I91.keeps, ?_⟩
              simp only [Act.put, List.getElem_toArray, List.getElem_cons_succ, List.getElem_cons_zero, List.setIfInBounds_toArray, List.set_cons_zero, List.set_cons_succ]
              refine wpAnyH_take (i := 14) (oi := _) (v := .agg #[.int .i64 k, .int .i64 n, .slice A90 a c90, .slice A91 b c91]) rfl (by kernel_rfl) (by kernel_rfl) (by kernel_rfl) (fun _ _ _ h => h) (Or.inl ⟨by rfl, fun v hv => by go_simp⟩) I91.keeps ?_
              simp only [Act.put, List.getElem_toArray, List.getElem_cons_succ, List.getElem_cons_zero, List.setIfInBounds_toArray, List.set_cons_zero, List.set_cons_succ]
              refine wpAnyH_all (rs := [15]) (by kernel_rfl) (by decide) ?_
              refine List.forall_mem_singleton.2 ?_
              refine op_value (v := .slice (some ⟨v91.heap.size, 0, none⟩) 1 1) (w' := v91.alloc (Obj.cells #[.int .i64 k, .int .i64 n, .slice A90 a c90, .slice A91 b c91] 31 (0, 0))) rfl (by rfl) (by go_simp) ⟨(I91.alloc _).keeps, ?_⟩
              simp only [Act.put, List.getElem_toArray, List.getElem_cons_succ, List.getElem_cons_zero, List.setIfInBounds_toArray, List.set_cons_zero, List.set_cons_succ]
              have I92 := I91.alloc (Obj.cells #[.int .i64 k, .int .i64 n, .slice A90 a c90, .slice A91 b c91] 31 (0, 0))
              have l92 := blk_new v91 (Obj.cells #[.int .i64 k, .int .i64 n, .slice A90 a c90, .slice A91 b c91] 31 (0, 0))
              have o92_67 := o91_67.alloc (Obj.cells #[.int .i64 k, .int .i64 n, .slice A90 a c90, .slice A91 b c91] 31 (0, 0))
              have o92_71 := o91_71.alloc (Obj.cells #[.int .i64 k, .int .i64 n, .slice A90 a c90, .slice A91 b c91] 31 (0, 0))
              generalize hv92 : v91.alloc (Obj.cells #[.int .i64 k, .int .i64 n, .slice A90 a c90, .slice A91 b c91] 31 (0, 0)) = v92 at *
              generalize hz92 : v91.heap.size = z92 at *
              refine wpAnyH_all (rs := [16]) (by kernel_rfl) (by decide) ?_
              refine List.forall_mem_singleton.2 ?_
              refine op_wp rfl (by rfl) (wp_app v92 (.tmp 59) (.tmp 73) 34 rfl 31 Try.underlying34 obj_info rfl (by decide) (by decide) W1.heap.size (n := 0) (xs := []) rfl (own_nil _ _ _ _) rfl (news := [.int .i64 k, .int .i64 n, .slice A90 a c90, .slice A91 b c91]) rfl (lie_blk l92 (fun j u hj => by simpa using hj)) obj_one (by decide) I92.keeps.size ?_)
              intro u93 v93 hown hg hat
              simp only [Nat.zero_add, List.nil_append] at hown
              have I93 := I92.grown (own_nil _ _ 31 4) hg
              have o93_67 := own_other o92_67 (own_nil v92 W1.heap.size 31 4) (by decide) hg
              have o93_71 := own_other o92_71 (own_nil v92 W1.heap.size 31 4) (by decide) hg
              obtain ⟨g93, c93, rfl, hc93⟩ := own_one hown
              clear hown hg hat
              refine ⟨I93.keeps, ?_⟩
              simp only [Act.put, List.getElem_toArray, List.getElem_cons_succ, List.getElem_cons_zero, List.setIfInBounds_toArray, List.set_cons_zero, List.set_cons_succ]
              refine wpAnyH_take (i := 17) (oi := _) (v := .pointer (some ⟨w.heap.size + 1 + 1, 1, none⟩)) rfl (by kernel_rfl) (by kernel_rfl) (by kernel_rfl) (fun _ _ _ h => h) (Or.inl ⟨by rfl, fun v hv => by go_simp⟩) I93.keeps ?_
              simp only [Act.put, List.getElem_toArray, List.getElem_cons_succ, List.getElem_cons_zero, List.setIfInBounds_toArray, List.set_cons_zero, List.set_cons_succ]
              refine wpAnyH_all (rs := [18]) (by kernel_rfl) (by decide) ?_
              refine List.forall_mem_singleton.2 ?_
              have q94 := I93.nil HO.out
              have f94 := I93.fz HO.out
              refine op_store (w' := v93.setCell ⟨w.heap.size + 1 + 1, 1, none⟩ (.slice (some ⟨g93, 0, none⟩) 1 c93)) rfl (by rfl) (by go_simp) ⟨I93.keeps.setCell (fun _ => rfl) _, ?_⟩
              refine wpAnyH_done (by kernel_rfl) ?_ _
              go_wp2
              exact ⟨.inr ⟨rfl, cp_done I93 HBx.out HB0.out hsx HO.out o93_67 o93_71 hc93⟩, by decide⟩
            · skip
              refine op_wp rfl (by rfl) (wp_app v88 (.tmp 64) (.tmp 66) 28 rfl 25 Try.underlying28 word_info rfl (by decide) (by decide) W1.heap.size (n := 0) (xs := []) rfl o88_64 rfl (by rw [wcells_length, hws]) (HL1.out _ I88.keeps) (wcells_one _) (by omega) I88.keeps.size ?_)
              intro u95 v95 hown hg hat
              simp only [Nat.zero_add, List.nil_append] at hown
              have I95 := I88.grown o88_64 hg
              have o95_68 := own_other o88_68 o88_64 (by decide) hg
              obtain ⟨A95, c95, rfl, _, _, _⟩ := own_shape hown
              have o95_67 := hown
              clear hown hg hat
              refine ⟨I95.keeps, ?_⟩
              simp only [Act.put, List.getElem_toArray, List.getElem_cons_succ, List.getElem_cons_zero, List.setIfInBounds_toArray, List.set_cons_zero, List.set_cons_succ]
              refine wpAnyH_all (rs := [1, 13]) (by kernel_rfl) (by decide) ?_
              refine List.forall_mem_cons.2 ⟨?_, List.forall_mem_singleton.2 ?_⟩
              · skip
                have q96 := I95.nil HO.out
                refine op_value (v := .slice none 0 0) (w' := v95) rfl (by rfl) (by go_simp) ⟨I95.keeps, ?_⟩
                simp only [Act.put, List.getElem_toArray, List.getElem_cons_succ, List.getElem_cons_zero, List.setIfInBounds_toArray, List.set_cons_zero, List.set_cons_succ]
                refine wpAnyH_all (rs := [13]) (by kernel_rfl) (by decide) ?_
                refine List.forall_mem_singleton.2 ?_
                refine op_wp rfl (by rfl) (wp_app v95 (.tmp 68) (.tmp 70) 29 rfl 5 Try.underlying29 byte_info rfl (by decide) (by decide) W1.heap.size (n := 0) (xs := []) rfl o95_68 rfl (by rw [bcells_length, hbs]) (HL2.out _ I95.keeps) (bcells_one _) (by omega) I95.keeps.size ?_)
                intro u97 v97 hown hg hat
                simp only [Nat.zero_add, List.nil_append] at hown
                have I97 := I95.grown o95_68 hg
                have o97_67 := own_other o95_67 o95_68 (by decide) hg
                obtain ⟨A97, c97, rfl, _, _, _⟩ := own_shape hown
                have o97_71 := hown
                clear hown hg hat
                refine ⟨I97.keeps, ?_⟩
                simp only [Act.put, List.getElem_toArray, List.getElem_cons_succ, List.getElem_cons_zero, List.setIfInBounds_toArray, List.set_cons_zero, List.set_cons_succ]
                refine wpAnyH_take (i := 14) (oi := _) (v := .agg #[.int .i64 k, .int .i64 n, .slice A95 a c95, .slice A97 b c97]) rfl (by kernel_rfl) (by kernel_rfl) (by kernel_rfl) (fun _ _ _ h => h) (Or.inl ⟨by rfl, fun v hv => by go_simp⟩) I97.keeps ?_
                simp only [Act.put, List.getElem_toArray, List.getElem_cons_succ, List.getElem_cons_zero, List.setIfInBounds_toArray, List.set_cons_zero, List.set_cons_succ]
                refine wpAnyH_all (rs := [15]) (by kernel_rfl) (by decide) ?_
                refine List.forall_mem_singleton.2 ?_
                refine op_value (v := .slice (some ⟨v97.heap.size, 0, none⟩) 1 1) (w' := v97.alloc (Obj.cells #[.int .i64 k, .int .i64 n, .slice A95 a c95, .slice A97 b c97] 31 (0, 0))) rfl (by rfl) (by go_simp) ⟨(I97.alloc _).keeps, ?_⟩
                simp only [Act.put, List.getElem_toArray, List.getElem_cons_succ, List.getElem_cons_zero, List.setIfInBounds_toArray, List.set_cons_zero, List.set_cons_succ]
                have I98 := I97.alloc (Obj.cells #[.int .i64 k, .int .i64 n, .slice A95 a c95, .slice A97 b c97] 31 (0, 0))
                have l98 := blk_new v97 (Obj.cells #[.int .i64 k, .int .i64 n, .slice A95 a c95, .slice A97 b c97] 31 (0, 0))
                have o98_67 := o97_67.alloc (Obj.cells #[.int .i64 k, .int .i64 n, .slice A95 a c95, .slice A97 b c97] 31 (0, 0))
                have o98_71 := o97_71.alloc (Obj.cells #[.int .i64 k, .int .i64 n, .slice A95 a c95, .slice A97 b c97] 31 (0, 0))
                generalize hv98 : v97.alloc (Obj.cells #[.int .i64 k, .int .i64 n, .slice A95 a c95, .slice A97 b c97] 31 (0, 0)) = v98 at *
                generalize hz98 : v97.heap.size = z98 at *
                refine wpAnyH_all (rs := [16]) (by kernel_rfl) (by decide) ?_
                refine List.forall_mem_singleton.2 ?_
                refine op_wp rfl (by rfl) (wp_app v98 (.tmp 59) (.tmp 73) 34 rfl 31 Try.underlying34 obj_info rfl (by decide) (by decide) W1.heap.size (n := 0) (xs := []) rfl (own_nil _ _ _ _) rfl (news := [.int .i64 k, .int .i64 n, .slice A95 a c95, .slice A97 b c97]) rfl (lie_blk l98 (fun j u hj => by simpa using hj)) obj_one (by decide) I98.keeps.size ?_)
                intro u99 v99 hown hg hat
                simp only [Nat.zero_add, List.nil_append] at hown
                have I99 := I98.grown (own_nil _ _ 31 4) hg
                have o99_67 := own_other o98_67 (own_nil v98 W1.heap.size 31 4) (by decide) hg
                have o99_71 := own_other o98_71 (own_nil v98 W1.heap.size 31 4) (by decide) hg
                obtain ⟨g99, c99, rfl, hc99⟩ := own_one hown
                clear hown hg hat
                refine ⟨I99.keeps, ?_⟩
                simp only [Act.put, List.getElem_toArray, List.getElem_cons_succ, List.getElem_cons_zero, List.setIfInBounds_toArray, List.set_cons_zero, List.set_cons_succ]
                refine wpAnyH_take (i := 17) (oi := _) (v := .pointer (some ⟨w.heap.size + 1 + 1, 1, none⟩)) rfl (by kernel_rfl) (by kernel_rfl) (by kernel_rfl) (fun _ _ _ h => h) (Or.inl ⟨by rfl, fun v hv => by go_simp⟩) I99.keeps ?_
                simp only [Act.put, List.getElem_toArray, List.getElem_cons_succ, List.getElem_cons_zero, List.setIfInBounds_toArray, List.set_cons_zero, List.set_cons_succ]
                refine wpAnyH_all (rs := [18]) (by kernel_rfl) (by decide) ?_
                refine List.forall_mem_singleton.2 ?_
                have q100 := I99.nil HO.out
                have f100 := I99.fz HO.out
                refine op_store (w' := v99.setCell ⟨w.heap.size + 1 + 1, 1, none⟩ (.slice (some ⟨g99, 0, none⟩) 1 c99)) rfl (by rfl) (by go_simp) ⟨I99.keeps.setCell (fun _ => rfl) _, ?_⟩
                refine wpAnyH_done (by kernel_rfl) ?_ _
                go_wp2
                exact ⟨.inr ⟨rfl, cp_done I99 HBx.out HB0.out hsx HO.out o99_67 o99_71 hc99⟩, by decide⟩
              · skip
                refine op_wp rfl (by rfl) (wp_app v95 (.tmp 68) (.tmp 70) 29 rfl 5 Try.underlying29 byte_info rfl (by decide) (by decide) W1.heap.size (n := 0) (xs := []) rfl o95_68 rfl (by rw [bcells_length, hbs]) (HL2.out _ I95.keeps) (bcells_one _) (by omega) I95.keeps.size ?_)
                intro u101 v101 hown hg hat
                simp only [Nat.zero_add, List.nil_append] at hown
                have I101 := I95.grown o95_68 hg
                have o101_67 := own_other o95_67 o95_68 (by decide) hg
                obtain ⟨A101, c101, rfl, _, _, _⟩ := own_shape hown
                have o101_71 := hown
                clear hown hg hat
                refine ⟨I101.keeps, ?_⟩
                simp only [Act.put, List.getElem_toArray, List.getElem_cons_succ, List.getElem_cons_zero, List.setIfInBounds_toArray, List.set_cons_zero, List.set_cons_succ]
                refine wpAnyH_take (i := 14) (oi := _) (v := .agg #[.int .i64 k, .int .i64 n, .slice A95 a c95, .slice A101 b c101]) rfl (by kernel_rfl) (by kernel_rfl) (by kernel_rfl) (fun _ _ _ h => h) (Or.inl ⟨by rfl, fun v hv => by go_simp⟩) I101.keeps ?_
                simp only [Act.put, List.getElem_toArray, List.getElem_cons_succ, List.getElem_cons_zero, List.setIfInBounds_toArray, List.set_cons_zero, List.set_cons_succ]
                refine wpAnyH_all (rs := [1, 15]) (by kernel_rfl) (by decide) ?_
                refine List.forall_mem_cons.2 ⟨?_, List.forall_mem_singleton.2 ?_⟩
                · skip
                  have q102 := I101.nil HO.out
                  refine op_value (v := .slice none 0 0) (w' := v101) rfl (by rfl) (by go_simp) ⟨I101.keeps, ?_⟩
                  simp only [Act.put, List.getElem_toArray, List.getElem_cons_succ, List.getElem_cons_zero, List.setIfInBounds_toArray, List.set_cons_zero, List.set_cons_succ]
                  refine wpAnyH_all (rs := [15]) (by kernel_rfl) (by decide) ?_
                  refine List.forall_mem_singleton.2 ?_
                  refine op_value (v := .slice (some ⟨v101.heap.size, 0, none⟩) 1 1) (w' := v101.alloc (Obj.cells #[.int .i64 k, .int .i64 n, .slice A95 a c95, .slice A101 b c101] 31 (0, 0))) rfl (by rfl) (by go_simp) ⟨(I101.alloc _).keeps, ?_⟩
                  simp only [Act.put, List.getElem_toArray, List.getElem_cons_succ, List.getElem_cons_zero, List.setIfInBounds_toArray, List.set_cons_zero, List.set_cons_succ]
                  have I103 := I101.alloc (Obj.cells #[.int .i64 k, .int .i64 n, .slice A95 a c95, .slice A101 b c101] 31 (0, 0))
                  have l103 := blk_new v101 (Obj.cells #[.int .i64 k, .int .i64 n, .slice A95 a c95, .slice A101 b c101] 31 (0, 0))
                  have o103_67 := o101_67.alloc (Obj.cells #[.int .i64 k, .int .i64 n, .slice A95 a c95, .slice A101 b c101] 31 (0, 0))
                  have o103_71 := o101_71.alloc (Obj.cells #[.int .i64 k, .int .i64 n, .slice A95 a c95, .slice A101 b c101] 31 (0, 0))
                  generalize hv103 : v101.alloc (Obj.cells #[.int .i64 k, .int .i64 n, .slice A95 a c95, .slice A101 b c101] 31 (0, 0)) = v103 at *
                  generalize hz103 : v101.heap.size = z103 at *
                  refine wpAnyH_all (rs := [16]) (by kernel_rfl) (by decide) ?_
                  refine List.forall_mem_singleton.2 ?_
                  refine op_wp rfl (by rfl) (wp_app v103 (.tmp 59) (.tmp 73) 34 rfl 31 Try.underlying34 obj_info rfl (by decide) (by decide) W1.heap.size (n := 0) (xs := []) rfl (own_nil _ _ _ _) rfl (news := [.int .i64 k, .int .i64 n, .slice A95 a c95, .slice A101 b c101]) rfl (lie_blk l103 (fun j u hj => by simpa using hj)) obj_one (by decide) I103.keeps.size ?_)
                  intro u104 v104 hown hg hat
                  simp only [Nat.zero_add, List.nil_append] at hown
                  have I104 := I103.grown (own_nil _ _ 31 4) hg
                  have o104_67 := own_other o103_67 (own_nil v103 W1.heap.size 31 4) (by decide) hg
                  have o104_71 := own_other o103_71 (own_nil v103 W1.heap.size 31 4) (by decide) hg
                  obtain ⟨g104, c104, rfl, hc104⟩ := own_one hown
                  clear hown hg hat
                  refine ⟨I104.keeps, ?_⟩
                  simp only [Act.put, List.getElem_toArray, List.getElem_cons_succ, List.getElem_cons_zero, List.setIfInBounds_toArray, List.set_cons_zero, List.set_cons_succ]
                  refine wpAnyH_take (i := 17) (oi := _) (v := .pointer (some ⟨w.heap.size + 1 + 1, 1, none⟩)) rfl (by kernel_rfl) (by kernel_rfl) (by kernel_rfl) (fun _ _ _ h => h) (Or.inl ⟨by rfl, fun v hv => by go_simp⟩) I104.keeps ?_
                  simp only [Act.put, List.getElem_toArray, List.getElem_cons_succ, List.getElem_cons_zero, List.setIfInBounds_toArray, List.set_cons_zero, List.set_cons_succ]
                  refine wpAnyH_all (rs := [18]) (by kernel_rfl) (by decide) ?_
                  refine List.forall_mem_singleton.2 ?_
                  have q105 := I104.nil HO.out
                  have f105 := I104.fz HO.out
                  refine op_store (w' := v104.setCell ⟨w.heap.size + 1 + 1, 1, none⟩ (.slice (some ⟨g104, 0, none⟩) 1 c104)) rfl (by rfl) (by go_simp) ⟨I104.keeps.setCell (fun _ => rfl) _, ?_⟩
                  refine wpAnyH_done (by kernel_rfl) ?_ _
                  go_wp2
                  exact ⟨.inr ⟨rfl, cp_done I104 HBx.out HB0.out hsx HO.out o104_67 o104_71 hc104⟩, by decide⟩
                · skip
                  refine op_value (v := .slice (some ⟨v101.heap.size, 0, none⟩) 1 1) (w' := v101.alloc (Obj.cells #[.int .i64 k, .int .i64 n, .slice A95 a c95, .slice A101 b c101] 31 (0, 0))) rfl (by rfl) (by go_simp) ⟨(I101.alloc _).keeps, ?_⟩
                  simp only [Act.put, List.getElem_toArray, List.getElem_cons_succ, List.getElem_cons_zero, List.setIfInBounds_toArray, List.set_cons_zero, List.set_cons_succ]
                  have I106 := I101.alloc (Obj.cells #[.int .i64 k, .int .i64 n, .slice A95 a c95, .slice A101 b c101] 31 (0, 0))
                  have l106 := blk_new v101 (Obj.cells #[.int .i64 k, .int .i64 n, .slice A95 a c95, .slice A101 b c101] 31 (0, 0))
                  have o106_67 := o101_67.alloc (Obj.cells #[.int .i64 k, .int .i64 n, .slice A95 a c95, .slice A101 b c101] 31 (0, 0))
                  have o106_71 := o101_71.alloc (Obj.cells #[.int .i64 k, .int .i64 n, .slice A95 a c95, .slice A101 b c101] 31 (0, 0))
                  generalize hv106 : v101.alloc (Obj.cells #[.int .i64 k, .int .i64 n, .slice A95 a c95, .slice A101 b c101] 31 (0, 0)) = v106 at *
                  generalize hz106 : v101.heap.size = z106 at *
                  refine wpAnyH_all (rs := [1]) (by kernel_rfl) (by decide) ?_
                  refine List.forall_mem_singleton.2 ?_
                  have q107 := I106.nil HO.out
                  refine op_value (v := .slice none 0 0) (w' := v106) rfl (by rfl) (by go_simp) ⟨I106.keeps, ?_⟩
                  simp only [Act.put, List.getElem_toArray, List.getElem_cons_succ, List.getElem_cons_zero, List.setIfInBounds_toArray, List.set_cons_zero, List.set_cons_succ]
                  refine wpAnyH_all (rs := [16]) (by kernel_rfl) (by decide) ?_
                  refine List.forall_mem_singleton.2 ?_
                  refine op_wp rfl (by rfl) (wp_app v106 (.tmp 59) (.tmp 73) 34 rfl 31 Try.underlying34 obj_info rfl (by decide) (by decide) W1.heap.size (n := 0) (xs := []) rfl (own_nil _ _ _ _) rfl (news := [.int .i64 k, .int .i64 n, .slice A95 a c95, .slice A101 b c101]) rfl (lie_blk l106 (fun j u hj => by simpa using hj)) obj_one (by decide) I106.keeps.size ?_)
                  intro u108 v108 hown hg hat
                  simp only [Nat.zero_add, List.nil_append] at hown
                  have I108 := I106.grown (own_nil _ _ 31 4) hg
                  have o108_67 := own_other o106_67 (own_nil v106 W1.heap.size 31 4) (by decide) hg
                  have o108_71 := own_other o106_71 (own_nil v106 W1.heap.size 31 4) (by decide) hg
                  obtain ⟨g108, c108, rfl, hc108⟩ := own_one hown
                  clear hown hg hat
                  refine ⟨I108.keeps, ?_⟩
                  simp only [Act.put, List.getElem_toArray, List.getElem_cons_succ, List.getElem_cons_zero, List.setIfInBounds_toArray, List.set_cons_zero, List.set_cons_succ]
                  refine wpAnyH_take (i := 17) (oi := _) (v := .pointer (some ⟨w.heap.size + 1 + 1, 1, none⟩)) rfl (by kernel_rfl) (by kernel_rfl) (by kernel_rfl) (fun _ _ _ h => h) (Or.inl ⟨by rfl, fun v hv => by go_simp⟩) I108.keeps ?_
                  simp only [Act.put, List.getElem_toArray, List.getElem_cons_succ, List.getElem_cons_zero, List.setIfInBounds_toArray, List.set_cons_zero, List.set_cons_succ]
                  refine wpAnyH_all (rs := [18]) (by kernel_rfl) (by decide) ?_
                  refine List.forall_mem_singleton.2 ?_
                  have q109 := I108.nil HO.out
                  have f109 := I108.fz HO.out
                  refine op_store (w' := v108.setCell ⟨w.heap.size + 1 + 1, 1, none⟩ (.slice (some ⟨g108, 0, none⟩) 1 c108)) rfl (by rfl) (by go_simp) ⟨I108.keeps.setCell (fun _ => rfl) _, ?_⟩
                  refine wpAnyH_done (by kernel_rfl) ?_ _
                  go_wp2
                  exact ⟨.inr ⟨rfl, cp_done I108 HBx.out HB0.out hsx HO.out o108_67 o108_71 hc108⟩, by decide⟩
      · obtain ⟨g, c', A', B', cw, cb, h0, h1, h2, hg, d0, d1, d2, d3, ow, ob, hbd⟩ := hd
        have z0 := blk_cell (h0.trans H0.out)
        have z1 := blk_cell (h1.trans H1.out)
        have z2 := blk_cell h2
        have p0 := z0 1
        have r0 := z1 0
        have r1 := z1 1
        have r2 := z1 2
        have r3 := z1 3
        have r4 := z1 4
        have r5 := z1 5
        have r6 := z1 6
        have s0 := z2 0
        have s1 := z2 1
        have s2 := z2 2
        have s3 := z2 3
        have s4 := z2 4
        have s5 := z2 5
        have s6 := z2 6
        have fz := blk_frozen (h1.trans H1.out)
        simp at p0 r0 r1 r2 r3 r4 r5 r6 s0 s1 s2 s3 s4 s5 s6
        clear z0 z1 z2
        go_wp2
        have hcell := blk_cell (set7 (h1.trans H1.out) (.slice none 0 0) (.slice (some ⟨g, 0, none⟩) 1 c') (.slice (some ⟨w.heap.size + 1 + 1 + 1, 0, none⟩) 0 0) (.int .i64 0) (.int .i64 0) (.int .i64 0) (.int .u64 0))
        have hc0 := hcell 0
        have hc1 := hcell 1
        have hc2 := hcell 2
        have hc3 := hcell 3
        have hc4 := hcell 4
        have hc5 := hcell 5
        have hc6 := hcell 6
        simp only [List.getElem?_toArray, List.getElem?_cons_zero, List.getElem?_cons_succ] at hc0 hc1 hc2 hc3 hc4 hc5 hc6
        have hfar := fun x (hx : x ≠ w.heap.size + 1) => far7 (W := wr) (b := w.heap.size + 1) hx (.slice none 0 0) (.slice (some ⟨g, 0, none⟩) 1 c') (.slice (some ⟨w.heap.size + 1 + 1 + 1, 0, none⟩) 0 0) (.int .i64 0) (.int .i64 0) (.int .i64 0) (.int .u64 0)
        have hcg := fun j => World.cell?_of_block (a := ⟨g, j, none⟩) (hfar g (by omega))
        refine bodyPost_ret (v := .agg #[.slice none 0 0, .slice (some ⟨g, 0, none⟩) 1 c', .slice (some ⟨w.heap.size + 1 + 1 + 1, 0, none⟩) 0 0, .int .i64 0, .int .i64 0, .int .i64 0, .int .u64 0]) (by simp [results, Try.results30, go_sem, hc0, hc1, hc2, hc3, hc4, hc5, hc6]) rfl ?_
        exact ⟨g, c', _, _, _, rfl, (hcg 0).trans d0, (hcg 1).trans d1, (hcg 2).trans d2, (hcg 3).trans d3, own_base (own_keep ow (fun x hx => hfar x (by have := (ow.lt x hx).1; omega))) (by omega), own_base (own_keep ob (fun x hx => hfar x (by have := (ob.lt x hx).1; omega))) (by omega), below7 hbd (by omega) _ _ _ _ _ _ _⟩
end Go.Proofs.Ytmcjjikhdjoopaa
