/- slices.Backward at bytes. -/
import Derived.Test.YtjcceabdphkalaaBytes
import Derived.RangeFuncBox
import Derived.RangeFuncLeaves
import Derived.Shelf.Abstract
import Derived.OwnWalkIn
import Derived.TacticsInMore
import Derived.LoopNIn
import Derived.LoopIn
namespace Go.Proofs.Ytjcceabdphkalaa
open Go.RowKit Go.Shelf
set_option linter.unusedVariables false
attribute [local go_sem] Oper.semAt_some
theorem keeps_cell {G : Nat → Prop} {w w' : World} {b o : Nat} {v : Value} (h : Keeps G w w') (hb : ¬ G b) (hc : w.cell? ⟨b, o, none⟩ = some v) : w'.cell? ⟨b, o, none⟩ = w.cell? ⟨b, o, none⟩ :=
  World.cell?_of_block (a := ⟨b, o, none⟩) (h.block b (World.block_lt_of_cell? w _ hc) hb)
theorem keepsK_b {G : Nat → Prop} {w : World} (hG : ∀ l, w.heap.size ≤ l → G l) (W : World) (l : Nat) (o o' : Go.Obj) (hl : w.heap.size ≤ l) (h : W.heap[l]? = some o) (_ : o.isCells = false) (_ : o.isWalk = false) : Keeps G W (W.putObj l o') :=
  (Keeps.refl G W).grown (grownBy_putObj' W l o') (fun g e _ => by cases e; exact hG _ hl)
/-- The indexes from n - 1 down to k. -/
def downto (n k : Nat) : List Nat := (List.range' k (n - k)).reverse
theorem downto_all (n : Nat) : downto n n = [] := by simp [downto]
theorem downto_step {n k : Nat} (h : k < n) : downto n k = downto n (k + 1) ++ [k] := by
  unfold downto
  rw [show n - k = (n - (k + 1)) + 1 by omega, List.range'_succ, List.reverse_cons]
theorem downto_length (n k : Nat) : (downto n k).length = n - k := by simp [downto]
set_option maxRecDepth 100000 in
set_option maxHeartbeats 2000000 in
theorem back1_in (F : Fence) (n : Nat) (hf : F.fn 70) (hro : F.round = none) (hn : 1 ≤ n) (G : Nat → Prop) (l Bs b off len cap : Nat) (bs : List Int) (hlen : len ≤ 1000000) (hb : ¬ G b) (J Jx : List Nat → World → Prop)
    (hY : ∀ (pre : List Nat) (x : Nat) (W : World), J pre W → pre.length < len → YieldAt F (n - 1) Try.prog l #[.int .i64 (x : Int), .int .u8 (bs[x]?.getD 0)] W fun e W' =>
      (e = .returned (.bool true) ∧ J (pre ++ [x]) W' ∧ Keeps G W W') ∨ (e = .returned (.bool false) ∧ Jx (pre ++ [x]) W'))
    (W : World) (hBs : W.cell? ⟨Bs, 0, none⟩ = some (.slice (some ⟨b, off, none⟩) len cap)) (hBn : ¬ G Bs) (hc : ∀ j, j < len → W.cell? ⟨b, off + j, none⟩ = some (.int .u8 (bs[j]?.getD 0))) (h0 : J [] W) :
    CallsIn F n Try.prog 70 #[.func (.yield l) #[] #[], .pointer (some ⟨Bs, 0, none⟩)] W fun e W' => (∃ v, e = .returned v) ∧
      ((∃ ys, ys = downto len 0 ∧ J ys W') ∨ (∃ pre, True ∧ Jx pre W')) := by
  refine callsIn_of_wp Try.func70 rfl hf ?_ hro
  simp only [Try.ntmps70, List.size_toArray, List.length_cons, List.length_nil, Nat.reduceAdd, Nat.reduceSub, Array.replicate_succ, Array.replicate_zero, List.push_toArray, List.append_toArray, List.nil_append, List.cons_append]
  gi_wp2
  gi_loopw [3] (fun i wr => ∃ k : Nat, k ≤ len ∧ i = .int .i64 ((k : Int) - 1) ∧ J (downto len k) wr ∧ Keeps G W wr)
    (fun i _ => (intOf i + 1).toNat)
  case atStart => exact ⟨len, Nat.le_refl _, rfl, by rw [downto_all]; exact h0, Keeps.refl _ _⟩
  case round =>
    obtain ⟨k, hk, rfl, hJs, hnx⟩ := hrel
    have hbs := (keeps_cell hnx hBn hBs).trans hBs
    by_cases hlt : 0 < k
    · obtain ⟨j, rfl⟩ : ∃ j, k = j + 1 := ⟨k - 1, by omega⟩
      have hcx := (keeps_cell hnx hb (hc j (by omega))).trans (hc j (by omega))
      have ej : (((j + 1 : Nat) : Int) - 1) = (j : Int) := by omega
      have hd := Lib.hid (downto_step (show j < len by omega))
      obtain ⟨fn, tmps, assign, body, hy, hR⟩ := hY _ j wr hJs (by rw [downto_length]; omega)
      rw [ej]
      clear ej
      gi_wp2
      refine hR.mono ?_
      rintro e W3 (⟨rfl, hJ3, hk3⟩ | ⟨rfl, hJx3⟩)
      · gi_wp2
        go_roundw
        case rel => exact ⟨j, by omega, by rfl, by rw [hd.out]; exact hJ3, hnx.trans hk3⟩
        case measure => simp [intOf]
      · gi_wp2
        refine bodyPost_ret (results_none rfl _ _ _) rfl ?_
        exact ⟨⟨_, rfl⟩, .inr ⟨_, trivial, hJx3⟩⟩
    · obtain rfl : k = 0 := by omega
      gi_wp2
      go_end0
      exact ⟨⟨_, rfl⟩, .inl ⟨_, rfl, hJs⟩⟩
set_option maxRecDepth 100000 in
set_option maxHeartbeats 1000000 in
theorem back1_nil_in (F : Fence) (n : Nat) (hf : F.fn 70) (hro : F.round = none) (l Bs : Nat) (A : Option Addr) (c : Nat) (J : List Nat → World → Prop) (W : World) (hBs : W.cell? ⟨Bs, 0, none⟩ = some (.slice A 0 c)) (h0 : J [] W) :
    CallsIn F n Try.prog 70 #[.func (.yield l) #[] #[], .pointer (some ⟨Bs, 0, none⟩)] W fun e W' => (∃ v, e = .returned v) ∧ J [] W' := by
  refine callsIn_of_wp Try.func70 rfl hf ?_ hro
  simp only [Try.ntmps70, List.size_toArray, List.length_cons, List.length_nil, Nat.reduceAdd, Nat.reduceSub, Array.replicate_succ, Array.replicate_zero, List.push_toArray, List.append_toArray, List.nil_append, List.cons_append]
  gi_wp2
  gi_loopw [3] (fun i wr => i = .int .i64 (-1) ∧ J [] wr) (fun _ _ => 0)
  case atStart => exact ⟨rfl, h0⟩
  case round =>
    obtain ⟨rfl, hJs⟩ := hrel
    gi_wp2
    go_end0
    exact ⟨⟨_, rfl⟩, hJs⟩
set_option maxHeartbeats 1000000 in
theorem back_in (F : Fence) (n : Nat) (hf : F.fn 69) (hro : F.round = none) (a : Option Addr) (len cap : Nat) (w : World) :
    CallsIn F n Try.prog 69 #[.slice a len cap] w fun e w' => e = .returned (.func (.func 70) #[] #[.pointer (some ⟨w.heap.size, 0, none⟩)]) ∧ w' = w.alloc (.cells #[.slice a len cap] 29) := by
  refine callsIn_of_wp Try.func69 rfl hf ?_ hro
  simp only [Try.ntmps69, List.size_toArray, List.length_cons, List.length_nil, Nat.reduceAdd, Nat.reduceSub, Array.replicate_succ, Array.replicate_zero, List.push_toArray, List.append_toArray, List.nil_append, List.cons_append]
  gi_wp2
  go_ret
  exact ⟨rfl, rfl⟩
/-- Its rounds: all indexes, from the last one down. -/
theorem back_stops (F : Fence) (n : Nat) (hf : F.fn 70) (hro : F.round = none) (hn : 1 ≤ n) (G : Nat → Prop) (Bs : Nat) (A : Option Addr) (len c : Nat) (bs : List Int) (hl : bs.length = len) (hlen : len ≤ 1000000) (w : World) (hBs : Bs < w.heap.size) (hGs : ¬ G Bs)
    (hc : w.cell? ⟨Bs, 0, none⟩ = some (.slice A len c)) (hI : 0 < len → ∃ b off, A = some ⟨b, off, none⟩ ∧ ¬ G b ∧ ∀ j, j < len → w.cell? ⟨b, off + j, none⟩ = some (.int .u8 (bs[j]?.getD 0))) :
    SeqStopsK F n Try.prog 70 #[.pointer (some ⟨Bs, 0, none⟩)] (fun x : Nat => #[Value.int .i64 (x : Int), .int .u8 (bs[x]?.getD 0)]) (Keeps G) (fun ys => ys = downto len 0) (fun _ => True) len w := fun l J Jx W hW _ _ hY h0 => by
  have hc' := (hW.cell (p := ⟨Bs, 0, none⟩) hBs).trans hc
  rcases Nat.eq_zero_or_pos len with h | h
  · subst h
    exact (back1_nil_in F n hf hro l Bs A c J W hc' h0).mono fun e W' ⟨he, hj⟩ => ⟨he, .inl ⟨_, rfl, hj⟩⟩
  · obtain ⟨b, off, rfl, hb, hcs⟩ := hI h
    exact back1_in F n hf hro hn G l Bs b off len c bs hlen hb J Jx hY W hc' hGs (fun j hj => (hW.cell (p := ⟨b, off + j, none⟩) (World.block_lt_of_cell? w _ (hcs j hj))).trans (hcs j hj)) h0
end Go.Proofs.Ytjcceabdphkalaa
