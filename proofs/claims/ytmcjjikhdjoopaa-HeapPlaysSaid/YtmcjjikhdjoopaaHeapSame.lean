/- The law's own 'same': what is wanted, over objects that it owns. Printed by gen_heapsame.py of this repo. -/
import Derived.Test.YtmcjjikhdjoopaaHeapCp
namespace Go.Proofs.Ytmcjjikhdjoopaa
open Go.RowKit
set_option linter.unusedVariables false
theorem u8_to64 {x : Int} (h : 0 ≤ x ∧ x ≤ 255) : IntKind.u64.wrap x = x := IntWalk.u64_in _ (by omega)
theorem mod256 {y : Int} (h : 0 ≤ y) : y.tmod 256 = y % 256 := Int.tmod_eq_emod_of_nonneg h
theorem wrap_mod {y : Int} : IntKind.u8.wrap (y % 256) = y % 256 := IntWalk.u8_in _ (by omega)
set_option maxRecDepth 100000 in
set_option maxHeartbeats 4000000 in
theorem same_none (w : World) (A : Option Addr) (m c : Nat) (what k nn : Int) (Ao Bo : Option Addr) (ao co bo d0 : Nat) (r n y : Int) (hm : m ≤ 10000) (h : r = 0 ∨ (m : Int) < r) (h0 : 0 ≤ r) :
    Calls Try.prog 33 #[.slice A m c, .agg #[.int .i64 what, .int .i64 k, .int .i64 nn, .slice Ao ao co, .slice Bo bo d0, .int .u64 r, .int .u64 n, .int .u64 y]] w fun e w' => e = .returned (.tuple #[.int .u64 0, .int .i64 4]) ∧ Below w.heap.size w w' := by
  have hw : IntKind.u64.wrap (m : Int) = m := IntWalk.u64_in _ (by omega)
  by_cases h1 : r = 0
  · subst h1
    go_enter Try.func33, Try.ntmps33
    go_wp2
    exact bodyPost_ret (v := .tuple #[.int .u64 0, .int .i64 4]) (by simp [results, Try.results33, go_sem]) rfl ⟨rfl, (Below.refl _ _).alloc (Nat.le_refl _) _⟩
  · have h2 : (m : Int) < r := by omega
    have h3 : (r == 0) = false := by rw [beq_eq_false_iff_ne]; exact h1
    go_enter Try.func33, Try.ntmps33
    go_wp2
    exact bodyPost_ret (v := .tuple #[.int .u64 0, .int .i64 4]) (by simp [results, Try.results33, go_sem]) rfl ⟨rfl, (Below.refl _ _).alloc (Nat.le_refl _) _⟩
set_option maxRecDepth 100000 in
set_option maxHeartbeats 4000000 in
theorem same_far1 (w : World) (g m c i : Nat) (k0 n0 : Int) (A1 B1 : Option Addr) (a1 c1 b1 d1 : Nat) (k nn : Int) (Ao Bo : Option Addr) (ao co bo d0 : Nat) (n : Nat) (y : Int) (hm : m ≤ 10000) (hi : i < m) (hc : m ≤ c)
    (e0 : w.cell? ⟨g, i * 4, none⟩ = some (.int .i64 k0)) (e1 : w.cell? ⟨g, i * 4 + 1, none⟩ = some (.int .i64 n0)) (e2 : w.cell? ⟨g, i * 4 + 2, none⟩ = some (.slice A1 a1 c1)) (e3 : w.cell? ⟨g, i * 4 + 3, none⟩ = some (.slice B1 b1 d1)) (ha : a1 ≤ 1000000) (hb : b1 ≤ 1000000) (hf : a1 ≤ n) :
    Calls Try.prog 33 #[.slice (some ⟨g, 0, none⟩) m c, .agg #[.int .i64 1, .int .i64 k, .int .i64 nn, .slice Ao ao co, .slice Bo bo d0, .int .u64 ((i : Int) + 1), .int .u64 (n : Int), .int .u64 y]] w fun e w' => e = .returned (.tuple #[.int .u64 0, .int .i64 3]) ∧ Below w.heap.size w w' := by
  have hw : IntKind.u64.wrap (m : Int) = m := IntWalk.u64_in _ (by omega)
  have hwa : IntKind.u64.wrap (a1 : Int) = a1 := IntWalk.u64_in _ (by omega)
  have hwb : IntKind.u64.wrap (b1 : Int) = b1 := IntWalk.u64_in _ (by omega)
  have h3 : ((i : Int) + 1 == 0) = false := by rw [beq_eq_false_iff_ne]; omega
  have h4 : ¬ (m : Int) < (i : Int) + 1 := by omega
  have hg := World.block_lt_of_cell? w _ e0
  have q0 := fun o => (((Below.refl w.heap.size w).alloc (Nat.le_refl _) o).cell (p := ⟨g, i * 4, none⟩) hg).trans e0
  have q1 := fun o => (((Below.refl w.heap.size w).alloc (Nat.le_refl _) o).cell (p := ⟨g, i * 4 + 1, none⟩) hg).trans e1
  have q2 := fun o => (((Below.refl w.heap.size w).alloc (Nat.le_refl _) o).cell (p := ⟨g, i * 4 + 2, none⟩) hg).trans e2
  have q3 := fun o => (((Below.refl w.heap.size w).alloc (Nat.le_refl _) o).cell (p := ⟨g, i * 4 + 3, none⟩) hg).trans e3
  have h5 : (a1 : Int) ≤ (n : Int) := by omega
  go_enter Try.func33, Try.ntmps33
  go_wp2
  exact bodyPost_ret (v := .tuple #[.int .u64 0, .int .i64 3]) (by simp [results, Try.results33, go_sem]) rfl ⟨rfl, ((Below.refl w.heap.size w).alloc (Nat.le_refl _) _).alloc (by simp) _⟩
set_option maxRecDepth 100000 in
set_option maxHeartbeats 4000000 in
theorem same_far2 (w : World) (g m c i : Nat) (k0 n0 : Int) (A1 B1 : Option Addr) (a1 c1 b1 d1 : Nat) (k nn : Int) (Ao Bo : Option Addr) (ao co bo d0 : Nat) (n : Nat) (y : Int) (hm : m ≤ 10000) (hi : i < m) (hc : m ≤ c)
    (e0 : w.cell? ⟨g, i * 4, none⟩ = some (.int .i64 k0)) (e1 : w.cell? ⟨g, i * 4 + 1, none⟩ = some (.int .i64 n0)) (e2 : w.cell? ⟨g, i * 4 + 2, none⟩ = some (.slice A1 a1 c1)) (e3 : w.cell? ⟨g, i * 4 + 3, none⟩ = some (.slice B1 b1 d1)) (ha : a1 ≤ 1000000) (hb : b1 ≤ 1000000) (hf : a1 ≤ n) :
    Calls Try.prog 33 #[.slice (some ⟨g, 0, none⟩) m c, .agg #[.int .i64 2, .int .i64 k, .int .i64 nn, .slice Ao ao co, .slice Bo bo d0, .int .u64 ((i : Int) + 1), .int .u64 (n : Int), .int .u64 y]] w fun e w' => e = .returned (.tuple #[.int .u64 0, .int .i64 3]) ∧ Below w.heap.size w w' := by
  have hw : IntKind.u64.wrap (m : Int) = m := IntWalk.u64_in _ (by omega)
  have hwa : IntKind.u64.wrap (a1 : Int) = a1 := IntWalk.u64_in _ (by omega)
  have hwb : IntKind.u64.wrap (b1 : Int) = b1 := IntWalk.u64_in _ (by omega)
  have h3 : ((i : Int) + 1 == 0) = false := by rw [beq_eq_false_iff_ne]; omega
  have h4 : ¬ (m : Int) < (i : Int) + 1 := by omega
  have hg := World.block_lt_of_cell? w _ e0
  have q0 := fun o => (((Below.refl w.heap.size w).alloc (Nat.le_refl _) o).cell (p := ⟨g, i * 4, none⟩) hg).trans e0
  have q1 := fun o => (((Below.refl w.heap.size w).alloc (Nat.le_refl _) o).cell (p := ⟨g, i * 4 + 1, none⟩) hg).trans e1
  have q2 := fun o => (((Below.refl w.heap.size w).alloc (Nat.le_refl _) o).cell (p := ⟨g, i * 4 + 2, none⟩) hg).trans e2
  have q3 := fun o => (((Below.refl w.heap.size w).alloc (Nat.le_refl _) o).cell (p := ⟨g, i * 4 + 3, none⟩) hg).trans e3
  have h5 : (a1 : Int) ≤ (n : Int) := by omega
  go_enter Try.func33, Try.ntmps33
  go_wp2
  exact bodyPost_ret (v := .tuple #[.int .u64 0, .int .i64 3]) (by simp [results, Try.results33, go_sem]) rfl ⟨rfl, ((Below.refl w.heap.size w).alloc (Nat.le_refl _) _).alloc (by simp) _⟩
set_option maxRecDepth 100000 in
set_option maxHeartbeats 4000000 in
theorem same_far3 (w : World) (g m c i : Nat) (k0 n0 : Int) (A1 B1 : Option Addr) (a1 c1 b1 d1 : Nat) (k nn : Int) (Ao Bo : Option Addr) (ao co bo d0 : Nat) (n : Nat) (y : Int) (hm : m ≤ 10000) (hi : i < m) (hc : m ≤ c)
    (e0 : w.cell? ⟨g, i * 4, none⟩ = some (.int .i64 k0)) (e1 : w.cell? ⟨g, i * 4 + 1, none⟩ = some (.int .i64 n0)) (e2 : w.cell? ⟨g, i * 4 + 2, none⟩ = some (.slice A1 a1 c1)) (e3 : w.cell? ⟨g, i * 4 + 3, none⟩ = some (.slice B1 b1 d1)) (ha : a1 ≤ 1000000) (hb : b1 ≤ 1000000) (hf : b1 ≤ n) :
    Calls Try.prog 33 #[.slice (some ⟨g, 0, none⟩) m c, .agg #[.int .i64 3, .int .i64 k, .int .i64 nn, .slice Ao ao co, .slice Bo bo d0, .int .u64 ((i : Int) + 1), .int .u64 (n : Int), .int .u64 y]] w fun e w' => e = .returned (.tuple #[.int .u64 0, .int .i64 3]) ∧ Below w.heap.size w w' := by
  have hw : IntKind.u64.wrap (m : Int) = m := IntWalk.u64_in _ (by omega)
  have hwa : IntKind.u64.wrap (a1 : Int) = a1 := IntWalk.u64_in _ (by omega)
  have hwb : IntKind.u64.wrap (b1 : Int) = b1 := IntWalk.u64_in _ (by omega)
  have h3 : ((i : Int) + 1 == 0) = false := by rw [beq_eq_false_iff_ne]; omega
  have h4 : ¬ (m : Int) < (i : Int) + 1 := by omega
  have hg := World.block_lt_of_cell? w _ e0
  have q0 := fun o => (((Below.refl w.heap.size w).alloc (Nat.le_refl _) o).cell (p := ⟨g, i * 4, none⟩) hg).trans e0
  have q1 := fun o => (((Below.refl w.heap.size w).alloc (Nat.le_refl _) o).cell (p := ⟨g, i * 4 + 1, none⟩) hg).trans e1
  have q2 := fun o => (((Below.refl w.heap.size w).alloc (Nat.le_refl _) o).cell (p := ⟨g, i * 4 + 2, none⟩) hg).trans e2
  have q3 := fun o => (((Below.refl w.heap.size w).alloc (Nat.le_refl _) o).cell (p := ⟨g, i * 4 + 3, none⟩) hg).trans e3
  have h5 : (b1 : Int) ≤ (n : Int) := by omega
  go_enter Try.func33, Try.ntmps33
  go_wp2
  exact bodyPost_ret (v := .tuple #[.int .u64 0, .int .i64 3]) (by simp [results, Try.results33, go_sem]) rfl ⟨rfl, ((Below.refl w.heap.size w).alloc (Nat.le_refl _) _).alloc (by simp) _⟩
set_option maxRecDepth 100000 in
set_option maxHeartbeats 4000000 in
theorem same_far4 (w : World) (g m c i : Nat) (k0 n0 : Int) (A1 B1 : Option Addr) (a1 c1 b1 d1 : Nat) (k nn : Int) (Ao Bo : Option Addr) (ao co bo d0 : Nat) (n : Nat) (y : Int) (hm : m ≤ 10000) (hi : i < m) (hc : m ≤ c)
    (e0 : w.cell? ⟨g, i * 4, none⟩ = some (.int .i64 k0)) (e1 : w.cell? ⟨g, i * 4 + 1, none⟩ = some (.int .i64 n0)) (e2 : w.cell? ⟨g, i * 4 + 2, none⟩ = some (.slice A1 a1 c1)) (e3 : w.cell? ⟨g, i * 4 + 3, none⟩ = some (.slice B1 b1 d1)) (ha : a1 ≤ 1000000) (hb : b1 ≤ 1000000) (hf : b1 ≤ n) :
    Calls Try.prog 33 #[.slice (some ⟨g, 0, none⟩) m c, .agg #[.int .i64 4, .int .i64 k, .int .i64 nn, .slice Ao ao co, .slice Bo bo d0, .int .u64 ((i : Int) + 1), .int .u64 (n : Int), .int .u64 y]] w fun e w' => e = .returned (.tuple #[.int .u64 0, .int .i64 3]) ∧ Below w.heap.size w w' := by
  have hw : IntKind.u64.wrap (m : Int) = m := IntWalk.u64_in _ (by omega)
  have hwa : IntKind.u64.wrap (a1 : Int) = a1 := IntWalk.u64_in _ (by omega)
  have hwb : IntKind.u64.wrap (b1 : Int) = b1 := IntWalk.u64_in _ (by omega)
  have h3 : ((i : Int) + 1 == 0) = false := by rw [beq_eq_false_iff_ne]; omega
  have h4 : ¬ (m : Int) < (i : Int) + 1 := by omega
  have hg := World.block_lt_of_cell? w _ e0
  have q0 := fun o => (((Below.refl w.heap.size w).alloc (Nat.le_refl _) o).cell (p := ⟨g, i * 4, none⟩) hg).trans e0
  have q1 := fun o => (((Below.refl w.heap.size w).alloc (Nat.le_refl _) o).cell (p := ⟨g, i * 4 + 1, none⟩) hg).trans e1
  have q2 := fun o => (((Below.refl w.heap.size w).alloc (Nat.le_refl _) o).cell (p := ⟨g, i * 4 + 2, none⟩) hg).trans e2
  have q3 := fun o => (((Below.refl w.heap.size w).alloc (Nat.le_refl _) o).cell (p := ⟨g, i * 4 + 3, none⟩) hg).trans e3
  have h5 : (b1 : Int) ≤ (n : Int) := by omega
  go_enter Try.func33, Try.ntmps33
  go_wp2
  exact bodyPost_ret (v := .tuple #[.int .u64 0, .int .i64 3]) (by simp [results, Try.results33, go_sem]) rfl ⟨rfl, ((Below.refl w.heap.size w).alloc (Nat.le_refl _) _).alloc (by simp) _⟩
set_option maxRecDepth 100000 in
set_option maxHeartbeats 4000000 in
theorem same_ok1 (w : World) (g m c i : Nat) (k0 n0 : Int) (B1 : Option Addr) (b : Nat) (a1 c1 b1 d1 : Nat) (k nn : Int) (Ao Bo : Option Addr) (ao co bo d0 : Nat) (n : Nat) (y : Int) (hm : m ≤ 10000) (hi : i < m) (hc : m ≤ c)
    (e0 : w.cell? ⟨g, i * 4, none⟩ = some (.int .i64 k0)) (e1 : w.cell? ⟨g, i * 4 + 1, none⟩ = some (.int .i64 n0)) (e2 : w.cell? ⟨g, i * 4 + 2, none⟩ = some (.slice (some ⟨b, 0, none⟩) a1 c1)) (e3 : w.cell? ⟨g, i * 4 + 3, none⟩ = some (.slice B1 b1 d1)) (ha : a1 ≤ 1000000) (hb : b1 ≤ 1000000) (hf : n < a1) (hac : a1 ≤ c1) (x : Int) (hx : w.cell? ⟨b, n, none⟩ = some (.int .u64 x)) :
    Calls Try.prog 33 #[.slice (some ⟨g, 0, none⟩) m c, .agg #[.int .i64 1, .int .i64 k, .int .i64 nn, .slice Ao ao co, .slice Bo bo d0, .int .u64 ((i : Int) + 1), .int .u64 (n : Int), .int .u64 y]] w fun e w' => e = .returned (.tuple #[.int .u64 x, .int .i64 0]) ∧ Below w.heap.size w w' := by
  have hw : IntKind.u64.wrap (m : Int) = m := IntWalk.u64_in _ (by omega)
  have hwa : IntKind.u64.wrap (a1 : Int) = a1 := IntWalk.u64_in _ (by omega)
  have hwb : IntKind.u64.wrap (b1 : Int) = b1 := IntWalk.u64_in _ (by omega)
  have h3 : ((i : Int) + 1 == 0) = false := by rw [beq_eq_false_iff_ne]; omega
  have h4 : ¬ (m : Int) < (i : Int) + 1 := by omega
  have hg := World.block_lt_of_cell? w _ e0
  have q0 := fun o => (((Below.refl w.heap.size w).alloc (Nat.le_refl _) o).cell (p := ⟨g, i * 4, none⟩) hg).trans e0
  have q1 := fun o => (((Below.refl w.heap.size w).alloc (Nat.le_refl _) o).cell (p := ⟨g, i * 4 + 1, none⟩) hg).trans e1
  have q2 := fun o => (((Below.refl w.heap.size w).alloc (Nat.le_refl _) o).cell (p := ⟨g, i * 4 + 2, none⟩) hg).trans e2
  have q3 := fun o => (((Below.refl w.heap.size w).alloc (Nat.le_refl _) o).cell (p := ⟨g, i * 4 + 3, none⟩) hg).trans e3
  have hbk := World.block_lt_of_cell? w _ hx
  have qx := fun o o' => ((((Below.refl w.heap.size w).alloc (Nat.le_refl _) o).alloc (by simp) o').cell (p := ⟨b, n, none⟩) hbk).trans hx
  have h5 : ¬ ((a1 : Nat) : Int) ≤ (n : Int) := by omega
  go_enter Try.func33, Try.ntmps33
  go_wp2
  exact bodyPost_ret (v := .tuple #[.int .u64 x, .int .i64 0]) (by simp [results, Try.results33, go_sem]) rfl ⟨rfl, ((Below.refl w.heap.size w).alloc (Nat.le_refl _) _).alloc (by simp) _⟩
set_option maxRecDepth 100000 in
set_option maxHeartbeats 4000000 in
theorem same_ok3 (w : World) (g m c i : Nat) (k0 n0 : Int) (A1 : Option Addr) (b : Nat) (a1 c1 b1 d1 : Nat) (k nn : Int) (Ao Bo : Option Addr) (ao co bo d0 : Nat) (n : Nat) (y : Int) (hm : m ≤ 10000) (hi : i < m) (hc : m ≤ c)
    (e0 : w.cell? ⟨g, i * 4, none⟩ = some (.int .i64 k0)) (e1 : w.cell? ⟨g, i * 4 + 1, none⟩ = some (.int .i64 n0)) (e2 : w.cell? ⟨g, i * 4 + 2, none⟩ = some (.slice A1 a1 c1)) (e3 : w.cell? ⟨g, i * 4 + 3, none⟩ = some (.slice (some ⟨b, 0, none⟩) b1 d1)) (ha : a1 ≤ 1000000) (hb : b1 ≤ 1000000) (hf : n < b1) (hac : b1 ≤ d1) (x : Int) (hx : w.cell? ⟨b, n, none⟩ = some (.int .u8 x)) (hx0 : 0 ≤ x ∧ x ≤ 255) :
    Calls Try.prog 33 #[.slice (some ⟨g, 0, none⟩) m c, .agg #[.int .i64 3, .int .i64 k, .int .i64 nn, .slice Ao ao co, .slice Bo bo d0, .int .u64 ((i : Int) + 1), .int .u64 (n : Int), .int .u64 y]] w fun e w' => e = .returned (.tuple #[.int .u64 x, .int .i64 0]) ∧ Below w.heap.size w w' := by
  have hw : IntKind.u64.wrap (m : Int) = m := IntWalk.u64_in _ (by omega)
  have hwa : IntKind.u64.wrap (a1 : Int) = a1 := IntWalk.u64_in _ (by omega)
  have hwb : IntKind.u64.wrap (b1 : Int) = b1 := IntWalk.u64_in _ (by omega)
  have h3 : ((i : Int) + 1 == 0) = false := by rw [beq_eq_false_iff_ne]; omega
  have h4 : ¬ (m : Int) < (i : Int) + 1 := by omega
  have hg := World.block_lt_of_cell? w _ e0
  have q0 := fun o => (((Below.refl w.heap.size w).alloc (Nat.le_refl _) o).cell (p := ⟨g, i * 4, none⟩) hg).trans e0
  have q1 := fun o => (((Below.refl w.heap.size w).alloc (Nat.le_refl _) o).cell (p := ⟨g, i * 4 + 1, none⟩) hg).trans e1
  have q2 := fun o => (((Below.refl w.heap.size w).alloc (Nat.le_refl _) o).cell (p := ⟨g, i * 4 + 2, none⟩) hg).trans e2
  have q3 := fun o => (((Below.refl w.heap.size w).alloc (Nat.le_refl _) o).cell (p := ⟨g, i * 4 + 3, none⟩) hg).trans e3
  have hbk := World.block_lt_of_cell? w _ hx
  have qx := fun o o' => ((((Below.refl w.heap.size w).alloc (Nat.le_refl _) o).alloc (by simp) o').cell (p := ⟨b, n, none⟩) hbk).trans hx
  have h5 : ¬ ((b1 : Nat) : Int) ≤ (n : Int) := by omega
  have hwx := u8_to64 hx0
  go_enter Try.func33, Try.ntmps33
  go_wp2
  exact bodyPost_ret (v := .tuple #[.int .u64 x, .int .i64 0]) (by simp [results, Try.results33, go_sem]) rfl ⟨rfl, ((Below.refl w.heap.size w).alloc (Nat.le_refl _) _).alloc (by simp) _⟩
set_option maxRecDepth 100000 in
set_option maxHeartbeats 4000000 in
theorem same_ok2 (w : World) (g m c i : Nat) (k0 n0 : Int) (B1 : Option Addr) (b : Nat) (a1 c1 b1 d1 : Nat) (k nn : Int) (Ao Bo : Option Addr) (ao co bo d0 : Nat) (n : Nat) (y : Int) (hm : m ≤ 10000) (hi : i < m) (hc : m ≤ c)
    (e0 : w.cell? ⟨g, i * 4, none⟩ = some (.int .i64 k0)) (e1 : w.cell? ⟨g, i * 4 + 1, none⟩ = some (.int .i64 n0)) (e2 : w.cell? ⟨g, i * 4 + 2, none⟩ = some (.slice (some ⟨b, 0, none⟩) a1 c1)) (e3 : w.cell? ⟨g, i * 4 + 3, none⟩ = some (.slice B1 b1 d1)) (ha : a1 ≤ 1000000) (hb : b1 ≤ 1000000) (hf : n < a1) (hac : a1 ≤ c1) (x : Int) (hx : w.cell? ⟨b, n, none⟩ = some (.int .u64 x)) (hfz : w.frozen? ⟨b, n, none⟩ = false) :
    Calls Try.prog 33 #[.slice (some ⟨g, 0, none⟩) m c, .agg #[.int .i64 2, .int .i64 k, .int .i64 nn, .slice Ao ao co, .slice Bo bo d0, .int .u64 ((i : Int) + 1), .int .u64 (n : Int), .int .u64 y]] w fun e w' => e = .returned (.tuple #[.int .u64 0, .int .i64 0]) ∧ (∃ o o', w' = ((w.setCell ⟨b, n, none⟩ (.int .u64 y)).alloc o).alloc o') := by
  have hw : IntKind.u64.wrap (m : Int) = m := IntWalk.u64_in _ (by omega)
  have hwa : IntKind.u64.wrap (a1 : Int) = a1 := IntWalk.u64_in _ (by omega)
  have hwb : IntKind.u64.wrap (b1 : Int) = b1 := IntWalk.u64_in _ (by omega)
  have h3 : ((i : Int) + 1 == 0) = false := by rw [beq_eq_false_iff_ne]; omega
  have h4 : ¬ (m : Int) < (i : Int) + 1 := by omega
  have hg := World.block_lt_of_cell? w _ e0
  have q0 := fun o => (((Below.refl w.heap.size w).alloc (Nat.le_refl _) o).cell (p := ⟨g, i * 4, none⟩) hg).trans e0
  have q1 := fun o => (((Below.refl w.heap.size w).alloc (Nat.le_refl _) o).cell (p := ⟨g, i * 4 + 1, none⟩) hg).trans e1
  have q2 := fun o => (((Below.refl w.heap.size w).alloc (Nat.le_refl _) o).cell (p := ⟨g, i * 4 + 2, none⟩) hg).trans e2
  have q3 := fun o => (((Below.refl w.heap.size w).alloc (Nat.le_refl _) o).cell (p := ⟨g, i * 4 + 3, none⟩) hg).trans e3
  have hbk := World.block_lt_of_cell? w _ hx
  have qx := fun o o' => ((((Below.refl w.heap.size w).alloc (Nat.le_refl _) o).alloc (by simp) o').cell (p := ⟨b, n, none⟩) hbk).trans hx
  have h5 : ¬ ((a1 : Nat) : Int) ≤ (n : Int) := by omega
  have qf := fun o o' => ((((Below.refl w.heap.size w).alloc (Nat.le_refl _) o).alloc (by simp) o').frozen (p := ⟨b, n, none⟩) hbk).trans hfz
  go_enter Try.func33, Try.ntmps33
  go_wp2
  exact bodyPost_ret (v := .tuple #[.int .u64 0, .int .i64 0]) (by simp [results, Try.results33, go_sem]) rfl ⟨rfl, _, _, rfl⟩
set_option maxRecDepth 100000 in
set_option maxHeartbeats 4000000 in
theorem same_ok4 (w : World) (g m c i : Nat) (k0 n0 : Int) (A1 : Option Addr) (b : Nat) (a1 c1 b1 d1 : Nat) (k nn : Int) (Ao Bo : Option Addr) (ao co bo d0 : Nat) (n : Nat) (y : Int) (hm : m ≤ 10000) (hi : i < m) (hc : m ≤ c)
    (e0 : w.cell? ⟨g, i * 4, none⟩ = some (.int .i64 k0)) (e1 : w.cell? ⟨g, i * 4 + 1, none⟩ = some (.int .i64 n0)) (e2 : w.cell? ⟨g, i * 4 + 2, none⟩ = some (.slice A1 a1 c1)) (e3 : w.cell? ⟨g, i * 4 + 3, none⟩ = some (.slice (some ⟨b, 0, none⟩) b1 d1)) (ha : a1 ≤ 1000000) (hb : b1 ≤ 1000000) (hf : n < b1) (hac : b1 ≤ d1) (x : Int) (hx : w.cell? ⟨b, n, none⟩ = some (.int .u8 x)) (hfz : w.frozen? ⟨b, n, none⟩ = false) (hy : 0 ≤ y) :
    Calls Try.prog 33 #[.slice (some ⟨g, 0, none⟩) m c, .agg #[.int .i64 4, .int .i64 k, .int .i64 nn, .slice Ao ao co, .slice Bo bo d0, .int .u64 ((i : Int) + 1), .int .u64 (n : Int), .int .u64 y]] w fun e w' => e = .returned (.tuple #[.int .u64 0, .int .i64 0]) ∧ (∃ o o', w' = ((w.setCell ⟨b, n, none⟩ (.int .u8 (y % 256))).alloc o).alloc o') := by
  have hw : IntKind.u64.wrap (m : Int) = m := IntWalk.u64_in _ (by omega)
  have hwa : IntKind.u64.wrap (a1 : Int) = a1 := IntWalk.u64_in _ (by omega)
  have hwb : IntKind.u64.wrap (b1 : Int) = b1 := IntWalk.u64_in _ (by omega)
  have h3 : ((i : Int) + 1 == 0) = false := by rw [beq_eq_false_iff_ne]; omega
  have h4 : ¬ (m : Int) < (i : Int) + 1 := by omega
  have hg := World.block_lt_of_cell? w _ e0
  have q0 := fun o => (((Below.refl w.heap.size w).alloc (Nat.le_refl _) o).cell (p := ⟨g, i * 4, none⟩) hg).trans e0
  have q1 := fun o => (((Below.refl w.heap.size w).alloc (Nat.le_refl _) o).cell (p := ⟨g, i * 4 + 1, none⟩) hg).trans e1
  have q2 := fun o => (((Below.refl w.heap.size w).alloc (Nat.le_refl _) o).cell (p := ⟨g, i * 4 + 2, none⟩) hg).trans e2
  have q3 := fun o => (((Below.refl w.heap.size w).alloc (Nat.le_refl _) o).cell (p := ⟨g, i * 4 + 3, none⟩) hg).trans e3
  have hbk := World.block_lt_of_cell? w _ hx
  have qx := fun o o' => ((((Below.refl w.heap.size w).alloc (Nat.le_refl _) o).alloc (by simp) o').cell (p := ⟨b, n, none⟩) hbk).trans hx
  have h5 : ¬ ((b1 : Nat) : Int) ≤ (n : Int) := by omega
  have qf := fun o o' => ((((Below.refl w.heap.size w).alloc (Nat.le_refl _) o).alloc (by simp) o').frozen (p := ⟨b, n, none⟩) hbk).trans hfz
  have hmy := mod256 hy
  have hwy := wrap_mod (y := y)
  go_enter Try.func33, Try.ntmps33
  go_wp2
  exact bodyPost_ret (v := .tuple #[.int .u64 0, .int .i64 0]) (by simp [results, Try.results33, go_sem]) rfl ⟨rfl, _, _, rfl⟩
set_option maxRecDepth 100000 in
set_option maxHeartbeats 4000000 in
theorem same_lenb (w : World) (g m c i : Nat) (k0 n0 : Int) (A1 B1 : Option Addr) (a1 c1 b1 d1 : Nat) (k nn : Int) (Ao Bo : Option Addr) (ao co bo d0 : Nat) (n : Nat) (y : Int) (hm : m ≤ 10000) (hi : i < m) (hc : m ≤ c)
    (e0 : w.cell? ⟨g, i * 4, none⟩ = some (.int .i64 k0)) (e1 : w.cell? ⟨g, i * 4 + 1, none⟩ = some (.int .i64 n0)) (e2 : w.cell? ⟨g, i * 4 + 2, none⟩ = some (.slice A1 a1 c1)) (e3 : w.cell? ⟨g, i * 4 + 3, none⟩ = some (.slice B1 b1 d1)) (ha : a1 ≤ 1000000) (hb : b1 ≤ 1000000) (hk : k0 = 2) :
    Calls Try.prog 33 #[.slice (some ⟨g, 0, none⟩) m c, .agg #[.int .i64 5, .int .i64 k, .int .i64 nn, .slice Ao ao co, .slice Bo bo d0, .int .u64 ((i : Int) + 1), .int .u64 (n : Int), .int .u64 y]] w fun e w' => e = .returned (.tuple #[.int .u64 (b1 : Int), .int .i64 0]) ∧ Below w.heap.size w w' := by
  have hw : IntKind.u64.wrap (m : Int) = m := IntWalk.u64_in _ (by omega)
  have hwa : IntKind.u64.wrap (a1 : Int) = a1 := IntWalk.u64_in _ (by omega)
  have hwb : IntKind.u64.wrap (b1 : Int) = b1 := IntWalk.u64_in _ (by omega)
  have h3 : ((i : Int) + 1 == 0) = false := by rw [beq_eq_false_iff_ne]; omega
  have h4 : ¬ (m : Int) < (i : Int) + 1 := by omega
  have hg := World.block_lt_of_cell? w _ e0
  have q0 := fun o => (((Below.refl w.heap.size w).alloc (Nat.le_refl _) o).cell (p := ⟨g, i * 4, none⟩) hg).trans e0
  have q1 := fun o => (((Below.refl w.heap.size w).alloc (Nat.le_refl _) o).cell (p := ⟨g, i * 4 + 1, none⟩) hg).trans e1
  have q2 := fun o => (((Below.refl w.heap.size w).alloc (Nat.le_refl _) o).cell (p := ⟨g, i * 4 + 2, none⟩) hg).trans e2
  have q3 := fun o => (((Below.refl w.heap.size w).alloc (Nat.le_refl _) o).cell (p := ⟨g, i * 4 + 3, none⟩) hg).trans e3
  subst hk
  go_enter Try.func33, Try.ntmps33
  go_wp2
  exact bodyPost_ret (v := .tuple #[.int .u64 (b1 : Int), .int .i64 0]) (by simp [results, Try.results33, go_sem]) rfl ⟨rfl, ((Below.refl w.heap.size w).alloc (Nat.le_refl _) _).alloc (by simp) _⟩
set_option maxRecDepth 100000 in
set_option maxHeartbeats 4000000 in
theorem same_lenw (w : World) (g m c i : Nat) (k0 n0 : Int) (A1 B1 : Option Addr) (a1 c1 b1 d1 : Nat) (k nn : Int) (Ao Bo : Option Addr) (ao co bo d0 : Nat) (n : Nat) (y : Int) (hm : m ≤ 10000) (hi : i < m) (hc : m ≤ c)
    (e0 : w.cell? ⟨g, i * 4, none⟩ = some (.int .i64 k0)) (e1 : w.cell? ⟨g, i * 4 + 1, none⟩ = some (.int .i64 n0)) (e2 : w.cell? ⟨g, i * 4 + 2, none⟩ = some (.slice A1 a1 c1)) (e3 : w.cell? ⟨g, i * 4 + 3, none⟩ = some (.slice B1 b1 d1)) (ha : a1 ≤ 1000000) (hb : b1 ≤ 1000000) (hk : ¬ k0 = 2) :
    Calls Try.prog 33 #[.slice (some ⟨g, 0, none⟩) m c, .agg #[.int .i64 5, .int .i64 k, .int .i64 nn, .slice Ao ao co, .slice Bo bo d0, .int .u64 ((i : Int) + 1), .int .u64 (n : Int), .int .u64 y]] w fun e w' => e = .returned (.tuple #[.int .u64 (a1 : Int), .int .i64 0]) ∧ Below w.heap.size w w' := by
  have hw : IntKind.u64.wrap (m : Int) = m := IntWalk.u64_in _ (by omega)
  have hwa : IntKind.u64.wrap (a1 : Int) = a1 := IntWalk.u64_in _ (by omega)
  have hwb : IntKind.u64.wrap (b1 : Int) = b1 := IntWalk.u64_in _ (by omega)
  have h3 : ((i : Int) + 1 == 0) = false := by rw [beq_eq_false_iff_ne]; omega
  have h4 : ¬ (m : Int) < (i : Int) + 1 := by omega
  have hg := World.block_lt_of_cell? w _ e0
  have q0 := fun o => (((Below.refl w.heap.size w).alloc (Nat.le_refl _) o).cell (p := ⟨g, i * 4, none⟩) hg).trans e0
  have q1 := fun o => (((Below.refl w.heap.size w).alloc (Nat.le_refl _) o).cell (p := ⟨g, i * 4 + 1, none⟩) hg).trans e1
  have q2 := fun o => (((Below.refl w.heap.size w).alloc (Nat.le_refl _) o).cell (p := ⟨g, i * 4 + 2, none⟩) hg).trans e2
  have q3 := fun o => (((Below.refl w.heap.size w).alloc (Nat.le_refl _) o).cell (p := ⟨g, i * 4 + 3, none⟩) hg).trans e3
  have hkb : (k0 == 2) = false := by rw [beq_eq_false_iff_ne]; exact hk
  go_enter Try.func33, Try.ntmps33
  go_wp2
  exact bodyPost_ret (v := .tuple #[.int .u64 (a1 : Int), .int .i64 0]) (by simp [results, Try.results33, go_sem]) rfl ⟨rfl, ((Below.refl w.heap.size w).alloc (Nat.le_refl _) _).alloc (by simp) _⟩
end Go.Proofs.Ytmcjjikhdjoopaa
