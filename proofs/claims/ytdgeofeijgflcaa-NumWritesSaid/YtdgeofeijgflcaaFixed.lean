/- num.Fixed and the reference's. -/
import Derived.Test.YtdgeofeijgflcaaNumVar
import Derived.Test.YtdgeofeijgflcaaCnt
namespace Go.Proofs.Ytdgeofeijgflcaa
open Go.RowKit
set_option linter.unusedVariables false
/-- The lowest k bytes. -/
def fixB (v k : Nat) : List Int := (List.range k).map fun i => ((v / 256 ^ i % 256 : Nat) : Int)
theorem fixB_succ (v k : Nat) : fixB v (k + 1) = fixB v k ++ [((v / 256 ^ k % 256 : Nat) : Int)] := by
  unfold fixB; rw [List.range_succ, List.map_append]; rfl
theorem fixB_len (v k : Nat) : (fixB v k).length = k := by simp [fixB]
theorem fixB_isB (v k : Nat) : isB (fixB v k) := by
  intro x hx
  simp only [fixB, List.mem_map] at hx
  obtain ⟨i, _, rfl⟩ := hx
  omega
theorem shr8 (v k : Nat) : (v : Int) / 2 ^ (8 * k) % 256 = ((v / 256 ^ k % 256 : Nat) : Int) := by
  have h : (2 : Nat) ^ (8 * k) = 256 ^ k := by rw [Nat.pow_mul]
  have h2 : ((2 : Int) ^ (8 * k)) = ((2 ^ (8 * k) : Nat) : Int) := by rw [Int.natCast_pow]; rfl
  rw [h2, h, ← Int.natCast_ediv]
  omega
set_option maxRecDepth 100000 in
theorem fixed_calls (w : World) (v : Nat) (n : Int) (hv : v < 18446744073709551616) : Calls Try.prog 29 #[.int .u64 v, .int .i64 n] w fun e w' => ∃ A c, e = .returned (.slice A (cnt n) c) ∧ w'.ownsRow w.heap.size 5 1 (.slice A (cnt n) c) (cnt n) (bcells (fixB v (cnt n))) ∧ Below w.heap.size w w' := by
  have hc8 := cnt_le n
  have hway : n < 0 ∨ (¬ n < 0 ∧ 8 < n) ∨ (0 ≤ n ∧ n ≤ 8) := by omega
  have hcn : (cnt n : Int) = if n < 0 then 0 else if 8 < n then 8 else n := by unfold cnt; split; rfl; split; rfl; omega
  rcases hway with h | ⟨h1, h2⟩ | ⟨h1, h2⟩
  all_goals
    first | rw [if_pos h] at hcn | rw [if_neg h1, if_pos h2] at hcn | rw [if_neg (by omega), if_neg (by omega)] at hcn
    go_enter Try.func29, Try.ntmps29
    go_wp2
    go_loopw [5, 10] (fun out i wr => ∃ (k : Nat) (A : Option Addr) (c : Nat), k ≤ cnt n ∧ i = .int .i64 k ∧ out = .slice A k c ∧ Hid (wr.ownsRow w.heap.size 5 1 (.slice A k c) k (bcells (fixB v k))) ∧ Below w.heap.size w wr) (fun _ i _ => 8 - (intOf i).toNat)
    case atStart => exact ⟨0, none, 0, by omega, rfl, rfl, Lib.hid ⟨rfl, .inl ⟨rfl, rfl⟩⟩, Below.refl _ _⟩
    case round =>
      obtain ⟨k, A, c, hk, rfl, rfl, HO, hb⟩ := hrel
      have hsz := hb.size
      by_cases hlt : k < cnt n
      · have HB8 := Lib.hid (shr8 v k)
        have hnn : 0 < cnt n := by omega
        go_wp2_with (at_builtin; refine list_app _ rfl (.tmp 13) (.tmp 19) _ rfl 5 Try.underlying35 byte_info rfl (by decide) (by decide) w.heap.size (n := k) (xs := bcells (fixB v k)) rfl (by exact HO.out.alloc _) (news := [.int .u8 ((v : Int) / 2 ^ (8 * k) % 256)]) rfl rfl (by exact lie_new _ _ _ rfl) (by exact byte1 _) (by omega) (by simp; omega) ?_; intro v' w3 hown hg hat; have hB := Lib.hid (grown_below (hb.alloc hsz _) hg (by simp; omega) (own_row_ge HO.out)); obtain ⟨A3, c3, rfl, hn3, _, _⟩ := own_shape hown; have HO3 := Lib.hid hown; clear hown hg hat)
        all_goals go_roundw
        all_goals first
          | (case rel => exact ⟨k + 1, A3, c3, by omega, by go_num, rfl, Lib.hid (by rw [fixB_succ, bsnoc, ← HB8.out]; exact HO3.out), hB.out⟩)
          | (case measure => simp [intOf]; omega)
      · have he : k = cnt n := by omega
        subst he
        go_wp2
        go_ret
        exact ⟨_, _, rfl, HO.out, hb⟩
set_option maxRecDepth 100000 in
theorem refFixed_calls (w : World) (v : Nat) (n : Int) (hv : v < 18446744073709551616) : Calls Try.prog 30 #[.int .u64 v, .int .i64 n] w fun e w' => ∃ A c, e = .returned (.slice A (cnt n) c) ∧ w'.ownsRow w.heap.size 5 1 (.slice A (cnt n) c) (cnt n) (bcells (fixB v (cnt n))) ∧ Below w.heap.size w w' := by
  have hc8 := cnt_le n
  have hcn : (cnt n : Int) = if n < 0 then 0 else if 8 < n then 8 else n := by unfold cnt; split; rfl; split; rfl; omega
  have hcl : ∀ k : Nat, (k < cnt n ↔ ((k : Int) < n ∧ (k : Int) < 8)) := by intro k; split at hcn; omega; split at hcn <;> omega
  have HCL := Lib.hid hcl
  clear hcn hcl
  go_enter Try.func30, Try.ntmps30
  go_wp2
  go_loopw [0, 5, 6] (fun x out i wr => ∃ (k : Nat) (m : Nat) (A : Option Addr) (c : Nat), k ≤ cnt n ∧ x = .int .u64 m ∧ m < 18446744073709551616 ∧ Hid (m = v / 256 ^ k) ∧ i = .int .i64 k ∧ out = .slice A k c ∧ Hid (wr.ownsRow w.heap.size 5 1 (.slice A k c) k (bcells (fixB v k))) ∧ Below w.heap.size w wr) (fun _ _ i _ => 8 - (intOf i).toNat)
  case atStart => exact ⟨0, v, none, 0, by omega, rfl, hv, Lib.hid (by simp), rfl, rfl, Lib.hid ⟨rfl, .inl ⟨rfl, rfl⟩⟩, Below.refl _ _⟩
  case round =>
    obtain ⟨k, m, A, c, hk, rfl, hm, HM, rfl, rfl, HO, hb⟩ := hrel
    have hsz := hb.size
    by_cases hlt : k < cnt n
    · have ht := (HCL.out k).1 hlt
      go_wp2_with (at_builtin; refine list_app _ rfl (.tmp 16) (.tmp 20) _ rfl 5 Try.underlying35 byte_info rfl (by decide) (by decide) w.heap.size (n := k) (xs := bcells (fixB v k)) rfl (by exact HO.out.alloc _) (news := [.int .u8 ((m : Int) % 256)]) rfl rfl (by exact lie_new _ _ _ rfl) (by exact byte1 _) (by omega) (by simp; omega) ?_; intro v' w3 hown hg hat; have hB := Lib.hid (grown_below (hb.alloc hsz _) hg (by simp; omega) (own_row_ge HO.out)); obtain ⟨A3, c3, rfl, hn3, _, _⟩ := own_shape hown; have HO3 := Lib.hid hown; clear hown hg hat)
      all_goals go_roundw
      all_goals first
        | (case rel => exact ⟨k + 1, m / 256, A3, c3, by omega, by go_num, by omega, Lib.hid (by rw [HM.out, Nat.pow_succ, Nat.div_div_eq_div_mul]), by go_num, rfl, Lib.hid (by rw [fixB_succ, bsnoc, ← HM.out]; exact HO3.out), hB.out⟩)
        | (case measure => simp [intOf]; omega)
    · have he : k = cnt n := by omega
      have ht : ¬ (k : Int) < n ∨ ((k : Int) < n ∧ ¬ (k : Int) < 8) := by
        have := mt (HCL.out k).2 hlt
        omega
      subst he
      rcases ht with h | ⟨h1, h2⟩
      all_goals
        go_wp2
        go_ret
        exact ⟨_, _, rfl, HO.out, hb⟩
end Go.Proofs.Ytdgeofeijgflcaa
