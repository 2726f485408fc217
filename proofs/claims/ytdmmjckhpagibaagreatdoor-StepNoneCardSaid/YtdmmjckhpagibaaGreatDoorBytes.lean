/- Bytes: rows of them that a call owns or reads; the bytes of a number. -/
import Derived.Test.YtdmmjckhpagibaaGreatDoorKeep
import Derived.WalkArith
import Derived.Lib.SliceRun
namespace Go.Proofs.YtdmmjckhpagibaaGreatDoor
open Go.RowKit
set_option linter.unusedVariables false
def bcells (bs : List Int) : List Value := bs.map (.int .u8 ·)
theorem bcells_length (bs : List Int) : (bcells bs).length = bs.length * 1 := by simp [bcells]
theorem bcells_append (a b : List Int) : bcells (a ++ b) = bcells a ++ bcells b := by simp [bcells]
theorem bcells_one (bs : List Int) : ∀ u ∈ bcells bs, u.oneCell' = true := by
  intro u hu
  simp only [bcells, List.mem_map] at hu
  obtain ⟨_, _, rfl⟩ := hu
  rfl
theorem bcells_at {bs : List Int} {k : Nat} {x : Int} (h : bs[k]? = some x) : (bcells bs)[k]? = some (.int .u8 x) := by simp [bcells, h]
def isB (bs : List Int) : Prop := ∀ x ∈ bs, 0 ≤ x ∧ x ≤ 255
theorem isB_append {a b : List Int} (h1 : isB a) (h2 : isB b) : isB (a ++ b) := fun x hx => (List.mem_append.1 hx).elim (h1 x) (h2 x)
theorem isB_one {x : Int} (h : 0 ≤ x ∧ x ≤ 255) : isB [x] := fun y hy => by rw [List.mem_singleton.1 hy]; exact h
theorem byte_flat {S : Nat → Prop} {w : World} {bs : List Int} {cells : List Value} : (Rd.int .u8).Flat S w bs cells ↔ cells = bcells bs ∧ isB bs := by
  induction bs generalizing cells with
  | nil => simp [Rd.Flat, bcells, isB]
  | cons b bs ih =>
    constructor
    · rintro ⟨c, r, rfl, ⟨rfl, hb⟩, hr⟩
      obtain ⟨rfl, hw⟩ := ih.1 hr
      exact ⟨rfl, fun x hx => by
        rcases List.mem_cons.1 hx with rfl | hx
        · exact bounds_u8 hb
        · exact hw x hx⟩
    · rintro ⟨rfl, hw⟩
      exact ⟨[.int .u8 b], bcells bs, rfl, ⟨rfl, WalkArith.wf_u8 (hw b (by simp))⟩, ih.2 ⟨rfl, fun x hx => hw x (by simp [hx])⟩⟩
theorem byte_info : (Tryz.prog.info? 5).map (fun i => (i.zero, i.size, i.bytes)) = some (some (.int .u8 0), 1, 1) := by kernel_rfl
/-- The bytes of a number by Var. -/
def varB (v : Nat) : List Int := if v < 128 then [(v : Int)] else ((128 + v % 128 : Nat) : Int) :: varB (v / 128)
theorem varB_small {v : Nat} (h : v < 128) : varB v = [(v : Int)] := by rw [varB, if_pos h]
theorem varB_big {v : Nat} (h : ¬ v < 128) : varB v = ((128 + v % 128 : Nat) : Int) :: varB (v / 128) := by rw [varB, if_neg h]
theorem varB_isB (v : Nat) : isB (varB v) := by
  induction v using Nat.strongRecOn with
  | _ v ih =>
    by_cases h : v < 128
    · rw [varB_small h]; exact isB_one (by omega)
    · rw [varB_big h]
      intro x hx
      rcases List.mem_cons.1 hx with rfl | hx
      · omega
      · exact ih _ (by omega) x hx
theorem varB_len (v k : Nat) (h : v < 128 ^ (k + 1)) : (varB v).length ≤ k + 1 := by
  induction k generalizing v with
  | zero => rw [varB_small (by simpa using h)]; simp
  | succ k ih =>
    by_cases hv : v < 128
    · rw [varB_small hv]; simp
    · rw [varB_big hv, List.length_cons]
      have : v / 128 < 128 ^ (k + 1) := by rw [Nat.div_lt_iff_lt_mul (by decide)]; rw [Nat.pow_succ] at h; exact h
      have := ih _ this
      omega
theorem varB_ten {v : Nat} (h : v < 18446744073709551616) : (varB v).length ≤ 10 := varB_len v 9 (Nat.lt_of_lt_of_le h (by decide))
theorem varB_pos (v : Nat) : 0 < (varB v).length := by
  by_cases h : v < 128
  · rw [varB_small h]; simp
  · rw [varB_big h]; simp
theorem or128 (x : Int) (h : 0 ≤ x ∧ x ≤ 255) : Go.bits .or .u8 x 128 = 128 + x % 128 := by
  have : ∀ n : Fin 256, Go.bits .or .u8 (n.val : Int) 128 = 128 + (n.val : Int) % 128 := by decide +kernel
  have h2 := this ⟨x.toNat, by omega⟩
  simp only at h2
  rwa [show ((x.toNat : Nat) : Int) = x by omega] at h2
/-- A row that is made at once. -/
theorem own_made (w : World) (e : TypeId) (size n : Nat) (cs : List Value) (hl : cs.length = n * size) (hm : n ≤ maxLen) : (w.alloc (.cells cs.toArray e (0, 0))).ownsRow w.heap.size e size (.slice (some ⟨w.heap.size, 0, none⟩) n n) n cs :=
  ⟨hl, .inr ⟨w.heap.size, n, cs.toArray, rfl, Nat.le_refl _, blk_new w _, Nat.le_refl _, hm, by simpa using hl, by rw [← hl]; simp⟩⟩
end Go.Proofs.YtdmmjckhpagibaaGreatDoor
