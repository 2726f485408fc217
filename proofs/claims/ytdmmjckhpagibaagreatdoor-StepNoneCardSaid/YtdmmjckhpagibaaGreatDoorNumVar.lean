/- num.Var: the bytes of a number. -/
import Derived.Test.YtdmmjckhpagibaaGreatDoorBytes
namespace Go.Proofs.YtdmmjckhpagibaaGreatDoor
open Go.RowKit
set_option linter.unusedVariables false
theorem byte1 (x : Int) : ∀ u ∈ ([.int .u8 x] : List Value), u.oneCell' = true := bcells_one [x]
theorem bsnoc (bs : List Int) (x : Int) : bcells (bs ++ [x]) = bcells bs ++ [.int .u8 x] := bcells_append _ _
theorem own_row_ge {w : World} {base : Nat} {e : TypeId} {size : Nat} {v : Value} {n : Nat} {xs : List Value} (h : w.ownsRow base e size v n xs) : v.ownBlock = none ∨ ∃ g, v.ownBlock = some g ∧ base ≤ g := own_ge h
set_option maxRecDepth 100000 in
theorem var_calls (w : World) (v : Nat) (hv : v < 18446744073709551616) : Calls Tryz.prog 145 #[.int .u64 v] w fun e w' => ∃ A c, e = .returned (.slice A (varB v).length c) ∧ w'.ownsRow w.heap.size 5 1 (.slice A (varB v).length c) (varB v).length (bcells (varB v)) ∧ Below w.heap.size w w' := by
  have hlen := varB_ten hv
  go_enter Tryz.func145, Tryz.ntmps145
  go_wp2
  go_loopw [0, 3] (fun x out wr => ∃ (n : Nat) (pre : List Int) (A : Option Addr) (c : Nat), x = .int .u64 n ∧ n < 18446744073709551616 ∧ out = .slice A pre.length c ∧ Hid (wr.ownsRow w.heap.size 5 1 (.slice A pre.length c) pre.length (bcells pre)) ∧ Hid (pre ++ varB n = varB v) ∧ pre.length ≤ 10 ∧ Below w.heap.size w wr) (fun x _ _ => (intOf x).toNat)
  case atStart => exact ⟨v, [], none, 0, rfl, hv, rfl, Lib.hid ⟨rfl, .inl ⟨rfl, rfl⟩⟩, Lib.hid rfl, by simp, Below.refl _ _⟩
  case round =>
    obtain ⟨n, pre, A, c, rfl, hn, rfl, HO, HE, hp, hb⟩ := hrel
    have hsz := hb.size
    have hor := or128 ((n : Int) % 256) (by omega)
    by_cases hlt : n < 128
    · go_wp2_with (at_builtin; refine list_app _ rfl (.tmp 14) (.tmp 17) _ rfl 5 Tryz.underlying134 byte_info rfl (by decide) (by decide) w.heap.size (n := pre.length) (xs := bcells pre) rfl (by exact HO.out.alloc _) (news := [.int .u8 (n : Int)]) rfl rfl (by exact lie_new _ _ _ rfl) (by exact byte1 _) (by omega) (by simp; omega) ?_; intro v' w3 hown hg hat; have hB := Lib.hid (grown_below (hb.alloc hsz _) hg (by simp; omega) (own_row_ge HO.out)); obtain ⟨A3, c3, rfl, hn3, _, _⟩ := own_shape hown; have HO3 := Lib.hid hown; clear hown hg hat)
      go_ret
      have he := HE.out
      rw [varB_small hlt] at he
      rw [← he, List.length_append]
      exact ⟨_, _, rfl, by rw [bsnoc]; exact HO3.out, hB.out⟩
    · have hlp : pre.length + (varB n).length ≤ 10 := by rw [← List.length_append, HE.out]; exact hlen
      have hpos := varB_pos n
      go_wp2_with (at_builtin; refine list_app _ rfl (.tmp 8) (.tmp 12) _ rfl 5 Tryz.underlying134 byte_info rfl (by decide) (by decide) w.heap.size (n := pre.length) (xs := bcells pre) rfl (by exact HO.out.alloc _) (news := [.int .u8 (128 + (n : Int) % 128)]) rfl rfl (by exact lie_new _ _ _ rfl) (by exact byte1 _) (by omega) (by simp; omega) ?_; intro v' w3 hown hg hat; have hB := Lib.hid (grown_below (hb.alloc hsz _) hg (by simp; omega) (own_row_ge HO.out)); obtain ⟨A3, c3, rfl, hn3, _, _⟩ := own_shape hown; have HO3 := Lib.hid hown; clear hown hg hat)
      go_roundw
      case rel =>
        refine ⟨n / 128, pre ++ [128 + (n : Int) % 128], A3, c3, ?_, by omega, by rw [List.length_append]; rfl, Lib.hid (by rw [List.length_append, bsnoc]; exact HO3.out), Lib.hid ?_, by rw [List.length_append, List.length_singleton]; omega, hB.out⟩
        · go_num
        · have he := HE.out
          rw [varB_big hlt] at he
          rw [List.append_assoc, ← he]
          congr 2
      case measure => simp [intOf]; omega
end Go.Proofs.YtdmmjckhpagibaaGreatDoor
