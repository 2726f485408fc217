/- Script: the reference's Same on two slices that hold the same orders. -/
import Derived.Test.YtikidknmfbhilaaDoorScPrintW
import Derived.Laws.StructEq
namespace Go.Proofs.YtikidknmfbhilaaDoor
open Go.RowKit Go.Sort
set_option linter.unusedVariables false
set_option maxRecDepth 100000 in
set_option maxHeartbeats 4000000 in
theorem refSame_eq {S T : Nat → Prop} (w : World) (A B : Option Addr) (n c d : Nat) (l : List Odr) (hn : l.length = n) (hm : n ≤ 1000) (hS : ∀ b, S b → b < w.heap.size) (hT : ∀ b, T b → b < w.heap.size) (hx : k_order.Row S w A l) (hy : k_order.Row T w B l) :
    Calls Tryd.prog 12 #[.slice A n c, .slice B n d] w fun e w' => e = .returned (.bool true) ∧ Below w.heap.size w w' := by
  have HN := Lib.hid hn
  have HX := Lib.hid hx
  have HY := Lib.hid hy
  clear hx hy hn
  go_enter Tryd.func12, Tryd.ntmps12
  go_wp2
  go_loopw [5] (fun i wr => ∃ k : Nat, k ≤ n ∧ i = .int .i64 k ∧ Below w.heap.size w wr) (fun i _ => n - (intOf i).toNat)
  case atStart => exact ⟨0, Nat.zero_le _, rfl, Below.refl _ _⟩
  case round =>
    obtain ⟨k, hk, rfl, hb⟩ := hrel
    by_cases hlt : k < n
    · obtain ⟨x, hx⟩ : ∃ x, l[k]? = some x := ⟨_, List.getElem?_eq_getElem (by have := HN.out; omega)⟩
      obtain ⟨b, o, rfl, hSb, e0, e1, e2, e3, _⟩ := k_order_at (HX.out.keep (fun b h => hb.block b (hS b h))) hx
      obtain ⟨b', o', rfl, hSb', f0, f1, f2, f3, _⟩ := k_order_at (HY.out.keep (fun b h => hb.block b (hT b h))) hx
      have r0 := cell_regrown e0
      have r1 := cell_regrown e1
      have r2 := cell_regrown e2
      have r3 := cell_regrown e3
      have s0 := cell_regrown f0
      have s1 := cell_regrown f1
      have s2 := cell_regrown f2
      have s3 := cell_regrown f3
      have HBr := Lib.hid hb
      have hsz := hb.size
      clear hx e0 e1 e2 e3 f0 f1 f2 f3 hSb hSb' hb
      go_wp2_with fail
      refine wp_region_quiet_below (by kernel_rfl) (by kernel_rfl) ?_
      repeat (first | go_big_quiet_step (fail) | quiet_step (fail))
      refine wpQuiet_nil ?_
      intro _ hw'
      obtain ⟨⟨dq, osq⟩, hw''⟩ := hw'
      subst hw''
      clear r0 r1 r2 r3 s0 s1 s2 s3
      have HBq := Lib.hid (HBr.out.trans ((below_regrown wr dq osq).mono hsz))
      generalize grow (redrawn wr dq) osq = wq at *
      go_wp2
      go_roundw
      case rel => exact ⟨k + 1, by omega, by go_num, HBq.out⟩
      case measure => simp [intOf]; omega
    · go_wp2
      go_ret
      exact ⟨rfl, hb⟩
end Go.Proofs.YtikidknmfbhilaaDoor
