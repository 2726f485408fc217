/- Script: the reference's Good. -/
import Derived.Test.YtikidknmfbhilaaDoorScPrintS
import Derived.BigRegion
namespace Go.Proofs.YtikidknmfbhilaaDoor
open Go.RowKit Go.Sort
set_option linter.unusedVariables false
theorem all_bad {l : List Odr} {k : Nat} {o : Odr} (h : l[k]? = some o) {j : Nat} (hj : j < 4) (hf : ¬ fitsB (numO o j) = true) : l.all goodO = false := by
  rw [Bool.eq_false_iff]
  intro ha
  exact hf (good_fit (List.all_eq_true.1 ha o (List.mem_of_getElem? h)) j hj)
set_option maxRecDepth 100000 in
set_option maxHeartbeats 8000000 in
theorem refGood_calls {S : Nat → Prop} (w : World) (A : Option Addr) (n c : Nat) (l : List Odr) (hn : l.length = n) (hm : n ≤ 1000) (hS : ∀ b, S b → b < w.heap.size) (hx : k_order.Row S w A l) :
    Calls Tryd.prog 9 #[.slice A n c] w fun e w' => e = .returned (.bool (l.all goodO)) ∧ RowKit.Below w.heap.size w w' := by
  have HN := Lib.hid hn
  have HX := Lib.hid hx
  clear hx hn
  go_enter Tryd.func9, Tryd.ntmps9
  go_wp2
  go_loopw [3] (fun i wr => ∃ k : Nat, k ≤ n ∧ i = .int .i64 k ∧ goodL (l.take k) ∧ RowKit.Below w.heap.size w wr) (fun i _ => n - (intOf i).toNat)
  case atStart => exact ⟨0, Nat.zero_le _, rfl, fun o h => absurd h (by simp), RowKit.Below.refl _ _⟩
  case round =>
    obtain ⟨k, hk, rfl, hg, hb⟩ := hrel
    have HG := Lib.hid hg
    have HB := Lib.hid hb
    have hsz := hb.size
    by_cases hlt : k < n
    · obtain ⟨x, hx⟩ : ∃ x, l[k]? = some x := ⟨_, List.getElem?_eq_getElem (by have := HN.out; omega)⟩
      obtain ⟨b, o, rfl, hSb, e0, e1, e2, e3, f0, f1, f2, f3⟩ := k_order_at (HX.out.keep (fun b h => hb.block b (hS b h))) hx
      have HK := Lib.hid hx
      clear hg hb hx f0 f1 f2 f3
      go_wp2_with fail
      go_region
      have hq : ((wr.alloc (.cells #[.int .i64 x.kind, .int .i64 x.a, .int .i64 x.b, .int .i64 x.c] 3)).drew).heap[wr.heap.size]? = some (.cells (nums x) 3 (0, 0)) := blk_drew (blk_new wr _)
      have hbq : RowKit.Below w.heap.size w (wr.alloc (.cells #[.int .i64 x.kind, .int .i64 x.a, .int .i64 x.b, .int .i64 x.c] 3)).drew := (HB.out.alloc hsz _).drew
      generalize ((wr.alloc (.cells #[.int .i64 x.kind, .int .i64 x.a, .int .i64 x.b, .int .i64 x.c] 3)).drew) = wq at *
      generalize wr.heap.size = g at *
      have HQ := Lib.hid hq
      have HBq := Lib.hid hbq
      have hsq := hbq.size
      clear hq hbq e0 e1 e2 e3
      go_wp2
      go_loopw [5] (fun i wi => ∃ j : Nat, j ≤ 4 ∧ i = .int .i64 j ∧ fitO x j ∧ wq = wi) (fun i _ => 4 - (intOf i).toNat)
      case atStart => exact ⟨0, Nat.zero_le _, rfl, fun i hi => absurd hi (by omega), rfl⟩
      case round =>
        obtain ⟨j, hj, rfl, hfit, rfl⟩ := hrel
        have HFi := Lib.hid hfit
        clear hfit
        by_cases hj4 : j < 4
        · have hc : wq.cell? ⟨g, j, none⟩ = some (.int .i64 (numO x j)) := (blk_cell HQ.out j).trans (nums_at x j hj4)
          generalize hvv : numO x j = v at *
          have HV := Lib.hid hvv
          clear hvv
          by_cases h1 : v < -4611686018427387904
          · have hf : ¬ fitsB v = true := fun h => by have := fits_in h; omega
            go_wp2
            go_ret
            exact ⟨ret_bool (all_bad HK.out hj4 (by rw [HV.out]; exact hf)).symm, HBq.out⟩
          · by_cases h2 : 4611686018427387904 < v
            · have hf : ¬ fitsB v = true := fun h => by have := fits_in h; omega
              go_wp2
              go_ret
              exact ⟨ret_bool (all_bad HK.out hj4 (by rw [HV.out]; exact hf)).symm, HBq.out⟩
            · have hf : fitsB v = true := by unfold fitsB; simp; omega
              go_wp2
              exact ⟨⟨j + 1, by omega, by go_num, fun i hi => by
                by_cases e : i = j
                · subst e; rw [HV.out]; exact hf
                · exact HFi.out i (by omega), trivial⟩, by simp [intOf]; omega⟩
        · obtain rfl : j = 4 := by omega
          have htk : l.take (k + 1) = l.take k ++ [x] := by
            obtain ⟨hk2, hx2⟩ := List.getElem?_eq_some_iff.1 HK.out
            rw [List.take_succ_eq_append_getElem hk2, hx2]
          go_wp2
          refine ⟨⟨k + 1, by omega, by go_num, ?_, HBq.out⟩, by simp [intOf]; omega⟩
          rw [htk]
          intro y hy
          rcases List.mem_append.1 hy with hy | hy
          · exact HG.out y hy
          · rw [List.mem_singleton] at hy; subst hy; exact fitO_all HFi.out
    · obtain rfl : k = n := by omega
      have El : l.take k = l := List.take_of_length_le (by have := HN.out; omega)
      rw [El] at HG
      go_wp2
      go_ret
      exact ⟨ret_bool (List.all_eq_true.2 HG.out).symm, HB.out⟩
end Go.Proofs.YtikidknmfbhilaaDoor
