/- The reference's Light: how many things a module has, all told. -/
import Derived.Test.YtmadgnfnljnggaaOwn
import Derived.Deep.QuietTactic
import Derived.BigQuiet
namespace Go.Proofs.Ytmadgnfnljnggaa
open Go.RowKit
set_option linter.unusedVariables false
def lsum {α : Type} (f : α → Nat) (xs : List α) : Nat := (xs.map f).sum
theorem lsum_snoc {α : Type} (f : α → Nat) (xs : List α) (k : Nat) (x : α) (hx : xs[k]? = some x) : lsum f (xs.take (k + 1)) = lsum f (xs.take k) + f x := by
  obtain ⟨hk, rfl⟩ := List.getElem?_eq_some_iff.1 hx
  unfold lsum
  rw [List.take_succ_eq_append_getElem hk, List.map_append, List.sum_append]; simp
theorem lsum_all {α : Type} (f : α → Nat) (xs : List α) (k : Nat) (hk : k ≤ xs.length) (h : ¬ k < xs.length) : lsum f (xs.take k) = lsum f xs := by rw [List.take_of_length_le (by omega)]
def fnSize (f : Fn) : Nat := f.args.length + f.locals.length + f.code.length
def counts (x : Md) : Nat := x.recs.length + x.funcs.length + x.imports.length + x.ints.length + x.texts.length
def weight (x : Md) : Nat := counts x + lsum (fun r : List Ty => r.length) x.recs + lsum fnSize x.funcs + lsum (fun i : Imp => i.args.length) x.imports + lsum (fun t : ByteArray => t.size) x.texts
def light (x : Md) : Bool := decide (counts x ≤ 200) && decide (weight x < 3000)
theorem light_calls (w : World) (x : Md) (cs : List Value) (K : k_mod.K (· < w.heap.size) w x cs) :
    Calls Try.prog 23 #[.agg cs.toArray] w fun e w' => e = .returned (.bool (light x)) ∧ Below w.heap.size w w' := by
  obtain ⟨A0, c0, A1, c1, A2, c2, A3, c3, A4, c4, rfl, l0, m0, r0, l1, m1, r1, l2, m2, r2, l3, m3, r3, l4, m4, r4⟩ := k_mod_open K
  clear K
  have hcn := Lib.hid (show ((counts x : Nat) : Int) = x.recs.length + x.funcs.length + x.imports.length + x.ints.length + x.texts.length by unfold counts; omega)
  go_enter Try.func23, Try.ntmps23
  go_wp2
  · rename_i hbig
    go_ret
    refine ⟨ret_bool ?_, (Below.refl _ _).alloc (Nat.le_refl _) _⟩
    have := hcn.out
    unfold light
    rw [decide_eq_false (by omega)]; rfl
  · rename_i hsm
    have HN : Hid (x.recs.length + x.funcs.length + x.imports.length + x.ints.length + x.texts.length ≤ 200) := by show _ ≤ _; omega
    rw [← hcn.out]
    have hc200 : counts x ≤ 200 := by have := hcn.out; omega
    have hR0 : x.recs.length ≤ 200 := by have := HN.out; omega
    have hF0 : x.funcs.length ≤ 200 := by have := HN.out; omega
    have hI0 : x.imports.length ≤ 200 := by have := HN.out; omega
    have hT0 : x.texts.length ≤ 200 := by have := HN.out; omega
    clear hcn m0 m1 m2 m3 m4
    have hB := (Below.refl w.heap.size w).alloc (Nat.le_refl _) (Obj.cells #[.slice A0 x.recs.length c0, .slice A1 x.funcs.length c1, .slice A2 x.imports.length c2, .slice A3 x.ints.length c3, .slice A4 x.texts.length c4] 50)
    have hX := blk_new w (Obj.cells #[.slice A0 x.recs.length c0, .slice A1 x.funcs.length c1, .slice A2 x.imports.length c2, .slice A3 x.ints.length c3, .slice A4 x.texts.length c4] 50)
    generalize w.alloc (Obj.cells #[.slice A0 x.recs.length c0, .slice A1 x.funcs.length c1, .slice A2 x.imports.length c2, .slice A3 x.ints.length c3, .slice A4 x.texts.length c4] 50) = W at hB hX ⊢
    have hc := blk_cell hX
    have HX2 := Lib.hid hX
    go_loop [3, 4] (fun v i => ∃ k : Nat, k ≤ x.recs.length ∧ i = .int .i64 k ∧ v = .int .i64 ((counts x + lsum (fun r : List Ty => r.length) (x.recs.take k) : Nat) : Int) ∧ lsum (fun r : List Ty => r.length) (x.recs.take k) ≤ k * 140737488351232) (fun _ i => x.recs.length - (intOf i).toNat)
    case atStart => exact ⟨0, Nat.zero_le _, rfl, by simp [lsum], by simp [lsum]⟩
    case round =>
      obtain ⟨k, hk, rfl, rfl, hs⟩ := hrel
      by_cases hlt : k < x.recs.length
      · obtain ⟨y, hy⟩ : ∃ y, x.recs[k]? = some y := ⟨_, List.getElem?_eq_getElem hlt⟩
        have hn := Lib.hid (lsum_snoc (fun r : List Ty => r.length) x.recs k y hy)
        obtain ⟨b, o, A5, c5, rfl, _, q1, q2, q3, q4⟩ := row_slice_at (r0.keep hB.block) hy
        clear hy
        go_wp2
        go_round
        case rel => exact ⟨k + 1, by omega, by go_num, by rw [hn.out]; go_num, by rw [hn.out]; omega⟩
        case measure => simp [intOf]; omega
      · have he := Lib.hid (lsum_all (fun r : List Ty => r.length) x.recs k hk hlt)
        rw [he.out] at hs ⊢
        generalize hg1 : counts x + lsum (fun r : List Ty => r.length) x.recs = n1
        have hn1 : n1 ≤ 200 + 200 * 140737488351232 := by omega
        have HG1 := Lib.hid hg1
        clear hg1 hs he hX
        go_wp2
        go_loopw [3, 5] (fun v i wr => ∃ k : Nat, k ≤ x.funcs.length ∧ i = .int .i64 k ∧ v = .int .i64 ((n1 + lsum fnSize (x.funcs.take k) : Nat) : Int) ∧ lsum fnSize (x.funcs.take k) ≤ k * (3 * 140737488351232) ∧ Below w.heap.size w wr ∧ Hid (wr.heap[w.heap.size]? = some (Obj.cells #[.slice A0 x.recs.length c0, .slice A1 x.funcs.length c1, .slice A2 x.imports.length c2, .slice A3 x.ints.length c3, .slice A4 x.texts.length c4] 50))) (fun _ i _ => x.funcs.length - (intOf i).toNat)
        case atStart => exact ⟨0, Nat.zero_le _, rfl, by simp [lsum], by simp [lsum], hB, HX2⟩
        case round =>
          obtain ⟨k, hk, rfl, rfl, hs, hB, HX⟩ := hrel
          have hc := blk_cell HX.out
          by_cases hlt : k < x.funcs.length
          · obtain ⟨y, hy⟩ : ∃ y, x.funcs[k]? = some y := ⟨_, List.getElem?_eq_getElem hlt⟩
            have hn := Lib.hid (lsum_snoc fnSize x.funcs k y hy)
            obtain ⟨b, o, A5, c5, A8, c8, A9, c9, rfl, _, q1, q2, q3, q4, q5, q6, q7, q8, q9, q10, q11, q12, q13, q14, q15, q16⟩ := k_func_at (r1.keep hB.block) hy
            clear hy q6 q8 q9 q10 q11 q13 q14 q16
            have hfs := Lib.hid (show fnSize y = y.args.length + y.locals.length + y.code.length from rfl)
            have hlt2 : (k : Int) < (x.funcs.length : Int) := by omega
            have hk0 : (0 : Int) ≤ (k : Int) := by omega
            go_wp2
            go_quiet (fail)
            go_wp2
            go_roundw
            case rel => exact ⟨k + 1, by omega, by go_num, by rw [hn.out, hfs.out]; go_num, by rw [hn.out, hfs.out]; omega, below_drewN hB nq, HX⟩
            case measure => simp [intOf]; omega
          · have he := Lib.hid (lsum_all fnSize x.funcs k hk hlt)
            rw [he.out] at hs ⊢
            generalize hg2 : n1 + lsum fnSize x.funcs = n2
            have hn2 : n2 ≤ 200 + 800 * 140737488351232 := by omega
            have HG2 := Lib.hid hg2
            clear hg2 hs he HX2
            go_wp2
            go_loop [3, 6] (fun v i => ∃ k : Nat, k ≤ x.imports.length ∧ i = .int .i64 k ∧ v = .int .i64 ((n2 + lsum (fun i : Imp => i.args.length) (x.imports.take k) : Nat) : Int) ∧ lsum (fun i : Imp => i.args.length) (x.imports.take k) ≤ k * 140737488351232) (fun _ i => x.imports.length - (intOf i).toNat)
            case atStart => exact ⟨0, Nat.zero_le _, rfl, by simp [lsum], by simp [lsum]⟩
            case round =>
              obtain ⟨k, hk, rfl, rfl, hs⟩ := hrel
              by_cases hlt : k < x.imports.length
              · obtain ⟨y, hy⟩ : ∃ y, x.imports[k]? = some y := ⟨_, List.getElem?_eq_getElem hlt⟩
                have hn := Lib.hid (lsum_snoc (fun i : Imp => i.args.length) x.imports k y hy)
                obtain ⟨b, o, A5, c5, rfl, _, q1, q2, q3, q4, q5, q6, _⟩ := k_imp_at (r2.keep hB.block) hy
                clear hy
                go_wp2
                go_round
                case rel => exact ⟨k + 1, by omega, by go_num, by rw [hn.out]; go_num, by rw [hn.out]; omega⟩
                case measure => simp [intOf]; omega
              · have he := Lib.hid (lsum_all (fun i : Imp => i.args.length) x.imports k hk hlt)
                rw [he.out] at hs ⊢
                generalize hg3 : n2 + lsum (fun i : Imp => i.args.length) x.imports = n3
                have hn3 : n3 ≤ 200 + 1000 * 140737488351232 := by omega
                have HG3 := Lib.hid hg3
                clear hg3 hs he
                go_wp2
                go_loop [3, 7] (fun v i => ∃ k : Nat, k ≤ x.texts.length ∧ i = .int .i64 k ∧ v = .int .i64 ((n3 + lsum (fun t : ByteArray => t.size) (x.texts.take k) : Nat) : Int) ∧ lsum (fun t : ByteArray => t.size) (x.texts.take k) ≤ k * 140737488351232) (fun _ i => x.texts.length - (intOf i).toNat)
                case atStart => exact ⟨0, Nat.zero_le _, rfl, by simp [lsum], by simp [lsum]⟩
                case round =>
                  obtain ⟨k, hk, rfl, rfl, hs⟩ := hrel
                  by_cases hlt : k < x.texts.length
                  · obtain ⟨y, hy⟩ : ∃ y, x.texts[k]? = some y := ⟨_, List.getElem?_eq_getElem hlt⟩
                    have hn := Lib.hid (lsum_snoc (fun t : ByteArray => t.size) x.texts k y hy)
                    obtain ⟨b, o, rfl, _, q1, q2⟩ := row_str_at (r4.keep hB.block) hy
                    clear hy
                    go_wp2
                    go_round
                    case rel => exact ⟨k + 1, by omega, by go_num, by rw [hn.out]; go_num, by rw [hn.out]; omega⟩
                    case measure => simp [intOf]; omega
                  · have he := Lib.hid (lsum_all (fun t : ByteArray => t.size) x.texts k hk hlt)
                    rw [he.out] at hs ⊢
                    have hw : n3 + lsum (fun t : ByteArray => t.size) x.texts = weight x := by
                      have h1 := HG1.out; have h2 := HG2.out; have h3 := HG3.out
                      unfold weight; omega
                    rw [hw] at ⊢
                    have hwb : weight x ≤ 9223372036854775807 := by omega
                    have hcc := Lib.hid (show (decide (counts x ≤ 200) : Bool) = true from decide_eq_true hc200)
                    clear he hs hw
                    go_wp2
                    go_ret
                    refine ⟨ret_bool ?_, hB⟩
                    unfold light
                    rw [hcc.out, Bool.true_and]
                    exact decide_eq_decide.2 (by omega)
end Go.Proofs.Ytmadgnfnljnggaa
