/- heap.Heap.Objs; the reference's Words and Objs on equal data. -/
import Derived.Test.YtmcjjikhdjoopaaHeapAdd
import Derived.Test.YtmcjjikhdjoopaaRefVar
namespace Go.Proofs.Ytmcjjikhdjoopaa
open Go.RowKit Go.Sort
set_option linter.unusedVariables false
theorem own_clip {w : World} {base : Nat} {e : TypeId} {size n c : Nat} {A : Option Addr} {xs : List Value} (h : w.ownsRow base e size (.slice A n c) n xs) : n ≤ c ∧ ∀ a, A = some a → a.spot = none := by
  rcases h.2 with ⟨h1, h2⟩ | ⟨g, cap, cur, h1, _, _, h4, _⟩
  · cases h1
    exact ⟨by omega, fun a ha => by cases ha⟩
  · cases h1
    exact ⟨h4, fun a ha => by cases ha; rfl⟩
theorem objs_none (w : World) : Calls Try.prog 17 #[.pointer none] w fun e w' => e = .returned (.slice none 0 0) ∧ w' = w := by
  go_enter Try.func17, Try.ntmps17
  go_wp2
  go_ret
  exact ⟨rfl, rfl⟩
set_option maxRecDepth 100000 in
theorem clipObj_calls (w : World) (A : Option Addr) (n c : Nat) (hnc : n ≤ c) (hm : n ≤ 1000000) (hs : ∀ a, A = some a → a.spot = none):
    Calls Try.prog 37 #[.slice A n c] w fun e w' => e = .returned (.slice A n n) ∧ w' = w := by
  go_enter Try.func37, Try.ntmps37
  go_wp2
  go_ret
  exact ⟨rfl, rfl⟩
theorem objs_calls (w : World) (p : Nat) (A : Option Addr) (n c : Nat) (L : List (Ob × OV)) (hL : L.length = n) (q u : Int) (h : Hp w p (.slice A n c) L q u) :
    Calls Try.prog 17 #[.pointer (some ⟨p, 0, none⟩)] w fun e w' => ∃ A' c' L', e = .returned (.slice A' n n) ∧ L'.map (·.1) = L.map (·.1) ∧ OL w' (.slice A' n c') L' ∧ (∀ b, OLF (.slice A' n c') L' b → w.heap.size ≤ b) ∧ Below w.heap.size w w' := by
  have c0 : w.cell? ⟨p, 0, none⟩ = some (.slice A n c) := blk_cell h.box 0
  have hl := h.len
  rw [hL] at hl
  have HR := Lib.hid (h.ol.row hL)
  have HS : Hid (∀ b, OLF (.slice A n c) L b → b < w.heap.size) := Lib.hid (fun b hb => h.ol.lt hb)
  have HLm : Hid ((L.map (·.1)).length = n) := Lib.hid (by rw [List.length_map, hL])
  have HLb : Hid (∀ o ∈ L.map (·.1), o.words.length ≤ 1000000 ∧ o.bytes.length ≤ 1000000) := Lib.hid (fun o ho => by
    obtain ⟨x, hx, rfl⟩ := List.mem_map.1 ho
    exact ⟨(h.ol.mem x hx).wf.wlen, (h.ol.mem x hx).wf.blen⟩)
  clear h
  go_enter Try.func17, Try.ntmps17
  go_wp2_with (first
    | (go_at_call 35; refine (copy_calls _ _ _ _ _ HLm.out hl HLb.out HS.out HR.out).mono ?_; rintro e w1 ⟨A', c', L', rfl, hLm, hO, hF, hB⟩; have hl2 : L'.length = n := (List.length_map ..).symm.trans ((congrArg List.length hLm).trans HLm.out); obtain ⟨hnc, hsp⟩ := own_clip (hO.own_n hl2); have HO := Lib.hid hO; have HF1 := Lib.hid hF; have HLm' := Lib.hid hLm; have HB := Lib.hid hB; clear hLm hO hF hB hl2)
    | (go_at_call 37; refine (clipObj_calls _ _ _ _ hnc (by omega) hsp).mono ?_; rintro e w2 ⟨rfl, rfl⟩))
  go_ret
  exact ⟨A', c', L', rfl, HLm'.out, HO.out, HF1.out, HB.out⟩
set_option maxRecDepth 100000 in
theorem words_eq {S T : Nat → Prop} (w : World) (A B : Option Addr) (n c d : Nat) (xs : List Int) (hn : xs.length = n) (hb : n ≤ 1000000) (hS : ∀ b, S b → b < w.heap.size) (hT : ∀ b, T b → b < w.heap.size) (hx : (Rd.int .u64).Row S w A xs) (hy : (Rd.int .u64).Row T w B xs) :
    Calls Try.prog 50 #[.slice A n c, .slice B n d] w fun e w' => e = .returned (.bool true) ∧ Below w.heap.size w w' := by
  have HN := Lib.hid hn
  have HX := Lib.hid hx
  have HY := Lib.hid hy
  clear hx hy hn
  go_enter Try.func50, Try.ntmps50
  go_wp2
  go_loopw [5] (fun i wr => ∃ k : Nat, k ≤ n ∧ i = .int .i64 k ∧ Below w.heap.size w wr) (fun i _ => n - (intOf i).toNat)
  case atStart => exact ⟨0, Nat.zero_le _, rfl, Below.refl _ _⟩
  case round =>
    obtain ⟨k, hk, rfl, hb⟩ := hrel
    by_cases hlt : k < n
    · obtain ⟨x, hx⟩ : ∃ x, xs[k]? = some x := ⟨_, List.getElem?_eq_getElem (by have := HN.out; omega)⟩
      obtain ⟨b, o, rfl, hSb, c0, _⟩ := row_u64_at (HX.out.keep (fun b hb' => hb.block b (hS b hb'))) hx
      obtain ⟨b', o', rfl, hSb', d0, _⟩ := row_u64_at (HY.out.keep (fun b hb' => hb.block b (hT b hb'))) hx
      clear hx
      go_wp2_with (go_quiet (fail))
      go_roundw
      case rel => exact ⟨k + 1, by omega, by go_num, below_drewN hb _⟩
      case measure => simp [intOf]; omega
    · go_wp2
      go_ret
      exact ⟨rfl, hb⟩
theorem same8_eq {S T : Nat → Prop} (w : World) (A B : Option Addr) (n c d : Nat) (xs : List Int) (hn : xs.length = n) (hb : n ≤ 1000000) (hS : ∀ b, S b → b < w.heap.size) (hT : ∀ b, T b → b < w.heap.size) (hx : (Rd.int .u8).Row S w A xs) (hy : (Rd.int .u8).Row T w B xs) :
    Calls Try.prog 21 #[.slice A n c, .slice B n d] w fun e w' => e = .returned (.bool true) ∧ Below w.heap.size w w' := by
  refine (same_calls w A B n n c d xs xs hn hn hb hb hS hT hx hy).mono ?_
  rintro e w' ⟨rfl, hb⟩
  exact ⟨ret_bool (decide_eq_true rfl), hb⟩
theorem keep_regrown {w : World} {d : Nat} {os : Array Go.Obj} (b : Nat) (hb : b < w.heap.size) : (grow (redrawn w d) os).heap[b]? = w.heap[b]? := (below_regrown w d os).block b hb
set_option maxRecDepth 100000 in
set_option maxHeartbeats 4000000 in
theorem refObjs_eq {S T : Nat → Prop} (w : World) (A B : Option Addr) (n c d : Nat) (objs : List Ob) (hn : objs.length = n) (hm : n ≤ 10000) (hl : ∀ o ∈ objs, o.words.length ≤ 1000000 ∧ o.bytes.length ≤ 1000000) (hS : ∀ b, S b → b < w.heap.size) (hT : ∀ b, T b → b < w.heap.size) (hx : k_obj.Row S w A objs) (hy : k_obj.Row T w B objs) :
    Calls Try.prog 34 #[.slice A n c, .slice B n d] w fun e w' => e = .returned (.bool true) ∧ Below w.heap.size w w' := by
  have HN := Lib.hid hn
  have HX := Lib.hid hx
  have HY := Lib.hid hy
  have HS := Lib.hid hS
  have HT := Lib.hid hT
  have HL := Lib.hid hl
  clear hn hx hy hS hT hl
  go_enter Try.func34, Try.ntmps34
  go_wp2
  go_loopw [5] (fun i wr => ∃ k : Nat, k ≤ n ∧ i = .int .i64 k ∧ Below w.heap.size w wr) (fun i _ => n - (intOf i).toNat)
  case atStart => exact ⟨0, Nat.zero_le _, rfl, Below.refl _ _⟩
  case round =>
    obtain ⟨k, hk, rfl, hb⟩ := hrel
    by_cases hlt : k < n
    · obtain ⟨x, hx⟩ : ∃ x, objs[k]? = some x := ⟨_, List.getElem?_eq_getElem (by have := HN.out; omega)⟩
      obtain ⟨hx1, hx2⟩ := HL.out x (List.mem_of_getElem? hx)
      have hSr : ∀ b, S b → b < wr.heap.size := fun b h => Nat.lt_of_lt_of_le (HS.out b h) hb.size
      have hTr : ∀ b, T b → b < wr.heap.size := fun b h => Nat.lt_of_lt_of_le (HT.out b h) hb.size
      obtain ⟨b, o, A2, c2, A3, c3, rfl, hSb, e0, e1, e2, e3, _, _, _, _, _, hw, hB⟩ := obj_at (HX.out.keep (fun b h => hb.block b (HS.out b h))) hx
      obtain ⟨b', o', B2, d2, B3, d3, rfl, hSb', f0, f1, f2, f3, _, _, _, _, _, hw', hB'⟩ := obj_at (HY.out.keep (fun b h => hb.block b (HT.out b h))) hx
      have r0 := cell_regrown e0
      have r1 := cell_regrown e1
      have r2 := cell_regrown e2
      have r3 := cell_regrown e3
      have s0 := cell_regrown f0
      have s1 := cell_regrown f1
      have s2 := cell_regrown f2
      have s3 := cell_regrown f3
      have HC1 : Hid (∀ d os, Calls Try.prog 50 #[.slice A2 x.words.length c2, .slice B2 x.words.length d2] (grow (redrawn wr d) os) fun e w'' => e = .returned (.bool true) ∧ ∃ p : Regrown, w'' = grow (redrawn wr p.d) p.os) := Lib.hid (fun d os => Calls.regrown_of (words_eq _ _ _ _ _ _ x.words rfl hx1 (fun b h => Nat.lt_of_lt_of_le (hSr b h) (below_regrown wr d os).size) (fun b h => Nat.lt_of_lt_of_le (hTr b h) (below_regrown wr d os).size) (hw.keep (fun b h => keep_regrown b (hSr b h))) (hw'.keep (fun b h => keep_regrown b (hTr b h)))))
      have HC2 : Hid (∀ d os, Calls Try.prog 21 #[.slice A3 x.bytes.length c3, .slice B3 x.bytes.length d3] (grow (redrawn wr d) os) fun e w'' => e = .returned (.bool true) ∧ ∃ p : Regrown, w'' = grow (redrawn wr p.d) p.os) := Lib.hid (fun d os => Calls.regrown_of (same8_eq _ _ _ _ _ _ x.bytes rfl hx2 (fun b h => Nat.lt_of_lt_of_le (hSr b h) (below_regrown wr d os).size) (fun b h => Nat.lt_of_lt_of_le (hTr b h) (below_regrown wr d os).size) (hB.keep (fun b h => keep_regrown b (hSr b h))) (hB'.keep (fun b h => keep_regrown b (hTr b h)))))
      have HBr := Lib.hid hb
      have hsz := hb.size
      clear hx hw hw' hB hB' e0 e1 e2 e3 f0 f1 f2 f3 hSb hSb' hSr hTr hb
      go_wp2_with fail
      refine wp_region_quiet_below (by kernel_rfl) (by kernel_rfl) ?_
      repeat (first | go_big_quiet_step (first | exact HC1.out _ _ | exact HC2.out _ _) | quiet_step (first | exact HC1.out _ _ | exact HC2.out _ _))
      refine wpQuiet_nil ?_
      intro _ hw'
      obtain ⟨⟨dq, osq⟩, hw''⟩ := hw'
      subst hw''
      clear r0 r1 r2 r3 s0 s1 s2 s3
      have HBq := Lib.hid (HBr.out.trans ((below_regrown wr dq osq).mono hsz))
      generalize grow (redrawn wr dq) osq = wq at *
      go_wp2
      go_roundw
      case rel => exact ⟨k + 1, by omega, by go_num, HBq.out⟩
      case measure => simp [intOf]; omega
    · go_wp2
      go_ret
      exact ⟨rfl, hb⟩
end Go.Proofs.Ytmcjjikhdjoopaa
