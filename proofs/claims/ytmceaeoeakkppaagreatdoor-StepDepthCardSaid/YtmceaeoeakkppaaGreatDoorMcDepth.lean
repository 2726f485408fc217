/- chrysalislaw15.StepDepth. -/
import Derived.Test.YtmceaeoeakkppaaGreatDoorMkD
import Derived.Test.YtmceaeoeakkppaaGreatDoorMkEnd
import Derived.Test.YtmceaeoeakkppaaGreatDoorMkGo2
namespace Go.Proofs.YtmceaeoeakkppaaGreatDoor
open Go.RowKit Go.Sort
set_option linter.unusedVariables false
set_option linter.unusedSimpArgs false
theorem rowD {V : World} {b1 b2 b3 : Nat} (h1 : V.heap[b1]? = some (.cells #[.int .u64 1] 32 (0, 0))) (h2 : V.heap[b2]? = some (.cells #[.int .i64 25, .int .i64 0, .int .i64 0, .int .i64 26, .int .i64 0, .int .i64 0] 62 (0, 0))) (h3 : V.heap[b3]? = some (.cells #[.slice none 0 0, .int .i64 1, .int .i64 0, .slice none 0 0, .slice (some ⟨b2, 0, none⟩) 2 2] 67 (0, 0))) : MRow (fun b => b < V.heap.size) V mD none (some ⟨b3, 0, none⟩) none (some ⟨b1, 0, none⟩) none 0 1 0 1 0 := by
  have hc : k_instr.Row (fun b => b < V.heap.size) V (some ⟨b2, 0, none⟩) [⟨25, 0, 0⟩, ⟨26, 0, 0⟩] :=
    Rd.Row.of_blk h2 (blk_lt h2) (cells := [.int .i64 25, .int .i64 0, .int .i64 0, .int .i64 26, .int .i64 0, .int .i64 0]) (Rd.Flat.cons (c := [.int .i64 25, .int .i64 0, .int .i64 0]) (k_instr_mk ⟨25, 0, 0⟩ (by decide) (by decide) (by decide)) (Rd.Flat.cons (c := [.int .i64 26, .int .i64 0, .int .i64 0]) (k_instr_mk ⟨26, 0, 0⟩ (by decide) (by decide) (by decide)) (Rd.Flat.nil _ _ _))) (fun j v hj => by simpa using hj)
  refine ⟨rfl, rfl, rfl, rfl, rfl, Rd.Row.nil _ _ _ _, ?_, Rd.Row.nil _ _ _ _, ?_, Rd.Row.nil _ _ _ _, fun b h => h⟩
  · exact Rd.Row.of_blk h3 (blk_lt h3) (cells := [.slice none 0 0, .int .i64 1, .int .i64 0, .slice none 0 0, .slice (some ⟨b2, 0, none⟩) 2 2]) (Rd.Flat.one (k_func_mk fD (A0 := none) (c0 := 0) (Nat.le_refl _) (Nat.zero_le _) (Rd.Row.nil _ _ _ _) (by decide) (by decide) (A3 := none) (c3 := 0) (Nat.le_refl _) (Nat.zero_le _) (Rd.Row.nil _ _ _ _) (A4 := some ⟨b2, 0, none⟩) (c4 := 2) (Nat.le_refl _) (by decide) hc)) (fun j v hj => by simpa using hj)
  · exact Rd.Row.of_blk h1 (blk_lt h1) (cells := [.int .u64 1]) (Rd.Flat.one (c := [.int .u64 1]) ⟨rfl, by decide⟩) (fun j v hj => by simpa using hj)
theorem fsD_zero (L1 : Option Addr) (l1 i k : Nat) (x : Fra) (h : (fsD L1 l1 i)[k]? = some x) : x.ln = 0 ∧ x.SA = none ∧ x.sn = 0 ∧ x.sc = 0 := by
  have hl : ∀ i, (lastD L1 l1 i).ln = 0 ∧ (lastD L1 l1 i).SA = none ∧ (lastD L1 l1 i).sn = 0 ∧ (lastD L1 l1 i).sc = 0 := fun i => by unfold lastD; split <;> exact ⟨rfl, rfl, rfl, rfl⟩
  induction i generalizing k with
  | zero =>
    cases k with
    | zero => simp [fsD] at h; subst h; exact hl 0
    | succ k => simp [fsD] at h
  | succ i ih =>
    simp only [fsD] at h
    rw [List.getElem?_append] at h
    split at h
    · rw [List.getElem?_set] at h
      split at h
      · split at h
        · injection h with h
          subst h
          have := hl i
          simpa [atPc] using this
        · cases h
      · exact ih k h
    · rename_i hk
      have := List.mem_of_getElem? h
      rw [List.mem_singleton.1 this]
      exact hl (i + 1)
/-- The machine behind so many calls. -/
structure Dp (bs : Nat) (w2 w : World) (p hp tp : Nat) (B0 B1 B2 B3 B4 : Option Addr) (m0 m1 m2 m3 m4 d0 d1 d2 d3 d4 : Nat) (MA : Option Addr) (mn mc : Nat) (L1 : Option Addr) (l1 i : Nat) : Prop where
  hh : w.heap[hp]? = some (.cells #[.slice none 0 0, .int .i64 10, .int .i64 0] 204 (0, 0))
  ht : w.heap[tp]? = some (.cells #[.slice none 0 0] 207 (0, 0))
  hk : Keeps (fun y => bs ≤ y) w2 w
  go : i ≤ 7 → ∃ FB fc, Mk bs w p hp tp B0 B1 B2 B3 B4 m0 m1 m2 m3 m4 d0 d1 d2 d3 d4 10 0 0 MA mn mc (some ⟨FB, 0, none⟩) fc (fsD L1 l1 i)
  no : 7 < i → ∃ FA fc fs, Mk bs w p hp tp B0 B1 B2 B3 B4 m0 m1 m2 m3 m4 d0 d1 d2 d3 d4 10 6 0 MA mn mc FA fc fs
theorem dp_next {S : Nat → Prop} {bs : Nat} {w2 w : World} {p hp tp : Nat} {B0 B1 B2 B3 B4 : Option Addr} {m0 m1 m2 m3 m4 d0 d1 d2 d3 d4 : Nat} {MA : Option Addr} {mn mc : Nat} {L1 : Option Addr} {l1 i : Nat} (h : Dp bs w2 w p hp tp B0 B1 B2 B3 B4 m0 m1 m2 m3 m4 d0 d1 d2 d3 d4 MA mn mc L1 l1 i) (hM : MRow S w2 mD B0 B1 B2 B3 B4 m0 m1 m2 m3 m4) (hS : ∀ b, S b → b < bs) (hbs : bs ≤ w2.heap.size) (hbp : bs ≤ p) (ans : Value) :
    Calls Tryz.prog 25 #[.pointer (some ⟨p, 0, none⟩), ans] w fun e w' => ∃ b, e = .returned (.tuple #[.slice none 0 0, .bool b]) ∧ Dp bs w2 w' p hp tp B0 B1 B2 B3 B4 m0 m1 m2 m3 m4 d0 d1 d2 d3 d4 MA mn mc L1 l1 (i + 1) := by
  have hMw : MRow S w mD B0 B1 B2 B3 B4 m0 m1 m2 m3 m4 := hM.keepF (fun b hb => h.hk.block b (hM.lt b hb) (fun hge => by have := hS b hb; omega)) h.hk.size
  rcases Nat.lt_trichotomy i 7 with hi | hi | hi
  · obtain ⟨FB, fc, hm⟩ := h.go (by omega)
    obtain ⟨FB2, e, hFB, hFl, -⟩ := hm.at_ (by rw [fsD_len]; omega)
    cases e
    obtain ⟨g, cur, e, hcur, -⟩ := hm.last (fsD_len L1 l1 i) (fsD_last L1 l1 i)
    cases e
    have h1 : hp ≠ FB := blk_ne h.hh hcur (by decide)
    have h2 : tp ≠ FB := blk_ne h.ht hcur (by decide)
    have h3 : hp ≠ p := blk_ne h.hh hm.box (by decide)
    have h4 : tp ≠ p := blk_ne h.ht hm.box (by decide)
    refine (depth_next hm hMw hS (Nat.le_trans hbs h.hk.size) hbp hi ans).mono ?_
    rintro e w' ⟨rfl, FB', fc', hm', hk⟩
    exact ⟨true, rfl, (hk.block hp (blk_lt h.hh) (by rintro (h | h) <;> contradiction)).trans h.hh, (hk.block tp (blk_lt h.ht) (by rintro (h | h) <;> contradiction)).trans h.ht, h.hk.trans (keeps_big hk hFB hbp), fun _ => ⟨FB', fc', hm'⟩, fun h => by omega⟩
  · subst hi
    obtain ⟨FB, fc, hm⟩ := h.go (by omega)
    obtain ⟨FB2, e, hFB, hFl, -⟩ := hm.at_ (by rw [fsD_len]; omega)
    cases e
    obtain ⟨g, cur, e, hcur, -⟩ := hm.last (fsD_len L1 l1 7) (fsD_last L1 l1 7)
    cases e
    have h1 : hp ≠ FB := blk_ne h.hh hcur (by decide)
    have h2 : tp ≠ FB := blk_ne h.ht hcur (by decide)
    have h3 : hp ≠ p := blk_ne h.hh hm.box (by decide)
    have h4 : tp ≠ p := blk_ne h.ht hm.box (by decide)
    refine (depth_trap hm hMw hbp ans).mono ?_
    rintro e w' ⟨rfl, hm', hk⟩
    exact ⟨true, rfl, (hk.block hp (blk_lt h.hh) (by rintro (h | h) <;> contradiction)).trans h.hh, (hk.block tp (blk_lt h.ht) (by rintro (h | h) <;> contradiction)).trans h.ht, h.hk.trans (keeps_big hk hFB hbp), fun h => by omega, fun _ => ⟨_, _, _, hm'⟩⟩
  · obtain ⟨FA, fc, fs, hm⟩ := h.no hi
    refine (nextk_end hm (by decide) ans).mono ?_
    rintro e w' ⟨rfl, hb⟩
    exact ⟨false, rfl, blk_below h.hh hb (blk_lt h.hh), blk_below h.ht hb (blk_lt h.ht), h.hk.trans (Keeps.of_below hb), fun h => by omega, fun _ => ⟨_, _, _, hm.below hb⟩⟩
theorem dp_state {bs : Nat} {w2 w : World} {p hp tp : Nat} {B0 B1 B2 B3 B4 : Option Addr} {m0 m1 m2 m3 m4 d0 d1 d2 d3 d4 : Nat} {MA : Option Addr} {mn mc : Nat} {L1 : Option Addr} {l1 i : Nat} (h : Dp bs w2 w p hp tp B0 B1 B2 B3 B4 m0 m1 m2 m3 m4 d0 d1 d2 d3 d4 MA mn mc L1 l1 i) (hi : i ≤ 100) :
    Calls Tryz.prog 23 #[.pointer (some ⟨p, 0, none⟩)] w fun e w' => ∃ A n c en, e = .returned (.agg #[.slice A n c, .slice none 0 0, .slice none 0 0, .int .i64 10, .int .i64 0, .int .i64 en, .int .u64 0]) ∧ Hid ((7 < i → en = 6 ∧ n = 0) ∧ (i ≤ 7 → en = 0 ∧ n = i + 1)) ∧ Below w.heap.size w w' := by
  by_cases h7 : i ≤ 7
  · obtain ⟨FB, fc, hm⟩ := h.go h7
    have hc : ∀ (j : Nat) (v : Value), (frasC (fsD L1 l1 i))[j]? = some v → w.cell? ⟨FB, j, none⟩ = some v := fun j v hj => by
      have := hm.own.cells (g := FB) rfl j v hj
      rwa [add_at, Nat.zero_add] at this
    refine (stateG_calls (fsD L1 l1 i) hm.box h.hh h.ht (by rw [fsD_len]; omega) (fun k x hx => fsD_zero L1 l1 i k x hx) hc).mono ?_
    rintro e w' ⟨A, c, rfl, hb⟩
    exact ⟨A, _, c, 0, rfl, Lib.hid ⟨fun h => by omega, fun _ => ⟨rfl, fsD_len L1 l1 i⟩⟩, hb⟩
  · obtain ⟨FA, fc, fs, hm⟩ := h.no (by omega)
    refine (state6_calls (v := 0) hm.box ⟨_, h.hh⟩ h.ht).mono ?_
    rintro e w' ⟨rfl, hb⟩
    exact ⟨none, 0, 0, 6, rfl, Lib.hid ⟨fun _ => ⟨rfl, rfl⟩, fun h => absurd h h7⟩, hb⟩
set_option maxRecDepth 100000 in
set_option maxHeartbeats 8000000 in
theorem stepDepth_walk (w : World) (hg : Glob w) (a0 : Int) (w0 : (Lit.int .u8 a0).wf = true) : Calls Tryz.prog 5 #[.int .u8 a0] w fun e w' => e = .returned (.bool true) ∧ Below w.heap.size w w' := by
  have HG := Lib.hid hg
  clear hg
  go_enter Tryz.func5, Tryz.ntmps5
  go_upto_region 3 with fail
  have hV : Below w.heap.size w (((((w.alloc (Obj.cells #[.int .i64 1, .int .i64 0] 58)).alloc (Obj.cells #[.int .u64 1] 32)).alloc (Obj.cells #[.int .i64 25, .int .i64 0, .int .i64 0, .int .i64 26, .int .i64 0, .int .i64 0] 62)).alloc (Obj.cells #[.slice none 0 0, .int .i64 1, .int .i64 0, .slice none 0 0, .slice (some ⟨w.heap.size + 1 + 1, 0, none⟩) 2 2] 67)).alloc (Obj.cells #[.slice none 0 0, .slice (some ⟨w.heap.size + 1 + 1 + 1, 0, none⟩) 1 1, .slice none 0 0, .slice (some ⟨w.heap.size + 1, 0, none⟩) 1 1, .slice none 0 0] 28)) := below_up (below_up (below_up (below_up (below_a1 w _) _) _) _) _
  have hM : MRow (fun b => b < (((((w.alloc (Obj.cells #[.int .i64 1, .int .i64 0] 58)).alloc (Obj.cells #[.int .u64 1] 32)).alloc (Obj.cells #[.int .i64 25, .int .i64 0, .int .i64 0, .int .i64 26, .int .i64 0, .int .i64 0] 62)).alloc (Obj.cells #[.slice none 0 0, .int .i64 1, .int .i64 0, .slice none 0 0, .slice (some ⟨w.heap.size + 1 + 1, 0, none⟩) 2 2] 67)).alloc (Obj.cells #[.slice none 0 0, .slice (some ⟨w.heap.size + 1 + 1 + 1, 0, none⟩) 1 1, .slice none 0 0, .slice (some ⟨w.heap.size + 1, 0, none⟩) 1 1, .slice none 0 0] 28)).heap.size) (((((w.alloc (Obj.cells #[.int .i64 1, .int .i64 0] 58)).alloc (Obj.cells #[.int .u64 1] 32)).alloc (Obj.cells #[.int .i64 25, .int .i64 0, .int .i64 0, .int .i64 26, .int .i64 0, .int .i64 0] 62)).alloc (Obj.cells #[.slice none 0 0, .int .i64 1, .int .i64 0, .slice none 0 0, .slice (some ⟨w.heap.size + 1 + 1, 0, none⟩) 2 2] 67)).alloc (Obj.cells #[.slice none 0 0, .slice (some ⟨w.heap.size + 1 + 1 + 1, 0, none⟩) 1 1, .slice none 0 0, .slice (some ⟨w.heap.size + 1, 0, none⟩) 1 1, .slice none 0 0] 28)) mD none (some ⟨w.heap.size + 1 + 1 + 1, 0, none⟩) none (some ⟨w.heap.size + 1, 0, none⟩) none 0 1 0 1 0 := rowD (b2 := w.heap.size + 1 + 1) (blk_alloc (blk_alloc (blk_alloc (blk_new2 w _ _) _) _) _) (blk_alloc (blk_alloc (blk_new3 w _ _ _) _) _) (blk_alloc (blk_new4 w _ _ _ _) _)
  have hX : (((((w.alloc (Obj.cells #[.int .i64 1, .int .i64 0] 58)).alloc (Obj.cells #[.int .u64 1] 32)).alloc (Obj.cells #[.int .i64 25, .int .i64 0, .int .i64 0, .int .i64 26, .int .i64 0, .int .i64 0] 62)).alloc (Obj.cells #[.slice none 0 0, .int .i64 1, .int .i64 0, .slice none 0 0, .slice (some ⟨w.heap.size + 1 + 1, 0, none⟩) 2 2] 67)).alloc (Obj.cells #[.slice none 0 0, .slice (some ⟨w.heap.size + 1 + 1 + 1, 0, none⟩) 1 1, .slice none 0 0, .slice (some ⟨w.heap.size + 1, 0, none⟩) 1 1, .slice none 0 0] 28)).heap[w.heap.size + 1 + 1 + 1 + 1]? = some (Obj.cells #[.slice none 0 0, .slice (some ⟨w.heap.size + 1 + 1 + 1, 0, none⟩) 1 1, .slice none 0 0, .slice (some ⟨w.heap.size + 1, 0, none⟩) 1 1, .slice none 0 0] 28) := by simpa using blk_new ((((w.alloc (Obj.cells #[.int .i64 1, .int .i64 0] 58)).alloc (Obj.cells #[.int .u64 1] 32)).alloc (Obj.cells #[.int .i64 25, .int .i64 0, .int .i64 0, .int .i64 26, .int .i64 0, .int .i64 0] 62)).alloc (Obj.cells #[.slice none 0 0, .int .i64 1, .int .i64 0, .slice none 0 0, .slice (some ⟨w.heap.size + 1 + 1, 0, none⟩) 2 2] 67)) (Obj.cells #[.slice none 0 0, .slice (some ⟨w.heap.size + 1 + 1 + 1, 0, none⟩) 1 1, .slice none 0 0, .slice (some ⟨w.heap.size + 1, 0, none⟩) 1 1, .slice none 0 0] 28)
  generalize (((((w.alloc (Obj.cells #[.int .i64 1, .int .i64 0] 58)).alloc (Obj.cells #[.int .u64 1] 32)).alloc (Obj.cells #[.int .i64 25, .int .i64 0, .int .i64 0, .int .i64 26, .int .i64 0, .int .i64 0] 62)).alloc (Obj.cells #[.slice none 0 0, .int .i64 1, .int .i64 0, .slice none 0 0, .slice (some ⟨w.heap.size + 1 + 1, 0, none⟩) 2 2] 67)).alloc (Obj.cells #[.slice none 0 0, .slice (some ⟨w.heap.size + 1 + 1 + 1, 0, none⟩) 1 1, .slice none 0 0, .slice (some ⟨w.heap.size + 1, 0, none⟩) 1 1, .slice none 0 0] 28)) = V at *
  have HM := Lib.hid hM
  have HX := Lib.hid hX
  have HV := Lib.hid hV
  clear hM hX hV
  go_region_held3 (fun w' => w'.cell? ⟨w.heap.size + 1 + 1 + 1 + 1, 0, none⟩ = some (.slice none 0 0) ∧ w'.cell? ⟨w.heap.size + 1 + 1 + 1 + 1, 1, none⟩ = some (.slice (some ⟨w.heap.size + 1 + 1 + 1, 0, none⟩) 1 1) ∧ w'.cell? ⟨w.heap.size + 1 + 1 + 1 + 1, 2, none⟩ = some (.slice none 0 0) ∧ w'.cell? ⟨w.heap.size + 1 + 1 + 1 + 1, 3, none⟩ = some (.slice (some ⟨w.heap.size + 1, 0, none⟩) 1 1) ∧ w'.cell? ⟨w.heap.size + 1 + 1 + 1 + 1, 4, none⟩ = some (.slice none 0 0) ∧ Below V.heap.size V w')
    (first | (refine hold5 HX.out ?_; first | with_reducible assumption | (repeat (first | exact Below.refl _ _ | refine Below.drew ?_))))
    (first
      | (go_at_call 29; go_must (refine (begin_calls _ mD _ _ _ _ _ _ _ _ _ _ 0 1 0 1 0 (HM.out.below (held5' (by assumption))) fD rfl rfl 10).mono ?_; rintro e w1 ⟨fb, LA, rfl, hfb, hgb, hb1⟩; have hbV1 : Below V.heap.size V w1 := Below.trans (held5' (by assumption)) (hb1.mono (held5' (by assumption)).size)))
      | (go_at_call 18; go_must (refine (loadk_calls (S := fun b => b < w1.heap.size) w1 mD _ _ _ _ _ _ _ _ _ _ 0 1 0 1 0 ((HM.out.below hbV1).mono (fun b hb => Nat.lt_of_lt_of_le hb hbV1.size) (fun b h => h)) mainD [[[], [⟨1, 0⟩]]] (straightD (HG.out.below (HV.out.trans (hbV1.mono HV.out.size)) HG.out.big) _ _ _ _ _ _ _ _ _ _ _ _ _ _ _) fD rfl rfl (by decide) (by decide) _ rfl rfl (by decide) fb 0 1 LA 0 [] rfl (fun x hx => by cases hx) (blk_lt hfb) (Rd.Row.nil _ _ _ _) (Nat.le_refl _) (blk_cell hfb 0) (blk_cell hfb 1) (blk_cell hfb 2) (blk_cell hfb 3) 10 (by decide) (by decide)).mono ?_; rintro e w2 ⟨p, FB, hp, tp, MA, mn, mc, c, L1, l1, rfl, hmc, hh, ht, hgF, hgp, hb2⟩; have hbV2 : Below V.heap.size V w2 := hbV1.trans (hb2.mono hbV1.size))))
  all_goals
    have hs1 : w.heap.size ≤ w1.heap.size := Nat.le_trans HV.out.size hbV1.size
    have hM2 : MRow (fun b => b < w1.heap.size) w2 mD none (some ⟨w.heap.size + 1 + 1 + 1, 0, none⟩) none (some ⟨w.heap.size + 1, 0, none⟩) none 0 1 0 1 0 := ((HM.out.below hbV1).mono (fun b hb => Nat.lt_of_lt_of_le hb hbV1.size) (fun b h => h)).below hb2
    have HM2 := Lib.hid hM2
    have HBw2 := Lib.hid (HV.out.trans (hbV2.mono HV.out.size))
    have HS2 := Lib.hid hb2.size
    have HGp := Lib.hid hgp
    have HD0 : Hid (Dp w1.heap.size w2 w2 p hp tp none (some ⟨w.heap.size + 1 + 1 + 1, 0, none⟩) none (some ⟨w.heap.size + 1, 0, none⟩) none 0 1 0 1 0 0 1 0 1 0 MA mn mc L1 l1 0) := Lib.hid ⟨hh, ht, Keeps.refl _ _, fun _ => ⟨FB, c, hmc⟩, fun h => by omega⟩
    obtain ⟨ka, kb⟩ := bounds_u8 w0
    obtain ⟨kk, hkk⟩ : ∃ kk : Nat, a0 % 12 = kk := ⟨(a0 % 12).toNat, by omega⟩
    have hk12 : kk < 12 := by omega
    have HKk := Lib.hid hkk
    clear hkk
    clear hM2 hmc hh ht hfb hb1 hb2 hbV1 hbV2 hgF hgp
    go_wp2_with fail
    simp only [HKk.out]
    clear ka kb
    go_loopw [8] (fun ix wr => ∃ i : Nat, i ≤ kk ∧ ix = .int .i64 i ∧ Hid (Dp w1.heap.size w2 wr p hp tp none (some ⟨w.heap.size + 1 + 1 + 1, 0, none⟩) none (some ⟨w.heap.size + 1, 0, none⟩) none 0 1 0 1 0 0 1 0 1 0 MA mn mc L1 l1 i)) (fun ix _ => kk - (intOf ix).toNat)
    case atStart => exact ⟨0, Nat.zero_le _, rfl, HD0⟩
    case round =>
      obtain ⟨i, hi, rfl, HD⟩ := hrel
      by_cases hlt : i < kk
      · have KN := Lib.hid (dp_next HD.out HM2.out (fun b hb => hb) HS2.out HGp.out (.int .u64 0))
        go_wp2_with (go_at_call 25; go_must (refine KN.out.mono ?_; rintro e w3 ⟨bb, rfl, hd⟩; have HD3 := Lib.hid hd; clear hd))
        go_roundw
        case rel => exact ⟨i + 1, by omega, by go_num, HD3⟩
        case measure => simp [intOf]; omega
      · obtain rfl : i = kk := by omega
        have KS := Lib.hid (dp_state HD.out (by omega))
        have hbk : Below w.heap.size w wr := HBw2.out.trans (HD.out.hk.below (Nat.le_trans hs1 HS2.out) (fun x hx h => by omega))
        have HBk := Lib.hid hbk
        clear hbk
        by_cases h8 : 7 < i
        · skip
          go_wp2_with (first
          | (go_at_call 23; go_must (refine KS.out.mono ?_; rintro e w3 ⟨A, nn, cc, en, rfl, hen, hb3⟩; obtain ⟨rfl, rfl⟩ := hen.out.1 h8; have HB3 := Lib.hid (HBk.out.trans (hb3.mono HBk.out.size)); clear hb3))
          | (go_at_call 17; (refine (answers_calls _ (HG.out.below (HB3.out.alloc HB3.out.size _) HG.out.big)).mono ?_; rintro e w4 ⟨rfl, hb4⟩; have HB4 := Lib.hid ((HB3.out.alloc HB3.out.size _).trans (hb4.mono (HB3.out.alloc HB3.out.size _).size)); have hx4 := blk_below (blk_new w3 _) hb4 (blk_lt (blk_new w3 _)); obtain ⟨⟨y0, y1, y2, y3, y4, y5, y6⟩, -⟩ := box7f hx4; clear hb4 hx4)))
          go_ret
          exact ⟨rfl, HB4.out⟩
        · skip
          go_wp2_with (first
          | (go_at_call 23; go_must (refine KS.out.mono ?_; rintro e w3 ⟨A, nn, cc, en, rfl, hen, hb3⟩; obtain ⟨rfl, rfl⟩ := hen.out.2 (by omega); have HB3 := Lib.hid (HBk.out.trans (hb3.mono HBk.out.size)); clear hb3))
          | (go_at_call 17; (refine (answers_calls _ (HG.out.below (HB3.out.alloc HB3.out.size _) HG.out.big)).mono ?_; rintro e w4 ⟨rfl, hb4⟩; have HB4 := Lib.hid ((HB3.out.alloc HB3.out.size _).trans (hb4.mono (HB3.out.alloc HB3.out.size _).size)); have hx4 := blk_below (blk_new w3 _) hb4 (blk_lt (blk_new w3 _)); obtain ⟨⟨y0, y1, y2, y3, y4, y5, y6⟩, -⟩ := box7f hx4; clear hb4 hx4)))
          go_ret
          exact ⟨rfl, HB4.out⟩
end Go.Proofs.YtmceaeoeakkppaaGreatDoor
