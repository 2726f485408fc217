/- Lists of types in a block of their own: slices.Clone, Clip, Grow, Concat; flow.next. -/
import Derived.Test.YtdmmjckhpagibaaGreatDoorMcOf
import Derived.Lib.AppendZerosOnto
namespace Go.Proofs.YtdmmjckhpagibaaGreatDoor
open Go.RowKit Go.Sort
set_option linter.unusedVariables false
def tcells (xs : List Ty) : List Value := xs.flatMap fun x => [.int .i64 x.kind, .int .i64 x.n]
theorem tcells_cons (x : Ty) (xs : List Ty) : tcells (x :: xs) = [.int .i64 x.kind, .int .i64 x.n] ++ tcells xs := by simp [tcells]
theorem tcells_append (a b : List Ty) : tcells (a ++ b) = tcells a ++ tcells b := by simp [tcells]
theorem tcells_length (xs : List Ty) : (tcells xs).length = xs.length * 2 := by
  induction xs with
  | nil => rfl
  | cons x xs ih => rw [tcells_cons, List.length_append, ih, List.length_cons, List.length_cons, List.length_cons, List.length_nil]; omega
theorem tcells_one (xs : List Ty) : ∀ u ∈ tcells xs, u.oneCell' = true := by
  intro u hu
  simp only [tcells, List.mem_flatMap, List.mem_cons, List.not_mem_nil, or_false] at hu
  obtain ⟨_, _, rfl | rfl⟩ := hu <;> rfl
def tywf (x : Ty) : Prop := (Lit.int .i64 x.kind).wf = true ∧ (Lit.int .i64 x.n).wf = true
theorem ty_flat {S : Nat → Prop} {w : World} : ∀ {xs : List Ty} {cells : List Value}, k_ty.Flat S w xs cells ↔ cells = tcells xs ∧ ∀ x ∈ xs, tywf x := by
  intro xs
  induction xs with
  | nil => intro cells; simp [Rd.Flat, tcells]
  | cons x xs ih =>
    intro cells
    constructor
    · rintro ⟨c, r, rfl, hK, hr⟩
      obtain ⟨rfl, h0, h1⟩ := k_ty_open hK
      obtain ⟨rfl, hw⟩ := ih.1 hr
      exact ⟨by rw [tcells_cons], fun y hy => by
        rcases List.mem_cons.1 hy with rfl | hy
        · exact ⟨h0, h1⟩
        · exact hw y hy⟩
    · rintro ⟨rfl, hw⟩
      rw [tcells_cons]
      exact Rd.Flat.cons (k_ty_mk x (hw x (by simp)).1 (hw x (by simp)).2) (ih.2 ⟨rfl, fun y hy => hw y (by simp [hy])⟩)
theorem ty_row {S : Nat → Prop} {w : World} {A : Option Addr} {xs : List Ty} (h : k_ty.Row S w A xs) : Lie w A xs.length (tcells xs) ∧ ∀ x ∈ xs, tywf x := by
  obtain ⟨cells, hf, hl⟩ := h.flat
  obtain ⟨rfl, hw⟩ := ty_flat.1 hf
  exact ⟨hl, hw⟩
theorem ty_info : (Tryz.prog.info? 23).map (fun i => (i.zero, i.size, i.bytes)) = some (some (.agg #[.int .i64 0, .int .i64 0]), 2, 16) := by kernel_rfl
/-- What lies in new memory. -/
def New (w w' : World) : Nat → Prop := fun b => w.heap.size ≤ b ∧ b < w'.heap.size
theorem own_trow {w w' : World} {A : Option Addr} {c : Nat} {xs : List Ty} (h : w'.ownsRow w.heap.size 23 2 (.slice A xs.length c) xs.length (tcells xs)) (hw : ∀ x ∈ xs, tywf x) (hl : xs.length ≤ 140737488351232) : k_ty.Row (New w w') w' A xs ∧ xs.length ≤ c := by
  obtain ⟨A', c', e, h1, h2, h3⟩ := Rd.Sl.of_own (d := k_ty) (S := New w w') h (fun g hg => ⟨(h.lt g hg).1, (h.lt g hg).2⟩) (ty_flat.2 ⟨rfl, hw⟩) hl
  cases e
  exact ⟨h3, h1⟩
set_option maxRecDepth 100000 in
theorem cloneT_calls (w : World) (A : Option Addr) (n c : Nat) (xs : List Ty) (hn : xs.length = n) (hm : n ≤ 1000000) (hl : Lie w A n (tcells xs)) (hw : ∀ x ∈ xs, tywf x) :
    Calls Tryz.prog 109 #[.slice A n c] w fun e w' => ∃ A' c', e = .returned (.slice A' n c') ∧ n ≤ c' ∧ k_ty.Row (New w w') w' A' xs ∧ Below w.heap.size w w' := by
  subst hn
  cases A with
  | none =>
    have h0 : xs.length = 0 := by
      rcases Nat.eq_zero_or_pos xs.length with h0 | h0
      · exact h0
      · obtain ⟨_, _, h, _⟩ := hl h0; cases h
    obtain rfl := List.eq_nil_of_length_eq_zero h0
    have hnil : ∀ w' : World, (binOp .eql 24 (.slice none 0 c) (.slice none 0 0)).run Tryz.prog w' = .ok (.bool true) w' := fun w' => Lib.run_eql_slice_nil w' _ _ none _ _ 0 0 Tryz.underlying24
    go_enter Tryz.func109, Tryz.ntmps109
    go_wp2
    go_ret
    exact ⟨_, _, rfl, Nat.le_refl _, Rd.Row.nil _ _ _ _, Below.refl _ _⟩
  | some a =>
    have hnil : ∀ w' : World, (binOp .eql 24 (.slice (some a) xs.length c) (.slice none 0 0)).run Tryz.prog w' = .ok (.bool false) w' := fun w' => Lib.run_eql_slice_nil w' _ _ (some a) _ _ 0 0 Tryz.underlying24
    go_enter Tryz.func109, Tryz.ntmps109
    go_wp2_with (at_builtin; refine list_app _ rfl (.tmp 5) (.tmp 6) _ rfl 23 Tryz.underlying24 ty_info rfl (by decide) (by decide) w.heap.size rfl (World.ownsRow_made w #[] 0 (Nat.le_refl _) (Nat.zero_le _) rfl) rfl (tcells_length _) (by exact hl.below ((Below.refl _ _).alloc (Nat.le_refl _) _)) (tcells_one _) (by omega) (by simp) ?_; intro v' w3 hown hg hat; have hB := Lib.hid (grown_below ((Below.refl _ _).alloc (Nat.le_refl _) _) hg (by simp) (.inr ⟨_, rfl, Nat.le_refl _⟩)); simp only [Nat.zero_add, List.nil_append] at hown; obtain ⟨A2, c2, rfl, _, _, _⟩ := own_shape hown; have HO := Lib.hid hown; clear hown hg hat)
    go_ret
    exact ⟨_, _, rfl, (own_trow HO.out hw (by omega)).2, (own_trow HO.out hw (by omega)).1, hB.out⟩
set_option maxRecDepth 100000 in
theorem clipT_calls (w : World) (A : Option Addr) (n c : Nat) (hnc : n ≤ c) (hm : n ≤ 1000000) (hs : ∀ a, A = some a → a.spot = none) :
    Calls Tryz.prog 108 #[.slice A n c] w fun e w' => e = .returned (.slice A n n) ∧ w' = w := by
  go_enter Tryz.func108, Tryz.ntmps108
  go_wp2
  go_ret
  exact ⟨rfl, rfl⟩
set_option maxRecDepth 100000 in
set_option maxHeartbeats 4000000 in
theorem growT_calls (w : World) (n : Nat) (hn : n ≤ 1000000) :
    Calls Tryz.prog 154 #[.slice none 0 0, .int .i64 n] w fun e w' => ∃ A c, e = .returned (.slice A 0 c) ∧ w'.ownsRow w.heap.size 23 2 (.slice A 0 c) 0 [] ∧ Below w.heap.size w w' := by
  rcases Nat.eq_zero_or_pos n with rfl | h0
  · go_enter Tryz.func154, Tryz.ntmps154
    go_wp2
    go_ret
    exact ⟨none, 0, rfl, ⟨rfl, .inl ⟨rfl, rfl⟩⟩, Below.refl _ _⟩
  · obtain ⟨i, hi, hiz, his, hib⟩ : ∃ i, Tryz.prog.info? 23 = some i ∧ i.zero = some (.agg #[.int .i64 0, .int .i64 0]) ∧ i.size = 2 ∧ i.bytes = 16 := by
      have h := ty_info
      cases hh : Tryz.prog.info? 23 with
      | none => rw [hh] at h; cases h
      | some i =>
        rw [hh] at h
        simp only [Option.map_some, Option.some.injEq, Prod.mk.injEq] at h
        exact ⟨i, rfl, h.1, h.2.1, h.2.2⟩
    have hrz := fun ty => Lib.run_append_nil_zeros (P := Tryz.prog) w 24 3 ty 23 i _ .i64 .i64 Tryz.underlying24 Tryz.underlying3 hi hiz n h0 (by omega) (by omega) (by rw [hib]; omega)
    have hge : n ≤ grownCap w n 0 23 := grownCap_ge w _ _ _
    have hle := grownCap_le_maxLen w n 0 23 (by unfold maxLen; omega)
    obtain ⟨G, hG⟩ : ∃ G, G = grownCap w n 0 23 := ⟨_, rfl⟩
    rw [← hG] at hrz hge hle
    clear hG
    unfold maxLen at hle
    have h4 : (n : Int) > 0 := by omega
    go_enter Tryz.func154, Tryz.ntmps154
    go_wp2_with (at_builtin; refine Lib.wpList_append_run _ rfl _ _ _ _ rfl _ _ rfl rfl _ _ (hrz _) ?_)
    go_ret
    refine ⟨_, G, rfl, World.ownsRow_made w.drew _ G (Nat.le_refl _) (by unfold maxLen; omega) ?_, ((Below.refl _ _).drew).alloc (Nat.le_refl _) _⟩
    rw [Array.size_append, size_zeroCells, size_zeroCells]
    show n * 2 + (G - n) * 2 = G * 2
    omega
set_option maxRecDepth 100000 in
set_option maxHeartbeats 4000000 in
theorem concat_calls {S : Nat → Prop} (w : World) (A : Option Addr) (n c : Nat) (xss : List (List Ty)) (hn : xss.length = n) (hn2 : n ≤ 100000) (hm : xss.flatten.length ≤ 100000) (hS : ∀ b, S b → b < w.heap.size) (row : (Rd.slice k_ty).Row S w A xss) :
    Calls Tryz.prog 114 #[.slice A n c] w fun e w' => ∃ A' c', e = .returned (.slice A' xss.flatten.length c') ∧ xss.flatten.length ≤ c' ∧ (∀ a, A' = some a → a.spot = none) ∧ k_ty.Row (New w w') w' A' xss.flatten ∧ Below w.heap.size w w' := by
  have HN := Lib.hid hn
  have HS := Lib.hid hS
  have HR := Lib.hid row
  have htake : ∀ k x, xss[k]? = some x → (xss.take (k + 1)).flatten = (xss.take k).flatten ++ x := fun k x hx => by
    rw [List.take_add_one, hx, List.flatten_append]; simp
  have hle : ∀ k, (xss.take k).flatten.length ≤ xss.flatten.length := fun k => by
    have h : xss.flatten = (xss.take k).flatten ++ (xss.drop k).flatten := by rw [← List.flatten_append, List.take_append_drop]
    rw [h, List.length_append]; omega
  have hwf : ∀ x ∈ xss.flatten, tywf x := fun x hx => by
    obtain ⟨l, hl, hx⟩ := List.mem_flatten.1 hx
    obtain ⟨k, hk⟩ := List.getElem?_of_mem hl
    obtain ⟨_, _, _, _, _, _, _, _, _, r0⟩ := row_slice_at row hk
    exact (ty_row r0).2 x hx
  have hall : (xss.take n).flatten = xss.flatten := by rw [List.take_of_length_le (by omega)]
  obtain ⟨f, hf⟩ : ∃ f : Nat → List Ty, ∀ k, (xss.take k).flatten = f k := ⟨_, fun _ => rfl⟩
  obtain ⟨t, ht⟩ : ∃ t : Nat → Nat, ∀ k, (f k).length = t k := ⟨_, fun _ => rfl⟩
  generalize hy : xss.flatten = ys at *
  simp only [hf] at htake hle hall
  have HT : Hid (∀ k x, xss[k]? = some x → f (k + 1) = f k ++ x) := Lib.hid htake
  have HL : Hid (∀ k, t k ≤ ys.length) := Lib.hid (fun k => ht k ▸ hle k)
  have HF := Lib.hid ht
  have HW := Lib.hid hwf
  have HA := Lib.hid hall
  have hf0 : f 0 = [] := by rw [← hf]; rfl
  have ht0 : t 0 = 0 := by rw [← ht, hf0]; rfl
  have H0 := Lib.hid hf0
  have HTn : Hid (t n = ys.length) := Lib.hid (by rw [← ht, hall])
  clear hn hS row htake hle hwf hall ht hf hy hf0
  go_enter Tryz.func114, Tryz.ntmps114
  go_wp2
  go_loopw [3, 11] (fun sz ix wr => ∃ k : Nat, k ≤ n ∧ ix = .int .i64 k ∧ sz = .int .i64 (t k) ∧ Hid (w = wr)) (fun _ ix _ => n - (intOf ix).toNat)
  case atStart => exact ⟨0, Nat.zero_le _, rfl, by rw [ht0]; rfl, Lib.hid rfl⟩
  case round =>
    obtain ⟨k, hk, rfl, rfl, he⟩ := hrel
    have e := he.out
    subst e
    clear he
    by_cases hlt : k < n
    · obtain ⟨x, hx⟩ : ∃ x, xss[k]? = some x := ⟨_, List.getElem?_eq_getElem (by have := HN.out; omega)⟩
      obtain ⟨b, o, B', c', rfl, hSb, e0, l0, m00, r0⟩ := row_slice_at HR.out hx
      have h1 := HL.out (k + 1)
      have h2 : t (k + 1) = t k + x.length := by rw [← HF.out, HT.out k x hx, List.length_append, HF.out]
      have HX := Lib.hid h2
      rw [h2] at h1
      have hw : wrap64 ((t k : Int) + x.length) = t k + x.length := by unfold wrap64; omega
      have hneg : ¬ ((t k : Int) + x.length < 0) := by omega
      clear hx r0 h2
      go_wp2
      go_roundw
      case rel => exact ⟨k + 1, by omega, by go_num, by rw [HX.out]; go_num, Lib.hid (by trivial)⟩
      case measure => simp [intOf]; omega
    · obtain rfl : n = k := by omega
      have hTn := HTn.out
      rw [hTn]
      clear hTn ht0
      go_wp2_with (first
        | (go_at_call 154; refine (growT_calls _ _ (by omega)).mono ?_; rintro e w1 ⟨A1, c1, rfl, ho, hb⟩; have HO := Lib.hid ho; have HB := Lib.hid hb; clear ho hb))
      go_loopw [6, 27] (fun sv ix wr => ∃ (k : Nat) (A2 : Option Addr) (c2 : Nat), k ≤ n ∧ ix = .int .i64 k ∧ sv = .slice A2 (t k) c2 ∧ Hid (wr.ownsRow w.heap.size 23 2 (.slice A2 (t k) c2) (t k) (tcells (f k))) ∧ Below w.heap.size w wr) (fun _ ix _ => n - (intOf ix).toNat)
      case atStart => exact ⟨0, A1, c1, Nat.zero_le _, rfl, by rw [← HF.out, H0.out]; rfl, Lib.hid (by rw [← HF.out, H0.out]; exact HO.out), HB.out⟩
      case round =>
        obtain ⟨k, A2, c2, hk, rfl, rfl, HO2, hb2⟩ := hrel
        have hsz := hb2.size
        by_cases hlt : k < n
        · obtain ⟨x, hx⟩ : ∃ x, xss[k]? = some x := ⟨_, List.getElem?_eq_getElem (by have := HN.out; omega)⟩
          obtain ⟨b, o, B', c', rfl, hSb, e0, l0, m00, r0⟩ := row_slice_at (HR.out.keep (fun b hb => hb2.block b (HS.out b hb))) hx
          have h1 := HL.out (k + 1)
          have h2 : t (k + 1) = t k + x.length := by rw [← HF.out, HT.out k x hx, List.length_append, HF.out]
          have HX := Lib.hid h2
          have HY := Lib.hid (HT.out k x hx)
          have HR0 := Lib.hid (ty_row r0).1
          rw [h2] at h1
          clear hx r0 h2
          go_wp2_with (at_builtin; refine list_app _ rfl (.tmp 31) (.tmp 32) _ rfl 23 Tryz.underlying24 ty_info rfl (by decide) (by decide) w.heap.size (n := t k) (xs := tcells (f k)) rfl (by exact HO2.out) (news := tcells x) rfl (tcells_length _) (by exact HR0.out) (tcells_one _) (by omega) (by omega) ?_; intro v' w3 hown hg hat; have hB := Lib.hid (grown_below hb2 hg (by omega) (own_row_ge HO2.out)); obtain ⟨A3, c3, rfl, hn3, _, _⟩ := own_shape hown; have HO3 := Lib.hid hown; clear hown hg hat)
          go_roundw
          case rel => exact ⟨k + 1, A3, c3, by omega, by go_num, by rw [HX.out], Lib.hid (by rw [HX.out, HY.out, tcells_append]; exact HO3.out), hB.out⟩
          case measure => simp [intOf]; omega
        · obtain rfl : n = k := by omega
          have hTn := HTn.out
          have ho := HO2.out
          rw [hTn, HA.out] at ho
          have HO3 := Lib.hid ho
          rw [hTn]
          clear hTn ho HO2
          go_wp2
          go_ret
          refine ⟨_, _, rfl, (own_trow HO3.out HW.out (by omega)).2, ?_, (own_trow HO3.out HW.out (by omega)).1, hb2⟩
          intro a ha
          obtain ⟨A', c', e, _, _, h5⟩ := own_shape HO3.out
          cases e
          rcases Nat.eq_zero_or_pos ys.length with h0 | h0
          · rcases HO3.out.2 with ⟨h6, _⟩ | ⟨g, cap, cur, h6, _⟩
            · injection h6 with h7
              rw [h7] at ha
              cases ha
            · injection h6 with h7
              rw [h7] at ha
              cases ha
              rfl
          · obtain ⟨g, hg, _⟩ := h5 h0
            rw [hg] at ha
            cases ha
            rfl
/-- Where an instruction leads. -/
def nextL (i : Ins) (pc : Nat) : List Int := if i.op = 26 then [] else if i.op = 23 then [i.a] else if i.op = 24 then [pc + 1, i.a] else [pc + 1]
theorem row_ints {S : Nat → Prop} {w : World} {g : Nat} {t : TypeId} {xs : List Int} (h : w.heap[g]? = some (.cells (xs.map (.int .i64 ·)).toArray t (0, 0))) (hb : S g) (hwf : ∀ x ∈ xs, (Lit.int .i64 x).wf = true) : (Rd.int .i64).Row S w (some ⟨g, 0, none⟩) xs := by
  refine Rd.Row.of_blk h hb (cells := xs.map (.int .i64 ·)) ?_ (fun j v hj => by simpa using hj)
  clear h hb
  induction xs with
  | nil => rfl
  | cons x xs ih => exact Rd.Flat.cons (c := [.int .i64 x]) ⟨rfl, hwf x (by simp)⟩ (ih (fun y hy => hwf y (by simp [hy])))
set_option maxRecDepth 100000 in
theorem next_calls (w : World) (op a b : Int) (pc : Nat) (ha : (Lit.int .i64 a).wf = true) (hp : pc ≤ 1000) :
    Calls Tryz.prog 153 #[.agg #[.int .i64 op, .int .i64 a, .int .i64 b], .int .i64 pc] w fun e w' => ∃ A c, e = .returned (.slice A (nextL ⟨op, a, b⟩ pc).length c) ∧ (Rd.int .i64).Row (New w w') w' A (nextL ⟨op, a, b⟩ pc) ∧ Below w.heap.size w w' := by
  have hw : wrap64 ((pc : Int) + 1) = pc + 1 := by unfold wrap64; omega
  have hf : (Lit.int .i64 ((pc : Int) + 1)).wf = true := WalkArith.wf_i64 (by omega)
  have h0 := blk_new w (Obj.cells #[.int .i64 op, .int .i64 a, .int .i64 b] 27)
  by_cases h1 : op = 26
  · subst h1
    go_enter Tryz.func153, Tryz.ntmps153
    go_wp2
    go_ret
    exact ⟨_, _, rfl, Rd.Row.nil _ _ _ _, below_a1 _ _⟩
  by_cases h2 : op = 23
  · subst h2
    go_enter Tryz.func153, Tryz.ntmps153
    go_wp2
    go_ret
    exact ⟨_, _, rfl, row_ints (xs := [a]) (blk_new2 _ _ _) ⟨by omega, by simp⟩ (by intro x hx; rw [List.mem_singleton.1 hx]; exact ha), below_up (below_a1 _ _) _⟩
  by_cases h3 : op = 24
  · subst h3
    go_enter Tryz.func153, Tryz.ntmps153
    go_wp2
    go_ret
    exact ⟨_, _, rfl, row_ints (xs := [(pc : Int) + 1, a]) (blk_new2 _ _ _) ⟨by omega, by simp⟩ (by intro x hx; simp at hx; rcases hx with rfl | rfl; exact hf; exact ha), below_up (below_a1 _ _) _⟩
  have e1 : (op == 26) = false := by simpa using h1
  have e2 : (op == 23) = false := by simpa using h2
  have e3 : (op == 24) = false := by simpa using h3
  have he : nextL ⟨op, a, b⟩ pc = [(pc : Int) + 1] := by simp [nextL, h1, h2, h3]
  rw [he]
  clear h1 h2 h3 he
  go_enter Tryz.func153, Tryz.ntmps153
  go_wp2
  go_ret
  exact ⟨_, _, rfl, row_ints (xs := [(pc : Int) + 1]) (blk_new2 _ _ _) ⟨by omega, by simp⟩ (by intro x hx; rw [List.mem_singleton.1 hx]; exact hf), below_up (below_a1 _ _) _⟩
end Go.Proofs.YtdmmjckhpagibaaGreatDoor
