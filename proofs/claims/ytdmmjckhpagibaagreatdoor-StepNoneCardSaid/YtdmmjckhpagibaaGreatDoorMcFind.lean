/- slices.IndexFunc and slices.ContainsFunc at each type, for whatever function is handed in. Printed by gen_mc.py of this repo. -/
import Derived.Test.YtdmmjckhpagibaaGreatDoorMcGood
namespace Go.Proofs.YtdmmjckhpagibaaGreatDoor
open Go.RowKit
set_option linter.unusedVariables false
/-- Where the first is of which p holds. -/
def idxP {α : Type} (p : α → Bool) (xs : List α) : Int := match xs.findIdx? p with | some i => (i : Int) | none => -1
theorem idxP_any {α : Type} (p : α → Bool) (xs : List α) : decide (0 ≤ idxP p xs) = xs.any p := by
  unfold idxP
  cases h : xs.findIdx? p with
  | none =>
    rw [List.findIdx?_eq_none_iff] at h
    have : xs.any p = false := by rw [List.any_eq_false]; exact fun x hx => by simp [h x hx]
    rw [this]; rfl
  | some i =>
    obtain ⟨hi, h1, _⟩ := List.findIdx?_eq_some_iff_getElem.1 h
    have : xs.any p = true := List.any_eq_true.2 ⟨_, List.getElem_mem hi, h1⟩
    rw [this]
    exact decide_eq_true (show (0 : Int) ≤ (i : Int) by omega)
theorem idxP_hit {α : Type} {p : α → Bool} {xs : List α} {k : Nat} {x : α} (h : ∀ j, j < k → ∀ y, xs[j]? = some y → p y = false) (hx : xs[k]? = some x) (hp : p x = true) : idxP p xs = k := by
  obtain ⟨hk, rfl⟩ := List.getElem?_eq_some_iff.1 hx
  have : xs.findIdx? p = some k := List.findIdx?_eq_some_iff_getElem.2 ⟨hk, hp, fun j hj => by rw [h j hj _ (List.getElem?_eq_getElem (by omega))]; simp⟩
  unfold idxP; rw [this]
theorem idxP_none {α : Type} {p : α → Bool} {xs : List α} (h : ∀ j, j < xs.length → ∀ y, xs[j]? = some y → p y = false) : idxP p xs = -1 := by
  have : xs.findIdx? p = none := List.findIdx?_eq_none_iff.2 (fun x hx => by obtain ⟨j, hj⟩ := List.getElem?_of_mem hx; exact h j (List.getElem?_eq_some_iff.1 hj).1 x hj)
  unfold idxP; rw [this]
set_option maxRecDepth 100000 in
set_option maxHeartbeats 4000000 in
theorem index_Ty {S : Nat → Prop} (w : World) (A : Option Addr) (n c : Nat) (xs : List Ty) (hn : xs.length = n) (hm : n ≤ 100000000000000) (hS : ∀ b, S b → b < w.heap.size) (row : k_ty.Row S w A xs) (g : FuncId) (eg : ∀ args w, (callFunc g args).run Tryz.prog w = .ok (.enter g args) w) (lb : Array Value) (p : Ty → Bool) (hf : ∀ (W : World) (x : Ty), x ∈ xs → (Lit.int .i64 x.kind).wf = true → (Lit.int .i64 x.n).wf = true → Below w.heap.size w W → Calls Tryz.prog g (#[.agg #[.int .i64 x.kind, .int .i64 x.n]] ++ lb) W fun e w' => e = .returned (.bool (p x)) ∧ Below W.heap.size W w') :
    Calls Tryz.prog 106 #[.slice A n c, .func (.func g) #[] lb] w fun e w' => e = .returned (.int .i64 (idxP p xs)) ∧ Below w.heap.size w w' := by
  have HN := Lib.hid hn
  have HR := Lib.hid row
  have HF := Lib.hid hf
  have HS := Lib.hid hS
  have EG := Lib.hid eg
  clear hn row hf hS eg
  go_enter Tryz.func106, Tryz.ntmps106
  go_wp2
  go_loopw [8] (fun i wr => ∃ k : Nat, k ≤ n ∧ i = .int .i64 k ∧ (∀ j, j < k → ∀ y, xs[j]? = some y → p y = false) ∧ Below w.heap.size w wr) (fun i _ => n - (intOf i).toNat)
  case atStart => exact ⟨0, Nat.zero_le _, rfl, fun j hj => absurd hj (by omega), Below.refl _ _⟩
  case round =>
    obtain ⟨k, hk, rfl, hno, hb⟩ := hrel
    have HNo := Lib.hid hno
    have HB := Lib.hid hb
    have hsz := hb.size
    by_cases hlt : k < n
    · obtain ⟨x, hx⟩ : ∃ x, xs[k]? = some x := ⟨_, List.getElem?_eq_getElem (by have := HN.out; omega)⟩
      obtain ⟨b, o, rfl, hSb, e0, e1, f0, f1⟩ := k_ty_at (HR.out.keep (fun b h => hb.block b (HS.out b h))) hx
      have HX := Lib.hid hx
      have K := Lib.hid (HF.out wr x  (List.mem_of_getElem? hx) f0 f1 hb)
      clear hno hb hx
      by_cases hp : p x = true
      · go_wp2_with fail
        rw [EG.out]
        refine K.out.mono ?_
        rw [hp]
        rintro e w1 ⟨rfl, hb1⟩
        have HB1 := Lib.hid (HB.out.trans (hb1.mono hsz))
        clear hb1
        go_wp2
        go_ret
        exact ⟨ret_int (idxP_hit HNo.out HX.out hp).symm, HB1.out⟩
      · have hp' : p x = false := by simpa using hp
        go_wp2_with fail
        rw [EG.out]
        refine K.out.mono ?_
        rw [hp']
        rintro e w1 ⟨rfl, hb1⟩
        have HB1 := Lib.hid (HB.out.trans (hb1.mono hsz))
        clear hb1
        go_wp2
        refine ⟨⟨k + 1, by omega, by go_num, fun j hj y hy => ?_, HB1.out⟩, by simp [intOf]; omega⟩
        by_cases e : j = k
        · subst e; rw [HX.out] at hy; cases hy; exact hp'
        · exact HNo.out j (by omega) y hy
    · obtain rfl : k = n := by omega
      go_wp2
      go_ret
      exact ⟨ret_int (idxP_none (fun j hj => HNo.out j (by have := HN.out; omega))).symm, HB.out⟩
theorem contains_Ty {S : Nat → Prop} (w : World) (A : Option Addr) (n c : Nat) (xs : List Ty) (hn : xs.length = n) (hm : n ≤ 100000000000000) (hS : ∀ b, S b → b < w.heap.size) (row : k_ty.Row S w A xs) (g : FuncId) (eg : ∀ args w, (callFunc g args).run Tryz.prog w = .ok (.enter g args) w) (lb : Array Value) (p : Ty → Bool) (hf : ∀ (W : World) (x : Ty), x ∈ xs → (Lit.int .i64 x.kind).wf = true → (Lit.int .i64 x.n).wf = true → Below w.heap.size w W → Calls Tryz.prog g (#[.agg #[.int .i64 x.kind, .int .i64 x.n]] ++ lb) W fun e w' => e = .returned (.bool (p x)) ∧ Below W.heap.size W w') :
    Calls Tryz.prog 70 #[.slice A n c, .func (.func g) #[] lb] w fun e w' => e = .returned (.bool (xs.any p)) ∧ Below w.heap.size w w' := by
  have K := Lib.hid (index_Ty w A n c xs hn hm hS row g eg lb p hf)
  have HI := Lib.hid (idxP_any p xs)
  clear hn row hf hS eg
  generalize idxP p xs = z at *
  go_enter Tryz.func70, Tryz.ntmps70
  go_wp2_with (go_at_call 106; refine K.out.mono ?_; rintro e w1 ⟨rfl, hb1⟩)
  go_ret
  exact ⟨ret_bool HI.out, hb1⟩
set_option maxRecDepth 100000 in
set_option maxHeartbeats 4000000 in
theorem index_Ins {S : Nat → Prop} (w : World) (A : Option Addr) (n c : Nat) (xs : List Ins) (hn : xs.length = n) (hm : n ≤ 100000000000000) (hS : ∀ b, S b → b < w.heap.size) (row : k_instr.Row S w A xs) (g : FuncId) (eg : ∀ args w, (callFunc g args).run Tryz.prog w = .ok (.enter g args) w) (lb : Array Value) (p : Ins → Bool) (hf : ∀ (W : World) (x : Ins), x ∈ xs → (Lit.int .i64 x.op).wf = true → (Lit.int .i64 x.a).wf = true → (Lit.int .i64 x.b).wf = true → Below w.heap.size w W → Calls Tryz.prog g (#[.agg #[.int .i64 x.op, .int .i64 x.a, .int .i64 x.b]] ++ lb) W fun e w' => e = .returned (.bool (p x)) ∧ Below W.heap.size W w') :
    Calls Tryz.prog 105 #[.slice A n c, .func (.func g) #[] lb] w fun e w' => e = .returned (.int .i64 (idxP p xs)) ∧ Below w.heap.size w w' := by
  have HN := Lib.hid hn
  have HR := Lib.hid row
  have HF := Lib.hid hf
  have HS := Lib.hid hS
  have EG := Lib.hid eg
  clear hn row hf hS eg
  go_enter Tryz.func105, Tryz.ntmps105
  go_wp2
  go_loopw [8] (fun i wr => ∃ k : Nat, k ≤ n ∧ i = .int .i64 k ∧ (∀ j, j < k → ∀ y, xs[j]? = some y → p y = false) ∧ Below w.heap.size w wr) (fun i _ => n - (intOf i).toNat)
  case atStart => exact ⟨0, Nat.zero_le _, rfl, fun j hj => absurd hj (by omega), Below.refl _ _⟩
  case round =>
    obtain ⟨k, hk, rfl, hno, hb⟩ := hrel
    have HNo := Lib.hid hno
    have HB := Lib.hid hb
    have hsz := hb.size
    by_cases hlt : k < n
    · obtain ⟨x, hx⟩ : ∃ x, xs[k]? = some x := ⟨_, List.getElem?_eq_getElem (by have := HN.out; omega)⟩
      obtain ⟨b, o, rfl, hSb, e0, e1, e2, f0, f1, f2⟩ := k_instr_at (HR.out.keep (fun b h => hb.block b (HS.out b h))) hx
      have HX := Lib.hid hx
      have K := Lib.hid (HF.out wr x  (List.mem_of_getElem? hx) f0 f1 f2 hb)
      clear hno hb hx
      by_cases hp : p x = true
      · go_wp2_with fail
        rw [EG.out]
        refine K.out.mono ?_
        rw [hp]
        rintro e w1 ⟨rfl, hb1⟩
        have HB1 := Lib.hid (HB.out.trans (hb1.mono hsz))
        clear hb1
        go_wp2
        go_ret
        exact ⟨ret_int (idxP_hit HNo.out HX.out hp).symm, HB1.out⟩
      · have hp' : p x = false := by simpa using hp
        go_wp2_with fail
        rw [EG.out]
        refine K.out.mono ?_
        rw [hp']
        rintro e w1 ⟨rfl, hb1⟩
        have HB1 := Lib.hid (HB.out.trans (hb1.mono hsz))
        clear hb1
        go_wp2
        refine ⟨⟨k + 1, by omega, by go_num, fun j hj y hy => ?_, HB1.out⟩, by simp [intOf]; omega⟩
        by_cases e : j = k
        · subst e; rw [HX.out] at hy; cases hy; exact hp'
        · exact HNo.out j (by omega) y hy
    · obtain rfl : k = n := by omega
      go_wp2
      go_ret
      exact ⟨ret_int (idxP_none (fun j hj => HNo.out j (by have := HN.out; omega))).symm, HB.out⟩
theorem contains_Ins {S : Nat → Prop} (w : World) (A : Option Addr) (n c : Nat) (xs : List Ins) (hn : xs.length = n) (hm : n ≤ 100000000000000) (hS : ∀ b, S b → b < w.heap.size) (row : k_instr.Row S w A xs) (g : FuncId) (eg : ∀ args w, (callFunc g args).run Tryz.prog w = .ok (.enter g args) w) (lb : Array Value) (p : Ins → Bool) (hf : ∀ (W : World) (x : Ins), x ∈ xs → (Lit.int .i64 x.op).wf = true → (Lit.int .i64 x.a).wf = true → (Lit.int .i64 x.b).wf = true → Below w.heap.size w W → Calls Tryz.prog g (#[.agg #[.int .i64 x.op, .int .i64 x.a, .int .i64 x.b]] ++ lb) W fun e w' => e = .returned (.bool (p x)) ∧ Below W.heap.size W w') :
    Calls Tryz.prog 69 #[.slice A n c, .func (.func g) #[] lb] w fun e w' => e = .returned (.bool (xs.any p)) ∧ Below w.heap.size w w' := by
  have K := Lib.hid (index_Ins w A n c xs hn hm hS row g eg lb p hf)
  have HI := Lib.hid (idxP_any p xs)
  clear hn row hf hS eg
  generalize idxP p xs = z at *
  go_enter Tryz.func69, Tryz.ntmps69
  go_wp2_with (go_at_call 105; refine K.out.mono ?_; rintro e w1 ⟨rfl, hb1⟩)
  go_ret
  exact ⟨ret_bool HI.out, hb1⟩
set_option maxRecDepth 100000 in
set_option maxHeartbeats 4000000 in
theorem index_Imp {S : Nat → Prop} (w : World) (A : Option Addr) (n c : Nat) (xs : List Imp) (hn : xs.length = n) (hm : n ≤ 100000000000000) (hS : ∀ b, S b → b < w.heap.size) (row : k_imp.Row S w A xs) (g : FuncId) (eg : ∀ args w, (callFunc g args).run Tryz.prog w = .ok (.enter g args) w) (lb : Array Value) (p : Imp → Bool) (hf : ∀ (W : World) (x : Imp) (A0 : Option Addr) (c0 : Nat), x ∈ xs → x.args.length ≤ c0 → x.args.length ≤ 140737488351232 → k_ty.Row S W A0 x.args → (Lit.int .i64 x.ret.kind).wf = true → (Lit.int .i64 x.ret.n).wf = true → Below w.heap.size w W → Calls Tryz.prog g (#[.agg #[.slice A0 x.args.length c0, .int .i64 x.ret.kind, .int .i64 x.ret.n]] ++ lb) W fun e w' => e = .returned (.bool (p x)) ∧ Below W.heap.size W w') :
    Calls Tryz.prog 107 #[.slice A n c, .func (.func g) #[] lb] w fun e w' => e = .returned (.int .i64 (idxP p xs)) ∧ Below w.heap.size w w' := by
  have HN := Lib.hid hn
  have HR := Lib.hid row
  have HF := Lib.hid hf
  have HS := Lib.hid hS
  have EG := Lib.hid eg
  clear hn row hf hS eg
  go_enter Tryz.func107, Tryz.ntmps107
  go_wp2
  go_loopw [8] (fun i wr => ∃ k : Nat, k ≤ n ∧ i = .int .i64 k ∧ (∀ j, j < k → ∀ y, xs[j]? = some y → p y = false) ∧ Below w.heap.size w wr) (fun i _ => n - (intOf i).toNat)
  case atStart => exact ⟨0, Nat.zero_le _, rfl, fun j hj => absurd hj (by omega), Below.refl _ _⟩
  case round =>
    obtain ⟨k, hk, rfl, hno, hb⟩ := hrel
    have HNo := Lib.hid hno
    have HB := Lib.hid hb
    have hsz := hb.size
    by_cases hlt : k < n
    · obtain ⟨x, hx⟩ : ∃ x, xs[k]? = some x := ⟨_, List.getElem?_eq_getElem (by have := HN.out; omega)⟩
      obtain ⟨b, o, A0, c0, rfl, hSb, e0, e1, e2, l0, m0, r0, f1, f2⟩ := k_imp_at (HR.out.keep (fun b h => hb.block b (HS.out b h))) hx
      have HX := Lib.hid hx
      have K := Lib.hid (HF.out wr x A0 c0 (List.mem_of_getElem? hx) l0 m0 r0 f1 f2 hb)
      clear hno hb hx
      by_cases hp : p x = true
      · go_wp2_with fail
        rw [EG.out]
        refine K.out.mono ?_
        rw [hp]
        rintro e w1 ⟨rfl, hb1⟩
        have HB1 := Lib.hid (HB.out.trans (hb1.mono hsz))
        clear hb1
        go_wp2
        go_ret
        exact ⟨ret_int (idxP_hit HNo.out HX.out hp).symm, HB1.out⟩
      · have hp' : p x = false := by simpa using hp
        go_wp2_with fail
        rw [EG.out]
        refine K.out.mono ?_
        rw [hp']
        rintro e w1 ⟨rfl, hb1⟩
        have HB1 := Lib.hid (HB.out.trans (hb1.mono hsz))
        clear hb1
        go_wp2
        refine ⟨⟨k + 1, by omega, by go_num, fun j hj y hy => ?_, HB1.out⟩, by simp [intOf]; omega⟩
        by_cases e : j = k
        · subst e; rw [HX.out] at hy; cases hy; exact hp'
        · exact HNo.out j (by omega) y hy
    · obtain rfl : k = n := by omega
      go_wp2
      go_ret
      exact ⟨ret_int (idxP_none (fun j hj => HNo.out j (by have := HN.out; omega))).symm, HB.out⟩
theorem contains_Imp {S : Nat → Prop} (w : World) (A : Option Addr) (n c : Nat) (xs : List Imp) (hn : xs.length = n) (hm : n ≤ 100000000000000) (hS : ∀ b, S b → b < w.heap.size) (row : k_imp.Row S w A xs) (g : FuncId) (eg : ∀ args w, (callFunc g args).run Tryz.prog w = .ok (.enter g args) w) (lb : Array Value) (p : Imp → Bool) (hf : ∀ (W : World) (x : Imp) (A0 : Option Addr) (c0 : Nat), x ∈ xs → x.args.length ≤ c0 → x.args.length ≤ 140737488351232 → k_ty.Row S W A0 x.args → (Lit.int .i64 x.ret.kind).wf = true → (Lit.int .i64 x.ret.n).wf = true → Below w.heap.size w W → Calls Tryz.prog g (#[.agg #[.slice A0 x.args.length c0, .int .i64 x.ret.kind, .int .i64 x.ret.n]] ++ lb) W fun e w' => e = .returned (.bool (p x)) ∧ Below W.heap.size W w') :
    Calls Tryz.prog 75 #[.slice A n c, .func (.func g) #[] lb] w fun e w' => e = .returned (.bool (xs.any p)) ∧ Below w.heap.size w w' := by
  have K := Lib.hid (index_Imp w A n c xs hn hm hS row g eg lb p hf)
  have HI := Lib.hid (idxP_any p xs)
  clear hn row hf hS eg
  generalize idxP p xs = z at *
  go_enter Tryz.func75, Tryz.ntmps75
  go_wp2_with (go_at_call 107; refine K.out.mono ?_; rintro e w1 ⟨rfl, hb1⟩)
  go_ret
  exact ⟨ret_bool HI.out, hb1⟩
set_option maxRecDepth 100000 in
set_option maxHeartbeats 4000000 in
theorem index_Fn {S : Nat → Prop} (w : World) (A : Option Addr) (n c : Nat) (xs : List Fn) (hn : xs.length = n) (hm : n ≤ 100000000000000) (hS : ∀ b, S b → b < w.heap.size) (row : k_func.Row S w A xs) (g : FuncId) (eg : ∀ args w, (callFunc g args).run Tryz.prog w = .ok (.enter g args) w) (lb : Array Value) (p : Fn → Bool) (hf : ∀ (W : World) (x : Fn) (A0 : Option Addr) (c0 : Nat) (A3 : Option Addr) (c3 : Nat) (A4 : Option Addr) (c4 : Nat), x ∈ xs → x.args.length ≤ c0 → x.args.length ≤ 140737488351232 → k_ty.Row S W A0 x.args → (Lit.int .i64 x.ret.kind).wf = true → (Lit.int .i64 x.ret.n).wf = true → x.locals.length ≤ c3 → x.locals.length ≤ 140737488351232 → k_ty.Row S W A3 x.locals → x.code.length ≤ c4 → x.code.length ≤ 140737488351232 → k_instr.Row S W A4 x.code → Below w.heap.size w W → Calls Tryz.prog g (#[.agg #[.slice A0 x.args.length c0, .int .i64 x.ret.kind, .int .i64 x.ret.n, .slice A3 x.locals.length c3, .slice A4 x.code.length c4]] ++ lb) W fun e w' => e = .returned (.bool (p x)) ∧ Below W.heap.size W w') :
    Calls Tryz.prog 169 #[.slice A n c, .func (.func g) #[] lb] w fun e w' => e = .returned (.int .i64 (idxP p xs)) ∧ Below w.heap.size w w' := by
  have HN := Lib.hid hn
  have HR := Lib.hid row
  have HF := Lib.hid hf
  have HS := Lib.hid hS
  have EG := Lib.hid eg
  clear hn row hf hS eg
  go_enter Tryz.func169, Tryz.ntmps169
  go_wp2
  go_loopw [8] (fun i wr => ∃ k : Nat, k ≤ n ∧ i = .int .i64 k ∧ (∀ j, j < k → ∀ y, xs[j]? = some y → p y = false) ∧ Below w.heap.size w wr) (fun i _ => n - (intOf i).toNat)
  case atStart => exact ⟨0, Nat.zero_le _, rfl, fun j hj => absurd hj (by omega), Below.refl _ _⟩
  case round =>
    obtain ⟨k, hk, rfl, hno, hb⟩ := hrel
    have HNo := Lib.hid hno
    have HB := Lib.hid hb
    have hsz := hb.size
    by_cases hlt : k < n
    · obtain ⟨x, hx⟩ : ∃ x, xs[k]? = some x := ⟨_, List.getElem?_eq_getElem (by have := HN.out; omega)⟩
      obtain ⟨b, o, A0, c0, A3, c3, A4, c4, rfl, hSb, e0, e1, e2, e3, e4, l0, m0, r0, f1, f2, l3, m3, r3, l4, m4, r4⟩ := k_func_at (HR.out.keep (fun b h => hb.block b (HS.out b h))) hx
      have HX := Lib.hid hx
      have K := Lib.hid (HF.out wr x A0 c0 A3 c3 A4 c4 (List.mem_of_getElem? hx) l0 m0 r0 f1 f2 l3 m3 r3 l4 m4 r4 hb)
      clear hno hb hx
      by_cases hp : p x = true
      · go_wp2_with fail
        rw [EG.out]
        refine K.out.mono ?_
        rw [hp]
        rintro e w1 ⟨rfl, hb1⟩
        have HB1 := Lib.hid (HB.out.trans (hb1.mono hsz))
        clear hb1
        go_wp2
        go_ret
        exact ⟨ret_int (idxP_hit HNo.out HX.out hp).symm, HB1.out⟩
      · have hp' : p x = false := by simpa using hp
        go_wp2_with fail
        rw [EG.out]
        refine K.out.mono ?_
        rw [hp']
        rintro e w1 ⟨rfl, hb1⟩
        have HB1 := Lib.hid (HB.out.trans (hb1.mono hsz))
        clear hb1
        go_wp2
        refine ⟨⟨k + 1, by omega, by go_num, fun j hj y hy => ?_, HB1.out⟩, by simp [intOf]; omega⟩
        by_cases e : j = k
        · subst e; rw [HX.out] at hy; cases hy; exact hp'
        · exact HNo.out j (by omega) y hy
    · obtain rfl : k = n := by omega
      go_wp2
      go_ret
      exact ⟨ret_int (idxP_none (fun j hj => HNo.out j (by have := HN.out; omega))).symm, HB.out⟩
theorem contains_Fn {S : Nat → Prop} (w : World) (A : Option Addr) (n c : Nat) (xs : List Fn) (hn : xs.length = n) (hm : n ≤ 100000000000000) (hS : ∀ b, S b → b < w.heap.size) (row : k_func.Row S w A xs) (g : FuncId) (eg : ∀ args w, (callFunc g args).run Tryz.prog w = .ok (.enter g args) w) (lb : Array Value) (p : Fn → Bool) (hf : ∀ (W : World) (x : Fn) (A0 : Option Addr) (c0 : Nat) (A3 : Option Addr) (c3 : Nat) (A4 : Option Addr) (c4 : Nat), x ∈ xs → x.args.length ≤ c0 → x.args.length ≤ 140737488351232 → k_ty.Row S W A0 x.args → (Lit.int .i64 x.ret.kind).wf = true → (Lit.int .i64 x.ret.n).wf = true → x.locals.length ≤ c3 → x.locals.length ≤ 140737488351232 → k_ty.Row S W A3 x.locals → x.code.length ≤ c4 → x.code.length ≤ 140737488351232 → k_instr.Row S W A4 x.code → Below w.heap.size w W → Calls Tryz.prog g (#[.agg #[.slice A0 x.args.length c0, .int .i64 x.ret.kind, .int .i64 x.ret.n, .slice A3 x.locals.length c3, .slice A4 x.code.length c4]] ++ lb) W fun e w' => e = .returned (.bool (p x)) ∧ Below W.heap.size W w') :
    Calls Tryz.prog 138 #[.slice A n c, .func (.func g) #[] lb] w fun e w' => e = .returned (.bool (xs.any p)) ∧ Below w.heap.size w w' := by
  have K := Lib.hid (index_Fn w A n c xs hn hm hS row g eg lb p hf)
  have HI := Lib.hid (idxP_any p xs)
  clear hn row hf hS eg
  generalize idxP p xs = z at *
  go_enter Tryz.func138, Tryz.ntmps138
  go_wp2_with (go_at_call 169; refine K.out.mono ?_; rintro e w1 ⟨rfl, hb1⟩)
  go_ret
  exact ⟨ret_bool HI.out, hb1⟩
set_option maxRecDepth 100000 in
set_option maxHeartbeats 4000000 in
theorem index_Han {S : Nat → Prop} (w : World) (A : Option Addr) (n c : Nat) (xs : List Han) (hn : xs.length = n) (hm : n ≤ 100000000000000) (hS : ∀ b, S b → b < w.heap.size) (row : k_han.Row S w A xs) (g : FuncId) (eg : ∀ args w, (callFunc g args).run Tryz.prog w = .ok (.enter g args) w) (lb : Array Value) (p : Han → Bool) (hf : ∀ (W : World) (x : Han), x ∈ xs → (Lit.int .i64 x.kind).wf = true → (Lit.int .u64 x.desc).wf = true → Below w.heap.size w W → Calls Tryz.prog g (#[.agg #[.int .i64 x.kind, .int .u64 x.desc, .bool x.opn]] ++ lb) W fun e w' => e = .returned (.bool (p x)) ∧ Below W.heap.size W w') :
    Calls Tryz.prog 112 #[.slice A n c, .func (.func g) #[] lb] w fun e w' => e = .returned (.int .i64 (idxP p xs)) ∧ Below w.heap.size w w' := by
  have HN := Lib.hid hn
  have HR := Lib.hid row
  have HF := Lib.hid hf
  have HS := Lib.hid hS
  have EG := Lib.hid eg
  clear hn row hf hS eg
  go_enter Tryz.func112, Tryz.ntmps112
  go_wp2
  go_loopw [8] (fun i wr => ∃ k : Nat, k ≤ n ∧ i = .int .i64 k ∧ (∀ j, j < k → ∀ y, xs[j]? = some y → p y = false) ∧ Below w.heap.size w wr) (fun i _ => n - (intOf i).toNat)
  case atStart => exact ⟨0, Nat.zero_le _, rfl, fun j hj => absurd hj (by omega), Below.refl _ _⟩
  case round =>
    obtain ⟨k, hk, rfl, hno, hb⟩ := hrel
    have HNo := Lib.hid hno
    have HB := Lib.hid hb
    have hsz := hb.size
    by_cases hlt : k < n
    · obtain ⟨x, hx⟩ : ∃ x, xs[k]? = some x := ⟨_, List.getElem?_eq_getElem (by have := HN.out; omega)⟩
      obtain ⟨b, o, rfl, hSb, e0, e1, e2, f0, f1⟩ := k_han_at (HR.out.keep (fun b h => hb.block b (HS.out b h))) hx
      have HX := Lib.hid hx
      have K := Lib.hid (HF.out wr x  (List.mem_of_getElem? hx) f0 f1 hb)
      clear hno hb hx
      by_cases hp : p x = true
      · go_wp2_with fail
        rw [EG.out]
        refine K.out.mono ?_
        rw [hp]
        rintro e w1 ⟨rfl, hb1⟩
        have HB1 := Lib.hid (HB.out.trans (hb1.mono hsz))
        clear hb1
        go_wp2
        go_ret
        exact ⟨ret_int (idxP_hit HNo.out HX.out hp).symm, HB1.out⟩
      · have hp' : p x = false := by simpa using hp
        go_wp2_with fail
        rw [EG.out]
        refine K.out.mono ?_
        rw [hp']
        rintro e w1 ⟨rfl, hb1⟩
        have HB1 := Lib.hid (HB.out.trans (hb1.mono hsz))
        clear hb1
        go_wp2
        refine ⟨⟨k + 1, by omega, by go_num, fun j hj y hy => ?_, HB1.out⟩, by simp [intOf]; omega⟩
        by_cases e : j = k
        · subst e; rw [HX.out] at hy; cases hy; exact hp'
        · exact HNo.out j (by omega) y hy
    · obtain rfl : k = n := by omega
      go_wp2
      go_ret
      exact ⟨ret_int (idxP_none (fun j hj => HNo.out j (by have := HN.out; omega))).symm, HB.out⟩
theorem contains_Han {S : Nat → Prop} (w : World) (A : Option Addr) (n c : Nat) (xs : List Han) (hn : xs.length = n) (hm : n ≤ 100000000000000) (hS : ∀ b, S b → b < w.heap.size) (row : k_han.Row S w A xs) (g : FuncId) (eg : ∀ args w, (callFunc g args).run Tryz.prog w = .ok (.enter g args) w) (lb : Array Value) (p : Han → Bool) (hf : ∀ (W : World) (x : Han), x ∈ xs → (Lit.int .i64 x.kind).wf = true → (Lit.int .u64 x.desc).wf = true → Below w.heap.size w W → Calls Tryz.prog g (#[.agg #[.int .i64 x.kind, .int .u64 x.desc, .bool x.opn]] ++ lb) W fun e w' => e = .returned (.bool (p x)) ∧ Below W.heap.size W w') :
    Calls Tryz.prog 79 #[.slice A n c, .func (.func g) #[] lb] w fun e w' => e = .returned (.bool (xs.any p)) ∧ Below w.heap.size w w' := by
  have K := Lib.hid (index_Han w A n c xs hn hm hS row g eg lb p hf)
  have HI := Lib.hid (idxP_any p xs)
  clear hn row hf hS eg
  generalize idxP p xs = z at *
  go_enter Tryz.func79, Tryz.ntmps79
  go_wp2_with (go_at_call 112; refine K.out.mono ?_; rintro e w1 ⟨rfl, hb1⟩)
  go_ret
  exact ⟨ret_bool HI.out, hb1⟩
set_option maxRecDepth 100000 in
set_option maxHeartbeats 4000000 in
theorem index_Ob {S : Nat → Prop} (w : World) (A : Option Addr) (n c : Nat) (xs : List Ob) (hn : xs.length = n) (hm : n ≤ 100000000000000) (hS : ∀ b, S b → b < w.heap.size) (row : k_obj.Row S w A xs) (g : FuncId) (eg : ∀ args w, (callFunc g args).run Tryz.prog w = .ok (.enter g args) w) (lb : Array Value) (p : Ob → Bool) (hf : ∀ (W : World) (x : Ob) (A2 : Option Addr) (c2 : Nat) (A3 : Option Addr) (c3 : Nat), x ∈ xs → (Lit.int .i64 x.kind).wf = true → (Lit.int .i64 x.n).wf = true → x.words.length ≤ c2 → x.words.length ≤ 140737488351232 → (Rd.int .u64).Row S W A2 x.words → x.bytes.length ≤ c3 → x.bytes.length ≤ 140737488351232 → (Rd.int .u8).Row S W A3 x.bytes → Below w.heap.size w W → Calls Tryz.prog g (#[.agg #[.int .i64 x.kind, .int .i64 x.n, .slice A2 x.words.length c2, .slice A3 x.bytes.length c3]] ++ lb) W fun e w' => e = .returned (.bool (p x)) ∧ Below W.heap.size W w') :
    Calls Tryz.prog 113 #[.slice A n c, .func (.func g) #[] lb] w fun e w' => e = .returned (.int .i64 (idxP p xs)) ∧ Below w.heap.size w w' := by
  have HN := Lib.hid hn
  have HR := Lib.hid row
  have HF := Lib.hid hf
  have HS := Lib.hid hS
  have EG := Lib.hid eg
  clear hn row hf hS eg
  go_enter Tryz.func113, Tryz.ntmps113
  go_wp2
  go_loopw [8] (fun i wr => ∃ k : Nat, k ≤ n ∧ i = .int .i64 k ∧ (∀ j, j < k → ∀ y, xs[j]? = some y → p y = false) ∧ Below w.heap.size w wr) (fun i _ => n - (intOf i).toNat)
  case atStart => exact ⟨0, Nat.zero_le _, rfl, fun j hj => absurd hj (by omega), Below.refl _ _⟩
  case round =>
    obtain ⟨k, hk, rfl, hno, hb⟩ := hrel
    have HNo := Lib.hid hno
    have HB := Lib.hid hb
    have hsz := hb.size
    by_cases hlt : k < n
    · obtain ⟨x, hx⟩ : ∃ x, xs[k]? = some x := ⟨_, List.getElem?_eq_getElem (by have := HN.out; omega)⟩
      obtain ⟨b, o, A2, c2, A3, c3, rfl, hSb, e0, e1, e2, e3, f0, f1, l2, m2, r2, l3, m3, r3⟩ := k_obj_at (HR.out.keep (fun b h => hb.block b (HS.out b h))) hx
      have HX := Lib.hid hx
      have K := Lib.hid (HF.out wr x A2 c2 A3 c3 (List.mem_of_getElem? hx) f0 f1 l2 m2 r2 l3 m3 r3 hb)
      clear hno hb hx
      by_cases hp : p x = true
      · go_wp2_with fail
        rw [EG.out]
        refine K.out.mono ?_
        rw [hp]
        rintro e w1 ⟨rfl, hb1⟩
        have HB1 := Lib.hid (HB.out.trans (hb1.mono hsz))
        clear hb1
        go_wp2
        go_ret
        exact ⟨ret_int (idxP_hit HNo.out HX.out hp).symm, HB1.out⟩
      · have hp' : p x = false := by simpa using hp
        go_wp2_with fail
        rw [EG.out]
        refine K.out.mono ?_
        rw [hp']
        rintro e w1 ⟨rfl, hb1⟩
        have HB1 := Lib.hid (HB.out.trans (hb1.mono hsz))
        clear hb1
        go_wp2
        refine ⟨⟨k + 1, by omega, by go_num, fun j hj y hy => ?_, HB1.out⟩, by simp [intOf]; omega⟩
        by_cases e : j = k
        · subst e; rw [HX.out] at hy; cases hy; exact hp'
        · exact HNo.out j (by omega) y hy
    · obtain rfl : k = n := by omega
      go_wp2
      go_ret
      exact ⟨ret_int (idxP_none (fun j hj => HNo.out j (by have := HN.out; omega))).symm, HB.out⟩
theorem contains_Ob {S : Nat → Prop} (w : World) (A : Option Addr) (n c : Nat) (xs : List Ob) (hn : xs.length = n) (hm : n ≤ 100000000000000) (hS : ∀ b, S b → b < w.heap.size) (row : k_obj.Row S w A xs) (g : FuncId) (eg : ∀ args w, (callFunc g args).run Tryz.prog w = .ok (.enter g args) w) (lb : Array Value) (p : Ob → Bool) (hf : ∀ (W : World) (x : Ob) (A2 : Option Addr) (c2 : Nat) (A3 : Option Addr) (c3 : Nat), x ∈ xs → (Lit.int .i64 x.kind).wf = true → (Lit.int .i64 x.n).wf = true → x.words.length ≤ c2 → x.words.length ≤ 140737488351232 → (Rd.int .u64).Row S W A2 x.words → x.bytes.length ≤ c3 → x.bytes.length ≤ 140737488351232 → (Rd.int .u8).Row S W A3 x.bytes → Below w.heap.size w W → Calls Tryz.prog g (#[.agg #[.int .i64 x.kind, .int .i64 x.n, .slice A2 x.words.length c2, .slice A3 x.bytes.length c3]] ++ lb) W fun e w' => e = .returned (.bool (p x)) ∧ Below W.heap.size W w') :
    Calls Tryz.prog 80 #[.slice A n c, .func (.func g) #[] lb] w fun e w' => e = .returned (.bool (xs.any p)) ∧ Below w.heap.size w w' := by
  have K := Lib.hid (index_Ob w A n c xs hn hm hS row g eg lb p hf)
  have HI := Lib.hid (idxP_any p xs)
  clear hn row hf hS eg
  generalize idxP p xs = z at *
  go_enter Tryz.func80, Tryz.ntmps80
  go_wp2_with (go_at_call 113; refine K.out.mono ?_; rintro e w1 ⟨rfl, hb1⟩)
  go_ret
  exact ⟨ret_bool HI.out, hb1⟩
set_option maxRecDepth 100000 in
set_option maxHeartbeats 4000000 in
theorem index_Sl {S : Nat → Prop} (w : World) (A : Option Addr) (n c : Nat) (xs : List (List Ty)) (hn : xs.length = n) (hm : n ≤ 100000000000000) (hS : ∀ b, S b → b < w.heap.size) (row : (Rd.slice k_ty).Row S w A xs) (g : FuncId) (eg : ∀ args w, (callFunc g args).run Tryz.prog w = .ok (.enter g args) w) (lb : Array Value) (p : (List Ty) → Bool) (hf : ∀ (W : World) (x : (List Ty)) (A0 : Option Addr) (c0 : Nat), x ∈ xs → x.length ≤ c0 → x.length ≤ 140737488351232 → k_ty.Row S W A0 x → Below w.heap.size w W → Calls Tryz.prog g (#[.slice A0 x.length c0] ++ lb) W fun e w' => e = .returned (.bool (p x)) ∧ Below W.heap.size W w') :
    Calls Tryz.prog 167 #[.slice A n c, .func (.func g) #[] lb] w fun e w' => e = .returned (.int .i64 (idxP p xs)) ∧ Below w.heap.size w w' := by
  have HN := Lib.hid hn
  have HR := Lib.hid row
  have HF := Lib.hid hf
  have HS := Lib.hid hS
  have EG := Lib.hid eg
  clear hn row hf hS eg
  go_enter Tryz.func167, Tryz.ntmps167
  go_wp2
  go_loopw [8] (fun i wr => ∃ k : Nat, k ≤ n ∧ i = .int .i64 k ∧ (∀ j, j < k → ∀ y, xs[j]? = some y → p y = false) ∧ Below w.heap.size w wr) (fun i _ => n - (intOf i).toNat)
  case atStart => exact ⟨0, Nat.zero_le _, rfl, fun j hj => absurd hj (by omega), Below.refl _ _⟩
  case round =>
    obtain ⟨k, hk, rfl, hno, hb⟩ := hrel
    have HNo := Lib.hid hno
    have HB := Lib.hid hb
    have hsz := hb.size
    by_cases hlt : k < n
    · obtain ⟨x, hx⟩ : ∃ x, xs[k]? = some x := ⟨_, List.getElem?_eq_getElem (by have := HN.out; omega)⟩
      obtain ⟨b, o, A0, c0, rfl, hSb, e0, l0, m0, r0⟩ := row_slice_at (HR.out.keep (fun b h => hb.block b (HS.out b h))) hx
      have HX := Lib.hid hx
      have K := Lib.hid (HF.out wr x A0 c0 (List.mem_of_getElem? hx) l0 m0 r0 hb)
      clear hno hb hx
      by_cases hp : p x = true
      · go_wp2_with fail
        rw [EG.out]
        refine K.out.mono ?_
        rw [hp]
        rintro e w1 ⟨rfl, hb1⟩
        have HB1 := Lib.hid (HB.out.trans (hb1.mono hsz))
        clear hb1
        go_wp2
        go_ret
        exact ⟨ret_int (idxP_hit HNo.out HX.out hp).symm, HB1.out⟩
      · have hp' : p x = false := by simpa using hp
        go_wp2_with fail
        rw [EG.out]
        refine K.out.mono ?_
        rw [hp']
        rintro e w1 ⟨rfl, hb1⟩
        have HB1 := Lib.hid (HB.out.trans (hb1.mono hsz))
        clear hb1
        go_wp2
        refine ⟨⟨k + 1, by omega, by go_num, fun j hj y hy => ?_, HB1.out⟩, by simp [intOf]; omega⟩
        by_cases e : j = k
        · subst e; rw [HX.out] at hy; cases hy; exact hp'
        · exact HNo.out j (by omega) y hy
    · obtain rfl : k = n := by omega
      go_wp2
      go_ret
      exact ⟨ret_int (idxP_none (fun j hj => HNo.out j (by have := HN.out; omega))).symm, HB.out⟩
theorem contains_Sl {S : Nat → Prop} (w : World) (A : Option Addr) (n c : Nat) (xs : List (List Ty)) (hn : xs.length = n) (hm : n ≤ 100000000000000) (hS : ∀ b, S b → b < w.heap.size) (row : (Rd.slice k_ty).Row S w A xs) (g : FuncId) (eg : ∀ args w, (callFunc g args).run Tryz.prog w = .ok (.enter g args) w) (lb : Array Value) (p : (List Ty) → Bool) (hf : ∀ (W : World) (x : (List Ty)) (A0 : Option Addr) (c0 : Nat), x ∈ xs → x.length ≤ c0 → x.length ≤ 140737488351232 → k_ty.Row S W A0 x → Below w.heap.size w W → Calls Tryz.prog g (#[.slice A0 x.length c0] ++ lb) W fun e w' => e = .returned (.bool (p x)) ∧ Below W.heap.size W w') :
    Calls Tryz.prog 135 #[.slice A n c, .func (.func g) #[] lb] w fun e w' => e = .returned (.bool (xs.any p)) ∧ Below w.heap.size w w' := by
  have K := Lib.hid (index_Sl w A n c xs hn hm hS row g eg lb p hf)
  have HI := Lib.hid (idxP_any p xs)
  clear hn row hf hS eg
  generalize idxP p xs = z at *
  go_enter Tryz.func135, Tryz.ntmps135
  go_wp2_with (go_at_call 167; refine K.out.mono ?_; rintro e w1 ⟨rfl, hb1⟩)
  go_ret
  exact ⟨ret_bool HI.out, hb1⟩
set_option maxRecDepth 100000 in
set_option maxHeartbeats 4000000 in
theorem index_Str {S : Nat → Prop} (w : World) (A : Option Addr) (n c : Nat) (xs : List ByteArray) (hn : xs.length = n) (hm : n ≤ 100000000000000) (hS : ∀ b, S b → b < w.heap.size) (row : Rd.str.Row S w A xs) (g : FuncId) (eg : ∀ args w, (callFunc g args).run Tryz.prog w = .ok (.enter g args) w) (lb : Array Value) (p : ByteArray → Bool) (hf : ∀ (W : World) (x : ByteArray), x ∈ xs → x.size ≤ 140737488351232 → Below w.heap.size w W → Calls Tryz.prog g (#[.string x] ++ lb) W fun e w' => e = .returned (.bool (p x)) ∧ Below W.heap.size W w') :
    Calls Tryz.prog 171 #[.slice A n c, .func (.func g) #[] lb] w fun e w' => e = .returned (.int .i64 (idxP p xs)) ∧ Below w.heap.size w w' := by
  have HN := Lib.hid hn
  have HR := Lib.hid row
  have HF := Lib.hid hf
  have HS := Lib.hid hS
  have EG := Lib.hid eg
  clear hn row hf hS eg
  go_enter Tryz.func171, Tryz.ntmps171
  go_wp2
  go_loopw [8] (fun i wr => ∃ k : Nat, k ≤ n ∧ i = .int .i64 k ∧ (∀ j, j < k → ∀ y, xs[j]? = some y → p y = false) ∧ Below w.heap.size w wr) (fun i _ => n - (intOf i).toNat)
  case atStart => exact ⟨0, Nat.zero_le _, rfl, fun j hj => absurd hj (by omega), Below.refl _ _⟩
  case round =>
    obtain ⟨k, hk, rfl, hno, hb⟩ := hrel
    have HNo := Lib.hid hno
    have HB := Lib.hid hb
    have hsz := hb.size
    by_cases hlt : k < n
    · obtain ⟨x, hx⟩ : ∃ x, xs[k]? = some x := ⟨_, List.getElem?_eq_getElem (by have := HN.out; omega)⟩
      obtain ⟨b, o, rfl, hSb, e0, f0⟩ := row_str_at (HR.out.keep (fun b h => hb.block b (HS.out b h))) hx
      have HX := Lib.hid hx
      have K := Lib.hid (HF.out wr x  (List.mem_of_getElem? hx) f0 hb)
      clear hno hb hx
      by_cases hp : p x = true
      · go_wp2_with fail
        rw [EG.out]
        refine K.out.mono ?_
        rw [hp]
        rintro e w1 ⟨rfl, hb1⟩
        have HB1 := Lib.hid (HB.out.trans (hb1.mono hsz))
        clear hb1
        go_wp2
        go_ret
        exact ⟨ret_int (idxP_hit HNo.out HX.out hp).symm, HB1.out⟩
      · have hp' : p x = false := by simpa using hp
        go_wp2_with fail
        rw [EG.out]
        refine K.out.mono ?_
        rw [hp']
        rintro e w1 ⟨rfl, hb1⟩
        have HB1 := Lib.hid (HB.out.trans (hb1.mono hsz))
        clear hb1
        go_wp2
        refine ⟨⟨k + 1, by omega, by go_num, fun j hj y hy => ?_, HB1.out⟩, by simp [intOf]; omega⟩
        by_cases e : j = k
        · subst e; rw [HX.out] at hy; cases hy; exact hp'
        · exact HNo.out j (by omega) y hy
    · obtain rfl : k = n := by omega
      go_wp2
      go_ret
      exact ⟨ret_int (idxP_none (fun j hj => HNo.out j (by have := HN.out; omega))).symm, HB.out⟩
theorem contains_Str {S : Nat → Prop} (w : World) (A : Option Addr) (n c : Nat) (xs : List ByteArray) (hn : xs.length = n) (hm : n ≤ 100000000000000) (hS : ∀ b, S b → b < w.heap.size) (row : Rd.str.Row S w A xs) (g : FuncId) (eg : ∀ args w, (callFunc g args).run Tryz.prog w = .ok (.enter g args) w) (lb : Array Value) (p : ByteArray → Bool) (hf : ∀ (W : World) (x : ByteArray), x ∈ xs → x.size ≤ 140737488351232 → Below w.heap.size w W → Calls Tryz.prog g (#[.string x] ++ lb) W fun e w' => e = .returned (.bool (p x)) ∧ Below W.heap.size W w') :
    Calls Tryz.prog 143 #[.slice A n c, .func (.func g) #[] lb] w fun e w' => e = .returned (.bool (xs.any p)) ∧ Below w.heap.size w w' := by
  have K := Lib.hid (index_Str w A n c xs hn hm hS row g eg lb p hf)
  have HI := Lib.hid (idxP_any p xs)
  clear hn row hf hS eg
  generalize idxP p xs = z at *
  go_enter Tryz.func143, Tryz.ntmps143
  go_wp2_with (go_at_call 171; refine K.out.mono ?_; rintro e w1 ⟨rfl, hb1⟩)
  go_ret
  exact ⟨ret_bool HI.out, hb1⟩
end Go.Proofs.YtdmmjckhpagibaaGreatDoor
