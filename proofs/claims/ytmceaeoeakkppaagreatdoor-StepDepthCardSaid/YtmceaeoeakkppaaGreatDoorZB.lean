/- McFind: slices.IndexFunc and slices.ContainsFunc at each type, for whatever function is handed in. Printed by gen_mc.py of this repo. McInst: inst.Args, inst.may, inst.Put. Printed by gen_mc.py of this repo out of XInstArgs and XInstPut. McPut: kind.Put. Printed by gen_mc.py of this repo out of XKindB. -/
import Derived.Test.YtmceaeoeakkppaaGreatDoorZA
import Derived.Deep.RegionHeld3
namespace Go.Proofs.YtmceaeoeakkppaaGreatDoor
open Go.RowKit
set_option linter.unusedVariables false
/-- Where the first is of which p holds. -/
def idxP {α : Type} (p : α → Bool) (xs : List α) : Int := match xs.findIdx? p with | some i => (i : Int) | none => -1
theorem idxP_any {α : Type} (p : α → Bool) (xs : List α) : decide (0 ≤ idxP p xs) = xs.any p := by
  unfold idxP
  cases h : xs.findIdx? p with
  | none =>
    rw [List.findIdx?_eq_none_iff] at h
    have : xs.any p = false := by rw [List.any_eq_false]; exact fun x hx => by simp [h x hx]
    rw [this]; rfl
  | some i =>
    obtain ⟨hi, h1, _⟩ := List.findIdx?_eq_some_iff_getElem.1 h
    have : xs.any p = true := List.any_eq_true.2 ⟨_, List.getElem_mem hi, h1⟩
    rw [this]
    exact decide_eq_true (show (0 : Int) ≤ (i : Int) by omega)
theorem idxP_hit {α : Type} {p : α → Bool} {xs : List α} {k : Nat} {x : α} (h : ∀ j, j < k → ∀ y, xs[j]? = some y → p y = false) (hx : xs[k]? = some x) (hp : p x = true) : idxP p xs = k := by
  obtain ⟨hk, rfl⟩ := List.getElem?_eq_some_iff.1 hx
  have : xs.findIdx? p = some k := List.findIdx?_eq_some_iff_getElem.2 ⟨hk, hp, fun j hj => by rw [h j hj _ (List.getElem?_eq_getElem (by omega))]; simp⟩
  unfold idxP; rw [this]
theorem idxP_none {α : Type} {p : α → Bool} {xs : List α} (h : ∀ j, j < xs.length → ∀ y, xs[j]? = some y → p y = false) : idxP p xs = -1 := by
  have : xs.findIdx? p = none := List.findIdx?_eq_none_iff.2 (fun x hx => by obtain ⟨j, hj⟩ := List.getElem?_of_mem hx; exact h j (List.getElem?_eq_some_iff.1 hj).1 x hj)
  unfold idxP; rw [this]
set_option maxRecDepth 100000 in
set_option maxHeartbeats 4000000 in
theorem index_Ty {S : Nat → Prop} (w : World) (A : Option Addr) (n c : Nat) (xs : List Ty) (hn : xs.length = n) (hm : n ≤ 100000000000000) (hS : ∀ b, S b → b < w.heap.size) (row : k_ty.Row S w A xs) (g : FuncId) (eg : ∀ args w, (callFunc g args).run Tryz.prog w = .ok (.enter g args) w) (lb : Array Value) (p : Ty → Bool) (hf : ∀ (W : World) (x : Ty), x ∈ xs → (Lit.int .i64 x.kind).wf = true → (Lit.int .i64 x.n).wf = true → Below w.heap.size w W → Calls Tryz.prog g (#[.agg #[.int .i64 x.kind, .int .i64 x.n]] ++ lb) W fun e w' => e = .returned (.bool (p x)) ∧ Below W.heap.size W w') :
    Calls Tryz.prog 158 #[.slice A n c, .func (.func g) #[] lb] w fun e w' => e = .returned (.int .i64 (idxP p xs)) ∧ Below w.heap.size w w' := by
  have HN := Lib.hid hn
  have HR := Lib.hid row
  have HF := Lib.hid hf
  have HS := Lib.hid hS
  have EG := Lib.hid eg
  clear hn row hf hS eg
  go_enter Tryz.func158, Tryz.ntmps158
  go_wp2
  go_loopw [8] (fun i wr => ∃ k : Nat, k ≤ n ∧ i = .int .i64 k ∧ (∀ j, j < k → ∀ y, xs[j]? = some y → p y = false) ∧ Below w.heap.size w wr) (fun i _ => n - (intOf i).toNat)
  case atStart => exact ⟨0, Nat.zero_le _, rfl, fun j hj => absurd hj (by omega), Below.refl _ _⟩
  case round =>
    obtain ⟨k, hk, rfl, hno, hb⟩ := hrel
    have HNo := Lib.hid hno
    have HB := Lib.hid hb
    have hsz := hb.size
    by_cases hlt : k < n
    · obtain ⟨x, hx⟩ : ∃ x, xs[k]? = some x := ⟨_, List.getElem?_eq_getElem (by have := HN.out; omega)⟩
      obtain ⟨b, o, rfl, hSb, e0, e1, f0, f1⟩ := k_ty_at (HR.out.keep (fun b h => hb.block b (HS.out b h))) hx
      have HX := Lib.hid hx
      have K := Lib.hid (HF.out wr x  (List.mem_of_getElem? hx) f0 f1 hb)
      clear hno hb hx
      by_cases hp : p x = true
      · go_wp2_with fail
        rw [EG.out]
        refine K.out.mono ?_
        rw [hp]
        rintro e w1 ⟨rfl, hb1⟩
        have HB1 := Lib.hid (HB.out.trans (hb1.mono hsz))
        clear hb1
        go_wp2
        go_ret
        exact ⟨ret_int (idxP_hit HNo.out HX.out hp).symm, HB1.out⟩
      · have hp' : p x = false := by simpa using hp
        go_wp2_with fail
        rw [EG.out]
        refine K.out.mono ?_
        rw [hp']
        rintro e w1 ⟨rfl, hb1⟩
        have HB1 := Lib.hid (HB.out.trans (hb1.mono hsz))
        clear hb1
        go_wp2
        refine ⟨⟨k + 1, by omega, by go_num, fun j hj y hy => ?_, HB1.out⟩, by simp [intOf]; omega⟩
        by_cases e : j = k
        · subst e; rw [HX.out] at hy; cases hy; exact hp'
        · exact HNo.out j (by omega) y hy
    · obtain rfl : k = n := by omega
      go_wp2
      go_ret
      exact ⟨ret_int (idxP_none (fun j hj => HNo.out j (by have := HN.out; omega))).symm, HB.out⟩
theorem contains_Ty {S : Nat → Prop} (w : World) (A : Option Addr) (n c : Nat) (xs : List Ty) (hn : xs.length = n) (hm : n ≤ 100000000000000) (hS : ∀ b, S b → b < w.heap.size) (row : k_ty.Row S w A xs) (g : FuncId) (eg : ∀ args w, (callFunc g args).run Tryz.prog w = .ok (.enter g args) w) (lb : Array Value) (p : Ty → Bool) (hf : ∀ (W : World) (x : Ty), x ∈ xs → (Lit.int .i64 x.kind).wf = true → (Lit.int .i64 x.n).wf = true → Below w.heap.size w W → Calls Tryz.prog g (#[.agg #[.int .i64 x.kind, .int .i64 x.n]] ++ lb) W fun e w' => e = .returned (.bool (p x)) ∧ Below W.heap.size W w') :
    Calls Tryz.prog 111 #[.slice A n c, .func (.func g) #[] lb] w fun e w' => e = .returned (.bool (xs.any p)) ∧ Below w.heap.size w w' := by
  have K := Lib.hid (index_Ty w A n c xs hn hm hS row g eg lb p hf)
  have HI := Lib.hid (idxP_any p xs)
  clear hn row hf hS eg
  generalize idxP p xs = z at *
  go_enter Tryz.func111, Tryz.ntmps111
  go_wp2_with (go_at_call 158; refine K.out.mono ?_; rintro e w1 ⟨rfl, hb1⟩)
  go_ret
  exact ⟨ret_bool HI.out, hb1⟩
set_option maxRecDepth 100000 in
set_option maxHeartbeats 4000000 in
theorem index_Ins {S : Nat → Prop} (w : World) (A : Option Addr) (n c : Nat) (xs : List Ins) (hn : xs.length = n) (hm : n ≤ 100000000000000) (hS : ∀ b, S b → b < w.heap.size) (row : k_instr.Row S w A xs) (g : FuncId) (eg : ∀ args w, (callFunc g args).run Tryz.prog w = .ok (.enter g args) w) (lb : Array Value) (p : Ins → Bool) (hf : ∀ (W : World) (x : Ins), x ∈ xs → (Lit.int .i64 x.op).wf = true → (Lit.int .i64 x.a).wf = true → (Lit.int .i64 x.b).wf = true → Below w.heap.size w W → Calls Tryz.prog g (#[.agg #[.int .i64 x.op, .int .i64 x.a, .int .i64 x.b]] ++ lb) W fun e w' => e = .returned (.bool (p x)) ∧ Below W.heap.size W w') :
    Calls Tryz.prog 157 #[.slice A n c, .func (.func g) #[] lb] w fun e w' => e = .returned (.int .i64 (idxP p xs)) ∧ Below w.heap.size w w' := by
  have HN := Lib.hid hn
  have HR := Lib.hid row
  have HF := Lib.hid hf
  have HS := Lib.hid hS
  have EG := Lib.hid eg
  clear hn row hf hS eg
  go_enter Tryz.func157, Tryz.ntmps157
  go_wp2
  go_loopw [8] (fun i wr => ∃ k : Nat, k ≤ n ∧ i = .int .i64 k ∧ (∀ j, j < k → ∀ y, xs[j]? = some y → p y = false) ∧ Below w.heap.size w wr) (fun i _ => n - (intOf i).toNat)
  case atStart => exact ⟨0, Nat.zero_le _, rfl, fun j hj => absurd hj (by omega), Below.refl _ _⟩
  case round =>
    obtain ⟨k, hk, rfl, hno, hb⟩ := hrel
    have HNo := Lib.hid hno
    have HB := Lib.hid hb
    have hsz := hb.size
    by_cases hlt : k < n
    · obtain ⟨x, hx⟩ : ∃ x, xs[k]? = some x := ⟨_, List.getElem?_eq_getElem (by have := HN.out; omega)⟩
      obtain ⟨b, o, rfl, hSb, e0, e1, e2, f0, f1, f2⟩ := k_instr_at (HR.out.keep (fun b h => hb.block b (HS.out b h))) hx
      have HX := Lib.hid hx
      have K := Lib.hid (HF.out wr x  (List.mem_of_getElem? hx) f0 f1 f2 hb)
      clear hno hb hx
      by_cases hp : p x = true
      · go_wp2_with fail
        rw [EG.out]
        refine K.out.mono ?_
        rw [hp]
        rintro e w1 ⟨rfl, hb1⟩
        have HB1 := Lib.hid (HB.out.trans (hb1.mono hsz))
        clear hb1
        go_wp2
        go_ret
        exact ⟨ret_int (idxP_hit HNo.out HX.out hp).symm, HB1.out⟩
      · have hp' : p x = false := by simpa using hp
        go_wp2_with fail
        rw [EG.out]
        refine K.out.mono ?_
        rw [hp']
        rintro e w1 ⟨rfl, hb1⟩
        have HB1 := Lib.hid (HB.out.trans (hb1.mono hsz))
        clear hb1
        go_wp2
        refine ⟨⟨k + 1, by omega, by go_num, fun j hj y hy => ?_, HB1.out⟩, by simp [intOf]; omega⟩
        by_cases e : j = k
        · subst e; rw [HX.out] at hy; cases hy; exact hp'
        · exact HNo.out j (by omega) y hy
    · obtain rfl : k = n := by omega
      go_wp2
      go_ret
      exact ⟨ret_int (idxP_none (fun j hj => HNo.out j (by have := HN.out; omega))).symm, HB.out⟩
theorem contains_Ins {S : Nat → Prop} (w : World) (A : Option Addr) (n c : Nat) (xs : List Ins) (hn : xs.length = n) (hm : n ≤ 100000000000000) (hS : ∀ b, S b → b < w.heap.size) (row : k_instr.Row S w A xs) (g : FuncId) (eg : ∀ args w, (callFunc g args).run Tryz.prog w = .ok (.enter g args) w) (lb : Array Value) (p : Ins → Bool) (hf : ∀ (W : World) (x : Ins), x ∈ xs → (Lit.int .i64 x.op).wf = true → (Lit.int .i64 x.a).wf = true → (Lit.int .i64 x.b).wf = true → Below w.heap.size w W → Calls Tryz.prog g (#[.agg #[.int .i64 x.op, .int .i64 x.a, .int .i64 x.b]] ++ lb) W fun e w' => e = .returned (.bool (p x)) ∧ Below W.heap.size W w') :
    Calls Tryz.prog 110 #[.slice A n c, .func (.func g) #[] lb] w fun e w' => e = .returned (.bool (xs.any p)) ∧ Below w.heap.size w w' := by
  have K := Lib.hid (index_Ins w A n c xs hn hm hS row g eg lb p hf)
  have HI := Lib.hid (idxP_any p xs)
  clear hn row hf hS eg
  generalize idxP p xs = z at *
  go_enter Tryz.func110, Tryz.ntmps110
  go_wp2_with (go_at_call 157; refine K.out.mono ?_; rintro e w1 ⟨rfl, hb1⟩)
  go_ret
  exact ⟨ret_bool HI.out, hb1⟩
set_option maxRecDepth 100000 in
set_option maxHeartbeats 4000000 in
theorem index_Imp {S : Nat → Prop} (w : World) (A : Option Addr) (n c : Nat) (xs : List Imp) (hn : xs.length = n) (hm : n ≤ 100000000000000) (hS : ∀ b, S b → b < w.heap.size) (row : k_imp.Row S w A xs) (g : FuncId) (eg : ∀ args w, (callFunc g args).run Tryz.prog w = .ok (.enter g args) w) (lb : Array Value) (p : Imp → Bool) (hf : ∀ (W : World) (x : Imp) (A0 : Option Addr) (c0 : Nat), x ∈ xs → x.args.length ≤ c0 → x.args.length ≤ 140737488351232 → k_ty.Row S W A0 x.args → (Lit.int .i64 x.ret.kind).wf = true → (Lit.int .i64 x.ret.n).wf = true → Below w.heap.size w W → Calls Tryz.prog g (#[.agg #[.slice A0 x.args.length c0, .int .i64 x.ret.kind, .int .i64 x.ret.n]] ++ lb) W fun e w' => e = .returned (.bool (p x)) ∧ Below W.heap.size W w') :
    Calls Tryz.prog 159 #[.slice A n c, .func (.func g) #[] lb] w fun e w' => e = .returned (.int .i64 (idxP p xs)) ∧ Below w.heap.size w w' := by
  have HN := Lib.hid hn
  have HR := Lib.hid row
  have HF := Lib.hid hf
  have HS := Lib.hid hS
  have EG := Lib.hid eg
  clear hn row hf hS eg
  go_enter Tryz.func159, Tryz.ntmps159
  go_wp2
  go_loopw [8] (fun i wr => ∃ k : Nat, k ≤ n ∧ i = .int .i64 k ∧ (∀ j, j < k → ∀ y, xs[j]? = some y → p y = false) ∧ Below w.heap.size w wr) (fun i _ => n - (intOf i).toNat)
  case atStart => exact ⟨0, Nat.zero_le _, rfl, fun j hj => absurd hj (by omega), Below.refl _ _⟩
  case round =>
    obtain ⟨k, hk, rfl, hno, hb⟩ := hrel
    have HNo := Lib.hid hno
    have HB := Lib.hid hb
    have hsz := hb.size
    by_cases hlt : k < n
    · obtain ⟨x, hx⟩ : ∃ x, xs[k]? = some x := ⟨_, List.getElem?_eq_getElem (by have := HN.out; omega)⟩
      obtain ⟨b, o, A0, c0, rfl, hSb, e0, e1, e2, l0, m0, r0, f1, f2⟩ := k_imp_at (HR.out.keep (fun b h => hb.block b (HS.out b h))) hx
      have HX := Lib.hid hx
      have K := Lib.hid (HF.out wr x A0 c0 (List.mem_of_getElem? hx) l0 m0 r0 f1 f2 hb)
      clear hno hb hx
      by_cases hp : p x = true
      · go_wp2_with fail
        rw [EG.out]
        refine K.out.mono ?_
        rw [hp]
        rintro e w1 ⟨rfl, hb1⟩
        have HB1 := Lib.hid (HB.out.trans (hb1.mono hsz))
        clear hb1
        go_wp2
        go_ret
        exact ⟨ret_int (idxP_hit HNo.out HX.out hp).symm, HB1.out⟩
      · have hp' : p x = false := by simpa using hp
        go_wp2_with fail
        rw [EG.out]
        refine K.out.mono ?_
        rw [hp']
        rintro e w1 ⟨rfl, hb1⟩
        have HB1 := Lib.hid (HB.out.trans (hb1.mono hsz))
        clear hb1
        go_wp2
        refine ⟨⟨k + 1, by omega, by go_num, fun j hj y hy => ?_, HB1.out⟩, by simp [intOf]; omega⟩
        by_cases e : j = k
        · subst e; rw [HX.out] at hy; cases hy; exact hp'
        · exact HNo.out j (by omega) y hy
    · obtain rfl : k = n := by omega
      go_wp2
      go_ret
      exact ⟨ret_int (idxP_none (fun j hj => HNo.out j (by have := HN.out; omega))).symm, HB.out⟩
theorem contains_Imp {S : Nat → Prop} (w : World) (A : Option Addr) (n c : Nat) (xs : List Imp) (hn : xs.length = n) (hm : n ≤ 100000000000000) (hS : ∀ b, S b → b < w.heap.size) (row : k_imp.Row S w A xs) (g : FuncId) (eg : ∀ args w, (callFunc g args).run Tryz.prog w = .ok (.enter g args) w) (lb : Array Value) (p : Imp → Bool) (hf : ∀ (W : World) (x : Imp) (A0 : Option Addr) (c0 : Nat), x ∈ xs → x.args.length ≤ c0 → x.args.length ≤ 140737488351232 → k_ty.Row S W A0 x.args → (Lit.int .i64 x.ret.kind).wf = true → (Lit.int .i64 x.ret.n).wf = true → Below w.heap.size w W → Calls Tryz.prog g (#[.agg #[.slice A0 x.args.length c0, .int .i64 x.ret.kind, .int .i64 x.ret.n]] ++ lb) W fun e w' => e = .returned (.bool (p x)) ∧ Below W.heap.size W w') :
    Calls Tryz.prog 116 #[.slice A n c, .func (.func g) #[] lb] w fun e w' => e = .returned (.bool (xs.any p)) ∧ Below w.heap.size w w' := by
  have K := Lib.hid (index_Imp w A n c xs hn hm hS row g eg lb p hf)
  have HI := Lib.hid (idxP_any p xs)
  clear hn row hf hS eg
  generalize idxP p xs = z at *
  go_enter Tryz.func116, Tryz.ntmps116
  go_wp2_with (go_at_call 159; refine K.out.mono ?_; rintro e w1 ⟨rfl, hb1⟩)
  go_ret
  exact ⟨ret_bool HI.out, hb1⟩
set_option maxRecDepth 100000 in
set_option maxHeartbeats 4000000 in
theorem index_Fn {S : Nat → Prop} (w : World) (A : Option Addr) (n c : Nat) (xs : List Fn) (hn : xs.length = n) (hm : n ≤ 100000000000000) (hS : ∀ b, S b → b < w.heap.size) (row : k_func.Row S w A xs) (g : FuncId) (eg : ∀ args w, (callFunc g args).run Tryz.prog w = .ok (.enter g args) w) (lb : Array Value) (p : Fn → Bool) (hf : ∀ (W : World) (x : Fn) (A0 : Option Addr) (c0 : Nat) (A3 : Option Addr) (c3 : Nat) (A4 : Option Addr) (c4 : Nat), x ∈ xs → x.args.length ≤ c0 → x.args.length ≤ 140737488351232 → k_ty.Row S W A0 x.args → (Lit.int .i64 x.ret.kind).wf = true → (Lit.int .i64 x.ret.n).wf = true → x.locals.length ≤ c3 → x.locals.length ≤ 140737488351232 → k_ty.Row S W A3 x.locals → x.code.length ≤ c4 → x.code.length ≤ 140737488351232 → k_instr.Row S W A4 x.code → Below w.heap.size w W → Calls Tryz.prog g (#[.agg #[.slice A0 x.args.length c0, .int .i64 x.ret.kind, .int .i64 x.ret.n, .slice A3 x.locals.length c3, .slice A4 x.code.length c4]] ++ lb) W fun e w' => e = .returned (.bool (p x)) ∧ Below W.heap.size W w') :
    Calls Tryz.prog 230 #[.slice A n c, .func (.func g) #[] lb] w fun e w' => e = .returned (.int .i64 (idxP p xs)) ∧ Below w.heap.size w w' := by
  have HN := Lib.hid hn
  have HR := Lib.hid row
  have HF := Lib.hid hf
  have HS := Lib.hid hS
  have EG := Lib.hid eg
  clear hn row hf hS eg
  go_enter Tryz.func230, Tryz.ntmps230
  go_wp2
  go_loopw [8] (fun i wr => ∃ k : Nat, k ≤ n ∧ i = .int .i64 k ∧ (∀ j, j < k → ∀ y, xs[j]? = some y → p y = false) ∧ Below w.heap.size w wr) (fun i _ => n - (intOf i).toNat)
  case atStart => exact ⟨0, Nat.zero_le _, rfl, fun j hj => absurd hj (by omega), Below.refl _ _⟩
  case round =>
    obtain ⟨k, hk, rfl, hno, hb⟩ := hrel
    have HNo := Lib.hid hno
    have HB := Lib.hid hb
    have hsz := hb.size
    by_cases hlt : k < n
    · obtain ⟨x, hx⟩ : ∃ x, xs[k]? = some x := ⟨_, List.getElem?_eq_getElem (by have := HN.out; omega)⟩
      obtain ⟨b, o, A0, c0, A3, c3, A4, c4, rfl, hSb, e0, e1, e2, e3, e4, l0, m0, r0, f1, f2, l3, m3, r3, l4, m4, r4⟩ := k_func_at (HR.out.keep (fun b h => hb.block b (HS.out b h))) hx
      have HX := Lib.hid hx
      have K := Lib.hid (HF.out wr x A0 c0 A3 c3 A4 c4 (List.mem_of_getElem? hx) l0 m0 r0 f1 f2 l3 m3 r3 l4 m4 r4 hb)
      clear hno hb hx
      by_cases hp : p x = true
      · go_wp2_with fail
        rw [EG.out]
        refine K.out.mono ?_
        rw [hp]
        rintro e w1 ⟨rfl, hb1⟩
        have HB1 := Lib.hid (HB.out.trans (hb1.mono hsz))
        clear hb1
        go_wp2
        go_ret
        exact ⟨ret_int (idxP_hit HNo.out HX.out hp).symm, HB1.out⟩
      · have hp' : p x = false := by simpa using hp
        go_wp2_with fail
        rw [EG.out]
        refine K.out.mono ?_
        rw [hp']
        rintro e w1 ⟨rfl, hb1⟩
        have HB1 := Lib.hid (HB.out.trans (hb1.mono hsz))
        clear hb1
        go_wp2
        refine ⟨⟨k + 1, by omega, by go_num, fun j hj y hy => ?_, HB1.out⟩, by simp [intOf]; omega⟩
        by_cases e : j = k
        · subst e; rw [HX.out] at hy; cases hy; exact hp'
        · exact HNo.out j (by omega) y hy
    · obtain rfl : k = n := by omega
      go_wp2
      go_ret
      exact ⟨ret_int (idxP_none (fun j hj => HNo.out j (by have := HN.out; omega))).symm, HB.out⟩
theorem contains_Fn {S : Nat → Prop} (w : World) (A : Option Addr) (n c : Nat) (xs : List Fn) (hn : xs.length = n) (hm : n ≤ 100000000000000) (hS : ∀ b, S b → b < w.heap.size) (row : k_func.Row S w A xs) (g : FuncId) (eg : ∀ args w, (callFunc g args).run Tryz.prog w = .ok (.enter g args) w) (lb : Array Value) (p : Fn → Bool) (hf : ∀ (W : World) (x : Fn) (A0 : Option Addr) (c0 : Nat) (A3 : Option Addr) (c3 : Nat) (A4 : Option Addr) (c4 : Nat), x ∈ xs → x.args.length ≤ c0 → x.args.length ≤ 140737488351232 → k_ty.Row S W A0 x.args → (Lit.int .i64 x.ret.kind).wf = true → (Lit.int .i64 x.ret.n).wf = true → x.locals.length ≤ c3 → x.locals.length ≤ 140737488351232 → k_ty.Row S W A3 x.locals → x.code.length ≤ c4 → x.code.length ≤ 140737488351232 → k_instr.Row S W A4 x.code → Below w.heap.size w W → Calls Tryz.prog g (#[.agg #[.slice A0 x.args.length c0, .int .i64 x.ret.kind, .int .i64 x.ret.n, .slice A3 x.locals.length c3, .slice A4 x.code.length c4]] ++ lb) W fun e w' => e = .returned (.bool (p x)) ∧ Below W.heap.size W w') :
    Calls Tryz.prog 200 #[.slice A n c, .func (.func g) #[] lb] w fun e w' => e = .returned (.bool (xs.any p)) ∧ Below w.heap.size w w' := by
  have K := Lib.hid (index_Fn w A n c xs hn hm hS row g eg lb p hf)
  have HI := Lib.hid (idxP_any p xs)
  clear hn row hf hS eg
  generalize idxP p xs = z at *
  go_enter Tryz.func200, Tryz.ntmps200
  go_wp2_with (go_at_call 230; refine K.out.mono ?_; rintro e w1 ⟨rfl, hb1⟩)
  go_ret
  exact ⟨ret_bool HI.out, hb1⟩
set_option maxRecDepth 100000 in
set_option maxHeartbeats 4000000 in
theorem index_Han {S : Nat → Prop} (w : World) (A : Option Addr) (n c : Nat) (xs : List Han) (hn : xs.length = n) (hm : n ≤ 100000000000000) (hS : ∀ b, S b → b < w.heap.size) (row : k_han.Row S w A xs) (g : FuncId) (eg : ∀ args w, (callFunc g args).run Tryz.prog w = .ok (.enter g args) w) (lb : Array Value) (p : Han → Bool) (hf : ∀ (W : World) (x : Han), x ∈ xs → (Lit.int .i64 x.kind).wf = true → (Lit.int .u64 x.desc).wf = true → Below w.heap.size w W → Calls Tryz.prog g (#[.agg #[.int .i64 x.kind, .int .u64 x.desc, .bool x.opn]] ++ lb) W fun e w' => e = .returned (.bool (p x)) ∧ Below W.heap.size W w') :
    Calls Tryz.prog 163 #[.slice A n c, .func (.func g) #[] lb] w fun e w' => e = .returned (.int .i64 (idxP p xs)) ∧ Below w.heap.size w w' := by
  have HN := Lib.hid hn
  have HR := Lib.hid row
  have HF := Lib.hid hf
  have HS := Lib.hid hS
  have EG := Lib.hid eg
  clear hn row hf hS eg
  go_enter Tryz.func163, Tryz.ntmps163
  go_wp2
  go_loopw [8] (fun i wr => ∃ k : Nat, k ≤ n ∧ i = .int .i64 k ∧ (∀ j, j < k → ∀ y, xs[j]? = some y → p y = false) ∧ Below w.heap.size w wr) (fun i _ => n - (intOf i).toNat)
  case atStart => exact ⟨0, Nat.zero_le _, rfl, fun j hj => absurd hj (by omega), Below.refl _ _⟩
  case round =>
    obtain ⟨k, hk, rfl, hno, hb⟩ := hrel
    have HNo := Lib.hid hno
    have HB := Lib.hid hb
    have hsz := hb.size
    by_cases hlt : k < n
    · obtain ⟨x, hx⟩ : ∃ x, xs[k]? = some x := ⟨_, List.getElem?_eq_getElem (by have := HN.out; omega)⟩
      obtain ⟨b, o, rfl, hSb, e0, e1, e2, f0, f1⟩ := k_han_at (HR.out.keep (fun b h => hb.block b (HS.out b h))) hx
      have HX := Lib.hid hx
      have K := Lib.hid (HF.out wr x  (List.mem_of_getElem? hx) f0 f1 hb)
      clear hno hb hx
      by_cases hp : p x = true
      · go_wp2_with fail
        rw [EG.out]
        refine K.out.mono ?_
        rw [hp]
        rintro e w1 ⟨rfl, hb1⟩
        have HB1 := Lib.hid (HB.out.trans (hb1.mono hsz))
        clear hb1
        go_wp2
        go_ret
        exact ⟨ret_int (idxP_hit HNo.out HX.out hp).symm, HB1.out⟩
      · have hp' : p x = false := by simpa using hp
        go_wp2_with fail
        rw [EG.out]
        refine K.out.mono ?_
        rw [hp']
        rintro e w1 ⟨rfl, hb1⟩
        have HB1 := Lib.hid (HB.out.trans (hb1.mono hsz))
        clear hb1
        go_wp2
        refine ⟨⟨k + 1, by omega, by go_num, fun j hj y hy => ?_, HB1.out⟩, by simp [intOf]; omega⟩
        by_cases e : j = k
        · subst e; rw [HX.out] at hy; cases hy; exact hp'
        · exact HNo.out j (by omega) y hy
    · obtain rfl : k = n := by omega
      go_wp2
      go_ret
      exact ⟨ret_int (idxP_none (fun j hj => HNo.out j (by have := HN.out; omega))).symm, HB.out⟩
theorem contains_Han {S : Nat → Prop} (w : World) (A : Option Addr) (n c : Nat) (xs : List Han) (hn : xs.length = n) (hm : n ≤ 100000000000000) (hS : ∀ b, S b → b < w.heap.size) (row : k_han.Row S w A xs) (g : FuncId) (eg : ∀ args w, (callFunc g args).run Tryz.prog w = .ok (.enter g args) w) (lb : Array Value) (p : Han → Bool) (hf : ∀ (W : World) (x : Han), x ∈ xs → (Lit.int .i64 x.kind).wf = true → (Lit.int .u64 x.desc).wf = true → Below w.heap.size w W → Calls Tryz.prog g (#[.agg #[.int .i64 x.kind, .int .u64 x.desc, .bool x.opn]] ++ lb) W fun e w' => e = .returned (.bool (p x)) ∧ Below W.heap.size W w') :
    Calls Tryz.prog 120 #[.slice A n c, .func (.func g) #[] lb] w fun e w' => e = .returned (.bool (xs.any p)) ∧ Below w.heap.size w w' := by
  have K := Lib.hid (index_Han w A n c xs hn hm hS row g eg lb p hf)
  have HI := Lib.hid (idxP_any p xs)
  clear hn row hf hS eg
  generalize idxP p xs = z at *
  go_enter Tryz.func120, Tryz.ntmps120
  go_wp2_with (go_at_call 163; refine K.out.mono ?_; rintro e w1 ⟨rfl, hb1⟩)
  go_ret
  exact ⟨ret_bool HI.out, hb1⟩
set_option maxRecDepth 100000 in
set_option maxHeartbeats 4000000 in
theorem index_Ob {S : Nat → Prop} (w : World) (A : Option Addr) (n c : Nat) (xs : List Ob) (hn : xs.length = n) (hm : n ≤ 100000000000000) (hS : ∀ b, S b → b < w.heap.size) (row : k_obj.Row S w A xs) (g : FuncId) (eg : ∀ args w, (callFunc g args).run Tryz.prog w = .ok (.enter g args) w) (lb : Array Value) (p : Ob → Bool) (hf : ∀ (W : World) (x : Ob) (A2 : Option Addr) (c2 : Nat) (A3 : Option Addr) (c3 : Nat), x ∈ xs → (Lit.int .i64 x.kind).wf = true → (Lit.int .i64 x.n).wf = true → x.words.length ≤ c2 → x.words.length ≤ 140737488351232 → (Rd.int .u64).Row S W A2 x.words → x.bytes.length ≤ c3 → x.bytes.length ≤ 140737488351232 → (Rd.int .u8).Row S W A3 x.bytes → Below w.heap.size w W → Calls Tryz.prog g (#[.agg #[.int .i64 x.kind, .int .i64 x.n, .slice A2 x.words.length c2, .slice A3 x.bytes.length c3]] ++ lb) W fun e w' => e = .returned (.bool (p x)) ∧ Below W.heap.size W w') :
    Calls Tryz.prog 164 #[.slice A n c, .func (.func g) #[] lb] w fun e w' => e = .returned (.int .i64 (idxP p xs)) ∧ Below w.heap.size w w' := by
  have HN := Lib.hid hn
  have HR := Lib.hid row
  have HF := Lib.hid hf
  have HS := Lib.hid hS
  have EG := Lib.hid eg
  clear hn row hf hS eg
  go_enter Tryz.func164, Tryz.ntmps164
  go_wp2
  go_loopw [8] (fun i wr => ∃ k : Nat, k ≤ n ∧ i = .int .i64 k ∧ (∀ j, j < k → ∀ y, xs[j]? = some y → p y = false) ∧ Below w.heap.size w wr) (fun i _ => n - (intOf i).toNat)
  case atStart => exact ⟨0, Nat.zero_le _, rfl, fun j hj => absurd hj (by omega), Below.refl _ _⟩
  case round =>
    obtain ⟨k, hk, rfl, hno, hb⟩ := hrel
    have HNo := Lib.hid hno
    have HB := Lib.hid hb
    have hsz := hb.size
    by_cases hlt : k < n
    · obtain ⟨x, hx⟩ : ∃ x, xs[k]? = some x := ⟨_, List.getElem?_eq_getElem (by have := HN.out; omega)⟩
      obtain ⟨b, o, A2, c2, A3, c3, rfl, hSb, e0, e1, e2, e3, f0, f1, l2, m2, r2, l3, m3, r3⟩ := k_obj_at (HR.out.keep (fun b h => hb.block b (HS.out b h))) hx
      have HX := Lib.hid hx
      have K := Lib.hid (HF.out wr x A2 c2 A3 c3 (List.mem_of_getElem? hx) f0 f1 l2 m2 r2 l3 m3 r3 hb)
      clear hno hb hx
      by_cases hp : p x = true
      · go_wp2_with fail
        rw [EG.out]
        refine K.out.mono ?_
        rw [hp]
        rintro e w1 ⟨rfl, hb1⟩
        have HB1 := Lib.hid (HB.out.trans (hb1.mono hsz))
        clear hb1
        go_wp2
        go_ret
        exact ⟨ret_int (idxP_hit HNo.out HX.out hp).symm, HB1.out⟩
      · have hp' : p x = false := by simpa using hp
        go_wp2_with fail
        rw [EG.out]
        refine K.out.mono ?_
        rw [hp']
        rintro e w1 ⟨rfl, hb1⟩
        have HB1 := Lib.hid (HB.out.trans (hb1.mono hsz))
        clear hb1
        go_wp2
        refine ⟨⟨k + 1, by omega, by go_num, fun j hj y hy => ?_, HB1.out⟩, by simp [intOf]; omega⟩
        by_cases e : j = k
        · subst e; rw [HX.out] at hy; cases hy; exact hp'
        · exact HNo.out j (by omega) y hy
    · obtain rfl : k = n := by omega
      go_wp2
      go_ret
      exact ⟨ret_int (idxP_none (fun j hj => HNo.out j (by have := HN.out; omega))).symm, HB.out⟩
theorem contains_Ob {S : Nat → Prop} (w : World) (A : Option Addr) (n c : Nat) (xs : List Ob) (hn : xs.length = n) (hm : n ≤ 100000000000000) (hS : ∀ b, S b → b < w.heap.size) (row : k_obj.Row S w A xs) (g : FuncId) (eg : ∀ args w, (callFunc g args).run Tryz.prog w = .ok (.enter g args) w) (lb : Array Value) (p : Ob → Bool) (hf : ∀ (W : World) (x : Ob) (A2 : Option Addr) (c2 : Nat) (A3 : Option Addr) (c3 : Nat), x ∈ xs → (Lit.int .i64 x.kind).wf = true → (Lit.int .i64 x.n).wf = true → x.words.length ≤ c2 → x.words.length ≤ 140737488351232 → (Rd.int .u64).Row S W A2 x.words → x.bytes.length ≤ c3 → x.bytes.length ≤ 140737488351232 → (Rd.int .u8).Row S W A3 x.bytes → Below w.heap.size w W → Calls Tryz.prog g (#[.agg #[.int .i64 x.kind, .int .i64 x.n, .slice A2 x.words.length c2, .slice A3 x.bytes.length c3]] ++ lb) W fun e w' => e = .returned (.bool (p x)) ∧ Below W.heap.size W w') :
    Calls Tryz.prog 121 #[.slice A n c, .func (.func g) #[] lb] w fun e w' => e = .returned (.bool (xs.any p)) ∧ Below w.heap.size w w' := by
  have K := Lib.hid (index_Ob w A n c xs hn hm hS row g eg lb p hf)
  have HI := Lib.hid (idxP_any p xs)
  clear hn row hf hS eg
  generalize idxP p xs = z at *
  go_enter Tryz.func121, Tryz.ntmps121
  go_wp2_with (go_at_call 164; refine K.out.mono ?_; rintro e w1 ⟨rfl, hb1⟩)
  go_ret
  exact ⟨ret_bool HI.out, hb1⟩
set_option maxRecDepth 100000 in
set_option maxHeartbeats 4000000 in
theorem index_Sl {S : Nat → Prop} (w : World) (A : Option Addr) (n c : Nat) (xs : List (List Ty)) (hn : xs.length = n) (hm : n ≤ 100000000000000) (hS : ∀ b, S b → b < w.heap.size) (row : (Rd.slice k_ty).Row S w A xs) (g : FuncId) (eg : ∀ args w, (callFunc g args).run Tryz.prog w = .ok (.enter g args) w) (lb : Array Value) (p : (List Ty) → Bool) (hf : ∀ (W : World) (x : (List Ty)) (A0 : Option Addr) (c0 : Nat), x ∈ xs → x.length ≤ c0 → x.length ≤ 140737488351232 → k_ty.Row S W A0 x → Below w.heap.size w W → Calls Tryz.prog g (#[.slice A0 x.length c0] ++ lb) W fun e w' => e = .returned (.bool (p x)) ∧ Below W.heap.size W w') :
    Calls Tryz.prog 228 #[.slice A n c, .func (.func g) #[] lb] w fun e w' => e = .returned (.int .i64 (idxP p xs)) ∧ Below w.heap.size w w' := by
  have HN := Lib.hid hn
  have HR := Lib.hid row
  have HF := Lib.hid hf
  have HS := Lib.hid hS
  have EG := Lib.hid eg
  clear hn row hf hS eg
  go_enter Tryz.func228, Tryz.ntmps228
  go_wp2
  go_loopw [8] (fun i wr => ∃ k : Nat, k ≤ n ∧ i = .int .i64 k ∧ (∀ j, j < k → ∀ y, xs[j]? = some y → p y = false) ∧ Below w.heap.size w wr) (fun i _ => n - (intOf i).toNat)
  case atStart => exact ⟨0, Nat.zero_le _, rfl, fun j hj => absurd hj (by omega), Below.refl _ _⟩
  case round =>
    obtain ⟨k, hk, rfl, hno, hb⟩ := hrel
    have HNo := Lib.hid hno
    have HB := Lib.hid hb
    have hsz := hb.size
    by_cases hlt : k < n
    · obtain ⟨x, hx⟩ : ∃ x, xs[k]? = some x := ⟨_, List.getElem?_eq_getElem (by have := HN.out; omega)⟩
      obtain ⟨b, o, A0, c0, rfl, hSb, e0, l0, m0, r0⟩ := row_slice_at (HR.out.keep (fun b h => hb.block b (HS.out b h))) hx
      have HX := Lib.hid hx
      have K := Lib.hid (HF.out wr x A0 c0 (List.mem_of_getElem? hx) l0 m0 r0 hb)
      clear hno hb hx
      by_cases hp : p x = true
      · go_wp2_with fail
        rw [EG.out]
        refine K.out.mono ?_
        rw [hp]
        rintro e w1 ⟨rfl, hb1⟩
        have HB1 := Lib.hid (HB.out.trans (hb1.mono hsz))
        clear hb1
        go_wp2
        go_ret
        exact ⟨ret_int (idxP_hit HNo.out HX.out hp).symm, HB1.out⟩
      · have hp' : p x = false := by simpa using hp
        go_wp2_with fail
        rw [EG.out]
        refine K.out.mono ?_
        rw [hp']
        rintro e w1 ⟨rfl, hb1⟩
        have HB1 := Lib.hid (HB.out.trans (hb1.mono hsz))
        clear hb1
        go_wp2
        refine ⟨⟨k + 1, by omega, by go_num, fun j hj y hy => ?_, HB1.out⟩, by simp [intOf]; omega⟩
        by_cases e : j = k
        · subst e; rw [HX.out] at hy; cases hy; exact hp'
        · exact HNo.out j (by omega) y hy
    · obtain rfl : k = n := by omega
      go_wp2
      go_ret
      exact ⟨ret_int (idxP_none (fun j hj => HNo.out j (by have := HN.out; omega))).symm, HB.out⟩
theorem contains_Sl {S : Nat → Prop} (w : World) (A : Option Addr) (n c : Nat) (xs : List (List Ty)) (hn : xs.length = n) (hm : n ≤ 100000000000000) (hS : ∀ b, S b → b < w.heap.size) (row : (Rd.slice k_ty).Row S w A xs) (g : FuncId) (eg : ∀ args w, (callFunc g args).run Tryz.prog w = .ok (.enter g args) w) (lb : Array Value) (p : (List Ty) → Bool) (hf : ∀ (W : World) (x : (List Ty)) (A0 : Option Addr) (c0 : Nat), x ∈ xs → x.length ≤ c0 → x.length ≤ 140737488351232 → k_ty.Row S W A0 x → Below w.heap.size w W → Calls Tryz.prog g (#[.slice A0 x.length c0] ++ lb) W fun e w' => e = .returned (.bool (p x)) ∧ Below W.heap.size W w') :
    Calls Tryz.prog 197 #[.slice A n c, .func (.func g) #[] lb] w fun e w' => e = .returned (.bool (xs.any p)) ∧ Below w.heap.size w w' := by
  have K := Lib.hid (index_Sl w A n c xs hn hm hS row g eg lb p hf)
  have HI := Lib.hid (idxP_any p xs)
  clear hn row hf hS eg
  generalize idxP p xs = z at *
  go_enter Tryz.func197, Tryz.ntmps197
  go_wp2_with (go_at_call 228; refine K.out.mono ?_; rintro e w1 ⟨rfl, hb1⟩)
  go_ret
  exact ⟨ret_bool HI.out, hb1⟩
set_option maxRecDepth 100000 in
set_option maxHeartbeats 4000000 in
theorem index_Str {S : Nat → Prop} (w : World) (A : Option Addr) (n c : Nat) (xs : List ByteArray) (hn : xs.length = n) (hm : n ≤ 100000000000000) (hS : ∀ b, S b → b < w.heap.size) (row : Rd.str.Row S w A xs) (g : FuncId) (eg : ∀ args w, (callFunc g args).run Tryz.prog w = .ok (.enter g args) w) (lb : Array Value) (p : ByteArray → Bool) (hf : ∀ (W : World) (x : ByteArray), x ∈ xs → x.size ≤ 140737488351232 → Below w.heap.size w W → Calls Tryz.prog g (#[.string x] ++ lb) W fun e w' => e = .returned (.bool (p x)) ∧ Below W.heap.size W w') :
    Calls Tryz.prog 232 #[.slice A n c, .func (.func g) #[] lb] w fun e w' => e = .returned (.int .i64 (idxP p xs)) ∧ Below w.heap.size w w' := by
  have HN := Lib.hid hn
  have HR := Lib.hid row
  have HF := Lib.hid hf
  have HS := Lib.hid hS
  have EG := Lib.hid eg
  clear hn row hf hS eg
  go_enter Tryz.func232, Tryz.ntmps232
  go_wp2
  go_loopw [8] (fun i wr => ∃ k : Nat, k ≤ n ∧ i = .int .i64 k ∧ (∀ j, j < k → ∀ y, xs[j]? = some y → p y = false) ∧ Below w.heap.size w wr) (fun i _ => n - (intOf i).toNat)
  case atStart => exact ⟨0, Nat.zero_le _, rfl, fun j hj => absurd hj (by omega), Below.refl _ _⟩
  case round =>
    obtain ⟨k, hk, rfl, hno, hb⟩ := hrel
    have HNo := Lib.hid hno
    have HB := Lib.hid hb
    have hsz := hb.size
    by_cases hlt : k < n
    · obtain ⟨x, hx⟩ : ∃ x, xs[k]? = some x := ⟨_, List.getElem?_eq_getElem (by have := HN.out; omega)⟩
      obtain ⟨b, o, rfl, hSb, e0, f0⟩ := row_str_at (HR.out.keep (fun b h => hb.block b (HS.out b h))) hx
      have HX := Lib.hid hx
      have K := Lib.hid (HF.out wr x  (List.mem_of_getElem? hx) f0 hb)
      clear hno hb hx
      by_cases hp : p x = true
      · go_wp2_with fail
        rw [EG.out]
        refine K.out.mono ?_
        rw [hp]
        rintro e w1 ⟨rfl, hb1⟩
        have HB1 := Lib.hid (HB.out.trans (hb1.mono hsz))
        clear hb1
        go_wp2
        go_ret
        exact ⟨ret_int (idxP_hit HNo.out HX.out hp).symm, HB1.out⟩
      · have hp' : p x = false := by simpa using hp
        go_wp2_with fail
        rw [EG.out]
        refine K.out.mono ?_
        rw [hp']
        rintro e w1 ⟨rfl, hb1⟩
        have HB1 := Lib.hid (HB.out.trans (hb1.mono hsz))
        clear hb1
        go_wp2
        refine ⟨⟨k + 1, by omega, by go_num, fun j hj y hy => ?_, HB1.out⟩, by simp [intOf]; omega⟩
        by_cases e : j = k
        · subst e; rw [HX.out] at hy; cases hy; exact hp'
        · exact HNo.out j (by omega) y hy
    · obtain rfl : k = n := by omega
      go_wp2
      go_ret
      exact ⟨ret_int (idxP_none (fun j hj => HNo.out j (by have := HN.out; omega))).symm, HB.out⟩
theorem contains_Str {S : Nat → Prop} (w : World) (A : Option Addr) (n c : Nat) (xs : List ByteArray) (hn : xs.length = n) (hm : n ≤ 100000000000000) (hS : ∀ b, S b → b < w.heap.size) (row : Rd.str.Row S w A xs) (g : FuncId) (eg : ∀ args w, (callFunc g args).run Tryz.prog w = .ok (.enter g args) w) (lb : Array Value) (p : ByteArray → Bool) (hf : ∀ (W : World) (x : ByteArray), x ∈ xs → x.size ≤ 140737488351232 → Below w.heap.size w W → Calls Tryz.prog g (#[.string x] ++ lb) W fun e w' => e = .returned (.bool (p x)) ∧ Below W.heap.size W w') :
    Calls Tryz.prog 205 #[.slice A n c, .func (.func g) #[] lb] w fun e w' => e = .returned (.bool (xs.any p)) ∧ Below w.heap.size w w' := by
  have K := Lib.hid (index_Str w A n c xs hn hm hS row g eg lb p hf)
  have HI := Lib.hid (idxP_any p xs)
  clear hn row hf hS eg
  generalize idxP p xs = z at *
  go_enter Tryz.func205, Tryz.ntmps205
  go_wp2_with (go_at_call 232; refine K.out.mono ?_; rintro e w1 ⟨rfl, hb1⟩)
  go_ret
  exact ⟨ret_bool HI.out, hb1⟩
end Go.Proofs.YtmceaeoeakkppaaGreatDoor
namespace Go.Proofs.YtmceaeoeakkppaaGreatDoor
open Go.RowKit
set_option linter.unusedVariables false
/-- How many numbers an instruction has. -/
def argsN (op : Int) : Int :=
  if op = 29 ∨ op = 30 then 2
  else if op = 0 ∨ op = 1 ∨ op = 3 ∨ op = 4 ∨ op = 23 ∨ op = 24 ∨ op = 25 ∨ op = 27 ∨ op = 28 then 1
  else if op < 0 ∨ 42 ≤ op then -1 else 0
theorem argsN_range (op : Int) : argsN op = -1 ∨ argsN op = 0 ∨ argsN op = 1 ∨ argsN op = 2 := by
  unfold argsN; split; simp; split; simp; split <;> simp
theorem argsN_op {op : Int} (h : 0 ≤ argsN op) : 0 ≤ op ∧ op < 42 := by
  unfold argsN at h; split at h; omega; split at h; omega; split at h <;> omega
def mayN (n : Int) (has : Bool) : Bool := decide (0 ≤ n) && (decide (n ≤ 255) && (has || decide (n = 0)))
def goodI (i : Ins) : Bool := decide (0 ≤ argsN i.op) && (mayN i.a (decide (0 < argsN i.op)) && mayN i.b (decide (1 < argsN i.op)))
def instB (i : Ins) : List Int :=
  if goodI i = true then i.op :: ((if 0 < argsN i.op then varB i.a.toNat else []) ++ (if 1 < argsN i.op then varB i.b.toNat else [])) else []
theorem instB_isB (i : Ins) : isB (instB i) := by
  unfold instB
  split
  · rename_i h
    have h0 : 0 ≤ argsN i.op := by unfold goodI at h; simp at h; exact h.1
    have := argsN_op h0
    intro x hx
    rcases List.mem_cons.1 hx with rfl | hx
    · omega
    · rcases List.mem_append.1 hx with hx | hx
      · split at hx
        · exact varB_isB _ x hx
        · simp at hx
      · split at hx
        · exact varB_isB _ x hx
        · simp at hx
  · intro x hx; simp at hx
theorem instB_nil {i : Ins} (h : instB i = []) : goodI i = false := by
  unfold instB at h
  split at h
  · simp at h
  · simp_all
theorem instB_good {i : Ins} (h : instB i ≠ []) : goodI i = true := by
  unfold instB at h
  split at h
  · assumption
  · simp at h
theorem goodI_open {i : Ins} (h : goodI i = true) : 0 ≤ argsN i.op ∧ 0 ≤ i.a ∧ i.a ≤ 255 ∧ 0 ≤ i.b ∧ i.b ≤ 255 ∧ (argsN i.op ≤ 0 → i.a = 0) ∧ (argsN i.op ≤ 1 → i.b = 0) := by
  unfold goodI mayN at h
  simp only [Bool.and_eq_true, Bool.or_eq_true, decide_eq_true_eq] at h
  obtain ⟨h1, ⟨h2, h3, h4⟩, h5, h6, h7⟩ := h
  refine ⟨h1, h2, h3, h5, h6, fun h => ?_, fun h => ?_⟩
  · rcases h4 with h4 | h4 <;> omega
  · rcases h7 with h7 | h7 <;> omega
theorem args_calls (w : World) (op : Int) : Calls Tryz.prog 233 #[.int .i64 op] w fun e w' => e = .returned (.int .i64 (argsN op)) ∧ w' = w := by
  by_cases hin : op = 29 ∨ op = 30 ∨ op = 0 ∨ op = 1 ∨ op = 3 ∨ op = 4 ∨ op = 23 ∨ op = 24 ∨ op = 25 ∨ op = 27 ∨ op = 28
  · rcases hin with rfl | rfl | rfl | rfl | rfl | rfl | rfl | rfl | rfl | rfl | rfl
    all_goals
      go_enter Tryz.func233, Tryz.ntmps233
      go_wp2
      go_ret
      exact ⟨rfl, rfl⟩
  · have ha : argsN op = if op < 0 ∨ 42 ≤ op then -1 else 0 := by unfold argsN; rw [if_neg (by omega), if_neg (by omega)]
    have q0 : (op == 29) = false := beq_eq_false_iff_ne.2 (by omega)
    have q1 : (op == 30) = false := beq_eq_false_iff_ne.2 (by omega)
    have q2 : (op == 0) = false := beq_eq_false_iff_ne.2 (by omega)
    have q3 : (op == 1) = false := beq_eq_false_iff_ne.2 (by omega)
    have q4 : (op == 3) = false := beq_eq_false_iff_ne.2 (by omega)
    have q5 : (op == 4) = false := beq_eq_false_iff_ne.2 (by omega)
    have q6 : (op == 23) = false := beq_eq_false_iff_ne.2 (by omega)
    have q7 : (op == 24) = false := beq_eq_false_iff_ne.2 (by omega)
    have q8 : (op == 25) = false := beq_eq_false_iff_ne.2 (by omega)
    have q9 : (op == 27) = false := beq_eq_false_iff_ne.2 (by omega)
    have q10 : (op == 28) = false := beq_eq_false_iff_ne.2 (by omega)
    have hway : op < 0 ∨ (¬ op < 0 ∧ 42 ≤ op) ∨ (¬ op < 0 ∧ ¬ 42 ≤ op) := by omega
    have HA := Lib.hid ha
    clear hin ha
    rcases hway with h | ⟨h1, h2⟩ | ⟨h1, h2⟩
    all_goals
      go_enter Tryz.func233, Tryz.ntmps233
      go_wp2
      go_ret
      rw [HA.out]
      first
        | rw [if_pos (by omega)]
        | rw [if_neg (by omega)]
      exact ⟨rfl, rfl⟩
theorem may_calls (w : World) (n : Int) (has : Bool) : Calls Tryz.prog 234 #[.int .i64 n, .bool has] w fun e w' => e = .returned (.bool (mayN n has)) ∧ w' = w := by
  have hway : n < 0 ∨ (0 ≤ n ∧ 255 < n) ∨ (0 ≤ n ∧ n ≤ 255 ∧ n = 0) ∨ (0 ≤ n ∧ n ≤ 255 ∧ ¬ n = 0) := by omega
  rcases hway with h | ⟨h1, h2⟩ | ⟨h1, h2, rfl⟩ | ⟨h1, h2, h3⟩
  · have hm := Lib.hid (show mayN n has = false by simp [mayN]; omega)
    go_enter Tryz.func234, Tryz.ntmps234
    go_wp2
    go_ret
    rw [hm.out]
    exact ⟨rfl, rfl⟩
  · have hm := Lib.hid (show mayN n has = false by simp [mayN]; omega)
    go_enter Tryz.func234, Tryz.ntmps234
    go_wp2
    go_ret
    rw [hm.out]
    exact ⟨rfl, rfl⟩
  · cases has
    all_goals
      go_enter Tryz.func234, Tryz.ntmps234
      go_wp2
      go_ret
      exact ⟨rfl, rfl⟩
  · have q : (n == 0) = false := beq_eq_false_iff_ne.2 h3
    have hm := Lib.hid (show mayN n has = has by simp [mayN, h1, h2, h3])
    cases has
    all_goals
      go_enter Tryz.func234, Tryz.ntmps234
      go_wp2
      go_ret
      rw [hm.out]
      exact ⟨rfl, rfl⟩
/-- The first k numbers of an instruction behind its sign. -/
def enc (op : Int) (a b k : Nat) : List Int := op :: ((if 0 < k then varB a else []) ++ (if 1 < k then varB b else []))
theorem enc_len (op : Int) {a b : Nat} (ha : a < 18446744073709551616) (hb : b < 18446744073709551616) (k : Nat) : (enc op a b k).length ≤ 21 := by
  have h1 := varB_ten ha
  have h2 := varB_ten hb
  unfold enc
  rw [List.length_cons, List.length_append]
  split <;> split <;> simp <;> omega
theorem enc_one (op : Int) (a b : Nat) : enc op a b 1 = enc op a b 0 ++ varB a := by simp [enc]
theorem enc_two (op : Int) (a b : Nat) : enc op a b 2 = enc op a b 1 ++ varB b := by simp [enc]
theorem instB_bad {i : Ins} (h : goodI i = false) : instB i = [] := by unfold instB; rw [if_neg (by simp [h])]
theorem instB_enc {op : Int} {a b n : Nat} (h : goodI ⟨op, a, b⟩ = true) (hn : argsN op = (n : Int)) : instB ⟨op, a, b⟩ = enc op a b n := by
  unfold instB enc
  rw [if_pos h, hn]
  simp only [Int.toNat_natCast]
  congr 2
  · by_cases h : 0 < n
    · rw [if_pos h, if_pos (by omega)]
    · rw [if_neg h, if_neg (by omega)]
  · by_cases h : 1 < n
    · rw [if_pos h, if_pos (by omega)]
    · rw [if_neg h, if_neg (by omega)]
def PutSaid (f : Nat) : Prop := ∀ (w : World) (op a b : Int), Calls Tryz.prog f #[.agg #[.int .i64 op, .int .i64 a, .int .i64 b]] w fun e w' => ∃ A c, e = .returned (.slice A (instB ⟨op, a, b⟩).length c) ∧ w'.ownsRow w.heap.size 5 1 (.slice A (instB ⟨op, a, b⟩).length c) (instB ⟨op, a, b⟩).length (bcells (instB ⟨op, a, b⟩)) ∧ Below w.heap.size w w'
theorem own_down {w : World} {base base' : Nat} {e : TypeId} {size : Nat} {v : Value} {n : Nat} {xs : List Value} (h : w.ownsRow base e size v n xs) (hb : base' ≤ base) : w.ownsRow base' e size v n xs := by
  refine ⟨h.1, ?_⟩
  rcases h.2 with h2 | ⟨g, cap, cur, h1, h2, h3⟩
  · exact .inl h2
  · exact .inr ⟨g, cap, cur, h1, Nat.le_trans hb h2, h3⟩
theorem enc_isB {op : Int} (hop : 0 ≤ op ∧ op < 42) (a b k : Nat) : isB (enc op a b k) := by
  intro x hx
  rcases List.mem_cons.1 hx with rfl | hx
  · omega
  · rcases List.mem_append.1 hx with hx | hx
    · split at hx
      · exact varB_isB _ x hx
      · simp at hx
    · split at hx
      · exact varB_isB _ x hx
      · simp at hx
theorem enc_succ (op : Int) (a b k : Nat) (hk : k < 2) : enc op a b (k + 1) = enc op a b k ++ varB (if k = 0 then a else b) := by
  have : k = 0 ∨ k = 1 := by omega
  rcases this with rfl | rfl
  · exact enc_one op a b
  · exact enc_two op a b
theorem enc_zero (op : Int) (a b : Nat) : bcells (enc op a b 0) = [.int .u8 op] := rfl
theorem box3 {w : World} {g : Nat} {t : TypeId} {x y z : Value} (h : w.heap[g]? = some (.cells #[x, y, z] t (0, 0))) : w.cell? ⟨g, 0, none⟩ = some x ∧ w.cell? ⟨g, 1, none⟩ = some y ∧ w.cell? ⟨g, 2, none⟩ = some z := ⟨blk_cell h 0, blk_cell h 1, blk_cell h 2⟩
theorem nil_owned (w : World) (base : Nat) : w.ownsRow base 5 1 (.slice none 0 0) 0 (bcells []) := ⟨rfl, .inl ⟨rfl, rfl⟩⟩
theorem may_true (w : World) (n : Int) (has : Bool) (h : mayN n has = true) : Calls Tryz.prog 234 #[.int .i64 n, .bool has] w fun e w' => e = .returned (.bool true) ∧ w' = w := (may_calls w n has).mono fun e w' ⟨h1, h2⟩ => ⟨by rw [h1, h], h2⟩
theorem may_false (w : World) (n : Int) (has : Bool) (h : mayN n has = false) : Calls Tryz.prog 234 #[.int .i64 n, .bool has] w fun e w' => e = .returned (.bool false) ∧ w' = w := (may_calls w n has).mono fun e w' ⟨h1, h2⟩ => ⟨by rw [h1, h], h2⟩
theorem args_at (w : World) (op n : Int) (h : argsN op = n) : Calls Tryz.prog 233 #[.int .i64 op] w fun e w' => e = .returned (.int .i64 n) ∧ w' = w := h ▸ args_calls w op
theorem put_start (w : World) (op : Int) (a b : Nat) (B0 B2 : Go.Obj) : (((w.alloc B0).alloc (Obj.cells #[.int .u8 op] 5)).alloc B2).ownsRow w.heap.size 5 1 (.slice (some ⟨w.heap.size + 1, 0, none⟩) 1 1) 1 (bcells (enc op a b 0)) := by
  have h : ((w.alloc B0).alloc (Obj.cells #[.int .u8 op] 5)).ownsRow (w.heap.size + 1) 5 1 (.slice (some ⟨w.heap.size + 1, 0, none⟩) 1 1) 1 [.int .u8 op] := by
    simpa using own_made (w.alloc B0) 5 1 1 [.int .u8 op] rfl (by decide)
  exact own_down (h.alloc _) (Nat.le_succ _)
set_option maxRecDepth 100000 in
set_option maxHeartbeats 1000000 in
theorem put_calls : PutSaid 211 := by
  intro w op a b
  by_cases hg : goodI ⟨op, a, b⟩ = true
  · obtain ⟨h1, h2, h3, h4, h5, h6, h7⟩ := goodI_open hg
    simp only at h1 h2 h3 h4 h5 h6 h7
    obtain ⟨a, rfl⟩ := Int.eq_ofNat_of_zero_le h2
    obtain ⟨b, rfl⟩ := Int.eq_ofNat_of_zero_le h4
    have hop := argsN_op h1
    have ha : a < 18446744073709551616 := by omega
    have hb : b < 18446744073709551616 := by omega
    obtain ⟨n, hn⟩ : ∃ n : Nat, argsN op = (n : Int) := ⟨(argsN op).toNat, by omega⟩
    have hI := Lib.hid (instB_enc hg hn)
    have hn2 : n = 0 ∨ n = 1 ∨ n = 2 := by rcases argsN_range op with h | h | h | h <;> omega
    have hma : mayN (a : Int) (decide (0 < n)) = true := by
      unfold goodI at hg; rw [hn] at hg; simp at hg; simpa using hg.1
    have hmb : mayN (b : Int) (decide (1 < n)) = true := by
      unfold goodI at hg; rw [hn] at hg; simp only [Bool.and_eq_true] at hg; have h := hg.2.2; rw [show decide ((1 : Int) < (n : Int)) = decide (1 < n) from decide_eq_decide.2 (by omega)] at h; exact h
    have HN := Lib.hid hn
    have hl := enc_len op ha hb
    have HLen := Lib.hid hl
    clear hg hn h1 h2 h4 h6 h7 hl
    rcases hn2 with rfl | rfl | rfl
    · first | change mayN (a : Int) true = true at hma | change mayN (a : Int) false = true at hma
      first | change mayN (b : Int) true = true at hmb | change mayN (b : Int) false = true at hmb
      have HMA := Lib.hid (fun w' => may_true w' (a : Int) _ hma)
      have HMB := Lib.hid (fun w' => may_true w' (b : Int) _ hmb)
      first | have HA := Lib.hid (fun w' => args_at w' op 0 HN.out) | have HA := Lib.hid (fun w' => args_at w' op 1 HN.out) | have HA := Lib.hid (fun w' => args_at w' op 2 HN.out)
      clear hma hmb
      rw [hI.out]
      go_enter Tryz.func211, Tryz.ntmps211
      go_wp2_with (first
        | (go_at_call 233; refine (HA.out _).mono ?_; rintro e w1 ⟨rfl, rfl⟩)
        | (go_at_call 234; refine (HMA.out _).mono ?_; rintro e w1 ⟨rfl, rfl⟩; clear HMA)
        | (go_at_call 234; refine (HMB.out _).mono ?_; rintro e w1 ⟨rfl, rfl⟩))
      have HO := Lib.hid (put_start w op a b (Obj.cells #[.int .i64 op, .int .i64 (a : Int), .int .i64 (b : Int)] 62) (Obj.cells #[.int .i64 (a : Int), .int .i64 (b : Int)] 296))
      have HA2 := Lib.hid (blk_new3 w (Obj.cells #[.int .i64 op, .int .i64 (a : Int), .int .i64 (b : Int)] 62) (Obj.cells #[.int .u8 op] 5) (Obj.cells #[.int .i64 (a : Int), .int .i64 (b : Int)] 296))
      have HBW := Lib.hid ((((Below.refl w.heap.size w).alloc (Nat.le_refl _) (Obj.cells #[.int .i64 op, .int .i64 (a : Int), .int .i64 (b : Int)] 62)).alloc (by simp) (Obj.cells #[.int .u8 op] 5)).alloc (by simp; omega) (Obj.cells #[.int .i64 (a : Int), .int .i64 (b : Int)] 296))
      obtain ⟨W, hW⟩ : ∃ W, ((w.alloc (Obj.cells #[.int .i64 op, .int .i64 (a : Int), .int .i64 (b : Int)] 62)).alloc (Obj.cells #[.int .u8 op] 5)).alloc (Obj.cells #[.int .i64 (a : Int), .int .i64 (b : Int)] 296) = W := ⟨_, rfl⟩
      rw [hW] at HO HA2 HBW ⊢
      clear HA
      have hs0 : W.heap.size = w.heap.size + 1 + 1 + 1 := by rw [← hW]; simp
      go_loopw [4, 41] (fun out ix wr => ∃ (k : Nat) (A : Option Addr) (c : Nat), k ≤ 0 ∧ ix = .int .i64 k ∧ out = .slice A (enc op a b k).length c ∧ Hid (wr.ownsRow w.heap.size 5 1 (.slice A (enc op a b k).length c) (enc op a b k).length (bcells (enc op a b k))) ∧ Hid (wr.heap[w.heap.size + 1 + 1]? = some (.cells #[.int .i64 a, .int .i64 b] 296 (0, 0))) ∧ Hid (Below w.heap.size w wr) ∧ W.heap.size ≤ wr.heap.size) (fun _ ix _ => 0 - (intOf ix).toNat)
      case atStart => exact ⟨0, _, _, by omega, rfl, rfl, HO, HA2, HBW, Nat.le_refl _⟩
      case round =>
        obtain ⟨k, A, c, hk, rfl, rfl, HO, HA2, HBW, hsz⟩ := hrel
        have hsw := HBW.out.size
        by_cases hlt : k < 0
        · exact absurd hlt (by omega)
        · obtain rfl : k = 0 := by omega
          go_wp2
          go_ret
          exact ⟨_, _, rfl, HO.out, HBW.out⟩
    · first | change mayN (a : Int) true = true at hma | change mayN (a : Int) false = true at hma
      first | change mayN (b : Int) true = true at hmb | change mayN (b : Int) false = true at hmb
      have HMA := Lib.hid (fun w' => may_true w' (a : Int) _ hma)
      have HMB := Lib.hid (fun w' => may_true w' (b : Int) _ hmb)
      first | have HA := Lib.hid (fun w' => args_at w' op 0 HN.out) | have HA := Lib.hid (fun w' => args_at w' op 1 HN.out) | have HA := Lib.hid (fun w' => args_at w' op 2 HN.out)
      clear hma hmb
      rw [hI.out]
      go_enter Tryz.func211, Tryz.ntmps211
      go_wp2_with (first
        | (go_at_call 233; refine (HA.out _).mono ?_; rintro e w1 ⟨rfl, rfl⟩)
        | (go_at_call 234; refine (HMA.out _).mono ?_; rintro e w1 ⟨rfl, rfl⟩; clear HMA)
        | (go_at_call 234; refine (HMB.out _).mono ?_; rintro e w1 ⟨rfl, rfl⟩))
      have HO := Lib.hid (put_start w op a b (Obj.cells #[.int .i64 op, .int .i64 (a : Int), .int .i64 (b : Int)] 62) (Obj.cells #[.int .i64 (a : Int), .int .i64 (b : Int)] 296))
      have HA2 := Lib.hid (blk_new3 w (Obj.cells #[.int .i64 op, .int .i64 (a : Int), .int .i64 (b : Int)] 62) (Obj.cells #[.int .u8 op] 5) (Obj.cells #[.int .i64 (a : Int), .int .i64 (b : Int)] 296))
      have HBW := Lib.hid ((((Below.refl w.heap.size w).alloc (Nat.le_refl _) (Obj.cells #[.int .i64 op, .int .i64 (a : Int), .int .i64 (b : Int)] 62)).alloc (by simp) (Obj.cells #[.int .u8 op] 5)).alloc (by simp; omega) (Obj.cells #[.int .i64 (a : Int), .int .i64 (b : Int)] 296))
      obtain ⟨W, hW⟩ : ∃ W, ((w.alloc (Obj.cells #[.int .i64 op, .int .i64 (a : Int), .int .i64 (b : Int)] 62)).alloc (Obj.cells #[.int .u8 op] 5)).alloc (Obj.cells #[.int .i64 (a : Int), .int .i64 (b : Int)] 296) = W := ⟨_, rfl⟩
      rw [hW] at HO HA2 HBW ⊢
      clear HA
      have hs0 : W.heap.size = w.heap.size + 1 + 1 + 1 := by rw [← hW]; simp
      go_loopw [4, 41] (fun out ix wr => ∃ (k : Nat) (A : Option Addr) (c : Nat), k ≤ 1 ∧ ix = .int .i64 k ∧ out = .slice A (enc op a b k).length c ∧ Hid (wr.ownsRow w.heap.size 5 1 (.slice A (enc op a b k).length c) (enc op a b k).length (bcells (enc op a b k))) ∧ Hid (wr.heap[w.heap.size + 1 + 1]? = some (.cells #[.int .i64 a, .int .i64 b] 296 (0, 0))) ∧ Hid (Below w.heap.size w wr) ∧ W.heap.size ≤ wr.heap.size) (fun _ ix _ => 1 - (intOf ix).toNat)
      case atStart => exact ⟨0, _, _, by omega, rfl, rfl, HO, HA2, HBW, Nat.le_refl _⟩
      case round =>
        obtain ⟨k, A, c, hk, rfl, rfl, HO, HA2, HBW, hsz⟩ := hrel
        have hsw := HBW.out.size
        by_cases hlt : k < 1
        · obtain ⟨v, hv⟩ : ∃ v : Nat, v = if k = 0 then a else b := ⟨_, rfl⟩
          have hcell : wr.cell? ⟨w.heap.size + 1 + 1, k, none⟩ = some (.int .i64 (v : Int)) := by
            have hk2 : k = 0 ∨ k = 1 := by omega
            rcases hk2 with rfl | rfl
            · rw [hv]; exact blk_cell HA2.out 0
            · rw [hv]; exact blk_cell HA2.out 1
          have hv64 : v < 18446744073709551616 := by rw [hv]; split <;> omega
          have hv255 : v ≤ 255 := by rw [hv]; split <;> omega
          have HS := Lib.hid (show enc op a b (k + 1) = enc op a b k ++ varB v by rw [hv]; exact enc_succ op a b k (by omega))
          have hl1 := HLen.out k
          have hl2 := HLen.out (k + 1)
          rw [HS.out, List.length_append] at hl2
          have hl3 := varB_ten hv64
          clear hv
          go_wp2_with (first
            | (go_at_call 207; refine (var_calls _ v hv64).mono ?_; rintro e w1 ⟨A1, c1, rfl, ho, hb1⟩; have HO1 := Lib.hid ho; have HB1 := Lib.hid hb1; have hs1 := hb1.size; clear ho hb1)
            | (at_builtin; refine list_app _ rfl (.tmp 45) (.tmp 48) _ rfl 5 Tryz.underlying74 byte_info rfl (by decide) (by decide) w.heap.size rfl (own_below HO.out HB1.out) rfl (bcells_length _) (by exact own_lie HO1.out) (bcells_one _) (by omega) (by omega) ?_; intro v' w3 hown hg hat; have hB := Lib.hid (grown_below (HBW.out.trans (HB1.out.mono hsw)) hg (by omega) (own_ge HO.out)); rw [← bcells_append] at hown; obtain ⟨A3, c3, rfl, hn3, _, _⟩ := own_shape hown; have HO3 := Lib.hid hown; have HA3 := Lib.hid (blk_grown (blk_below HA2.out HB1.out (by omega)) hg (fun e => own_ne_blk HO.out HA2.out (by decide) e.symm)); have hs3 := hB.out.size; have hsg := hg.size; clear hown hg hat))
          go_roundw
          case rel => exact ⟨k + 1, A3, c3, by omega, by go_num, by rw [HS.out, List.length_append], Lib.hid (by rw [HS.out, List.length_append]; exact HO3.out), HA3, hB, by omega⟩
          case measure => simp [intOf]; omega
        · obtain rfl : k = 1 := by omega
          go_wp2
          go_ret
          exact ⟨_, _, rfl, HO.out, HBW.out⟩
    · first | change mayN (a : Int) true = true at hma | change mayN (a : Int) false = true at hma
      first | change mayN (b : Int) true = true at hmb | change mayN (b : Int) false = true at hmb
      have HMA := Lib.hid (fun w' => may_true w' (a : Int) _ hma)
      have HMB := Lib.hid (fun w' => may_true w' (b : Int) _ hmb)
      first | have HA := Lib.hid (fun w' => args_at w' op 0 HN.out) | have HA := Lib.hid (fun w' => args_at w' op 1 HN.out) | have HA := Lib.hid (fun w' => args_at w' op 2 HN.out)
      clear hma hmb
      rw [hI.out]
      go_enter Tryz.func211, Tryz.ntmps211
      go_wp2_with (first
        | (go_at_call 233; refine (HA.out _).mono ?_; rintro e w1 ⟨rfl, rfl⟩)
        | (go_at_call 234; refine (HMA.out _).mono ?_; rintro e w1 ⟨rfl, rfl⟩; clear HMA)
        | (go_at_call 234; refine (HMB.out _).mono ?_; rintro e w1 ⟨rfl, rfl⟩))
      have HO := Lib.hid (put_start w op a b (Obj.cells #[.int .i64 op, .int .i64 (a : Int), .int .i64 (b : Int)] 62) (Obj.cells #[.int .i64 (a : Int), .int .i64 (b : Int)] 296))
      have HA2 := Lib.hid (blk_new3 w (Obj.cells #[.int .i64 op, .int .i64 (a : Int), .int .i64 (b : Int)] 62) (Obj.cells #[.int .u8 op] 5) (Obj.cells #[.int .i64 (a : Int), .int .i64 (b : Int)] 296))
      have HBW := Lib.hid ((((Below.refl w.heap.size w).alloc (Nat.le_refl _) (Obj.cells #[.int .i64 op, .int .i64 (a : Int), .int .i64 (b : Int)] 62)).alloc (by simp) (Obj.cells #[.int .u8 op] 5)).alloc (by simp; omega) (Obj.cells #[.int .i64 (a : Int), .int .i64 (b : Int)] 296))
      obtain ⟨W, hW⟩ : ∃ W, ((w.alloc (Obj.cells #[.int .i64 op, .int .i64 (a : Int), .int .i64 (b : Int)] 62)).alloc (Obj.cells #[.int .u8 op] 5)).alloc (Obj.cells #[.int .i64 (a : Int), .int .i64 (b : Int)] 296) = W := ⟨_, rfl⟩
      rw [hW] at HO HA2 HBW ⊢
      clear HA
      have hs0 : W.heap.size = w.heap.size + 1 + 1 + 1 := by rw [← hW]; simp
      go_loopw [4, 41] (fun out ix wr => ∃ (k : Nat) (A : Option Addr) (c : Nat), k ≤ 2 ∧ ix = .int .i64 k ∧ out = .slice A (enc op a b k).length c ∧ Hid (wr.ownsRow w.heap.size 5 1 (.slice A (enc op a b k).length c) (enc op a b k).length (bcells (enc op a b k))) ∧ Hid (wr.heap[w.heap.size + 1 + 1]? = some (.cells #[.int .i64 a, .int .i64 b] 296 (0, 0))) ∧ Hid (Below w.heap.size w wr) ∧ W.heap.size ≤ wr.heap.size) (fun _ ix _ => 2 - (intOf ix).toNat)
      case atStart => exact ⟨0, _, _, by omega, rfl, rfl, HO, HA2, HBW, Nat.le_refl _⟩
      case round =>
        obtain ⟨k, A, c, hk, rfl, rfl, HO, HA2, HBW, hsz⟩ := hrel
        have hsw := HBW.out.size
        by_cases hlt : k < 2
        · obtain ⟨v, hv⟩ : ∃ v : Nat, v = if k = 0 then a else b := ⟨_, rfl⟩
          have hcell : wr.cell? ⟨w.heap.size + 1 + 1, k, none⟩ = some (.int .i64 (v : Int)) := by
            have hk2 : k = 0 ∨ k = 1 := by omega
            rcases hk2 with rfl | rfl
            · rw [hv]; exact blk_cell HA2.out 0
            · rw [hv]; exact blk_cell HA2.out 1
          have hv64 : v < 18446744073709551616 := by rw [hv]; split <;> omega
          have hv255 : v ≤ 255 := by rw [hv]; split <;> omega
          have HS := Lib.hid (show enc op a b (k + 1) = enc op a b k ++ varB v by rw [hv]; exact enc_succ op a b k (by omega))
          have hl1 := HLen.out k
          have hl2 := HLen.out (k + 1)
          rw [HS.out, List.length_append] at hl2
          have hl3 := varB_ten hv64
          clear hv
          go_wp2_with (first
            | (go_at_call 207; refine (var_calls _ v hv64).mono ?_; rintro e w1 ⟨A1, c1, rfl, ho, hb1⟩; have HO1 := Lib.hid ho; have HB1 := Lib.hid hb1; have hs1 := hb1.size; clear ho hb1)
            | (at_builtin; refine list_app _ rfl (.tmp 45) (.tmp 48) _ rfl 5 Tryz.underlying74 byte_info rfl (by decide) (by decide) w.heap.size rfl (own_below HO.out HB1.out) rfl (bcells_length _) (by exact own_lie HO1.out) (bcells_one _) (by omega) (by omega) ?_; intro v' w3 hown hg hat; have hB := Lib.hid (grown_below (HBW.out.trans (HB1.out.mono hsw)) hg (by omega) (own_ge HO.out)); rw [← bcells_append] at hown; obtain ⟨A3, c3, rfl, hn3, _, _⟩ := own_shape hown; have HO3 := Lib.hid hown; have HA3 := Lib.hid (blk_grown (blk_below HA2.out HB1.out (by omega)) hg (fun e => own_ne_blk HO.out HA2.out (by decide) e.symm)); have hs3 := hB.out.size; have hsg := hg.size; clear hown hg hat))
          go_roundw
          case rel => exact ⟨k + 1, A3, c3, by omega, by go_num, by rw [HS.out, List.length_append], Lib.hid (by rw [HS.out, List.length_append]; exact HO3.out), HA3, hB, by omega⟩
          case measure => simp [intOf]; omega
        · obtain rfl : k = 2 := by omega
          go_wp2
          go_ret
          exact ⟨_, _, rfl, HO.out, HBW.out⟩
  · have hgf : goodI ⟨op, a, b⟩ = false := by simpa using hg
    have HI := Lib.hid (instB_bad hgf)
    obtain ⟨n, hn⟩ : ∃ n : Int, argsN op = n := ⟨_, rfl⟩
    have hr := argsN_range op
    rw [hn] at hr
    have hway : n = -1 ∨ (0 ≤ n ∧ mayN a (decide (0 < n)) = false) ∨ (0 ≤ n ∧ mayN a (decide (0 < n)) = true ∧ mayN b (decide (1 < n)) = false) := by
      unfold goodI at hgf
      rw [hn] at hgf
      by_cases h0 : n = -1
      · exact .inl h0
      · have h1 : 0 ≤ n := by omega
        rw [decide_eq_true h1, Bool.true_and] at hgf
        cases hma : mayN a (decide (0 < n)) with
        | false => exact .inr (.inl ⟨h1, rfl⟩)
        | true => rw [hma, Bool.true_and] at hgf; exact .inr (.inr ⟨h1, rfl, hgf⟩)
    have HN := Lib.hid hn
    clear hg hgf hn
    rw [HI.out]
    rcases hway with rfl | ⟨h0, hma⟩ | ⟨h0, hma, hmb⟩
    · have HA := Lib.hid (fun w' => args_at w' op (-1) HN.out)
      go_enter Tryz.func211, Tryz.ntmps211
      go_wp2_with (go_at_call 233; refine (HA.out _).mono ?_; rintro e w1 ⟨rfl, rfl⟩)
      go_ret
      exact ⟨none, 0, rfl, nil_owned _ _, (Below.refl _ _).alloc (Nat.le_refl _) _⟩
    all_goals
      have hn3 : n = 0 ∨ n = 1 ∨ n = 2 := by omega
      rcases hn3 with rfl | rfl | rfl
    all_goals
      first | (have HMA := Lib.hid (fun w' => may_false w' a true hma)) | (have HMA := Lib.hid (fun w' => may_false w' a false hma)) | (have HMA := Lib.hid (fun w' => may_true w' a true hma)) | (have HMA := Lib.hid (fun w' => may_true w' a false hma))
      first | (have HMB := Lib.hid (fun w' => may_false w' b true hmb)) | (have HMB := Lib.hid (fun w' => may_false w' b false hmb)) | (have HMB := Lib.hid True.intro)
      have HA := Lib.hid (fun w' => args_at w' op _ HN.out)
      clear hma
      (try clear hmb)
      go_enter Tryz.func211, Tryz.ntmps211
      go_wp2_with (first
        | (go_at_call 233; refine (HA.out _).mono ?_; rintro e w1 ⟨rfl, rfl⟩)
        | (go_at_call 234; refine (HMA.out _).mono ?_; rintro e w1 ⟨rfl, rfl⟩; clear HMA)
        | (go_at_call 234; refine (HMB.out _).mono ?_; rintro e w1 ⟨rfl, rfl⟩))
      go_ret
      exact ⟨none, 0, rfl, nil_owned _ _, (Below.refl _ _).alloc (Nat.le_refl _) _⟩
end Go.Proofs.YtmceaeoeakkppaaGreatDoor
namespace Go.Proofs.YtmceaeoeakkppaaGreatDoor
open Go.RowKit
set_option linter.unusedVariables false
theorem hold2 {W w1 : World} {g : Nat} {t : TypeId} {x y : Value} (h : W.heap[g]? = some (.cells #[x, y] t (0, 0))) (hb : Below W.heap.size W w1) : w1.cell? ⟨g, 0, none⟩ = some x ∧ w1.cell? ⟨g, 1, none⟩ = some y ∧ Below W.heap.size W w1 := by
  have h := blk_below h hb (blk_lt h)
  exact ⟨blk_cell h 0, blk_cell h 1, hb⟩
theorem held2 {a b : Prop} {W w1 w2 : World} (h : a ∧ b ∧ Below W.heap.size W w1) (hb : Below w1.heap.size w1 w2) : Below W.heap.size W w2 := h.2.2.trans (hb.mono h.2.2.size)
theorem wrap_u64 {a : Nat} (ha : a < 9223372036854775808) : IntKind.u64.wrap (a : Int) = (a : Int) := by rw [IntKind.wrap_u64]; omega
theorem wrap_zero : IntKind.u64.wrap 0 = ((0 : Nat) : Int) := rfl
set_option maxRecDepth 100000 in
set_option maxHeartbeats 4000000 in
theorem kput_calls (w : World) (k n : Int) (a b : Nat) (ha : a < 9223372036854775808) (hb : b < 9223372036854775808) (hwa : (k < 0 ∧ a = 0) ∨ k = (a : Int)) (hwb : (n < 0 ∧ b = 0) ∨ n = (b : Int)) : Calls Tryz.prog 210 #[.agg #[.int .i64 k, .int .i64 n]] w fun e w' => ∃ A c, e = .returned (.slice A (varB a ++ varB b).length c) ∧ w'.ownsRow w.heap.size 5 1 (.slice A (varB a ++ varB b).length c) (varB a ++ varB b).length (bcells (varB a ++ varB b)) ∧ Below w.heap.size w w' := by
  have ha64 : a < 18446744073709551616 := by omega
  have hb64 : b < 18446744073709551616 := by omega
  have la := varB_ten ha64
  have lb := varB_ten hb64
  have HA := Lib.hid (fun w' => var_calls w' a ha64)
  have HB := Lib.hid (fun w' => var_calls w' b hb64)
  obtain ⟨L, hL⟩ : ∃ L, L = (varB a).length := ⟨_, rfl⟩
  obtain ⟨M, hM⟩ : ∃ M, M = (varB b).length := ⟨_, rfl⟩
  rw [← hL] at la
  rw [← hM] at lb
  rw [show (varB a ++ varB b).length = L + M by rw [List.length_append, hL, hM], bcells_append]
  rw [← hL] at HA
  rw [← hM] at HB
  obtain ⟨xs, hxs⟩ : ∃ xs, xs = varB a := ⟨_, rfl⟩
  obtain ⟨ys, hys⟩ : ∃ ys, ys = varB b := ⟨_, rfl⟩
  rw [← hxs] at HA hL ⊢
  rw [← hys] at HB hM ⊢
  have HL := Lib.hid hL
  have HM := Lib.hid hM
  clear hxs hys hL hM ha64 hb64
  have hwa2 : (k < 0 ∧ Hid (∀ w', Calls Tryz.prog 207 #[.int .u64 (IntKind.u64.wrap 0)] w' fun e w'' => ∃ A c, e = .returned (.slice A L c) ∧ w''.ownsRow w'.heap.size 5 1 (.slice A L c) L (bcells xs) ∧ Below w'.heap.size w' w'')) ∨ (∃ a' : Nat, k = (a' : Int) ∧ a' < 9223372036854775808 ∧ Hid (∀ w', Calls Tryz.prog 207 #[.int .u64 (IntKind.u64.wrap (a' : Int))] w' fun e w'' => ∃ A c, e = .returned (.slice A L c) ∧ w''.ownsRow w'.heap.size 5 1 (.slice A L c) L (bcells xs) ∧ Below w'.heap.size w' w'')) := by
    rcases hwa with ⟨h, rfl⟩ | h
    · exact .inl ⟨h, HA⟩
    · exact .inr ⟨a, h, ha, by rw [wrap_u64 ha]; exact HA⟩
  have hwb2 : (n < 0 ∧ Hid (∀ w', Calls Tryz.prog 207 #[.int .u64 (IntKind.u64.wrap 0)] w' fun e w'' => ∃ A c, e = .returned (.slice A M c) ∧ w''.ownsRow w'.heap.size 5 1 (.slice A M c) M (bcells ys) ∧ Below w'.heap.size w' w'')) ∨ (∃ b' : Nat, n = (b' : Int) ∧ b' < 9223372036854775808 ∧ Hid (∀ w', Calls Tryz.prog 207 #[.int .u64 (IntKind.u64.wrap (b' : Int))] w' fun e w'' => ∃ A c, e = .returned (.slice A M c) ∧ w''.ownsRow w'.heap.size 5 1 (.slice A M c) M (bcells ys) ∧ Below w'.heap.size w' w'')) := by
    rcases hwb with ⟨h, rfl⟩ | h
    · exact .inl ⟨h, HB⟩
    · exact .inr ⟨b, h, hb, by rw [wrap_u64 hb]; exact HB⟩
  clear HA HB hwa hwb ha hb
  rcases hwa2 with ⟨hk, HA⟩ | ⟨a', rfl, hk, HA⟩
  · rcases hwb2 with ⟨hn, HB⟩ | ⟨b', rfl, hn, HB⟩
    · skip
      have HX := Lib.hid (blk_new w (Obj.cells #[.int .i64 k, .int .i64 n] 58))
      have HBW := Lib.hid ((Below.refl w.heap.size w).alloc (Nat.le_refl _) (Obj.cells #[.int .i64 k, .int .i64 n] 58))
      go_enter Tryz.func210, Tryz.ntmps210
      go_wp2_with fail
      generalize w.alloc (Obj.cells #[.int .i64 k, .int .i64 n] 58) = W at HX HBW ⊢
      have hsw := HBW.out.size
      have HTok := HX
      go_region_held3 (fun w' => w'.cell? ⟨w.heap.size, 0, none⟩ = some (.int .i64 k) ∧ w'.cell? ⟨w.heap.size, 1, none⟩ = some (.int .i64 n) ∧ Below W.heap.size W w')
        (first
          | exact hold2 HX.out (Below.refl _ _)
          | exact hold2 HX.out (Below.refl _ _).drew
          | exact hold2 HX.out (by assumption))
        (first
          | (go_at_call 207; have tok := HTok; refine (HA.out _).mono ?_; rintro e w' ⟨A1, c1, rfl, ho1, hb1⟩; have HO1 := Lib.hid ho1; have hbW : Below W.heap.size W w' := held2 (by assumption) hb1; clear ho1 hb1 tok; clear HTok)
          | (go_at_call 207; refine (HB.out _).mono ?_; rintro e w' ⟨A2, c2, rfl, ho2, hb2⟩; have HO2 := Lib.hid ho2; have HOO := Lib.hid (own_below HO1.out hb2); have hbW : Below W.heap.size W w' := held2 (by assumption) hb2; have hsz := hbW.size; have HBW2 := Lib.hid hbW; clear ho2 hb2)
          | (refine step_app _ (by rfl) (.tmp 7) (.tmp 12) _ (by rfl) 5 Tryz.underlying74 byte_info rfl (by decide) (by decide) W.heap.size (by rfl) HOO.out (by rfl) (by rw [bcells_length, HM.out]) (own_lie HO2.out) (bcells_one _) (by omega) hsz ?_; intro v' w' hown hg hat; have hbW : Below W.heap.size W w' := grown_below HBW2.out hg hsz (own_ge HOO.out); obtain ⟨A3, c3, rfl, hn3, _, _⟩ := own_shape hown; have HO3 := Lib.hid hown; have HBW3 := Lib.hid hbW; clear hown hg hat))
      all_goals
        go_wp2
        go_ret
        exact ⟨A3, c3, rfl, own_down HO3.out hsw, HBW.out.trans (HBW3.out.mono hsw)⟩
    · skip
      have HX := Lib.hid (blk_new w (Obj.cells #[.int .i64 k, .int .i64 (b' : Int)] 58))
      have HBW := Lib.hid ((Below.refl w.heap.size w).alloc (Nat.le_refl _) (Obj.cells #[.int .i64 k, .int .i64 (b' : Int)] 58))
      go_enter Tryz.func210, Tryz.ntmps210
      go_wp2_with fail
      generalize w.alloc (Obj.cells #[.int .i64 k, .int .i64 (b' : Int)] 58) = W at HX HBW ⊢
      have hsw := HBW.out.size
      have HTok := HX
      go_region_held3 (fun w' => w'.cell? ⟨w.heap.size, 0, none⟩ = some (.int .i64 k) ∧ w'.cell? ⟨w.heap.size, 1, none⟩ = some (.int .i64 (b' : Int)) ∧ Below W.heap.size W w')
        (first
          | exact hold2 HX.out (Below.refl _ _)
          | exact hold2 HX.out (Below.refl _ _).drew
          | exact hold2 HX.out (by assumption))
        (first
          | (go_at_call 207; have tok := HTok; refine (HA.out _).mono ?_; rintro e w' ⟨A1, c1, rfl, ho1, hb1⟩; have HO1 := Lib.hid ho1; have hbW : Below W.heap.size W w' := held2 (by assumption) hb1; clear ho1 hb1 tok; clear HTok)
          | (go_at_call 207; refine (HB.out _).mono ?_; rintro e w' ⟨A2, c2, rfl, ho2, hb2⟩; have HO2 := Lib.hid ho2; have HOO := Lib.hid (own_below HO1.out hb2); have hbW : Below W.heap.size W w' := held2 (by assumption) hb2; have hsz := hbW.size; have HBW2 := Lib.hid hbW; clear ho2 hb2)
          | (refine step_app _ (by rfl) (.tmp 7) (.tmp 12) _ (by rfl) 5 Tryz.underlying74 byte_info rfl (by decide) (by decide) W.heap.size (by rfl) HOO.out (by rfl) (by rw [bcells_length, HM.out]) (own_lie HO2.out) (bcells_one _) (by omega) hsz ?_; intro v' w' hown hg hat; have hbW : Below W.heap.size W w' := grown_below HBW2.out hg hsz (own_ge HOO.out); obtain ⟨A3, c3, rfl, hn3, _, _⟩ := own_shape hown; have HO3 := Lib.hid hown; have HBW3 := Lib.hid hbW; clear hown hg hat))
      all_goals
        go_wp2
        go_ret
        exact ⟨A3, c3, rfl, own_down HO3.out hsw, HBW.out.trans (HBW3.out.mono hsw)⟩
  · rcases hwb2 with ⟨hn, HB⟩ | ⟨b', rfl, hn, HB⟩
    · skip
      have HX := Lib.hid (blk_new w (Obj.cells #[.int .i64 (a' : Int), .int .i64 n] 58))
      have HBW := Lib.hid ((Below.refl w.heap.size w).alloc (Nat.le_refl _) (Obj.cells #[.int .i64 (a' : Int), .int .i64 n] 58))
      go_enter Tryz.func210, Tryz.ntmps210
      go_wp2_with fail
      generalize w.alloc (Obj.cells #[.int .i64 (a' : Int), .int .i64 n] 58) = W at HX HBW ⊢
      have hsw := HBW.out.size
      have HTok := HX
      go_region_held3 (fun w' => w'.cell? ⟨w.heap.size, 0, none⟩ = some (.int .i64 (a' : Int)) ∧ w'.cell? ⟨w.heap.size, 1, none⟩ = some (.int .i64 n) ∧ Below W.heap.size W w')
        (first
          | exact hold2 HX.out (Below.refl _ _)
          | exact hold2 HX.out (Below.refl _ _).drew
          | exact hold2 HX.out (by assumption))
        (first
          | (go_at_call 207; have tok := HTok; refine (HA.out _).mono ?_; rintro e w' ⟨A1, c1, rfl, ho1, hb1⟩; have HO1 := Lib.hid ho1; have hbW : Below W.heap.size W w' := held2 (by assumption) hb1; clear ho1 hb1 tok; clear HTok)
          | (go_at_call 207; refine (HB.out _).mono ?_; rintro e w' ⟨A2, c2, rfl, ho2, hb2⟩; have HO2 := Lib.hid ho2; have HOO := Lib.hid (own_below HO1.out hb2); have hbW : Below W.heap.size W w' := held2 (by assumption) hb2; have hsz := hbW.size; have HBW2 := Lib.hid hbW; clear ho2 hb2)
          | (refine step_app _ (by rfl) (.tmp 7) (.tmp 12) _ (by rfl) 5 Tryz.underlying74 byte_info rfl (by decide) (by decide) W.heap.size (by rfl) HOO.out (by rfl) (by rw [bcells_length, HM.out]) (own_lie HO2.out) (bcells_one _) (by omega) hsz ?_; intro v' w' hown hg hat; have hbW : Below W.heap.size W w' := grown_below HBW2.out hg hsz (own_ge HOO.out); obtain ⟨A3, c3, rfl, hn3, _, _⟩ := own_shape hown; have HO3 := Lib.hid hown; have HBW3 := Lib.hid hbW; clear hown hg hat))
      all_goals
        go_wp2
        go_ret
        exact ⟨A3, c3, rfl, own_down HO3.out hsw, HBW.out.trans (HBW3.out.mono hsw)⟩
    · skip
      have HX := Lib.hid (blk_new w (Obj.cells #[.int .i64 (a' : Int), .int .i64 (b' : Int)] 58))
      have HBW := Lib.hid ((Below.refl w.heap.size w).alloc (Nat.le_refl _) (Obj.cells #[.int .i64 (a' : Int), .int .i64 (b' : Int)] 58))
      go_enter Tryz.func210, Tryz.ntmps210
      go_wp2_with fail
      generalize w.alloc (Obj.cells #[.int .i64 (a' : Int), .int .i64 (b' : Int)] 58) = W at HX HBW ⊢
      have hsw := HBW.out.size
      have HTok := HX
      go_region_held3 (fun w' => w'.cell? ⟨w.heap.size, 0, none⟩ = some (.int .i64 (a' : Int)) ∧ w'.cell? ⟨w.heap.size, 1, none⟩ = some (.int .i64 (b' : Int)) ∧ Below W.heap.size W w')
        (first
          | exact hold2 HX.out (Below.refl _ _)
          | exact hold2 HX.out (Below.refl _ _).drew
          | exact hold2 HX.out (by assumption))
        (first
          | (go_at_call 207; have tok := HTok; refine (HA.out _).mono ?_; rintro e w' ⟨A1, c1, rfl, ho1, hb1⟩; have HO1 := Lib.hid ho1; have hbW : Below W.heap.size W w' := held2 (by assumption) hb1; clear ho1 hb1 tok; clear HTok)
          | (go_at_call 207; refine (HB.out _).mono ?_; rintro e w' ⟨A2, c2, rfl, ho2, hb2⟩; have HO2 := Lib.hid ho2; have HOO := Lib.hid (own_below HO1.out hb2); have hbW : Below W.heap.size W w' := held2 (by assumption) hb2; have hsz := hbW.size; have HBW2 := Lib.hid hbW; clear ho2 hb2)
          | (refine step_app _ (by rfl) (.tmp 7) (.tmp 12) _ (by rfl) 5 Tryz.underlying74 byte_info rfl (by decide) (by decide) W.heap.size (by rfl) HOO.out (by rfl) (by rw [bcells_length, HM.out]) (own_lie HO2.out) (bcells_one _) (by omega) hsz ?_; intro v' w' hown hg hat; have hbW : Below W.heap.size W w' := grown_below HBW2.out hg hsz (own_ge HOO.out); obtain ⟨A3, c3, rfl, hn3, _, _⟩ := own_shape hown; have HO3 := Lib.hid hown; have HBW3 := Lib.hid hbW; clear hown hg hat))
      all_goals
        go_wp2
        go_ret
        exact ⟨A3, c3, rfl, own_down HO3.out hsw, HBW.out.trans (HBW3.out.mono hsw)⟩

end Go.Proofs.YtmceaeoeakkppaaGreatDoor
