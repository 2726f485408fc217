/- sane.Check, sane.Main. -/
import Derived.Test.YtdmmjckhpagibaaGreatDoorMcEnc
namespace Go.Proofs.YtdmmjckhpagibaaGreatDoor
open Go.RowKit Go.Sort
set_option linter.unusedVariables false
theorem below_cell {w w1 : World} {g i : Nat} {v : Value} (h : w.cell? ⟨g, i, none⟩ = some v) (hb : Below w.heap.size w w1) : w1.cell? ⟨g, i, none⟩ = some v := (hb.cell (p := ⟨g, i, none⟩) (World.block_lt_of_cell? w _ h)).trans h
theorem below_a1 (w : World) (o : Go.Obj) : Below w.heap.size w (w.alloc o) := (Below.refl _ _).alloc (Nat.le_refl _) o
set_option maxHeartbeats 4000000 in
theorem ck1_calls {S : Nat → Prop} (w : World) (m : Md) (B0 B1 B2 B3 B4 : Option Addr) (m0 m1 m2 m3 m4 d0 d1 d2 d3 d4 : Nat) (h : MRow S w m B0 B1 B2 B3 B4 m0 m1 m2 m3 m4) (f : Fn) (G0 G3 G4 : Option Addr) (g0 g3 g4 : Nat) (p q : Nat) (hp : w.heap[p]? = some (.cells #[.slice B0 m0 d0, .slice B1 m1 d1, .slice B2 m2 d2, .slice B3 m3 d3, .slice B4 m4 d4] 34 (0, 0))) (hq : w.heap[q]? = some (.cells #[.slice G0 f.args.length g0, .int .i64 f.ret.kind, .int .i64 f.ret.n, .slice G3 f.locals.length g3, .slice G4 f.code.length g4] 54 (0, 0))) (l0 : f.args.length ≤ 140737488351232) (l3 : f.locals.length ≤ 140737488351232) (i : Ins) (ha : 0 ≤ i.a) :
    Calls Tryz.prog 67 #[.agg #[.int .i64 i.op, .int .i64 i.a, .int .i64 i.b], .pointer (some ⟨p, 0, none⟩), .pointer (some ⟨q, 0, none⟩)] w fun e w' => e = .returned (.bool (!namesL m f i)) ∧ Below w.heap.size w w' := by
  have hb := below_a1 w (Obj.cells #[.int .i64 i.op, .int .i64 i.a, .int .i64 i.b] 27)
  have K := Lib.hid (names_calls (w.alloc (Obj.cells #[.int .i64 i.op, .int .i64 i.a, .int .i64 i.b] 27)) B0 B1 B2 B3 B4 G0 G3 G4 m0 m1 m2 m3 m4 f.args.length f.locals.length f.code.length d0 d1 d2 d3 d4 g0 g3 g4 f.ret.kind f.ret.n i.op i.a i.b m.recs h.e0 (h.below hb).lt (h.below hb).r0 ha l0 l3)
  have HZ : Hid (namesN m.recs m1 m2 m3 m4 f.args.length f.locals.length f.code.length i.op i.a i.b = namesL m f i) := Lib.hid (by rw [← h.e1, ← h.e2, ← h.e3, ← h.e4]; rfl)
  rw [HZ.out] at K
  have hp2 := blk_below hp hb (blk_lt hp)
  have hq2 := blk_below hq hb (blk_lt hq)
  have c0 := (blk_cell hp2 0 : _ = some (Value.slice B0 m0 d0))
  have c1 := (blk_cell hp2 1 : _ = some (Value.slice B1 m1 d1))
  have c2 := (blk_cell hp2 2 : _ = some (Value.slice B2 m2 d2))
  have c3 := (blk_cell hp2 3 : _ = some (Value.slice B3 m3 d3))
  have c4 := (blk_cell hp2 4 : _ = some (Value.slice B4 m4 d4))
  have f0 := (blk_cell hq2 0 : _ = some (Value.slice G0 f.args.length g0))
  have f1 := (blk_cell hq2 1 : _ = some (Value.int .i64 f.ret.kind))
  have f2 := (blk_cell hq2 2 : _ = some (Value.int .i64 f.ret.n))
  have f3 := (blk_cell hq2 3 : _ = some (Value.slice G3 f.locals.length g3))
  have f4 := (blk_cell hq2 4 : _ = some (Value.slice G4 f.code.length g4))
  clear h hp hq hp2 hq2 hb HZ
  generalize namesL m f i = z at *
  go_enter Tryz.func67, Tryz.ntmps67
  go_wp2_with (go_at_call 68; refine K.out.mono ?_; rintro e w1 ⟨rfl, hb1⟩)
  go_ret
  exact ⟨rfl, below_al1 hb1⟩
theorem ck2_calls (w : World) (k n : Int) : Calls Tryz.prog 71 #[.agg #[.int .i64 k, .int .i64 n]] w fun e w' => e = .returned (.bool (k == 5)) ∧ Below w.heap.size w w' := by
  go_enter Tryz.func71, Tryz.ntmps71
  go_wp2
  go_ret
  exact ⟨rfl, below_al1 (Below.refl _ _)⟩
/-- May a host take, or answer, a type? -/
def hostL (t : Ty) : Bool := t.kind == 1 || t.kind == 5
theorem ck31_calls (w : World) (k n : Int) : Calls Tryz.prog 74 #[.agg #[.int .i64 k, .int .i64 n]] w fun e w' => e = .returned (.bool (!hostL ⟨k, n⟩)) ∧ Below w.heap.size w w' := by
  have K : Hid (∀ W, Calls Tryz.prog 73 #[.agg #[.int .i64 k, .int .i64 n]] W fun e w' => e = .returned (.bool (hostL ⟨k, n⟩)) ∧ Below W.heap.size W w') := Lib.hid (fun W => host_calls W k n)
  generalize hostL ⟨k, n⟩ = z at *
  go_enter Tryz.func74, Tryz.ntmps74
  go_wp2_with (go_at_call 73; refine (K.out _).mono ?_; rintro e w1 ⟨rfl, hb1⟩)
  go_ret
  exact ⟨rfl, below_al1 hb1⟩
theorem eg_ck1 : ∀ (args : Array Value) (w : World), (callFunc 67 args).run Tryz.prog w = .ok (.enter 67 args) w := eg_of Tryz.func67 (by kernel_rfl) rfl
theorem eg_ck2 : ∀ (args : Array Value) (w : World), (callFunc 71 args).run Tryz.prog w = .ok (.enter 71 args) w := eg_of Tryz.func71 (by kernel_rfl) rfl
theorem eg_ck3 : ∀ (args : Array Value) (w : World), (callFunc 72 args).run Tryz.prog w = .ok (.enter 72 args) w := eg_of Tryz.func72 (by kernel_rfl) rfl
theorem eg_ck31 : ∀ (args : Array Value) (w : World), (callFunc 74 args).run Tryz.prog w = .ok (.enter 74 args) w := eg_of Tryz.func74 (by kernel_rfl) rfl
def badI (x : Imp) : Bool := !hostL x.ret || x.args.any fun t => !hostL t
set_option maxHeartbeats 4000000 in
theorem ck3_calls {S : Nat → Prop} (w : World) (A0 : Option Addr) (d0 : Nat) (x : Imp) (hS : ∀ b, S b → b < w.heap.size) (hl : x.args.length ≤ 100000) (r0 : k_ty.Row S w A0 x.args) : Calls Tryz.prog 72 #[.agg #[.slice A0 x.args.length d0, .int .i64 x.ret.kind, .int .i64 x.ret.n]] w fun e w' => e = .returned (.bool (badI x)) ∧ Below w.heap.size w w' := by
  have hb := below_a1 w (Obj.cells #[.slice A0 x.args.length d0, .int .i64 x.ret.kind, .int .i64 x.ret.n] 68)
  have HX := Lib.hid (blk_new w (Obj.cells #[.slice A0 x.args.length d0, .int .i64 x.ret.kind, .int .i64 x.ret.n] 68))
  have K1 : Hid (∀ W, Calls Tryz.prog 73 #[.agg #[.int .i64 x.ret.kind, .int .i64 x.ret.n]] W fun e w' => e = .returned (.bool (hostL x.ret)) ∧ Below W.heap.size W w') := Lib.hid (fun W => host_calls W x.ret.kind x.ret.n)
  have K2 := Lib.hid (fun W (hW : Below (w.alloc (Obj.cells #[.slice A0 x.args.length d0, .int .i64 x.ret.kind, .int .i64 x.ret.n] 68)).heap.size (w.alloc (Obj.cells #[.slice A0 x.args.length d0, .int .i64 x.ret.kind, .int .i64 x.ret.n] 68)) W) => contains_Ty W A0 x.args.length d0 x.args rfl (by omega) (fun b h => Nat.lt_of_lt_of_le (hS b h) (Nat.le_trans hb.size hW.size)) (r0.keep (fun b h => (hW.block b (Nat.lt_of_lt_of_le (hS b h) hb.size)).trans (hb.block b (hS b h)))) 74 eg_ck31 #[] (fun t => !hostL t) (fun W x _ _ _ _ => ck31_calls W x.kind x.n))
  have HZ : Hid (badI x = (!hostL x.ret || x.args.any fun t => !hostL t)) := Lib.hid rfl
  generalize hostL x.ret = z1 at *
  generalize (x.args.any fun t => !hostL t) = z2 at *
  generalize x.args.length = n at *
  clear r0 hS hb
  cases z1
  · focus
    go_enter Tryz.func72, Tryz.ntmps72
    go_wp2_with (go_at_call 73; refine (K1.out _).mono ?_; rintro e w1 ⟨rfl, hb1⟩)
    go_ret
    exact ⟨ret_bool (by rw [HZ.out]; simp), below_al1 hb1⟩
  · go_enter Tryz.func72, Tryz.ntmps72
    go_wp2_with (first
      | (go_at_call 73; refine (K1.out _).mono ?_; rintro e w1 ⟨rfl, hb1⟩; have e0 := (blk_cell (blk_below HX.out hb1 (by simp)) 0 : _ = some (Value.slice A0 n d0)))
      | (go_at_call 70; refine (K2.out _ hb1).mono ?_; rintro e w2 ⟨rfl, hb2⟩))
    go_ret
    exact ⟨ret_bool (by rw [HZ.out]; simp), below_al1 (hb1.trans (hb2.mono hb1.size))⟩
def badF (m : Md) (f : Fn) : Bool := (f.code.any fun i => !namesL m f i) || f.locals.any fun t => t.kind == 5
/-- What sane.Check says of a module. -/
def saneL (m : Md) : Int := if fitsM m = true then (if (m.funcs.any fun f => badF m f) = true then 1 else if m.imports.any badI = true then 1 else 0) else 2
theorem any_none {α : Type} {p : α → Bool} {xs : List α} (h : ∀ j, j < xs.length → ∀ y, xs[j]? = some y → p y = false) : xs.any p = false := by
  rw [List.any_eq_false]
  intro x hx
  obtain ⟨j, hj⟩ := List.getElem?_of_mem hx
  simp [h j (List.getElem?_eq_some_iff.1 hj).1 x hj]
set_option maxRecDepth 100000 in
set_option maxHeartbeats 8000000 in
theorem sane_calls {S : Nat → Prop} (w : World) (m : Md) (B0 B1 B2 B3 B4 : Option Addr) (m0 m1 m2 m3 m4 d0 d1 d2 d3 d4 : Nat) (h : MRow S w m B0 B1 B2 B3 B4 m0 m1 m2 m3 m4) :
    Calls Tryz.prog 48 #[.agg #[.slice B0 m0 d0, .slice B1 m1 d1, .slice B2 m2 d2, .slice B3 m3 d3, .slice B4 m4 d4]] w fun e w' => e = .returned (.int .i64 (saneL m)) ∧ Below w.heap.size w w' := by
  have hV := below_a1 w (Obj.cells #[.slice B0 m0 d0, .slice B1 m1 d1, .slice B2 m2 d2, .slice B3 m3 d3, .slice B4 m4 d4] 34)
  have HV := Lib.hid hV
  have HM := Lib.hid (h.below hV)
  have HX := Lib.hid (blk_new w (Obj.cells #[.slice B0 m0 d0, .slice B1 m1 d1, .slice B2 m2 d2, .slice B3 m3 d3, .slice B4 m4 d4] 34))
  have hsw : w.heap.size < (w.alloc (Obj.cells #[.slice B0 m0 d0, .slice B1 m1 d1, .slice B2 m2 d2, .slice B3 m3 d3, .slice B4 m4 d4] 34)).heap.size := by simp
  have KE := Lib.hid (enc_calls (w.alloc (Obj.cells #[.slice B0 m0 d0, .slice B1 m1 d1, .slice B2 m2 d2, .slice B3 m3 d3, .slice B4 m4 d4] 34)) m B0 B1 B2 B3 B4 m0 m1 m2 m3 m4 d0 d1 d2 d3 d4 (h.below hV))
  cases hf : fitsM m
  · have HS : Hid (saneL m = 2) := Lib.hid (by simp [saneL, hf])
    have KE2 : Hid _ := Lib.hid (KE.out.mono (R' := fun e w' => e = .returned (.tuple #[.slice none 0 0, .int .i64 2]) ∧ Below (w.alloc (Obj.cells #[.slice B0 m0 d0, .slice B1 m1 d1, .slice B2 m2 d2, .slice B3 m3 d3, .slice B4 m4 d4] 34)).heap.size (w.alloc (Obj.cells #[.slice B0 m0 d0, .slice B1 m1 d1, .slice B2 m2 d2, .slice B3 m3 d3, .slice B4 m4 d4] 34)) w') (fun e w' h => by
      rcases h with ⟨_, h⟩ | ⟨h, _⟩
      · exact h
      · rw [hf] at h; cases h))
    clear h hV hf KE
    go_enter Tryz.func48, Tryz.ntmps48
    go_wp2_with (go_at_call 66; refine KE2.out.mono ?_; rintro e w1 ⟨rfl, hb1⟩)
    go_ret
    exact ⟨ret_int HS.out.symm, HV.out.trans (hb1.mono HV.out.size)⟩
  · have F := fitsM_open hf
    have HF := Lib.hid F
    have hm1 : m1 ≤ 8 := by have := h.e1; have := F.funcs; omega
    have hm2 : m2 ≤ 8 := by have := h.e2; have := F.imports; omega
    have HS : Hid (saneL m = if (m.funcs.any fun f => badF m f) = true then 1 else if m.imports.any badI = true then 1 else 0) := Lib.hid (by simp [saneL, hf])
    have KE2 : Hid (Calls _ _ _ _ (fun e w' => ∃ A c, e = .returned (.tuple #[.slice A (encB m).length c, .int .i64 0]) ∧ Below (w.alloc (Obj.cells #[.slice B0 m0 d0, .slice B1 m1 d1, .slice B2 m2 d2, .slice B3 m3 d3, .slice B4 m4 d4] 34)).heap.size (w.alloc (Obj.cells #[.slice B0 m0 d0, .slice B1 m1 d1, .slice B2 m2 d2, .slice B3 m3 d3, .slice B4 m4 d4] 34)) w')) := Lib.hid (KE.out.mono (fun e w' h => by
      rcases h with ⟨h, _⟩ | ⟨_, A, c, h1, _, h2⟩
      · rw [hf] at h; cases h
      · exact ⟨A, c, h1, h2⟩))
    have e1 := (blk_cell HX.out 1 : _ = some (Value.slice B1 m1 d1))
    have HN1 := Lib.hid h.e1
    clear h hV hf KE F
    generalize (encB m).length = L at *
    go_enter Tryz.func48, Tryz.ntmps48
    go_wp2_with (go_at_call 66; refine KE2.out.mono ?_; rintro e w1 ⟨A, c, rfl, hb1⟩; have HB1 := Lib.hid hb1; have e11 := below_cell e1 hb1; clear hb1)
    go_loopw [6, 7, 20] (fun _ _ ix wr => ∃ k : Nat, k ≤ m1 ∧ ix = .int .i64 k ∧ (∀ j, j < k → ∀ f, m.funcs[j]? = some f → badF m f = false) ∧ Below (w.alloc (Obj.cells #[.slice B0 m0 d0, .slice B1 m1 d1, .slice B2 m2 d2, .slice B3 m3 d3, .slice B4 m4 d4] 34)).heap.size (w.alloc (Obj.cells #[.slice B0 m0 d0, .slice B1 m1 d1, .slice B2 m2 d2, .slice B3 m3 d3, .slice B4 m4 d4] 34)) wr) (fun _ _ ix _ => m1 - (intOf ix).toNat)
    case atStart => exact ⟨0, Nat.zero_le _, rfl, fun j hj => absurd hj (by omega), HB1.out⟩
    case round =>
      obtain ⟨k, hk, rfl, hno, hb⟩ := hrel
      have HNo := Lib.hid hno
      have HB := Lib.hid hb
      have HMr := Lib.hid (HM.out.below hb)
      have HXr := Lib.hid (blk_below HX.out hb hsw)
      have hszr := hb.size
      by_cases hlt : k < m1
      · obtain ⟨f, hx⟩ : ∃ f, m.funcs[k]? = some f := ⟨_, List.getElem?_eq_getElem (by have := HN1.out; omega)⟩
        obtain ⟨b, o, G0, g0, G3, g3, G4, g4, rfl, hSb, q0, q1, q2, q3, q4, l0, m00, r0, f1, f2, l3, m3', r3, l4, m4', r4⟩ := k_func_at HMr.out.r1 hx
        obtain ⟨a1, a2, a3, a4, a5, a6, a7, a8⟩ := HF.out.func f (List.mem_of_getElem? hx)
        have hbA := below_a1 wr (Obj.cells #[.slice G0 f.args.length g0, .int .i64 f.ret.kind, .int .i64 f.ret.n, .slice G3 f.locals.length g3, .slice G4 f.code.length g4] 54)
        have HXA := Lib.hid (blk_new wr (Obj.cells #[.slice G0 f.args.length g0, .int .i64 f.ret.kind, .int .i64 f.ret.n, .slice G3 f.locals.length g3, .slice G4 f.code.length g4] 54))
        have HXM := Lib.hid (blk_alloc HXr.out (Obj.cells #[.slice G0 f.args.length g0, .int .i64 f.ret.kind, .int .i64 f.ret.n, .slice G3 f.locals.length g3, .slice G4 f.code.length g4] 54))
        have HMA := Lib.hid (HMr.out.below hbA)
        have HBA := Lib.hid (HB.out.trans (hbA.mono hb.size))
        have HR3 := Lib.hid (r3.keep (fun b h => hbA.block b (HMr.out.lt b h)))
        have HR4 := Lib.hid (r4.keep (fun b h => hbA.block b (HMr.out.lt b h)))
        have K1 := Lib.hid (contains_Ins (wr.alloc (Obj.cells #[.slice G0 f.args.length g0, .int .i64 f.ret.kind, .int .i64 f.ret.n, .slice G3 f.locals.length g3, .slice G4 f.code.length g4] 54)) G4 f.code.length g4 f.code rfl (by omega) HMA.out.lt HR4.out 67 eg_ck1 #[.pointer (some ⟨w.heap.size, 0, none⟩), .pointer (some ⟨wr.heap.size, 0, none⟩)] (fun i => !namesL m f i)
          (fun W i hi _ _ _ hb => ck1_calls W m B0 _ B2 B3 B4 m0 m1 m2 m3 m4 d0 d1 d2 d3 d4 (HMA.out.below hb) f G0 G3 G4 g0 g3 g4 w.heap.size wr.heap.size (blk_below HXM.out hb (blk_lt HXM.out)) (blk_below HXA.out hb (blk_lt HXA.out)) (by omega) (by omega) i (goodI_open (a8 i hi)).2.1))
        have K2 := Lib.hid (fun W (hW : Below (wr.alloc (Obj.cells #[.slice G0 f.args.length g0, .int .i64 f.ret.kind, .int .i64 f.ret.n, .slice G3 f.locals.length g3, .slice G4 f.code.length g4] 54)).heap.size (wr.alloc (Obj.cells #[.slice G0 f.args.length g0, .int .i64 f.ret.kind, .int .i64 f.ret.n, .slice G3 f.locals.length g3, .slice G4 f.code.length g4] 54)) W) => contains_Ty W G3 f.locals.length g3 f.locals rfl (by omega) (HMA.out.below hW).lt (HR3.out.keep (fun b h => hW.block b (HMA.out.lt b h))) 71 eg_ck2 #[] (fun t => t.kind == 5) (fun W x _ _ _ _ => ck2_calls W x.kind x.n))
        have HZ : Hid (badF m f = ((f.code.any fun i => !namesL m f i) || f.locals.any fun t => t.kind == 5)) := Lib.hid rfl
        have HK := Lib.hid hx
        have HAny : Hid (badF m f = true → (m.funcs.any fun f => badF m f) = true) := Lib.hid (fun h => List.any_eq_true.2 ⟨f, List.mem_of_getElem? hx, h⟩)
        clear hx hno hb r0 r3 r4 hbA f1 f2 hSb a8 a5 a2
        generalize (f.code.any fun i => !namesL m f i) = z1 at *
        generalize (f.locals.any fun t => t.kind == 5) = z2 at *
        cases z1
        · cases z2
          · go_wp2_with (first
              | (go_at_call 69; refine K1.out.mono ?_; rintro e w2 ⟨rfl, hb2⟩; have e3 := (blk_cell (blk_below HXA.out hb2 (blk_lt HXA.out)) 3 : _ = some (Value.slice G3 f.locals.length g3)))
              | (go_at_call 70; refine (K2.out _ hb2).mono ?_; rintro e w3 ⟨rfl, hb3⟩; have HB3 := Lib.hid (HBA.out.trans ((hb2.trans (hb3.mono hb2.size)).mono HBA.out.size)); clear hb2 hb3 e3))
            go_roundw
            case rel => exact ⟨k + 1, by omega, by go_num, fun j hj f' hf' => by
              by_cases e : j = k
              · subst e; rw [HK.out] at hf'; cases hf'; exact HZ.out
              · exact HNo.out j (by omega) f' hf', HB3.out⟩
            case measure => simp [intOf]; omega
          · go_wp2_with (first
              | (go_at_call 69; refine K1.out.mono ?_; rintro e w2 ⟨rfl, hb2⟩; have e3 := (blk_cell (blk_below HXA.out hb2 (blk_lt HXA.out)) 3 : _ = some (Value.slice G3 f.locals.length g3)))
              | (go_at_call 70; refine (K2.out _ hb2).mono ?_; rintro e w3 ⟨rfl, hb3⟩; have HB3 := Lib.hid (HBA.out.trans ((hb2.trans (hb3.mono hb2.size)).mono HBA.out.size)); clear hb2 hb3 e3))
            go_ret
            exact ⟨ret_int (by rw [HS.out, if_pos (HAny.out HZ.out)]), HV.out.trans (HB3.out.mono HV.out.size)⟩
        · go_wp2_with (go_at_call 69; refine K1.out.mono ?_; rintro e w2 ⟨rfl, hb2⟩; have HB3 := Lib.hid (HBA.out.trans (hb2.mono HBA.out.size)); clear hb2)
          go_ret
          exact ⟨ret_int (by rw [HS.out, if_pos (HAny.out (by rw [HZ.out]; rfl))]), HV.out.trans (HB3.out.mono HV.out.size)⟩
      · have HA : Hid ((m.funcs.any fun f => badF m f) = false) := Lib.hid (any_none (fun j hj => HNo.out j (by have := HN1.out; omega)))
        have K3 := Lib.hid (contains_Imp wr B2 m2 d2 m.imports HMr.out.e2 (by omega) HMr.out.lt HMr.out.r2 72 eg_ck3 #[] badI
          (fun W x G0 g0 hx _ _ s0 _ _ hb => ck3_calls W G0 g0 x (fun b h => Nat.lt_of_lt_of_le (HMr.out.lt b h) hb.size) (by have := (HF.out.imp x hx).1; omega) s0))
        have e2 := (blk_cell HXr.out 2 : _ = some (Value.slice B2 m2 d2))
        have HS2 : Hid (saneL m = if m.imports.any badI = true then 1 else 0) := Lib.hid (by rw [HS.out, HA.out]; simp)
        clear hno hb
        generalize m.imports.any badI = z at *
        cases z
        all_goals
          go_wp2_with (go_at_call 75; refine K3.out.mono ?_; rintro e w2 ⟨rfl, hb2⟩)
          go_ret
          exact ⟨ret_int (by rw [HS2.out]; rfl), HV.out.trans ((HB.out.trans (hb2.mono hszr)).mono HV.out.size)⟩
theorem saneL_zero {m : Md} (h : saneL m = 0) : fitsM m = true ∧ (∀ f ∈ m.funcs, (∀ i ∈ f.code, namesL m f i = true) ∧ ∀ t ∈ f.locals, t.kind ≠ 5) ∧ ∀ x ∈ m.imports, hostL x.ret = true ∧ ∀ t ∈ x.args, hostL t = true := by
  unfold saneL at h
  split at h
  · rename_i hf
    split at h
    · omega
    · rename_i h1
      split at h
      · omega
      · rename_i h2
        simp only [Bool.not_eq_true, List.any_eq_false] at h1 h2
        refine ⟨hf, fun f hf' => ?_, fun x hx => ?_⟩
        · have := h1 f hf'
          simp [badF] at this
          exact ⟨this.1, this.2⟩
        · have := h2 x hx
          simp [badI] at this
          exact this
  · omega
/-- Can it begin? -/
def mainL (m : Md) : Bool := decide (saneL m = 0) && match m.funcs with
  | f :: _ => decide (f.args.length = 0) && (f.ret.kind == 1)
  | [] => false
set_option maxHeartbeats 4000000 in
theorem main_calls {S : Nat → Prop} (w : World) (m : Md) (B0 B1 B2 B3 B4 : Option Addr) (m0 m1 m2 m3 m4 d0 d1 d2 d3 d4 : Nat) (h : MRow S w m B0 B1 B2 B3 B4 m0 m1 m2 m3 m4) :
    Calls Tryz.prog 49 #[.agg #[.slice B0 m0 d0, .slice B1 m1 d1, .slice B2 m2 d2, .slice B3 m3 d3, .slice B4 m4 d4]] w fun e w' => e = .returned (.bool (mainL m)) ∧ Below w.heap.size w w' := by
  have hV := below_a1 w (Obj.cells #[.slice B0 m0 d0, .slice B1 m1 d1, .slice B2 m2 d2, .slice B3 m3 d3, .slice B4 m4 d4] 34)
  have HV := Lib.hid hV
  have HM := Lib.hid (h.below hV)
  have HX := Lib.hid (blk_new w (Obj.cells #[.slice B0 m0 d0, .slice B1 m1 d1, .slice B2 m2 d2, .slice B3 m3 d3, .slice B4 m4 d4] 34))
  have KS := Lib.hid (sane_calls (w.alloc (Obj.cells #[.slice B0 m0 d0, .slice B1 m1 d1, .slice B2 m2 d2, .slice B3 m3 d3, .slice B4 m4 d4] 34)) m B0 B1 B2 B3 B4 m0 m1 m2 m3 m4 d0 d1 d2 d3 d4 (h.below hV))
  by_cases hz : saneL m = 0
  · have F := fitsM_open (saneL_zero hz).1
    have hn1 := h.e1
    have hone := F.one
    obtain ⟨f, hx⟩ : ∃ f, m.funcs[0]? = some f := ⟨_, List.getElem?_eq_getElem (by omega)⟩
    have HZ : Hid (mainL m = (decide ((f.args.length : Int) = 0) && (f.ret.kind == 1))) := Lib.hid (by
      unfold mainL
      rw [hz]
      cases hm : m.funcs with
      | nil => rw [hm] at hone; simp at hone
      | cons f' l => rw [hm] at hx; simp at hx; subst hx; simp)
    obtain ⟨b, o, G0, g0, G3, g3, G4, g4, rfl, hSb, q0, q1, q2, q3, q4, l0, m00, r0, f1, f2, l3, m3', r3, l4, m4', r4⟩ := k_func_at HM.out.r1 hx
    simp only [Nat.zero_mul, Nat.add_zero] at q0 q1
    have hm1 : 0 < m1 := by omega
    rw [hz] at KS
    have e1 := (blk_cell HX.out 1 : _ = some (Value.slice (some ⟨b, o, none⟩) m1 d1))
    clear h hV hz F hx q2 q3 q4 r0 r3 r4 f1 f2 hone
    generalize f.args.length = n at *
    generalize f.ret.kind = rk at *
    by_cases hn : (n : Int) = 0
    · have hd : (((n : Int)) == 0) = true := by simpa using hn
      have hd2 : decide ((n : Int) = 0) = true := decide_eq_true hn
      rw [hd2] at HZ
      go_enter Tryz.func49, Tryz.ntmps49
      go_wp2_with (go_at_call 48; refine KS.out.mono ?_; rintro e w1 ⟨rfl, hb1⟩; have e11 := below_cell e1 hb1; have q01 := below_cell q0 hb1; have q11 := below_cell q1 hb1)
      go_ret
      exact ⟨ret_bool (by rw [HZ.out]; simp), HV.out.trans (hb1.mono HV.out.size)⟩
    · have hd : (((n : Int)) == 0) = false := by simpa using hn
      have hd2 : decide ((n : Int) = 0) = false := decide_eq_false hn
      rw [hd2] at HZ
      go_enter Tryz.func49, Tryz.ntmps49
      go_wp2_with (go_at_call 48; refine KS.out.mono ?_; rintro e w1 ⟨rfl, hb1⟩; have e11 := below_cell e1 hb1; have q01 := below_cell q0 hb1; have q11 := below_cell q1 hb1)
      go_ret
      exact ⟨ret_bool (by rw [HZ.out]; simp), HV.out.trans (hb1.mono HV.out.size)⟩
  · have HZ : Hid (mainL m = false) := Lib.hid (by unfold mainL; rw [decide_eq_false hz]; rfl)
    have hq : (saneL m == 0) = false := by simpa using hz
    clear h hV hz
    generalize saneL m = x at *
    go_enter Tryz.func49, Tryz.ntmps49
    go_wp2_with (go_at_call 48; refine KS.out.mono ?_; rintro e w1 ⟨rfl, hb1⟩)
    go_ret
    exact ⟨ret_bool (by rw [HZ.out]), HV.out.trans (hb1.mono HV.out.size)⟩
end Go.Proofs.YtdmmjckhpagibaaGreatDoor
