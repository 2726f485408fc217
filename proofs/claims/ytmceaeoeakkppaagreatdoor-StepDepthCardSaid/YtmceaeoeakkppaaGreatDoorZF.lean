/- McSt: state.Fits, of a state at a module's beginning. McSt2: state.Fits, of a state at a module's beginning (2): frames, whole, Fits. McMem: (XMem without the reference's Cost.) Rows of one-cell elements that lie in a block of their own (no append is made to them): heap's words and bytes. Cost, Clone, Clip. McMach: step's machine with one frame: what it is in memory; top, instr, takes. McInstr: step's machine: instr. McDo: step's World.Do of an int; Machine.do of it. McBack: step's machine: back from the last frame; do of a return. McNext: step's machine: Taken; Next of an int, of a return. McNext2: step's machine: Next of a return. -/
import Derived.Test.YtmceaeoeakkppaaGreatDoorZE
import Derived.Test.YtmceaeoeakkppaaGreatDoorZA
import Derived.Lib.QuietBelow
import Derived.BigQuiet
import Derived.Deep.RegionLaw
namespace Go.Proofs.YtmceaeoeakkppaaGreatDoor
open Go.RowKit Go.Sort
set_option linter.unusedVariables false
set_option maxRecDepth 100000 in
theorem has_zero (w : World) (p : Value) (k n : Int) (hk : k ≠ 5) : Calls Tryz.prog 167 #[p, .int .u64 0, .agg #[.int .i64 k, .int .i64 n]] w fun e w' => e = .returned (.bool true) ∧ Below w.heap.size w w' := by
  have h5 : (k == 5) = false := by simpa using hk
  have hb := below_a1 w (Obj.cells #[.int .i64 k, .int .i64 n] 58)
  have HB := Lib.hid hb
  clear hb hk
  by_cases h1 : k = 1
  · subst h1
    go_enter Tryz.func167, Tryz.ntmps167
    go_wp2
    go_ret
    exact ⟨rfl, HB.out⟩
  by_cases h8 : k = 8
  · subst h8
    go_enter Tryz.func167, Tryz.ntmps167
    go_wp2
    go_ret
    exact ⟨rfl, HB.out⟩
  have e1 : (k == 1) = false := by simpa using h1
  have e8 : (k == 8) = false := by simpa using h8
  clear h1 h8
  go_enter Tryz.func167, Tryz.ntmps167
  go_wp2
  go_ret
  exact ⟨rfl, HB.out⟩
theorem eg_has : ∀ (args : Array Value) (w : World), (callFunc 167 args).run Tryz.prog w = .ok (.enter 167 args) w := eg_of Tryz.func167 (by kernel_rfl) rfl
set_option maxRecDepth 100000 in
set_option maxHeartbeats 4000000 in
/-- Numbers that are 0 are of any types that are no handles. -/
theorem equal_zero {S : Nat → Prop} (w : World) (p : Value) (A B : Option Addr) (n c d : Nat) (ws : List Int) (ts : List Ty) (hn : ws.length = n) (hm : n ≤ 100000) (ht : ts.length = n) (hS : ∀ b, S b → b < w.heap.size) (r1 : (Rd.int .u64).Row S w A ws) (r2 : k_ty.Row S w B ts) (hz : ∀ x ∈ ws, x = 0) (h5 : ∀ t ∈ ts, t.kind ≠ 5) :
    Calls Tryz.prog 166 #[.slice A n c, .slice B n d, .func (.func 167) #[p] #[]] w fun e w' => e = .returned (.bool true) ∧ Below w.heap.size w w' := by
  have HN := Lib.hid hn
  have HT := Lib.hid ht
  have HS := Lib.hid hS
  have R1 := Lib.hid r1
  have R2 := Lib.hid r2
  have HZ := Lib.hid hz
  have H5 := Lib.hid h5
  have EG := Lib.hid eg_has
  clear hn ht hS r1 r2 hz h5
  go_enter Tryz.func166, Tryz.ntmps166
  go_wp2_with fail
  go_loopw [17] (fun ix wr => ∃ k : Nat, k ≤ n ∧ ix = .int .i64 k ∧ Hid (Below w.heap.size w wr)) (fun ix _ => n - (intOf ix).toNat)
  case atStart => exact ⟨0, Nat.zero_le _, rfl, Lib.hid (Below.refl _ _)⟩
  case round =>
    obtain ⟨k, hk, rfl, HB⟩ := hrel
    by_cases hlt : k < n
    · obtain ⟨x, hx⟩ : ∃ x, ws[k]? = some x := ⟨_, List.getElem?_eq_getElem (by rw [HN.out]; exact hlt)⟩
      obtain ⟨t, ht⟩ : ∃ t, ts[k]? = some t := ⟨_, List.getElem?_eq_getElem (by rw [HT.out]; exact hlt)⟩
      obtain rfl := HZ.out x (List.mem_of_getElem? hx)
      have ht5 := H5.out t (List.mem_of_getElem? ht)
      obtain ⟨b1, o1, rfl, -, hc1⟩ := R1.out.keep (fun b hb => HB.out.block b (HS.out b hb)) (by rw [HN.out]; omega)
      obtain ⟨cs1, hK, hcell⟩ := hc1 k (by rw [HN.out]; exact hlt)
      have v1 : wr.cell? ⟨b1, o1 + k, none⟩ = some (.int .u64 0) := by
        have h1 := hK.1
        have h2 : ws[k]'(by rw [HN.out]; exact hlt) = 0 := by
          have := List.getElem?_eq_getElem (l := ws) (i := k) (by rw [HN.out]; exact hlt)
          rw [this] at hx; injection hx
        rw [h2] at h1
        have := hcell 0 _ (by rw [h1]; rfl)
        simpa [Rd.int] using this
      obtain ⟨b2, o2, rfl, -, t0, t1, -, -⟩ := k_ty_at (R2.out.keep (fun b hb => HB.out.block b (HS.out b hb))) ht
      have K := Lib.hid (fun W => has_zero W p t.kind t.n ht5)
      have HSz := Lib.hid HB.out.size
      have HBx := Lib.hid (below_a1 wr (Obj.cells #[.int .i64 t.kind, .int .i64 t.n] 58))
      clear hx ht hc1 hK hcell ht5
      go_wp2_with fail
      refine (K.out _).mono ?_
      rintro e w1 ⟨rfl, hb1⟩
      have HB1 := Lib.hid (HB.out.trans ((HBx.out.trans (hb1.mono HBx.out.size)).mono HSz.out))
      clear hb1
      go_wp2
      go_roundw
      case rel => exact ⟨k + 1, by omega, by go_num, HB1⟩
      case measure => simp [intOf]; omega
    · go_wp2
      go_ret
      exact ⟨rfl, HB.out⟩
set_option maxRecDepth 100000 in
theorem have_zero {S : Nat → Prop} (w : World) (p : Value) (A B : Option Addr) (n c d : Nat) (ws : List Int) (ts : List Ty) (hn : ws.length = n) (hm : n ≤ 100000) (ht : ts.length = n) (hS : ∀ b, S b → b < w.heap.size) (r1 : (Rd.int .u64).Row S w A ws) (r2 : k_ty.Row S w B ts) (hz : ∀ x ∈ ws, x = 0) (h5 : ∀ t ∈ ts, t.kind ≠ 5) :
    Calls Tryz.prog 125 #[p, .slice A n c, .slice B n d] w fun e w' => e = .returned (.bool true) ∧ Below w.heap.size w w' := by
  have K := Lib.hid (equal_zero w p A B n c d ws ts hn hm ht hS r1 r2 hz h5)
  clear hn ht hS r1 r2 hz h5
  go_enter Tryz.func125, Tryz.ntmps125
  go_wp2_with (go_at_call 166; refine K.out.mono ?_; rintro e w1 ⟨rfl, hb1⟩)
  go_ret
  exact ⟨rfl, hb1⟩
/-- A looker at a state that goes on, with one frame at the beginning of function 0. -/
structure Lk (S : Nat → Prop) (w : World) (p : Nat) (m : Md) (B0 B1 B2 B3 B4 : Option Addr) (m0 m1 m2 m3 m4 d0 d1 d2 d3 d4 : Nat) (MA : Option Addr) (mn mc : Nat) (mps : List (List Shp)) (FA OA HA : Option Addr) (fc oc hc : Nat) (q : Int) : Prop where
  mrow : MRow S w m B0 B1 B2 B3 B4 m0 m1 m2 m3 m4
  box : w.heap[p]? = some (.cells #[.slice B0 m0 d0, .slice B1 m1 d1, .slice B2 m2 d2, .slice B3 m3 d3, .slice B4 m4 d4, .slice MA mn mc, .slice FA 1 fc, .slice OA 0 oc, .slice HA 0 hc, .int .i64 q, .int .i64 0, .int .i64 0, .int .u64 0] 162 (0, 0))
  mp : (Rd.slice k_shape).Row S w MA mps
  ml : mps.length = mn
theorem Lk.below {S : Nat → Prop} {w w' : World} {p : Nat} {m : Md} {B0 B1 B2 B3 B4 : Option Addr} {m0 m1 m2 m3 m4 d0 d1 d2 d3 d4 : Nat} {MA : Option Addr} {mn mc : Nat} {mps : List (List Shp)} {FA OA HA : Option Addr} {fc oc hc : Nat} {q : Int} (h : Lk S w p m B0 B1 B2 B3 B4 m0 m1 m2 m3 m4 d0 d1 d2 d3 d4 MA mn mc mps FA OA HA fc oc hc q) (hb : Below w.heap.size w w') : Lk S w' p m B0 B1 B2 B3 B4 m0 m1 m2 m3 m4 d0 d1 d2 d3 d4 MA mn mc mps FA OA HA fc oc hc q :=
  ⟨h.mrow.below hb, blk_below h.box hb (blk_lt h.box), h.mp.keep (fun b hS => hb.block b (h.mrow.lt b hS)), h.ml⟩
theorem hold7 {V w' : World} {p g : Nat} {t t' : TypeId} {cs cs' : Array Value} {a b c0 c1 c2 c3 c4 : Value} (hp : V.heap[p]? = some (.cells cs t (0, 0))) (ha : cs[1]? = some a) (hg : V.heap[g]? = some (.cells cs' t' (0, 0))) (hb' : cs'[0]? = some b) {fb fo : Nat} (h0 : V.cell? ⟨fb, fo, none⟩ = some c0) (h1 : V.cell? ⟨fb, fo + 1, none⟩ = some c1) (h2 : V.cell? ⟨fb, fo + 2, none⟩ = some c2) (h3 : V.cell? ⟨fb, fo + 3, none⟩ = some c3) (h4 : V.cell? ⟨fb, fo + 4, none⟩ = some c4) (hb : Below V.heap.size V w') :
    w'.cell? ⟨p, 1, none⟩ = some a ∧ w'.cell? ⟨g, 0, none⟩ = some b ∧ w'.cell? ⟨fb, fo, none⟩ = some c0 ∧ w'.cell? ⟨fb, fo + 1, none⟩ = some c1 ∧ w'.cell? ⟨fb, fo + 2, none⟩ = some c2 ∧ w'.cell? ⟨fb, fo + 3, none⟩ = some c3 ∧ w'.cell? ⟨fb, fo + 4, none⟩ = some c4 ∧ Below V.heap.size V w' :=
  ⟨(blk_cell (blk_below hp hb (blk_lt hp)) 1).trans ha, (blk_cell (blk_below hg hb (blk_lt hg)) 0).trans hb', below_cell h0 hb, below_cell h1 hb, below_cell h2 hb, below_cell h3 hb, below_cell h4 hb, hb⟩
theorem held7 {a b c d e f g : Prop} {V w' : World} (hh : a ∧ b ∧ c ∧ d ∧ e ∧ f ∧ g ∧ Below V.heap.size V w') : Below V.heap.size V w' := hh.2.2.2.2.2.2.2
theorem hold3c {V w' : World} {p g : Nat} {t t' : TypeId} {cs cs' : Array Value} {a b c : Value} (hp : V.heap[p]? = some (.cells cs t (0, 0))) (ha : cs[2]? = some a) (hg : V.heap[g]? = some (.cells cs' t' (0, 0))) (h0 : cs'[0]? = some b) (h3 : cs'[3]? = some c) (hb : Below V.heap.size V w') :
    w'.cell? ⟨p, 2, none⟩ = some a ∧ w'.cell? ⟨g, 0, none⟩ = some b ∧ w'.cell? ⟨g, 3, none⟩ = some c ∧ Below V.heap.size V w' :=
  ⟨(blk_cell (blk_below hp hb (blk_lt hp)) 2).trans ha, (blk_cell (blk_below hg hb (blk_lt hg)) 0).trans h0, (blk_cell (blk_below hg hb (blk_lt hg)) 3).trans h3, hb⟩
theorem held3c {a b c : Prop} {V w' : World} (hh : a ∧ b ∧ c ∧ Below V.heap.size V w') : Below V.heap.size V w' := hh.2.2.2
set_option maxRecDepth 100000 in
set_option maxHeartbeats 8000000 in
theorem at_zero {S : Nat → Prop} (w : World) (p : Nat) {m : Md} {B0 B1 B2 B3 B4 : Option Addr} {m0 m1 m2 m3 m4 d0 d1 d2 d3 d4 : Nat} {MA : Option Addr} {mn mc : Nat} {mps : List (List Shp)} {FA OA HA : Option Addr} {fc oc hc : Nat} {q : Int} (h : Lk S w p m B0 B1 B2 B3 B4 m0 m1 m2 m3 m4 d0 d1 d2 d3 d4 MA mn mc mps FA OA HA fc oc hc q)
    (f : Fn) (hf : m.funcs[0]? = some f) (ha : f.args = []) (hl : f.locals.length ≤ 1000) (h5 : ∀ t ∈ f.locals, t.kind ≠ 5) (sh0 : List Shp) (hsh : mps[0]? = some sh0) (s0 : List Ty) (hs0 : sh0[0]? = some ⟨true, s0⟩) (hc0 : 0 < f.code.length) (LA SA : Option Addr) (lc sc : Nat) (ws : List Int) (hw : ws.length = f.locals.length) (hz : ∀ x ∈ ws, x = 0) (rL : (Rd.int .u64).Row S w LA ws) :
    Calls Tryz.prog 124 #[.pointer (some ⟨p, 0, none⟩), .agg #[.int .i64 0, .int .i64 0, .slice LA f.locals.length lc, .slice SA 0 sc]] w fun e w' => e = .returned (.bool true) ∧ Below w.heap.size w w' := by
  have hm1 : 0 < m1 := by have := (List.getElem?_eq_some_iff.1 hf).1; have := h.mrow.e1; omega
  have hV := below_a1 w (Obj.cells #[.int .i64 0, .int .i64 0, .slice LA f.locals.length lc, .slice SA 0 sc] 91)
  have hL := h.below hV
  have hbx := blk_new w (Obj.cells #[.int .i64 0, .int .i64 0, .slice LA f.locals.length lc, .slice SA 0 sc] 91)
  have hS2 : ∀ b, S b → b < (w.alloc (Obj.cells #[.int .i64 0, .int .i64 0, .slice LA f.locals.length lc, .slice SA 0 sc] 91)).heap.size := hL.mrow.lt
  have hrL := rL.keep (fun b hb => hV.block b (h.mrow.lt b hb))
  obtain ⟨b, o, A0, c0, A3, c3, A4, c4, rfl, hSb, f0, f1, f2, f3, f4, l0, -, r0, -, -, l3, -, r3, l4, m4', -⟩ := k_func_at hL.mrow.r1 hf
  obtain ⟨mb, mo, A5, c5, rfl, hSm, mm0, l5, m5, rS⟩ := row_slice_at hL.mp hsh
  obtain ⟨sb, so, A6, c6, rfl, hSs, ss0, -, -, -, -⟩ := k_shape_at rS hs0
  simp only [Nat.zero_mul, Nat.add_zero] at f0 f1 f2 f3 f4 mm0 ss0
  have hsl0 : 0 < sh0.length := (List.getElem?_eq_some_iff.1 hs0).1
  have hmn : 0 < mn := by have := (List.getElem?_eq_some_iff.1 hsh).1; have := h.ml; omega
  rw [ha] at f0
  simp only [List.length_nil] at f0
  generalize hVV : w.alloc (Obj.cells #[.int .i64 0, .int .i64 0, .slice LA f.locals.length lc, .slice SA 0 sc] 91) = V at *
  have g0 := cell_regrown (blk_cell hbx 0 : V.cell? _ = some (.int .i64 0))
  have g1 := cell_regrown (blk_cell hbx 1 : V.cell? _ = some (.int .i64 0))
  have g2 := cell_regrown (blk_cell hL.box 1 : V.cell? _ = some (.slice (some ⟨b, o, none⟩) m1 d1))
  have g3 := cell_regrown (blk_cell hL.box 5 : V.cell? _ = some (.slice (some ⟨mb, mo, none⟩) mn mc))
  have g4 := cell_regrown f4
  have g5 := cell_regrown mm0
  have g6 := cell_regrown ss0
  obtain ⟨N, hN⟩ : ∃ N, f.code.length = N := ⟨_, rfl⟩
  rw [hN] at g4 hc0 f4
  have d5' : decide (m1 = 0) = false := decide_eq_false (by omega)
  have d6' : decide (N = 0) = false := decide_eq_false (by omega)
  have d1' : decide ((0 : Int) ≥ (m1 : Int)) = false := decide_eq_false (by omega)
  have d2' : decide ((m1 : Int) ≤ 0) = false := decide_eq_false (by omega)
  have d3' : decide ((0 : Int) ≥ (N : Int)) = false := decide_eq_false (by omega)
  have d4' : decide ((N : Int) ≤ 0) = false := decide_eq_false (by omega)
  have HL := Lib.hid hL
  have HBx := Lib.hid hbx
  have HV := Lib.hid hV
  have HF0 := Lib.hid f0
  have HF1 := Lib.hid f1
  have HF2 := Lib.hid f2
  have HF3 := Lib.hid f3
  have HF4 := Lib.hid f4
  have HW := Lib.hid hw
  have HZ := Lib.hid hz
  have HRL := Lib.hid hrL
  have HR3 := Lib.hid r3
  have H5 := Lib.hid h5
  have HS2 := Lib.hid hS2
  clear h hf hL hbx hV f0 f1 f2 f3 f4 mm0 ss0 hw hz rL hrL r0 r3 rS h5 hS2 hsh hs0 ha
  go_enter Tryz.func124, Tryz.ntmps124
  go_upto_region 1 with fail
  clear hVV
  refine wp_region_quiet_below (by kernel_rfl) (by kernel_rfl) ?_
  repeat (first | go_big_quiet_step (fail) | quiet_step (fail))
  refine wpQuiet_nil ?_
  intro _ hw'
  obtain ⟨⟨dq, osq⟩, hw''⟩ := hw'
  subst hw''
  clear g0 g1 g2 g3 g4 g5 g6
  have HBq := Lib.hid (below_regrown V dq osq)
  generalize grow (redrawn V dq) osq = wq at *
  have HLq := Lib.hid (HL.out.below HBq.out)
  have HBxq := Lib.hid (blk_below HBx.out HBq.out (blk_lt HBx.out))
  have K0 := Lib.hid (below_cell HF0.out HBq.out)
  have K1 := Lib.hid (below_cell HF1.out HBq.out)
  have K2 := Lib.hid (below_cell HF2.out HBq.out)
  have K3 := Lib.hid (below_cell HF3.out HBq.out)
  have K4 := Lib.hid (below_cell HF4.out HBq.out)
  go_upto_region 3 with fail
  go_region_held3 (fun w' => w'.cell? ⟨p, 1, none⟩ = some (.slice (some ⟨b, o, none⟩) m1 d1) ∧ w'.cell? ⟨w.heap.size, 0, none⟩ = some (.int .i64 0) ∧ w'.cell? ⟨b, o, none⟩ = some (.slice A0 0 c0) ∧ w'.cell? ⟨b, o + 1, none⟩ = some (.int .i64 f.ret.kind) ∧ w'.cell? ⟨b, o + 2, none⟩ = some (.int .i64 f.ret.n) ∧ w'.cell? ⟨b, o + 3, none⟩ = some (.slice A3 f.locals.length c3) ∧ w'.cell? ⟨b, o + 4, none⟩ = some (.slice A4 N c4) ∧ Below wq.heap.size wq w')
    (first | (refine hold7 HLq.out.box rfl HBxq.out rfl K0.out K1.out K2.out K3.out K4.out ?_; repeat (first | assumption | exact Below.refl _ _ | exact held7 (by assumption) | refine Below.drew ?_ | refine below_up ?_ _)))
    (first | fail)
  all_goals
    go_upto_region 4 with fail
    have HB4 := Lib.hid ((below_a1 wq (Obj.cells #[.slice A0 0 c0, .int .i64 f.ret.kind, .int .i64 f.ret.n, .slice A3 f.locals.length c3, .slice A4 N c4] 67)).drew)
    have HX4 := Lib.hid (blk_drew (blk_new wq (Obj.cells #[.slice A0 0 c0, .int .i64 f.ret.kind, .int .i64 f.ret.n, .slice A3 f.locals.length c3, .slice A4 N c4] 67)))
    generalize (wq.alloc (Obj.cells #[.slice A0 0 c0, .int .i64 f.ret.kind, .int .i64 f.ret.n, .slice A3 f.locals.length c3, .slice A4 N c4] 67)).drew = V4 at *
    have HBx4 := Lib.hid (blk_below HBxq.out HB4.out (blk_lt HBxq.out))
    have HBV := Lib.hid (HBq.out.trans (HB4.out.mono HBq.out.size))
    have HR4 := Lib.hid (HR3.out.keep (fun b hb => HBV.out.block b (HS2.out b hb)))
    have HW4 := Lib.hid (HRL.out.keep (fun b hb => HBV.out.block b (HS2.out b hb)))
    have HS4 := Lib.hid (fun b hb => Nat.lt_of_lt_of_le (HS2.out b hb) HBV.out.size)
    go_region_held3 (fun w' => w'.cell? ⟨w.heap.size, 2, none⟩ = some (.slice LA f.locals.length lc) ∧ w'.cell? ⟨wq.heap.size, 0, none⟩ = some (.slice A0 0 c0) ∧ w'.cell? ⟨wq.heap.size, 3, none⟩ = some (.slice A3 f.locals.length c3) ∧ Below V4.heap.size V4 w')
      (first | (refine hold3c HBx4.out rfl HX4.out rfl rfl ?_; repeat (first | assumption | exact Below.refl _ _ | exact held3c (by assumption) | refine Below.drew ?_ | refine below_up ?_ _)))
      (first
        | (go_at_call 165; go_must (refine (concat2_calls (S := S) (V4.drew.alloc (Obj.cells #[.slice A0 0 c0, .slice A3 f.locals.length c3] 59)) V4.heap.size 59 A0 A3 0 c0 f.locals.length c3 [] f.locals rfl rfl (Nat.zero_le _) l3 (by omega) hl (fun b hb => Nat.lt_of_lt_of_le (HS4.out b hb) (below_a1 V4 _).size) (blk_new V4.drew _) (Rd.Row.nil _ _ _ _) (HR4.out.keep (fun b hb => Below.heap_alloc _ _ b (HS4.out b hb)))).mono ?_; rw [Nat.zero_add]; rintro e w8 ⟨A8, c8, rfl, hc8, hsp8, hrow8, hb8⟩; have hbV8 : Below V4.heap.size V4 w8 := ((below_a1 V4 (Obj.cells #[.slice A0 0 c0, .slice A3 f.locals.length c3] 59)).drew).trans (hb8.mono (below_a1 V4 _).size)))
        | (go_at_call 125; go_must (refine (have_zero (S := fun b => b < w8.heap.size) w8 _ LA A8 f.locals.length lc c8 ws f.locals HW.out (by omega) rfl (fun b h => h) ((HW4.out.keep (fun b hb => hbV8.block b (HS4.out b hb))).mono (fun b hb => Nat.lt_of_lt_of_le (HS4.out b hb) hbV8.size)) (hrow8.mono (fun b hb => hb.2)) HZ.out H5.out).mono ?_; rintro e w9 ⟨rfl, hb9⟩; have hbV9 : Below V4.heap.size V4 w9 := hbV8.trans (hb9.mono hbV8.size))))
    all_goals
      go_wp2
      go_ret
      exact ⟨rfl, HV.out.trans ((HBV.out.trans (hbV9.mono HBV.out.size)).mono HV.out.size)⟩
end Go.Proofs.YtmceaeoeakkppaaGreatDoor
namespace Go.Proofs.YtmceaeoeakkppaaGreatDoor
open Go.RowKit Go.Sort
set_option linter.unusedVariables false
theorem calls_behind0 {P : Program} {f : FuncId} {args : Array Value} {V : World} {v : Value} (h : ∀ W, Below V.heap.size V W → Calls P f args W fun e w' => e = .returned v ∧ Below W.heap.size W w') (d : Nat) (os : Array Go.Obj) : Calls P f args (grow (redrawn V d) os) fun e w'' => e = .returned v ∧ ∃ p : Regrown, w'' = grow (redrawn V p.d) p.os := calls_behind h d os
set_option maxRecDepth 100000 in
set_option maxHeartbeats 8000000 in
theorem frames_zero {S : Nat → Prop} (w : World) (p : Nat) {m : Md} {B0 B1 B2 B3 B4 : Option Addr} {m0 m1 m2 m3 m4 d0 d1 d2 d3 d4 : Nat} {MA : Option Addr} {mn mc : Nat} {mps : List (List Shp)} {FA OA HA : Option Addr} {fc oc hc : Nat} {q : Int} (h : Lk S w p m B0 B1 B2 B3 B4 m0 m1 m2 m3 m4 d0 d1 d2 d3 d4 MA mn mc mps FA OA HA fc oc hc q)
    (f : Fn) (hf : m.funcs[0]? = some f) (ha : f.args = []) (hl : f.locals.length ≤ 1000) (h5 : ∀ t ∈ f.locals, t.kind ≠ 5) (sh0 : List Shp) (hsh : mps[0]? = some sh0) (hs0 : sh0[0]? = some ⟨true, []⟩) (hc0 : 0 < f.code.length) (ws : List Int) (hw : ws.length = f.locals.length) (hz : ∀ x ∈ ws, x = 0) (rF : k_frame.Row S w FA [⟨0, 0, ws, []⟩]) :
    Calls Tryz.prog 83 #[.pointer (some ⟨p, 0, none⟩)] w fun e w' => e = .returned (.bool true) ∧ Below w.heap.size w w' := by
  obtain ⟨fb, fo, LA, lc, SA, sc, rfl, hSf, f0, f1, f2, f3, -, -, l2, -, rL, l3, -, rS⟩ := k_frame_at rF (i := 0) rfl
  simp only [Nat.zero_mul, Nat.add_zero, List.length_nil] at f0 f1 f2 f3
  rw [hw] at f2 l2
  have b6 : w.cell? ⟨p, 6, none⟩ = some (.slice (some ⟨fb, fo, none⟩) 1 fc) := blk_cell h.box 6
  have hV := below_a1 w (Obj.cells #[.int .i64 0, .int .i64 0, .slice LA f.locals.length lc, .slice SA 0 sc] 91)
  have hLV := h.below hV
  have hbx := blk_new w (Obj.cells #[.int .i64 0, .int .i64 0, .slice LA f.locals.length lc, .slice SA 0 sc] 91)
  obtain ⟨x0, x1, x2, x3⟩ : _ ∧ _ ∧ _ ∧ _ := ⟨blk_cell hbx 0, blk_cell hbx 1, blk_cell hbx 2, blk_cell hbx 3⟩
  have KA := Lib.hid (at_zero _ p hLV f hf ha hl h5 sh0 hsh [] hs0 hc0 LA SA lc sc ws hw hz (rL.keep (fun b hb => hV.block b (h.mrow.lt b hb))))
  have HL := Lib.hid h
  have HSh := Lib.hid hsh
  have HS0 := Lib.hid hs0
  have HV := Lib.hid hV
  have HBx := Lib.hid hbx
  clear h hf ha h5 hsh hs0 hc0 hz rL rS rF hV hLV hbx
  go_enter Tryz.func83, Tryz.ntmps83
  go_wp2_with fail
  go_loopw [13] (fun ix wr => ix = .int .i64 0 ∧ Hid (w = wr)) (fun _ _ => 0)
  case atStart => exact ⟨rfl, Lib.hid rfl⟩
  case round =>
    obtain ⟨rfl, he⟩ := hrel
    have e := he.out
    subst e
    go_upto_region 8 with (go_at_call 124; go_must (refine KA.out.mono ?_; rintro e w1 ⟨rfl, hb1⟩; have HB1 := Lib.hid (HV.out.trans (hb1.mono HV.out.size)); have hx1 := blk_below HBx.out hb1 (blk_lt HBx.out); have y0 : w1.cell? ⟨w.heap.size, 0, none⟩ = some (.int .i64 0) := blk_cell hx1 0; have y1 : w1.cell? ⟨w.heap.size, 1, none⟩ = some (.int .i64 0) := blk_cell hx1 1; have y3 : w1.cell? ⟨w.heap.size, 3, none⟩ = some (.slice SA 0 sc) := blk_cell hx1 3; clear hb1 hx1))
    obtain ⟨mb, mo, A5, c5, rfl, hSm, mm0, l5, m5, rS⟩ := row_slice_at (HL.out.below HB1.out).mp HSh.out
    obtain ⟨sb, so, A6, c6, rfl, hSs, -, ss1, -, -, -⟩ := k_shape_at rS HS0.out
    simp only [Nat.zero_mul, Nat.add_zero, List.length_nil] at mm0 ss1
    have hsl0 : 0 < sh0.length := (List.getElem?_eq_some_iff.1 HS0.out).1
    have hmn : 0 < mn := by have := (List.getElem?_eq_some_iff.1 HSh.out).1; have := HL.out.ml; omega
    have p5 : w1.cell? ⟨p, 5, none⟩ = some (.slice (some ⟨mb, mo, none⟩) mn mc) := blk_cell (HL.out.below HB1.out).box 5
    have g0 := cell_regrown y0
    have g1 := cell_regrown y1
    have g2 := cell_regrown y3
    have g3 := cell_regrown p5
    have g4 := cell_regrown mm0
    have g5 := cell_regrown ss1
    have KH := Lib.hid (fun W => have_zero (S := fun _ => False) W (.pointer (some ⟨p, 0, none⟩)) SA A6 0 sc c6 [] [] rfl (by omega) rfl (fun b h => h.elim) (Rd.Row.nil _ _ _ _) (Rd.Row.nil _ _ _ _) (fun x h => by cases h) (fun x h => by cases h))
    clear y0 y1 y3 p5 mm0 ss1 rS b6 f0 f1 f2 f3 x0 x1 x2 x3
    refine wp_region_quiet_below (by kernel_rfl) (by kernel_rfl) ?_
    repeat (first | go_big_quiet_step (with_reducible exact calls_regrown KH.out _ _) | quiet_step (with_reducible exact calls_regrown KH.out _ _))
    refine wpQuiet_nil ?_
    intro _ hw'
    obtain ⟨⟨dq, osq⟩, hw''⟩ := hw'
    subst hw''
    clear g0 g1 g2 g3 g4 g5
    have HBq := Lib.hid (below_regrown w1 dq osq)
    generalize grow (redrawn w1 dq) osq = wq at *
    go_wp2
    go_ret
    exact ⟨rfl, HB1.out.trans (HBq.out.mono HB1.out.size)⟩
theorem eg_whole1 : ∀ (args : Array Value) (w : World), (callFunc 119 args).run Tryz.prog w = .ok (.enter 119 args) w := eg_of Tryz.func119 (by kernel_rfl) rfl
theorem eg_whole2 : ∀ (args : Array Value) (w : World), (callFunc 122 args).run Tryz.prog w = .ok (.enter 122 args) w := eg_of Tryz.func122 (by kernel_rfl) rfl
set_option maxRecDepth 100000 in
set_option maxHeartbeats 8000000 in
theorem whole_zero {S : Nat → Prop} (w : World) (p : Nat) {m : Md} {B0 B1 B2 B3 B4 : Option Addr} {m0 m1 m2 m3 m4 d0 d1 d2 d3 d4 : Nat} {MA : Option Addr} {mn mc : Nat} {mps : List (List Shp)} {FA OA HA : Option Addr} {fc oc hc : Nat} {q : Int} (h : Lk S w p m B0 B1 B2 B3 B4 m0 m1 m2 m3 m4 d0 d1 d2 d3 d4 MA mn mc mps FA OA HA fc oc hc q) (hq0 : 0 ≤ q) (hq1 : q ≤ 65536) :
    Calls Tryz.prog 82 #[.pointer (some ⟨p, 0, none⟩)] w fun e w' => e = .returned (.bool true) ∧ Below w.heap.size w w' := by
  have hV := below_a1 w (Obj.cells #[.pointer (some ⟨p, 0, none⟩)] 160)
  have hb := blk_below h.box hV (blk_lt h.box)
  have p6 : (w.alloc (Obj.cells #[.pointer (some ⟨p, 0, none⟩)] 160)).cell? ⟨p, 6, none⟩ = some (.slice FA 1 fc) := blk_cell hb 6
  have p7 : (w.alloc (Obj.cells #[.pointer (some ⟨p, 0, none⟩)] 160)).cell? ⟨p, 7, none⟩ = some (.slice OA 0 oc) := blk_cell hb 7
  have p8 : (w.alloc (Obj.cells #[.pointer (some ⟨p, 0, none⟩)] 160)).cell? ⟨p, 8, none⟩ = some (.slice HA 0 hc) := blk_cell hb 8
  have p9 : (w.alloc (Obj.cells #[.pointer (some ⟨p, 0, none⟩)] 160)).cell? ⟨p, 9, none⟩ = some (.int .i64 q) := blk_cell hb 9
  have p10 : (w.alloc (Obj.cells #[.pointer (some ⟨p, 0, none⟩)] 160)).cell? ⟨p, 10, none⟩ = some (.int .i64 0) := blk_cell hb 10
  have p11 : (w.alloc (Obj.cells #[.pointer (some ⟨p, 0, none⟩)] 160)).cell? ⟨p, 11, none⟩ = some (.int .i64 0) := blk_cell hb 11
  have p12 : (w.alloc (Obj.cells #[.pointer (some ⟨p, 0, none⟩)] 160)).cell? ⟨p, 12, none⟩ = some (.int .u64 0) := blk_cell hb 12
  have K1 := Lib.hid (fun W => contains_Han (S := fun _ => False) W HA 0 hc [] rfl (by omega) (fun b h => h.elim) (Rd.Row.nil _ _ _ _) 119 eg_whole1 #[] (fun _ => false) (fun W x h => by cases h))
  have K2 := Lib.hid (fun W lb => contains_Ob (S := fun _ => False) W OA 0 oc [] rfl (by omega) (fun b h => h.elim) (Rd.Row.nil _ _ _ _) 122 eg_whole2 lb (fun _ => false) (fun W x _ _ _ _ h => by cases h))
  have HV := Lib.hid hV
  have HX := Lib.hid (blk_new2 w (Obj.cells #[.pointer (some ⟨p, 0, none⟩)] 160) (Obj.cells #[.slice FA 1 fc, .slice OA 0 oc, .slice HA 0 hc, .int .i64 q, .int .i64 0, .int .i64 0, .int .u64 0] 34))
  have HV2 := Lib.hid (below_up hV (Obj.cells #[.slice FA 1 fc, .slice OA 0 oc, .slice HA 0 hc, .int .i64 q, .int .i64 0, .int .i64 0, .int .u64 0] 34))
  clear h hV hb
  go_enter Tryz.func82, Tryz.ntmps82
  go_wp2_with (first
    | (go_at_call 120; go_must (refine (K1.out _).mono ?_; rintro e w1 ⟨rfl, hb1⟩; have HB1 := Lib.hid (HV2.out.trans (hb1.mono HV2.out.size)); have z1 : w1.cell? ⟨w.heap.size + 1, 1, none⟩ = some (.slice OA 0 oc) := blk_cell (blk_below HX.out hb1 (blk_lt HX.out)) 1; clear hb1))
    | (go_at_call 121; go_must (refine (K2.out _ _).mono ?_; rintro e w2 ⟨rfl, hb2⟩; have HB2 := Lib.hid (HB1.out.trans (hb2.mono HB1.out.size)); clear hb2)))
  go_ret
  exact ⟨rfl, HB2.out⟩
set_option maxRecDepth 100000 in
set_option maxHeartbeats 8000000 in
theorem fits_zero {S : Nat → Prop} (w : World) (m : Md) (B0 B1 B2 B3 B4 : Option Addr) (m0 m1 m2 m3 m4 d0 d1 d2 d3 d4 : Nat) (h : MRow S w m B0 B1 B2 B3 B4 m0 m1 m2 m3 m4) (MA : Option Addr) (mn mc : Nat) (mps : List (List Shp)) (hmp : (Rd.slice k_shape).Row S w MA mps) (hml : mps.length = mn) (FA OA HA : Option Addr) (fc oc hc : Nat) (q : Int) (hq0 : 0 ≤ q) (hq1 : q ≤ 65536)
    (f : Fn) (hf : m.funcs[0]? = some f) (ha : f.args = []) (hl : f.locals.length ≤ 1000) (h5 : ∀ t ∈ f.locals, t.kind ≠ 5) (sh0 : List Shp) (hsh : mps[0]? = some sh0) (hs0 : sh0[0]? = some ⟨true, []⟩) (hc0 : 0 < f.code.length) (ws : List Int) (hw : ws.length = f.locals.length) (hz : ∀ x ∈ ws, x = 0) (rF : k_frame.Row S w FA [⟨0, 0, ws, []⟩]) :
    Calls Tryz.prog 44 #[.agg #[.slice B0 m0 d0, .slice B1 m1 d1, .slice B2 m2 d2, .slice B3 m3 d3, .slice B4 m4 d4], .slice MA mn mc, .agg #[.slice FA 1 fc, .slice OA 0 oc, .slice HA 0 hc, .int .i64 q, .int .i64 0, .int .i64 0, .int .u64 0]] w fun e w' => e = .returned (.bool true) ∧ Below w.heap.size w w' := by
  have hV := below_up (below_up (below_a1 w (Obj.cells #[.slice B0 m0 d0, .slice B1 m1 d1, .slice B2 m2 d2, .slice B3 m3 d3, .slice B4 m4 d4] 28)) (Obj.cells #[.slice FA 1 fc, .slice OA 0 oc, .slice HA 0 hc, .int .i64 q, .int .i64 0, .int .i64 0, .int .u64 0] 34)) (Obj.cells #[.slice B0 m0 d0, .slice B1 m1 d1, .slice B2 m2 d2, .slice B3 m3 d3, .slice B4 m4 d4, .slice MA mn mc, .slice FA 1 fc, .slice OA 0 oc, .slice HA 0 hc, .int .i64 q, .int .i64 0, .int .i64 0, .int .u64 0] 162)
  have hL : Lk S _ (w.heap.size + 1 + 1) m B0 B1 B2 B3 B4 m0 m1 m2 m3 m4 d0 d1 d2 d3 d4 MA mn mc mps FA OA HA fc oc hc q := ⟨h.below hV, blk_new3 w _ _ _, hmp.keep (fun b hb => hV.block b (h.lt b hb)), hml⟩
  have hX := blk_alloc (blk_new2 w (Obj.cells #[.slice B0 m0 d0, .slice B1 m1 d1, .slice B2 m2 d2, .slice B3 m3 d3, .slice B4 m4 d4] 28) (Obj.cells #[.slice FA 1 fc, .slice OA 0 oc, .slice HA 0 hc, .int .i64 q, .int .i64 0, .int .i64 0, .int .u64 0] 34)) (Obj.cells #[.slice B0 m0 d0, .slice B1 m1 d1, .slice B2 m2 d2, .slice B3 m3 d3, .slice B4 m4 d4, .slice MA mn mc, .slice FA 1 fc, .slice OA 0 oc, .slice HA 0 hc, .int .i64 q, .int .i64 0, .int .i64 0, .int .u64 0] 162)
  have KW := Lib.hid (whole_zero _ _ hL hq0 hq1)
  have KF := Lib.hid (fun W (hb : Below _ _ W) => frames_zero W _ (hL.below hb) f hf ha hl h5 sh0 hsh hs0 hc0 ws hw hz (rF.keep (fun b hS => ((hb.block b (Nat.lt_of_lt_of_le (h.lt b hS) hV.size)).trans (hV.block b (h.lt b hS))))))
  have HV := Lib.hid hV
  have HX := Lib.hid hX
  clear h hmp hml hf ha h5 hsh hs0 hc0 hw hz rF hV hL hX
  go_enter Tryz.func44, Tryz.ntmps44
  go_wp2_with (first
    | (go_at_call 82; go_must (refine KW.out.mono ?_; rintro e w1 ⟨rfl, hb1⟩; have hx1 := blk_below HX.out hb1 (blk_lt HX.out); have z0 : w1.cell? ⟨w.heap.size + 1, 0, none⟩ = some (.slice FA 1 fc) := blk_cell hx1 0; have z1 : w1.cell? ⟨w.heap.size + 1, 5, none⟩ = some (.int .i64 0) := blk_cell hx1 5; have z2 : w1.cell? ⟨w.heap.size + 1, 6, none⟩ = some (.int .u64 0) := blk_cell hx1 6; have HB1 := Lib.hid hb1; clear hb1 hx1))
    | (go_at_call 83; go_must (refine (KF.out _ HB1.out).mono ?_; rintro e w2 ⟨rfl, hb2⟩; have HB2 := Lib.hid hb2; clear hb2)))
  go_ret
  exact ⟨rfl, HV.out.trans ((HB1.out.trans (HB2.out.mono HB1.out.size)).mono HV.out.size)⟩
end Go.Proofs.YtmceaeoeakkppaaGreatDoor
namespace Go.Proofs.YtmceaeoeakkppaaGreatDoor
open Go.RowKit
set_option linter.unusedVariables false
def wcells (ws : List Int) : List Value := ws.map (.int .u64 ·)
theorem wcells_length (ws : List Int) : (wcells ws).length = ws.length * 1 := by simp [wcells]
theorem wcells_one (ws : List Int) : ∀ u ∈ wcells ws, u.oneCell' = true := by
  intro u hu
  simp only [wcells, List.mem_map] at hu
  obtain ⟨_, _, rfl⟩ := hu
  rfl
theorem wcells_at {ws : List Int} {k : Nat} {x : Int} (h : ws[k]? = some x) : (wcells ws)[k]? = some (.int .u64 x) := by simp [wcells, h]
theorem word_info : (Tryz.prog.info? 32).map (fun i => (i.zero, i.size, i.bytes)) = some (some (.int .u64 0), 1, 8) := by kernel_rfl
def isW (ws : List Int) : Prop := ∀ x ∈ ws, 0 ≤ x ∧ x ≤ 18446744073709551615
theorem word_flat {S : Nat → Prop} {w : World} {ws : List Int} {cells : List Value} : (Rd.int .u64).Flat S w ws cells ↔ cells = wcells ws ∧ isW ws := by
  induction ws generalizing cells with
  | nil => simp [Rd.Flat, wcells, isW]
  | cons b bs ih =>
    constructor
    · rintro ⟨c, r, rfl, ⟨rfl, hb⟩, hr⟩
      obtain ⟨rfl, hw⟩ := ih.1 hr
      exact ⟨rfl, fun x hx => by
        rcases List.mem_cons.1 hx with rfl | hx
        · exact bounds_u64 hb
        · exact hw x hx⟩
    · rintro ⟨rfl, hw⟩
      exact ⟨[.int .u64 b], wcells bs, rfl, ⟨rfl, WalkArith.wf_u64 (hw b (by simp))⟩, ih.2 ⟨rfl, fun x hx => hw x (by simp [hx])⟩⟩

/-- A row of one-cell elements in a block of its own, or nothing. -/
def Mem (w : World) (e : TypeId) (v : Value) (n : Nat) (xs : List Value) : Prop :=
  xs.length = n ∧ ((v = .slice none 0 0 ∧ n = 0) ∨ ∃ g c cur, v = .slice (some ⟨g, 0, none⟩) n c ∧ n ≤ c ∧ w.heap[g]? = some (.cells cur e (0, 0)) ∧ ∀ (j : Nat) (u : Value), xs[j]? = some u → cur[j]? = some u)
namespace Mem
variable {w w' : World} {e : TypeId} {v : Value} {n : Nat} {xs : List Value}
theorem lt (h : Mem w e v n xs) {g : Nat} (hg : v.ownBlock = some g) : g < w.heap.size ∧ ∃ cur, w.heap[g]? = some (.cells cur e (0, 0)) := by
  rcases h.2 with ⟨rfl, _⟩ | ⟨g', c, cur, rfl, _, hh, _⟩
  · cases hg
  · have : g' = g := by simpa [Value.ownBlock] using hg
    subst this
    exact ⟨blk_lt hh, cur, hh⟩
theorem keep (h : Mem w e v n xs) (hk : ∀ g, v.ownBlock = some g → w'.heap[g]? = w.heap[g]?) : Mem w' e v n xs := by
  refine ⟨h.1, ?_⟩
  rcases h.2 with h2 | ⟨g, c, cur, rfl, h3, hh, h4⟩
  · exact .inl h2
  · exact .inr ⟨g, c, cur, rfl, h3, (hk g rfl).trans hh, h4⟩
theorem keeps {F : Nat → Prop} (h : Mem w e v n xs) (hk : Keeps F w w') (hF : ∀ g, v.ownBlock = some g → ¬ F g) : Mem w' e v n xs :=
  h.keep (fun g hg => hk.block g (h.lt hg).1 (hF g hg))
theorem below (h : Mem w e v n xs) (hb : Below w.heap.size w w') : Mem w' e v n xs := h.keep (fun g hg => hb.block g (h.lt hg).1)
theorem shape (h : Mem w e v n xs) : ∃ A c, v = .slice A n c ∧ n ≤ c ∧ (A = none ∨ ∃ g, A = some ⟨g, 0, none⟩) := by
  rcases h.2 with ⟨rfl, rfl⟩ | ⟨g, c, cur, rfl, h3, _, _⟩
  · exact ⟨none, 0, rfl, Nat.le_refl _, .inl rfl⟩
  · exact ⟨_, c, rfl, h3, .inr ⟨g, rfl⟩⟩
theorem at_ (h : Mem w e v n xs) (hn : 0 < n) : ∃ g c, v = .slice (some ⟨g, 0, none⟩) n c ∧ n ≤ c ∧ g < w.heap.size ∧ (∀ (j : Nat) (u : Value), xs[j]? = some u → w.cell? ⟨g, j, none⟩ = some u) ∧ ∀ j, w.frozen? ⟨g, j, none⟩ = false := by
  rcases h.2 with ⟨_, h0⟩ | ⟨g, c, cur, rfl, h3, hh, h4⟩
  · omega
  · exact ⟨g, c, rfl, h3, blk_lt hh, fun j u hj => (blk_cell hh j).trans (h4 j u hj), blk_frozen hh⟩
theorem set {g c j : Nat} {u : Value} (h : Mem w e (.slice (some ⟨g, 0, none⟩) n c) n xs) (hj : j < n) : Mem (w.setCell ⟨g, j, none⟩ u) e (.slice (some ⟨g, 0, none⟩) n c) n (xs.set j u) := by
  refine ⟨by rw [List.length_set]; exact h.1, ?_⟩
  rcases h.2 with ⟨h0, _⟩ | ⟨g', c', cur, h1, h3, hh, h4⟩
  · cases h0
  · cases h1
    refine .inr ⟨g, c, _, rfl, h3, blk_set hh j u, fun i y hi => ?_⟩
    have hlen := h.1
    by_cases hij : j = i
    · subst hij
      rw [List.getElem?_set_self (by omega)] at hi
      have hcur : j < cur.size := by
        have hx : j < xs.length := by omega
        exact (Array.getElem?_eq_some_iff.1 (h4 j _ (List.getElem?_eq_getElem hx))).1
      rw [Array.getElem?_setIfInBounds_self_of_lt hcur]
      exact hi
    · rw [List.getElem?_set_ne hij] at hi
      rw [Array.getElem?_setIfInBounds_ne hij]
      exact h4 i y hi
theorem of_own {base : Nat} (h : w.ownsRow base e 1 v n xs) : Mem w e v n xs := by
  refine ⟨by rw [h.1, Nat.mul_one], ?_⟩
  rcases h.2 with h2 | ⟨g, cap, cur, rfl, _, hh, h4, _, _, h6⟩
  · exact .inl h2
  · refine .inr ⟨g, cap, cur, rfl, h4, hh, fun j u hj => ?_⟩
    rw [← h6, List.getElem?_take] at hj
    split at hj
    · simpa using hj
    · cases hj
theorem clip {A : Option Addr} {c : Nat} (h : Mem w e (.slice A n c) n xs) : Mem w e (.slice A n n) n xs := by
  refine ⟨h.1, ?_⟩
  rcases h.2 with ⟨h1, h2⟩ | ⟨g, c', cur, h1, h3, hh, h4⟩
  · cases h1
    exact .inl ⟨by rw [h2], h2⟩
  · cases h1
    exact .inr ⟨g, n, cur, rfl, Nat.le_refl _, hh, h4⟩
theorem lie {A : Option Addr} {c : Nat} (h : Mem w e (.slice A n c) n xs) : Lie w A n xs := by
  rcases h.2 with ⟨_, h0⟩ | ⟨g, c', cur, h1, h3, hh, h4⟩
  · exact fun hp => by omega
  · cases h1
    exact lie_blk hh h4
theorem nil (w : World) (e : TypeId) : Mem w e (.slice none 0 0) 0 [] := ⟨rfl, .inl ⟨rfl, rfl⟩⟩
/-- A reading of it. -/
theorem row8 {A : Option Addr} {c : Nat} {bs : List Int} (h : Mem w e (.slice A n c) n (bcells bs)) (hB : isB bs) (hn : bs.length = n) : (Rd.int .u8).Row (fun b => (Value.slice A n c).ownBlock = some b) w A bs := by
  rcases h.2 with ⟨_, h0⟩ | ⟨g, c', cur, h1, h3, hh, h4⟩
  · obtain rfl := List.eq_nil_of_length_eq_zero (hn.trans h0)
    exact Rd.Row.nil _ _ _ _
  · cases h1
    exact Rd.Row.of_blk hh rfl (byte_flat.2 ⟨rfl, hB⟩) h4
theorem row64 {A : Option Addr} {c : Nat} {ws : List Int} (h : Mem w e (.slice A n c) n (wcells ws)) (hB : isW ws) (hn : ws.length = n) : (Rd.int .u64).Row (fun b => (Value.slice A n c).ownBlock = some b) w A ws := by
  rcases h.2 with ⟨_, h0⟩ | ⟨g, c', cur, h1, h3, hh, h4⟩
  · obtain rfl := List.eq_nil_of_length_eq_zero (hn.trans h0)
    exact Rd.Row.nil _ _ _ _
  · cases h1
    exact Rd.Row.of_blk hh rfl (word_flat.2 ⟨rfl, hB⟩) h4
end Mem

set_option maxRecDepth 100000 in
theorem clone64_calls (w : World) (A : Option Addr) (n c : Nat) (hs : List Int) (hn : hs.length = n) (hm : n ≤ 1000000) (hl : Lie w A n (wcells hs)) :
    Calls Tryz.prog 61 #[.slice A n c] w fun e w' => ∃ v, e = .returned v ∧ Mem w' 32 v n (wcells hs) ∧ (∀ g, v.ownBlock = some g → w.heap.size ≤ g) ∧ Below w.heap.size w w' := by
  subst hn
  cases A with
  | none =>
    have h0 : hs.length = 0 := by
      rcases Nat.eq_zero_or_pos hs.length with h0 | h0
      · exact h0
      · obtain ⟨_, _, h, _⟩ := hl h0; cases h
    obtain rfl := List.eq_nil_of_length_eq_zero h0
    have hnil : ∀ w' : World, (binOp .eql 25 (.slice none 0 c) (.slice none 0 0)).run Tryz.prog w' = .ok (.bool true) w' := fun w' => Lib.run_eql_slice_nil w' _ _ none _ _ 0 0 Tryz.underlying25
    go_enter Tryz.func61, Tryz.ntmps61
    go_wp2
    go_ret
    exact ⟨_, rfl, Mem.nil _ _, fun g hg => (by simp [Value.ownBlock] at hg), Below.refl _ _⟩
  | some a =>
    have hnil : ∀ w' : World, (binOp .eql 25 (.slice (some a) hs.length c) (.slice none 0 0)).run Tryz.prog w' = .ok (.bool false) w' := fun w' => Lib.run_eql_slice_nil w' _ _ (some a) _ _ 0 0 Tryz.underlying25
    go_enter Tryz.func61, Tryz.ntmps61
    go_wp2_with (at_builtin; refine list_app _ rfl (.tmp 5) (.tmp 6) _ rfl 32 Tryz.underlying25 word_info rfl (by decide) (by decide) w.heap.size rfl (World.ownsRow_made w #[] 0 (Nat.le_refl _) (Nat.zero_le _) rfl) rfl (wcells_length _) (by exact hl.below ((Below.refl _ _).alloc (Nat.le_refl _) _)) (wcells_one _) (by omega) (by simp) ?_; intro v' w3 hown hg hat; have hB := Lib.hid (grown_below ((Below.refl _ _).alloc (Nat.le_refl _) _) hg (by simp) (.inr ⟨_, rfl, Nat.le_refl _⟩)); simp only [Nat.zero_add, List.nil_append] at hown; have HO := Lib.hid hown; clear hown hg hat)
    go_ret
    exact ⟨_, rfl, Mem.of_own HO.out, fun g hg => (HO.out.lt g hg).1, hB.out⟩
set_option maxRecDepth 100000 in
theorem clip64_calls (w : World) (A : Option Addr) (n c : Nat) (hnc : n ≤ c) (hm : n ≤ 1000000) (hs : ∀ a, A = some a → a.spot = none):
    Calls Tryz.prog 86 #[.slice A n c] w fun e w' => e = .returned (.slice A n n) ∧ w' = w := by
  go_enter Tryz.func86, Tryz.ntmps86
  go_wp2
  go_ret
  exact ⟨rfl, rfl⟩
theorem clipM64_calls (w : World) (v : Value) (n : Nat) (xs : List Value) (h : Mem w 32 v n xs) (hm : n ≤ 1000000) :
    Calls Tryz.prog 86 #[v] w fun e w' => ∃ A, e = .returned (.slice A n n) ∧ Mem w 32 (.slice A n n) n xs ∧ (Value.slice A n n).ownBlock = v.ownBlock ∧ w' = w := by
  obtain ⟨A, c, rfl, h1, h2⟩ := h.shape
  refine (clip64_calls w A n c h1 hm (fun a ha => by rcases h2 with rfl | ⟨g, rfl⟩ <;> cases ha; rfl)).mono ?_
  rintro e w' ⟨rfl, rfl⟩
  exact ⟨_, rfl, h.clip, by cases A <;> rfl, rfl⟩

set_option maxRecDepth 100000 in
theorem clone8_calls (w : World) (A : Option Addr) (n c : Nat) (hs : List Int) (hn : hs.length = n) (hm : n ≤ 1000000) (hl : Lie w A n (bcells hs)) :
    Calls Tryz.prog 216 #[.slice A n c] w fun e w' => ∃ v, e = .returned v ∧ Mem w' 5 v n (bcells hs) ∧ (∀ g, v.ownBlock = some g → w.heap.size ≤ g) ∧ Below w.heap.size w w' := by
  subst hn
  cases A with
  | none =>
    have h0 : hs.length = 0 := by
      rcases Nat.eq_zero_or_pos hs.length with h0 | h0
      · exact h0
      · obtain ⟨_, _, h, _⟩ := hl h0; cases h
    obtain rfl := List.eq_nil_of_length_eq_zero h0
    have hnil : ∀ w' : World, (binOp .eql 74 (.slice none 0 c) (.slice none 0 0)).run Tryz.prog w' = .ok (.bool true) w' := fun w' => Lib.run_eql_slice_nil w' _ _ none _ _ 0 0 Tryz.underlying74
    go_enter Tryz.func216, Tryz.ntmps216
    go_wp2
    go_ret
    exact ⟨_, rfl, Mem.nil _ _, fun g hg => (by simp [Value.ownBlock] at hg), Below.refl _ _⟩
  | some a =>
    have hnil : ∀ w' : World, (binOp .eql 74 (.slice (some a) hs.length c) (.slice none 0 0)).run Tryz.prog w' = .ok (.bool false) w' := fun w' => Lib.run_eql_slice_nil w' _ _ (some a) _ _ 0 0 Tryz.underlying74
    go_enter Tryz.func216, Tryz.ntmps216
    go_wp2_with (at_builtin; refine list_app _ rfl (.tmp 5) (.tmp 6) _ rfl 5 Tryz.underlying74 byte_info rfl (by decide) (by decide) w.heap.size rfl (World.ownsRow_made w #[] 0 (Nat.le_refl _) (Nat.zero_le _) rfl) rfl (bcells_length _) (by exact hl.below ((Below.refl _ _).alloc (Nat.le_refl _) _)) (bcells_one _) (by omega) (by simp) ?_; intro v' w3 hown hg hat; have hB := Lib.hid (grown_below ((Below.refl _ _).alloc (Nat.le_refl _) _) hg (by simp) (.inr ⟨_, rfl, Nat.le_refl _⟩)); simp only [Nat.zero_add, List.nil_append] at hown; have HO := Lib.hid hown; clear hown hg hat)
    go_ret
    exact ⟨_, rfl, Mem.of_own HO.out, fun g hg => (HO.out.lt g hg).1, hB.out⟩
set_option maxRecDepth 100000 in
theorem clip8_calls (w : World) (A : Option Addr) (n c : Nat) (hnc : n ≤ c) (hm : n ≤ 1000000) (hs : ∀ a, A = some a → a.spot = none):
    Calls Tryz.prog 215 #[.slice A n c] w fun e w' => e = .returned (.slice A n n) ∧ w' = w := by
  go_enter Tryz.func215, Tryz.ntmps215
  go_wp2
  go_ret
  exact ⟨rfl, rfl⟩
theorem clipM8_calls (w : World) (v : Value) (n : Nat) (xs : List Value) (h : Mem w 5 v n xs) (hm : n ≤ 1000000) :
    Calls Tryz.prog 215 #[v] w fun e w' => ∃ A, e = .returned (.slice A n n) ∧ Mem w 5 (.slice A n n) n xs ∧ (Value.slice A n n).ownBlock = v.ownBlock ∧ w' = w := by
  obtain ⟨A, c, rfl, h1, h2⟩ := h.shape
  refine (clip8_calls w A n c h1 hm (fun a ha => by rcases h2 with rfl | ⟨g, rfl⟩ <;> cases ha; rfl)).mono ?_
  rintro e w' ⟨rfl, rfl⟩
  exact ⟨_, rfl, h.clip, by cases A <;> rfl, rfl⟩
set_option maxRecDepth 100000 in
theorem heapCost_calls (w : World) (k n : Value) (A B : Option Addr) (a b c d : Nat) (ha : a ≤ 1000000) (hb : b ≤ 1000000) : Calls Tryz.prog 218 #[.agg #[k, n, .slice A a c, .slice B b d]] w fun e w' => e = .returned (.int .i64 (16 + 8 * (a : Int) + b)) ∧ Below w.heap.size w w' := by
  go_enter Tryz.func218, Tryz.ntmps218
  go_wp2
  go_ret
  exact ⟨rfl, (Below.refl _ _).alloc (Nat.le_refl _) _⟩
end Go.Proofs.YtmceaeoeakkppaaGreatDoor
namespace Go.Proofs.YtmceaeoeakkppaaGreatDoor
open Go.RowKit Go.Sort
set_option linter.unusedVariables false
/-- A machine with one frame (in function 0). -/
structure Mc1 (w : World) (p FB hp tp : Nat) (B0 B1 B2 B3 B4 : Option Addr) (m0 m1 m2 m3 m4 d0 d1 d2 d3 d4 : Nat) (q : Int) (MA : Option Addr) (mn mc fc : Nat) (pc : Nat) (LA : Option Addr) (ln lc : Nat) (SA : Option Addr) (sn sc : Nat) : Prop where
  box : w.heap[p]? = some (.cells #[.slice B0 m0 d0, .slice B1 m1 d1, .slice B2 m2 d2, .slice B3 m3 d3, .slice B4 m4 d4, .pointer (some ⟨hp, 0, none⟩), .pointer (some ⟨tp, 0, none⟩), .int .i64 q, .int .i64 0, .int .u64 0, .slice none 0 0, .slice MA mn mc, .slice (some ⟨FB, 0, none⟩) 1 fc] 101 (0, 0))
  fr : ∃ cs : Array Value, w.heap[FB]? = some (.cells cs 91 (0, 0)) ∧ 4 ≤ cs.size ∧ cs[0]? = some (.int .i64 0) ∧ cs[1]? = some (.int .i64 pc) ∧ cs[2]? = some (.slice LA ln lc) ∧ cs[3]? = some (.slice SA sn sc)
theorem Mc1.below {w w' : World} {p FB hp tp : Nat} {B0 B1 B2 B3 B4 : Option Addr} {m0 m1 m2 m3 m4 d0 d1 d2 d3 d4 : Nat} {q : Int} {MA : Option Addr} {mn mc fc pc : Nat} {LA : Option Addr} {ln lc : Nat} {SA : Option Addr} {sn sc : Nat} (h : Mc1 w p FB hp tp B0 B1 B2 B3 B4 m0 m1 m2 m3 m4 d0 d1 d2 d3 d4 q MA mn mc fc pc LA ln lc SA sn sc) (hb : Below w.heap.size w w') : Mc1 w' p FB hp tp B0 B1 B2 B3 B4 m0 m1 m2 m3 m4 d0 d1 d2 d3 d4 q MA mn mc fc pc LA ln lc SA sn sc := by
  obtain ⟨cs, h1, h2⟩ := h.fr
  exact ⟨blk_below h.box hb (blk_lt h.box), cs, blk_below h1 hb (blk_lt h1), h2⟩
theorem Mc1.cells {w : World} {p FB hp tp : Nat} {B0 B1 B2 B3 B4 : Option Addr} {m0 m1 m2 m3 m4 d0 d1 d2 d3 d4 : Nat} {q : Int} {MA : Option Addr} {mn mc fc pc : Nat} {LA : Option Addr} {ln lc : Nat} {SA : Option Addr} {sn sc : Nat} (h : Mc1 w p FB hp tp B0 B1 B2 B3 B4 m0 m1 m2 m3 m4 d0 d1 d2 d3 d4 q MA mn mc fc pc LA ln lc SA sn sc) :
    w.cell? ⟨FB, 0, none⟩ = some (.int .i64 0) ∧ w.cell? ⟨FB, 1, none⟩ = some (.int .i64 pc) ∧ w.cell? ⟨FB, 2, none⟩ = some (.slice LA ln lc) ∧ w.cell? ⟨FB, 3, none⟩ = some (.slice SA sn sc) := by
  obtain ⟨cs, h1, -, h3, h4, h5, h6⟩ := h.fr
  exact ⟨(blk_cell h1 0).trans h3, (blk_cell h1 1).trans h4, (blk_cell h1 2).trans h5, (blk_cell h1 3).trans h6⟩
set_option maxRecDepth 100000 in
theorem top_calls (w : World) (p FB fc : Nat) (h : w.cell? ⟨p, 12, none⟩ = some (.slice (some ⟨FB, 0, none⟩) 1 fc)) :
    Calls Tryz.prog 59 #[.pointer (some ⟨p, 0, none⟩)] w fun e w' => e = .returned (.pointer (some ⟨FB, 0, none⟩)) ∧ Below w.heap.size w w' := by
  have g := cell_regrown h
  clear h
  go_enter Tryz.func59, Tryz.ntmps59
  go_wp2_with fail
  refine wp_region_quiet_below (by kernel_rfl) (by kernel_rfl) ?_
  repeat (first | go_big_quiet_step (fail) | quiet_step (fail))
  refine wpQuiet_nil ?_
  intro _ hw'
  obtain ⟨⟨dq, osq⟩, hw''⟩ := hw'
  subst hw''
  have HBq := Lib.hid (below_regrown w dq osq)
  clear g
  generalize grow (redrawn w dq) osq = wq at *
  go_wp2
  go_ret
  exact ⟨rfl, HBq.out⟩
set_option maxRecDepth 100000 in
theorem takes_0 (w : World) (x : Value) (a b : Int) : Calls Tryz.prog 60 #[x, .agg #[.int .i64 0, .int .i64 a, .int .i64 b]] w fun e w' => e = .returned (.int .i64 0) ∧ Below w.heap.size w w' := by
  have HB := Lib.hid (below_a1 w (Obj.cells #[.int .i64 0, .int .i64 a, .int .i64 b] 62))
  go_enter Tryz.func60, Tryz.ntmps60
  go_wp2
  go_ret
  exact ⟨rfl, HB.out⟩
set_option maxRecDepth 100000 in
theorem takes_26 (w : World) (x : Value) (a b : Int) : Calls Tryz.prog 60 #[x, .agg #[.int .i64 26, .int .i64 a, .int .i64 b]] w fun e w' => e = .returned (.int .i64 1) ∧ Below w.heap.size w w' := by
  have HB := Lib.hid (below_a1 w (Obj.cells #[.int .i64 26, .int .i64 a, .int .i64 b] 62))
  go_enter Tryz.func60, Tryz.ntmps60
  go_wp2
  go_ret
  exact ⟨rfl, HB.out⟩
theorem instr_results (tmps : Array Value) (w : World) (b : Nat) (x y z : Int) (h : tmps.getD 2 undef = .pointer (some ⟨b, 0, none⟩)) (hb : w.heap[b]? = some (.cells #[.int .i64 x, .int .i64 y, .int .i64 z] 62 (0, 0))) :
    (results Tryz.f58 tmps).run Tryz.prog w = .ok (.agg #[.int .i64 x, .int .i64 y, .int .i64 z]) w :=
  results_cell_row Tryz.results58 tmps w b _ _ _ _ h hb Tryz.underlying62 rfl (by kernel_rfl)
theorem hold8 {V w' : World} {p fb fo cb co g : Nat} {t : TypeId} {cs : Array Value} {a b c0 c1 i0 i1 i2 : Value} (hp : V.heap[p]? = some (.cells cs t (0, 0))) (h1 : cs[1]? = some a) (h12 : cs[12]? = some b) (hf : V.cell? ⟨fb, fo, none⟩ = some c0) (hg0 : V.cell? ⟨g, 0, none⟩ = some (.int .i64 0)) (hg1 : V.cell? ⟨g, 1, none⟩ = some c1) (h3 : V.cell? ⟨cb, co, none⟩ = some i0) (h4 : V.cell? ⟨cb, co + 1, none⟩ = some i1) (h5 : V.cell? ⟨cb, co + 2, none⟩ = some i2) (hb : Below V.heap.size V w') :
    w'.cell? ⟨p, 1, none⟩ = some a ∧ w'.cell? ⟨p, 12, none⟩ = some b ∧ w'.cell? ⟨fb, fo, none⟩ = some c0 ∧ w'.cell? ⟨g, 0, none⟩ = some (.int .i64 0) ∧ w'.cell? ⟨g, 1, none⟩ = some c1 ∧ w'.cell? ⟨cb, co, none⟩ = some i0 ∧ w'.cell? ⟨cb, co + 1, none⟩ = some i1 ∧ w'.cell? ⟨cb, co + 2, none⟩ = some i2 ∧ Below V.heap.size V w' :=
  have h := blk_below hp hb (blk_lt hp)
  ⟨(blk_cell h 1).trans h1, (blk_cell h 12).trans h12, below_cell hf hb, below_cell hg0 hb, below_cell hg1 hb, below_cell h3 hb, below_cell h4 hb, below_cell h5 hb, hb⟩
theorem held8 {a b c d e f g h : Prop} {V w' : World} (hh : a ∧ b ∧ c ∧ d ∧ e ∧ f ∧ g ∧ h ∧ Below V.heap.size V w') : Below V.heap.size V w' := hh.2.2.2.2.2.2.2.2
end Go.Proofs.YtmceaeoeakkppaaGreatDoor
namespace Go.Proofs.YtmceaeoeakkppaaGreatDoor
open Go.RowKit Go.Sort
set_option linter.unusedVariables false
set_option maxRecDepth 100000 in
set_option maxHeartbeats 8000000 in
theorem instr_calls {S : Nat → Prop} {w : World} {p FB hp tp : Nat} {m : Md} {B0 B1 B2 B3 B4 : Option Addr} {m0 m1 m2 m3 m4 d0 d1 d2 d3 d4 : Nat} {q : Int} {MA : Option Addr} {mn mc fc pc : Nat} {LA : Option Addr} {ln lc : Nat} {SA : Option Addr} {sn sc : Nat} (h : Mc1 w p FB hp tp B0 B1 B2 B3 B4 m0 m1 m2 m3 m4 d0 d1 d2 d3 d4 q MA mn mc fc pc LA ln lc SA sn sc) (hM : MRow S w m B0 B1 B2 B3 B4 m0 m1 m2 m3 m4) (f : Fn) (hf : m.funcs[0]? = some f) (i : Ins) (hi : f.code[pc]? = some i) (hl : f.code.length ≤ 1000) :
    Calls Tryz.prog 58 #[.pointer (some ⟨p, 0, none⟩)] w fun e w' => e = .returned (.agg #[.int .i64 i.op, .int .i64 i.a, .int .i64 i.b]) ∧ Below w.heap.size w w' := by
  have hm1 : 0 < m1 := by have := (List.getElem?_eq_some_iff.1 hf).1; have := hM.e1; omega
  have hpl : pc < f.code.length := (List.getElem?_eq_some_iff.1 hi).1
  obtain ⟨b, o, A0, c0, A3, c3, A4, c4, rfl, hSb, -, -, -, -, f4, -, -, -, -, -, -, -, -, -, -, r4⟩ := k_func_at hM.r1 hf
  obtain ⟨cb, co, rfl, -, i0, i1, i2, -, -, -⟩ := k_instr_at r4 hi
  simp only [Nat.zero_mul, Nat.add_zero] at f4
  obtain ⟨e0, e1, -, -⟩ := h.cells
  have HB := Lib.hid h.box
  have HF4 := Lib.hid f4
  have HE0 := Lib.hid e0
  have HE1 := Lib.hid e1
  have HI0 := Lib.hid i0
  have HI1 := Lib.hid i1
  have HI2 := Lib.hid i2
  have KT := Lib.hid (fun W (hb : Below w.heap.size w W) => top_calls W p FB fc (blk_cell (blk_below h.box hb (blk_lt h.box)) 12))
  clear h hM hf hi f4 r4 i0 i1 i2 e0 e1
  go_enter Tryz.func58, Tryz.ntmps58
  go_upto_region 1 with fail
  go_region_held3 (fun w' => w'.cell? ⟨p, 1, none⟩ = some (.slice (some ⟨b, o, none⟩) m1 d1) ∧ w'.cell? ⟨p, 12, none⟩ = some (.slice (some ⟨FB, 0, none⟩) 1 fc) ∧ w'.cell? ⟨b, o + 4, none⟩ = some (.slice (some ⟨cb, co, none⟩) f.code.length c4) ∧ w'.cell? ⟨FB, 0, none⟩ = some (.int .i64 0) ∧ w'.cell? ⟨FB, 1, none⟩ = some (.int .i64 pc) ∧ w'.cell? ⟨cb, co + pc * 3, none⟩ = some (.int .i64 i.op) ∧ w'.cell? ⟨cb, co + pc * 3 + 1, none⟩ = some (.int .i64 i.a) ∧ w'.cell? ⟨cb, co + pc * 3 + 2, none⟩ = some (.int .i64 i.b) ∧ Below w.heap.size w w')
    (first | (refine hold8 HB.out rfl rfl HF4.out HE0.out HE1.out HI0.out HI1.out HI2.out ?_; repeat (first | assumption | exact Below.refl _ _ | exact held8 (by assumption) | refine Below.setCell (p := ⟨_, _, none⟩) ?_ (by first | exact Nat.le_refl _ | (simp; done) | omega) _ | refine Below.drew ?_ | refine below_up ?_ _)))
    (first
      | (go_at_call 59; go_must (refine (KT.out _ (held8 (by assumption))).mono ?_; rintro e w1 ⟨rfl, hb1⟩; have hbw : Below w.heap.size w w1 := Below.trans (held8 (by assumption)) (hb1.mono (held8 (by assumption)).size); first | (have hx2 : w1.heap[w.heap.size]? = some (.cells #[.int .i64 0, .int .i64 0, .int .i64 0] 62 (0, 0)) := blk_below hx1 hb1 (blk_lt hx1); have q0 := (cells3 hx2).1; have q1 := (cells3 hx2).2.1; have q2 := (cells3 hx2).2.2; have q3 := blk_frozen hx2 0; have q4 := blk_frozen hx2 1; have q5 := blk_frozen hx2 2) | (have hx1 : w1.heap[w.heap.size]? = some (.cells #[.int .i64 0, .int .i64 0, .int .i64 0] 62 (0, 0)) := blk_below (blk_drew (blk_new w (Obj.cells #[.int .i64 0, .int .i64 0, .int .i64 0] 62))) hb1 (blk_lt (blk_new w (Obj.cells #[.int .i64 0, .int .i64 0, .int .i64 0] 62))))))
    )
  all_goals
    go_wp2
    have hr := blk_set (blk_set (blk_set hx2 0 (.int .i64 i.op)) 1 (.int .i64 i.a)) 2 (.int .i64 i.b)
    refine bodyPost_ret (instr_results _ _ w.heap.size i.op i.a i.b rfl (by simpa using hr)) rfl ⟨rfl, ?_⟩
    exact ((hbw.setCell (p := ⟨_, 0, none⟩) (Nat.le_refl _) _).setCell (p := ⟨_, 1, none⟩) (Nat.le_refl _) _).setCell (p := ⟨_, 2, none⟩) (Nat.le_refl _) _
end Go.Proofs.YtmceaeoeakkppaaGreatDoor
namespace Go.Proofs.YtmceaeoeakkppaaGreatDoor
open Go.RowKit Go.Sort
set_option linter.unusedVariables false
theorem hold3d {V w' : World} {p g b o : Nat} {t t' : TypeId} {cs cs' : Array Value} {a c v : Value} (hp : V.heap[p]? = some (.cells cs t (0, 0))) (ha : cs[3]? = some a) (hg : V.heap[g]? = some (.cells cs' t' (0, 0))) (hc : cs'[1]? = some c) (hv : V.cell? ⟨b, o, none⟩ = some v) (hb : Below V.heap.size V w') :
    w'.cell? ⟨p, 3, none⟩ = some a ∧ w'.cell? ⟨g, 1, none⟩ = some c ∧ w'.cell? ⟨b, o, none⟩ = some v ∧ Below V.heap.size V w' :=
  ⟨(blk_cell (blk_below hp hb (blk_lt hp)) 3).trans ha, (blk_cell (blk_below hg hb (blk_lt hg)) 1).trans hc, below_cell hv hb, hb⟩
theorem held3d {a b c : Prop} {V w' : World} (hh : a ∧ b ∧ c ∧ Below V.heap.size V w') : Below V.heap.size V w' := hh.2.2.2
set_option maxRecDepth 100000 in
set_option maxHeartbeats 4000000 in
theorem Do_0 {S : Nat → Prop} (w : World) (p : Nat) (cs : Array Value) (t : TypeId) (B3 : Option Addr) (m3 d3 : Nat) (ints : List Int) (hp : w.heap[p]? = some (.cells cs t (0, 0))) (h3 : cs[3]? = some (.slice B3 m3 d3)) (hn : ints.length = m3) (hS : ∀ b, S b → b < w.heap.size) (row : (Rd.int .u64).Row S w B3 ints) (k : Nat) (v : Int) (hv : ints[k]? = some v) (b : Int) (inn ans : Value) :
    Calls Tryz.prog 98 #[.pointer (some ⟨p, 0, none⟩), .agg #[.int .i64 0, .int .i64 (k : Int), .int .i64 b], inn, ans] w fun e w' => ∃ g, e = .returned (.slice (some ⟨g, 0, none⟩) 1 1) ∧ w'.heap[g]? = some (.cells #[.int .u64 v] 32 (0, 0)) ∧ w.heap.size ≤ g ∧ Below w.heap.size w w' := by
  have hkl : k < m3 := by have := (List.getElem?_eq_some_iff.1 hv).1; omega
  obtain ⟨ib, io, rfl, hSb, hc⟩ := row (by omega)
  obtain ⟨cs1, hK, hcell⟩ := hc k (by omega)
  have hv1 : w.cell? ⟨ib, io + k, none⟩ = some (.int .u64 v) := by
    have h1 := hK.1
    have h2 := List.getElem?_eq_getElem (l := ints) (i := k) (by omega)
    rw [h2] at hv
    injection hv with hv
    rw [hv] at h1
    have := hcell 0 _ (by rw [h1]; rfl)
    simpa [Rd.int] using this
  have hV := below_a1 w (Obj.cells #[.int .i64 0, .int .i64 (k : Int), .int .i64 b] 62)
  have HP := Lib.hid (blk_below hp hV (blk_lt hp))
  have HX := Lib.hid (blk_new w (Obj.cells #[.int .i64 0, .int .i64 (k : Int), .int .i64 b] 62))
  have HI := Lib.hid (below_cell hv1 hV)
  have H3 := Lib.hid h3
  have HV := Lib.hid hV
  clear hp h3 row hv hc hK hcell hv1 hV hn hS
  go_enter Tryz.func98, Tryz.ntmps98
  go_upto_region 3 with fail
  generalize (w.alloc (Obj.cells #[.int .i64 0, .int .i64 (k : Int), .int .i64 b] 62)) = V at *
  go_region_held3 (fun w' => w'.cell? ⟨p, 3, none⟩ = some (.slice (some ⟨ib, io, none⟩) m3 d3) ∧ w'.cell? ⟨w.heap.size, 1, none⟩ = some (.int .i64 (k : Int)) ∧ w'.cell? ⟨ib, io + k, none⟩ = some (.int .u64 v) ∧ Below V.heap.size V w')
    (first | (refine hold3d HP.out H3.out HX.out rfl HI.out ?_; repeat (first | assumption | exact Below.refl _ _ | exact held3d (by assumption) | refine Below.drew ?_ | refine below_up ?_ _)))
    (first | fail)
  all_goals
    go_wp2
    go_ret
    exact ⟨V.heap.size, rfl, blk_drew (blk_new V _), HV.out.size, (HV.out.trans ((below_a1 V _).mono HV.out.size)).drew⟩
theorem holdK {V w' : World} {g FB : Nat} {t : TypeId} {a b c : Value} (hg : V.heap[g]? = some (.cells #[a, b, c] t (0, 0))) (hne : g ≠ FB) (hk : Keeps (fun x => x = FB) V w') :
    w'.cell? ⟨g, 0, none⟩ = some a ∧ w'.cell? ⟨g, 1, none⟩ = some b ∧ w'.cell? ⟨g, 2, none⟩ = some c ∧ Keeps (fun x => x = FB) V w' :=
  have h := blk_keeps hg hk hne
  ⟨blk_cell h 0, blk_cell h 1, blk_cell h 2, hk⟩
theorem heldK {a b c : Prop} {V w' : World} {FB : Nat} (hh : a ∧ b ∧ c ∧ Keeps (fun x => x = FB) V w') : Keeps (fun x => x = FB) V w' := hh.2.2.2
set_option maxRecDepth 100000 in
set_option maxHeartbeats 8000000 in
theorem do_0 {S : Nat → Prop} {w : World} {p FB hp tp : Nat} {m : Md} {B0 B1 B2 B3 B4 : Option Addr} {m0 m1 m2 m3 m4 d0 d1 d2 d3 d4 : Nat} {q : Int} {MA : Option Addr} {mn mc fc pc : Nat} {LA : Option Addr} {ln lc : Nat} (h : Mc1 w p FB hp tp B0 B1 B2 B3 B4 m0 m1 m2 m3 m4 d0 d1 d2 d3 d4 q MA mn mc fc pc LA ln lc none 0 0) (hM : MRow S w m B0 B1 B2 B3 B4 m0 m1 m2 m3 m4) (hSF : ∀ b, S b → b ≠ FB) (hpc : pc ≤ 1000) (k : Nat) (v : Int) (hv : m.ints[k]? = some v) (b : Int) (inn ans : Value) :
    Calls Tryz.prog 62 #[.pointer (some ⟨p, 0, none⟩), .agg #[.int .i64 0, .int .i64 (k : Int), .int .i64 b], inn, ans] w fun e w' => e = .returned (.tuple #[]) ∧ ∃ SA sc, Mc1 w' p FB hp tp B0 B1 B2 B3 B4 m0 m1 m2 m3 m4 d0 d1 d2 d3 d4 q MA mn mc fc (pc + 1) LA ln lc SA 1 sc ∧ 1 ≤ sc ∧ Lie w' SA 1 [.int .u64 v] ∧ (∀ g o, SA = some ⟨g, o, none⟩ → w.heap.size ≤ g) ∧ Keeps (fun x => x = FB) w w' := by
  have hV := below_a1 w (Obj.cells #[.int .i64 0, .int .i64 (k : Int), .int .i64 b] 62)
  have hX := blk_new w (Obj.cells #[.int .i64 0, .int .i64 (k : Int), .int .i64 b] 62)
  have hh := h.below hV
  have KT := Lib.hid (top_calls _ p FB fc (blk_cell hh.box 12))
  obtain ⟨cs, h1, h2, h3, h4, h5, h6⟩ := hh.fr
  have hFlt : FB < w.heap.size := by obtain ⟨cs', h', _⟩ := h.fr; exact blk_lt h'
  have hpF : p ≠ FB := by obtain ⟨cs', h', _⟩ := h.fr; exact blk_ne h.box h' (by decide)
  have HF := Lib.hid h1
  have HC1 := Lib.hid h4
  have HC0 := Lib.hid h3
  have HC2 := Lib.hid h5
  have HC3 := Lib.hid h6
  have HCs := Lib.hid h2
  have HX := Lib.hid hX
  have HV := Lib.hid hV
  have HH := Lib.hid h
  have HM := Lib.hid hM
  have HSF := Lib.hid hSF
  have HVv := Lib.hid hv
  have hwp : wrap64 ((pc : Int) + 1) = pc + 1 := by unfold wrap64; omega
  clear h hM hSF hv hV hX hh h1 h2 h3 h4 h5 h6
  go_enter Tryz.func62, Tryz.ntmps62
  go_upto_region 4 with (go_at_call 59; go_must (refine KT.out.mono ?_; rintro e w1 ⟨rfl, hb1⟩; have hf1 := blk_below HF.out hb1 (blk_lt HF.out); have y1 : w1.cell? ⟨FB, 1, none⟩ = some (.int .i64 pc) := (blk_cell hf1 1).trans HC1.out; have y2 := blk_frozen hf1 1; have HB1 := Lib.hid (HV.out.trans (hb1.mono HV.out.size)); have HX1 := Lib.hid (blk_below HX.out hb1 (blk_lt HX.out)); have HF1 := Lib.hid hf1; clear hb1 hf1))
  have hne : w.heap.size ≠ FB := by omega
  have hkV : Keeps (fun x => x = FB) w (w1.setCell ⟨FB, 1, none⟩ (.int .i64 ((pc : Int) + 1))) := (Keeps.of_below (F := fun x => x = FB) HB1.out).setCell (p := ⟨FB, 1, none⟩) (fun _ => rfl) _
  have hXV : (w1.setCell ⟨FB, 1, none⟩ (.int .i64 ((pc : Int) + 1))).heap[w.heap.size]? = some (.cells #[.int .i64 0, .int .i64 (k : Int), .int .i64 b] 62 (0, 0)) := blk_far HX1.out hne _
  have hFV := blk_set HF1.out 1 (.int .i64 ((pc : Int) + 1))
  generalize (w1.setCell ⟨FB, 1, none⟩ (.int .i64 ((pc : Int) + 1))) = V at *
  have hc3 : (cs.setIfInBounds 1 (.int .i64 ((pc : Int) + 1)))[3]? = some (.slice none 0 0) := by rw [Array.getElem?_setIfInBounds_ne (by decide)]; exact HC3.out
  have z3 : V.cell? ⟨FB, 3, none⟩ = some (.slice none 0 0) := (blk_cell hFV 3).trans hc3
  have x0 : V.cell? ⟨w.heap.size, 0, none⟩ = some (.int .i64 0) := blk_cell hXV 0
  have HP := Lib.hid (blk_keeps HH.out.box hkV hpF)
  have HR3 := Lib.hid (HM.out.r3.keep (fun b hb => hkV.block b (HM.out.lt b hb) (HSF.out b hb)))
  have HLt := Lib.hid (fun b hb => Nat.lt_of_lt_of_le (HM.out.lt b hb) hkV.size)
  have HXV := Lib.hid hXV
  have HFV := Lib.hid hFV
  have HKV := Lib.hid hkV
  have HC3 := Lib.hid hc3
  clear hXV hFV hkV hc3 y1 y2
  go_upto_region 3 with fail
  have x1 : V.cell? ⟨w.heap.size, 1, none⟩ = some (.int .i64 (k : Int)) := blk_cell HXV.out 1
  have x2 : V.cell? ⟨w.heap.size, 2, none⟩ = some (.int .i64 b) := blk_cell HXV.out 2
  go_region_law (first
      | (go_simp; go_at_call 98; (refine (Do_0 (S := S) V.drew p _ _ B3 m3 d3 m.ints HP.out rfl HM.out.e3 HLt.out HR3.out k v HVv.out b _ _).mono ?_; rintro e w5 ⟨g, rfl, hg5, hge5, hb5⟩; have hkV5 : Keeps (fun x => x = FB) V w5 := ((Keeps.refl (fun x => x = FB) V).drew).trans (Keeps.of_below hb5); have hf5 := blk_below (blk_drew HFV.out) hb5 (blk_lt HFV.out); have z5 : w5.cell? ⟨FB, 3, none⟩ = some (.slice none 0 0) := (blk_cell hf5 3).trans HC3.out))
      | ((refine step_app _ (by rfl) (.tmp 22) (.tmp 29) _ (by rfl) 32 Tryz.underlying25 word_info rfl (by decide) (by decide) V.heap.size (n := 0) (xs := []) (by rfl) (World.ownsRow_nil w5 _ _ _) (news := [.int .u64 v]) (by rfl) (by rfl) (lie_blk hg5 (fun j u hj => by simpa using hj)) (by intro u hu; rw [List.mem_singleton.1 hu]; rfl) (by omega) hb5.size ?_; intro v' w6 hown hg hat; simp only [Nat.zero_add, List.nil_append] at hown; obtain ⟨A6, c6, rfl, hc6, _, hA6⟩ := own_shape hown; have hkV6 : Keeps (fun x => x = FB) V w6 := hkV5.grown hg (fun g hg _ => by cases hg); have hf6 := blk_grown hf5 hg (by intro e; cases e); have z6 : w6.cell? ⟨FB, 3, none⟩ = some (.slice none 0 0) := (blk_cell hf6 3).trans HC3.out; have z7 := blk_frozen hf6 3)))
  all_goals
    go_wp2
    (try simp only [Exit.inBlock, Exit.then])
    refine bodyPost_end (v := .tuple #[]) (by simp [results, Tryz.results62, go_sem]) rfl ⟨rfl, A6, c6, ⟨?_, ?_⟩, hc6, ?_, ?_, ?_⟩
    · exact blk_far (blk_keeps HP.out hkV6 hpF) hpF _
    · refine ⟨_, blk_set hf6 3 _, by simpa using HCs.out, ?_, ?_, ?_, ?_⟩
      · rw [Array.getElem?_setIfInBounds_ne (by decide), Array.getElem?_setIfInBounds_ne (by decide)]; exact HC0.out
      · have := HCs.out
        rw [Array.getElem?_setIfInBounds_ne (by decide), Array.getElem?_setIfInBounds_self_of_lt (by omega)]; push_cast; rfl
      · rw [Array.getElem?_setIfInBounds_ne (by decide), Array.getElem?_setIfInBounds_ne (by decide)]; exact HC2.out
      · have := HCs.out
        rw [Array.getElem?_setIfInBounds_self_of_lt (by simp; omega)]
    · exact own_lie (own_set_far hown (p := ⟨FB, 3, none⟩) (fun e => by have h1 := (hown.lt FB e).1; have h2 := HKV.out.size; omega) _)
    · intro g' o' e
      obtain ⟨g'', hg'', hb'', _⟩ := hA6 (by decide)
      rw [hg''] at e
      cases e
      exact Nat.le_trans HKV.out.size hb''
    · exact (HKV.out.trans hkV6).setCell (p := ⟨FB, 3, none⟩) (fun _ => rfl) _
end Go.Proofs.YtmceaeoeakkppaaGreatDoor
namespace Go.Proofs.YtmceaeoeakkppaaGreatDoor
open Go.RowKit Go.Sort
set_option linter.unusedVariables false
/-- A machine that has ended with a number. -/
def McE (w : World) (p FB hp tp : Nat) (B0 B1 B2 B3 B4 : Option Addr) (m0 m1 m2 m3 m4 d0 d1 d2 d3 d4 : Nat) (q : Int) (MA : Option Addr) (mn mc fc : Nat) (v : Int) : Prop :=
  w.heap[p]? = some (.cells #[.slice B0 m0 d0, .slice B1 m1 d1, .slice B2 m2 d2, .slice B3 m3 d3, .slice B4 m4 d4, .pointer (some ⟨hp, 0, none⟩), .pointer (some ⟨tp, 0, none⟩), .int .i64 q, .int .i64 1, .int .u64 v, .slice none 0 0, .slice MA mn mc, .slice (some ⟨FB, 0, none⟩) 0 fc] 101 (0, 0))
theorem slice_none (w : World) (FB fc : Nat) : (Instr.slice 29 (.slice (some ⟨FB, 0, none⟩) 1 fc) none (some (.int .i64 0)) none).run Tryz.prog w = .ok (.slice (some ⟨FB, 0, none⟩) 0 fc) w := by
  have hu := Tryz.underlying29
  simp [Instr.slice, run_underlying hu, go_sem]
set_option maxRecDepth 100000 in
set_option maxHeartbeats 4000000 in
theorem back_calls {w : World} {p FB hp tp : Nat} {B0 B1 B2 B3 B4 : Option Addr} {m0 m1 m2 m3 m4 d0 d1 d2 d3 d4 : Nat} {q : Int} {MA : Option Addr} {mn mc fc pc : Nat} {LA : Option Addr} {ln lc : Nat} {SA : Option Addr} {sn sc : Nat} (h : Mc1 w p FB hp tp B0 B1 B2 B3 B4 m0 m1 m2 m3 m4 d0 d1 d2 d3 d4 q MA mn mc fc pc LA ln lc SA sn sc) (v : Int) :
    Calls Tryz.prog 97 #[.pointer (some ⟨p, 0, none⟩), .int .u64 v] w fun e w' => e = .returned (.tuple #[]) ∧ McE w' p FB hp tp B0 B1 B2 B3 B4 m0 m1 m2 m3 m4 d0 d1 d2 d3 d4 q MA mn mc fc v ∧ Keeps (fun x => x = p) w w' := by
  have hb := h.box
  have c12 : w.cell? ⟨p, 12, none⟩ = some (.slice (some ⟨FB, 0, none⟩) 1 fc) := blk_cell hb 12
  have f12 := blk_frozen hb 12
  have hsl := fun W => slice_none W FB fc
  have hw0 : IntKind.i64.wrap 0 = 0 := rfl
  have HB := Lib.hid hb
  clear h hb
  go_enter Tryz.func97, Tryz.ntmps97
  go_upto_region 0 with fail
  go_region_law (first | fail)
  all_goals
    have hr := blk_set HB.out 12 (.slice (some ⟨FB, 0, none⟩) 0 fc)
    have hk : Keeps (fun x => x = p) w (w.setCell ⟨p, 12, none⟩ (.slice (some ⟨FB, 0, none⟩) 0 fc)).drew := ((Keeps.refl (fun x => x = p) w).setCell (p := ⟨p, 12, none⟩) (fun _ => rfl) _).drew
    have hx : (w.setCell ⟨p, 12, none⟩ (.slice (some ⟨FB, 0, none⟩) 0 fc)).drew.heap[p]? = some (.cells #[.slice B0 m0 d0, .slice B1 m1 d1, .slice B2 m2 d2, .slice B3 m3 d3, .slice B4 m4 d4, .pointer (some ⟨hp, 0, none⟩), .pointer (some ⟨tp, 0, none⟩), .int .i64 q, .int .i64 0, .int .u64 0, .slice none 0 0, .slice MA mn mc, .slice (some ⟨FB, 0, none⟩) 0 fc] 101 (0, 0)) := blk_drew (by simpa using hr)
    generalize (w.setCell ⟨p, 12, none⟩ (.slice (some ⟨FB, 0, none⟩) 0 fc)).drew = V at *
    clear c12 f12 hr
    have y12 : V.cell? ⟨p, 12, none⟩ = some (.slice (some ⟨FB, 0, none⟩) 0 fc) := blk_cell hx 12
    have y8 : V.cell? ⟨p, 8, none⟩ = some (.int .i64 0) := blk_cell hx 8
    have y9 : V.cell? ⟨p, 9, none⟩ = some (.int .u64 0) := blk_cell hx 9
    have z8 := blk_frozen hx 8
    have z9 := blk_frozen hx 9
    have HX := Lib.hid hx
    have HK := Lib.hid hk
    clear hx hk
    go_wp2
    have hr := blk_set (blk_set HX.out 8 (.int .i64 1)) 9 (.int .u64 v)
    (try simp only [Exit.inBlock, Exit.then])
    first
    | refine bodyPost_ret (v := .tuple #[]) (by simp [results, Tryz.results97, go_sem]) rfl ⟨rfl, by unfold McE; simpa using hr, (HK.out.setCell (p := ⟨p, 8, none⟩) (fun _ => rfl) _).setCell (p := ⟨p, 9, none⟩) (fun _ => rfl) _⟩
    | refine bodyPost_end (v := .tuple #[]) (by simp [results, Tryz.results97, go_sem]) rfl ⟨rfl, by unfold McE; simpa using hr, (HK.out.setCell (p := ⟨p, 8, none⟩) (fun _ => rfl) _).setCell (p := ⟨p, 9, none⟩) (fun _ => rfl) _⟩
set_option maxRecDepth 100000 in
set_option maxHeartbeats 4000000 in
theorem do_26 {w : World} {p FB hp tp : Nat} {B0 B1 B2 B3 B4 : Option Addr} {m0 m1 m2 m3 m4 d0 d1 d2 d3 d4 : Nat} {q : Int} {MA : Option Addr} {mn mc fc pc : Nat} {LA : Option Addr} {ln lc : Nat} {SA : Option Addr} {sn sc : Nat} (h : Mc1 w p FB hp tp B0 B1 B2 B3 B4 m0 m1 m2 m3 m4 d0 d1 d2 d3 d4 q MA mn mc fc pc LA ln lc SA sn sc) (hpc : pc ≤ 1000) (a b : Int) (IA : Option Addr) (ic : Nat) (v : Int) (hI : Lie w IA 1 [.int .u64 v]) (hIF : ∀ g o, IA = some ⟨g, o, none⟩ → g ≠ FB) (ans : Value) :
    Calls Tryz.prog 62 #[.pointer (some ⟨p, 0, none⟩), .agg #[.int .i64 26, .int .i64 a, .int .i64 b], .slice IA 1 ic, ans] w fun e w' => e = .returned (.tuple #[]) ∧ McE w' p FB hp tp B0 B1 B2 B3 B4 m0 m1 m2 m3 m4 d0 d1 d2 d3 d4 q MA mn mc fc v ∧ Keeps (fun x => x = p ∨ x = FB) w w' := by
  have hV := below_a1 w (Obj.cells #[.int .i64 26, .int .i64 a, .int .i64 b] 62)
  have hX := blk_new w (Obj.cells #[.int .i64 26, .int .i64 a, .int .i64 b] 62)
  have hh := h.below hV
  have KT := Lib.hid (top_calls _ p FB fc (blk_cell hh.box 12))
  obtain ⟨cs, h1, h2, h3, h4, h5, h6⟩ := hh.fr
  have hFlt : FB < w.heap.size := by obtain ⟨cs', h', _⟩ := h.fr; exact blk_lt h'
  have hpF : p ≠ FB := by obtain ⟨cs', h', _⟩ := h.fr; exact blk_ne h.box h' (by decide)
  obtain ⟨ig, io, rfl, hI1⟩ := hI (by decide)
  have v1 : w.cell? ⟨ig, io, none⟩ = some (.int .u64 v) := by have := hI1 0 _ rfl; simpa using this
  have hgF := hIF ig io rfl
  have HF := Lib.hid h1
  have HC0 := Lib.hid h3
  have HC1 := Lib.hid h4
  have HC2 := Lib.hid h5
  have HC3 := Lib.hid h6
  have HCs := Lib.hid h2
  have HX := Lib.hid hX
  have HV := Lib.hid hV
  have HH := Lib.hid h
  have HVv := Lib.hid v1
  have hwp : wrap64 ((pc : Int) + 1) = pc + 1 := by unfold wrap64; omega
  clear h hV hX hh h1 h2 h3 h4 h5 h6 hI hIF hI1 v1
  go_enter Tryz.func62, Tryz.ntmps62
  go_upto_region 4 with (go_at_call 59; go_must (refine KT.out.mono ?_; rintro e w1 ⟨rfl, hb1⟩; have hf1 := blk_below HF.out hb1 (blk_lt HF.out); have y1 : w1.cell? ⟨FB, 1, none⟩ = some (.int .i64 pc) := (blk_cell hf1 1).trans HC1.out; have y2 := blk_frozen hf1 1; have HB1 := Lib.hid (HV.out.trans (hb1.mono HV.out.size)); have HX1 := Lib.hid (blk_below HX.out hb1 (blk_lt HX.out)); have HF1 := Lib.hid hf1; clear hb1 hf1))
  have hne : w.heap.size ≠ FB := by omega
  have hkV : Keeps (fun x => x = FB) w (w1.setCell ⟨FB, 1, none⟩ (.int .i64 ((pc : Int) + 1))) := (Keeps.of_below (F := fun x => x = FB) HB1.out).setCell (p := ⟨FB, 1, none⟩) (fun _ => rfl) _
  have hXV : (w1.setCell ⟨FB, 1, none⟩ (.int .i64 ((pc : Int) + 1))).heap[w.heap.size]? = some (.cells #[.int .i64 26, .int .i64 a, .int .i64 b] 62 (0, 0)) := blk_far HX1.out hne _
  have hFV := blk_set HF1.out 1 (.int .i64 ((pc : Int) + 1))
  generalize (w1.setCell ⟨FB, 1, none⟩ (.int .i64 ((pc : Int) + 1))) = V at *
  have x0 : V.cell? ⟨w.heap.size, 0, none⟩ = some (.int .i64 26) := blk_cell hXV 0
  have x3 : V.cell? ⟨ig, io, none⟩ = some (.int .u64 v) := (World.cell?_of_block (a := ⟨ig, io, none⟩) (hkV.block ig (World.block_lt_of_cell? w ⟨ig, io, none⟩ HVv.out) hgF)).trans HVv.out
  have hmc : Mc1 V p FB hp tp B0 B1 B2 B3 B4 m0 m1 m2 m3 m4 d0 d1 d2 d3 d4 q MA mn mc fc (pc + 1) LA ln lc SA sn sc := by
    refine ⟨blk_keeps HH.out.box hkV hpF, _, hFV, by simpa using HCs.out, ?_, ?_, ?_, ?_⟩
    · rw [Array.getElem?_setIfInBounds_ne (by decide)]; exact HC0.out
    · have := HCs.out
      rw [Array.getElem?_setIfInBounds_self_of_lt (by omega)]; push_cast; rfl
    · rw [Array.getElem?_setIfInBounds_ne (by decide)]; exact HC2.out
    · rw [Array.getElem?_setIfInBounds_ne (by decide)]; exact HC3.out
  have KB := Lib.hid (back_calls hmc v)
  have HKV := Lib.hid hkV
  clear hmc hkV hXV hFV y1 y2
  go_wp2_with (go_at_call 97; go_must (refine KB.out.mono ?_; rintro e w5 ⟨rfl, hE, hk5⟩; have HE := Lib.hid hE; have HK5 := Lib.hid hk5; clear hE hk5))
  (try simp only [Exit.inBlock, Exit.then])
  have hkk : Keeps (fun x => x = p ∨ x = FB) w w5 := (HKV.out.mono (fun x _ h => .inr h)).step HK5.out (fun x _ h => .inl h)
  first
  | exact bodyPost_end (v := .tuple #[]) (by simp [results, Tryz.results62, go_sem]) rfl ⟨rfl, HE.out, hkk⟩
  | exact bodyPost_ret (v := .tuple #[]) (by simp [results, Tryz.results62, go_sem]) rfl ⟨rfl, HE.out, hkk⟩
end Go.Proofs.YtmceaeoeakkppaaGreatDoor
namespace Go.Proofs.YtmceaeoeakkppaaGreatDoor
open Go.RowKit Go.Sort
set_option linter.unusedVariables false
theorem set_same {cs : Array Value} {i : Nat} {v : Value} (h : cs[i]? = some v) : cs.setIfInBounds i v = cs := by
  apply Array.ext'
  rw [Array.toList_setIfInBounds]
  apply List.ext_getElem?
  intro j
  rw [List.getElem?_set]
  split
  · rename_i hj
    subst hj
    split
    · simpa using h.symm
    · rename_i hlt
      simp at hlt
      simp [hlt]
  · rfl
theorem Mc1.fz {w : World} {p FB hp tp : Nat} {B0 B1 B2 B3 B4 : Option Addr} {m0 m1 m2 m3 m4 d0 d1 d2 d3 d4 : Nat} {q : Int} {MA : Option Addr} {mn mc fc pc : Nat} {LA : Option Addr} {ln lc : Nat} {SA : Option Addr} {sn sc : Nat} (h : Mc1 w p FB hp tp B0 B1 B2 B3 B4 m0 m1 m2 m3 m4 d0 d1 d2 d3 d4 q MA mn mc fc pc LA ln lc SA sn sc) : w.frozen? ⟨FB, 3, none⟩ = false := by
  obtain ⟨cs', h', _⟩ := h.fr
  exact blk_frozen h' 3
theorem Mc1.lt {w : World} {p FB hp tp : Nat} {B0 B1 B2 B3 B4 : Option Addr} {m0 m1 m2 m3 m4 d0 d1 d2 d3 d4 : Nat} {q : Int} {MA : Option Addr} {mn mc fc pc : Nat} {LA : Option Addr} {ln lc : Nat} {SA : Option Addr} {sn sc : Nat} (h : Mc1 w p FB hp tp B0 B1 B2 B3 B4 m0 m1 m2 m3 m4 d0 d1 d2 d3 d4 q MA mn mc fc pc LA ln lc SA sn sc) : FB < w.heap.size ∧ p ≠ FB := by
  obtain ⟨cs', h', _⟩ := h.fr
  exact ⟨blk_lt h', blk_ne h.box h' (by decide)⟩
/-- Another stack. -/
theorem Mc1.stack {w : World} {p FB hp tp : Nat} {B0 B1 B2 B3 B4 : Option Addr} {m0 m1 m2 m3 m4 d0 d1 d2 d3 d4 : Nat} {q : Int} {MA : Option Addr} {mn mc fc pc : Nat} {LA : Option Addr} {ln lc : Nat} {SA : Option Addr} {sn sc : Nat} (h : Mc1 w p FB hp tp B0 B1 B2 B3 B4 m0 m1 m2 m3 m4 d0 d1 d2 d3 d4 q MA mn mc fc pc LA ln lc SA sn sc) (A : Option Addr) (n c : Nat) : Mc1 (w.setCell ⟨FB, 3, none⟩ (.slice A n c)) p FB hp tp B0 B1 B2 B3 B4 m0 m1 m2 m3 m4 d0 d1 d2 d3 d4 q MA mn mc fc pc LA ln lc A n c := by
  obtain ⟨cs', h', hs, e0, e1, e2, e3⟩ := h.fr
  refine ⟨blk_far h.box h.lt.2 _, _, blk_set h' 3 _, by simpa using hs, ?_, ?_, ?_, ?_⟩
  · rw [Array.getElem?_setIfInBounds_ne (by decide)]; exact e0
  · rw [Array.getElem?_setIfInBounds_ne (by decide)]; exact e1
  · rw [Array.getElem?_setIfInBounds_ne (by decide)]; exact e2
  · rw [Array.getElem?_setIfInBounds_self_of_lt (by omega)]
set_option maxRecDepth 100000 in
theorem taken_calls (w : World) (p : Nat) (cs : Array Value) (t : TypeId) (h : w.heap[p]? = some (.cells cs t (0, 0))) (h10 : cs[10]? = some (.slice none 0 0)) :
    Calls Tryz.prog 63 #[.pointer (some ⟨p, 0, none⟩)] w fun e w' => e = .returned (.slice none 0 0) ∧ w'.heap[p]? = some (.cells cs t (0, 0)) ∧ Keeps (fun x => x = p) w w' := by
  have c10 : w.cell? ⟨p, 10, none⟩ = some (.slice none 0 0) := (blk_cell h 10).trans h10
  have f10 := blk_frozen h 10
  have HS := Lib.hid (blk_set h 10 (.slice none 0 0))
  have HC := Lib.hid (set_same h10)
  clear h h10
  go_enter Tryz.func63, Tryz.ntmps63
  go_wp2
  go_ret
  refine ⟨rfl, ?_, (Keeps.refl (fun x => x = p) w).setCell (p := ⟨p, 10, none⟩) (fun _ => rfl) _⟩
  have := HS.out
  rw [HC.out] at this
  exact this
theorem slice_nil0 (w : World) : (Instr.slice 25 (.slice none 0 0) (some (.int .i64 0)) none none).run Tryz.prog w = .ok (.slice none 0 0) w := by
  have hu := Tryz.underlying25
  simp [Instr.slice, run_underlying hu, go_sem]
theorem slice_nil1 (w : World) : (Instr.slice 25 (.slice none 0 0) none (some (.int .i64 0)) none).run Tryz.prog w = .ok (.slice none 0 0) w := by
  have hu := Tryz.underlying25
  simp [Instr.slice, run_underlying hu, go_sem]
theorem MRow.keepF {S : Nat → Prop} {w w' : World} {m : Md} {B0 B1 B2 B3 B4 : Option Addr} {m0 m1 m2 m3 m4 : Nat} (h : MRow S w m B0 B1 B2 B3 B4 m0 m1 m2 m3 m4) (hk : ∀ b, S b → w'.heap[b]? = w.heap[b]?) (hs : w.heap.size ≤ w'.heap.size) : MRow S w' m B0 B1 B2 B3 B4 m0 m1 m2 m3 m4 :=
  ⟨h.e0, h.e1, h.e2, h.e3, h.e4, h.r0.keep hk, h.r1.keep hk, h.r2.keep hk, h.r3.keep hk, h.r4.keep hk, fun b hb' => Nat.lt_of_lt_of_le (h.lt b hb') hs⟩
set_option maxRecDepth 100000 in
set_option maxHeartbeats 8000000 in
theorem next_0 {S : Nat → Prop} {w : World} {p FB hp tp : Nat} {m : Md} {B0 B1 B2 B3 B4 : Option Addr} {m0 m1 m2 m3 m4 d0 d1 d2 d3 d4 : Nat} {q : Int} {MA : Option Addr} {mn mc fc pc : Nat} {LA : Option Addr} {ln lc : Nat} (h : Mc1 w p FB hp tp B0 B1 B2 B3 B4 m0 m1 m2 m3 m4 d0 d1 d2 d3 d4 q MA mn mc fc pc LA ln lc none 0 0) (hM : MRow S w m B0 B1 B2 B3 B4 m0 m1 m2 m3 m4) (hSF : ∀ b, S b → b ≠ FB) (f : Fn) (hf : m.funcs[0]? = some f) (hl : f.code.length ≤ 1000) (k : Nat) (b : Int) (hi : f.code[pc]? = some ⟨0, k, b⟩) (v : Int) (hv : m.ints[k]? = some v) (ans : Value) :
    Calls Tryz.prog 25 #[.pointer (some ⟨p, 0, none⟩), ans] w fun e w' => e = .returned (.tuple #[.slice none 0 0, .bool true]) ∧ ∃ SA sc, Mc1 w' p FB hp tp B0 B1 B2 B3 B4 m0 m1 m2 m3 m4 d0 d1 d2 d3 d4 q MA mn mc fc (pc + 1) LA ln lc SA 1 sc ∧ 1 ≤ sc ∧ Lie w' SA 1 [.int .u64 v] ∧ (∀ g o, SA = some ⟨g, o, none⟩ → w.heap.size ≤ g) ∧ Keeps (fun x => x = FB ∨ x = p) w w' := by
  have hpc : pc ≤ 1000 := by have := (List.getElem?_eq_some_iff.1 hi).1; omega
  have c8 : w.cell? ⟨p, 8, none⟩ = some (.int .i64 0) := blk_cell h.box 8
  have KI := Lib.hid (instr_calls h hM f hf _ hi hl)
  have HH := Lib.hid h
  have HM := Lib.hid hM
  have HSF := Lib.hid hSF
  have HVv := Lib.hid hv
  have hnil : ∀ w' : World, (binOp .eql 25 (.slice none 0 0) (.slice none 0 0)).run Tryz.prog w' = .ok (.bool true) w' := fun w' => Lib.run_eql_slice_nil w' _ _ none _ _ 0 0 Tryz.underlying25
  clear h hM hSF hf hi hv
  go_enter Tryz.func25, Tryz.ntmps25
  go_upto_region 4 with (first
    | (go_at_call 58; go_must (refine KI.out.mono ?_; rintro e w1 ⟨rfl, hb1⟩; have HB1 := Lib.hid hb1; have KT := Lib.hid (top_calls w1 p FB fc (blk_cell (HH.out.below hb1).box 12)); clear hb1))
    | (go_at_call 59; go_must (refine KT.out.mono ?_; rintro e w2 ⟨rfl, hb2⟩; have HB2 := Lib.hid (HB1.out.trans (hb2.mono HB1.out.size)); clear hb2)))
  have hBV : Below w.heap.size w (w2.alloc (Obj.cells #[.int .i64 0, .int .i64 (k : Int), .int .i64 b] 62)) := HB2.out.alloc HB2.out.size _
  have HX := Lib.hid (blk_new w2 (Obj.cells #[.int .i64 0, .int .i64 (k : Int), .int .i64 b] 62))
  have hz := HB2.out.size
  generalize hzz : w2.heap.size = z at *
  generalize (w2.alloc (Obj.cells #[.int .i64 0, .int .i64 (k : Int), .int .i64 b] 62)) = V at *
  clear hzz
  have HBV := Lib.hid hBV
  have hmc := HH.out.below hBV
  obtain ⟨-, -, -, e3⟩ := hmc.cells
  obtain ⟨x0, x1, x2⟩ := cells3 HX.out
  have g3 := cell_regrown e3
  have g0 := cell_regrown x0
  have g1 := cell_regrown x1
  have g2 := cell_regrown x2
  have KTk := Lib.hid (fun W => takes_0 W (.pointer (some ⟨p, 0, none⟩)) (k : Int) b)
  have hw0 : IntKind.i64.wrap 0 = 0 := rfl
  have hs0 := slice_nil0
  have hs1 := slice_nil1
  have HMc := Lib.hid hmc
  clear hmc e3 x0 x1 x2 hBV c8
  refine wp_region_quiet_below (by kernel_rfl) (by kernel_rfl) ?_
  repeat (first | go_big_quiet_step (with_reducible exact calls_regrown KTk.out _ _) | quiet_step (with_reducible exact calls_regrown KTk.out _ _))
  refine wpQuiet_nil ?_
  intro _ hw'
  obtain ⟨⟨dq, osq⟩, hw''⟩ := hw'
  subst hw''
  clear g0 g1 g2 g3
  have HBq := Lib.hid (below_regrown V dq osq)
  generalize grow (redrawn V dq) osq = wq at *
  have HMq := Lib.hid (HMc.out.below HBq.out)
  obtain ⟨-, -, -, e3⟩ := HMq.out.cells
  have HXq := Lib.hid (blk_below HX.out HBq.out (blk_lt HX.out))
  go_upto_region 7 with (go_at_call 61; go_must (refine (clone64_calls _ none 0 0 [] rfl (by omega) (fun h => absurd h (Nat.lt_irrefl 0))).mono ?_; rintro e w6 ⟨u, rfl, -, -, hb6⟩; have HB6 := Lib.hid hb6; have HM6 := Lib.hid (HMq.out.below hb6); have HX6 := Lib.hid (blk_below HXq.out hb6 (blk_lt HXq.out)); have y3 : w6.cell? ⟨FB, 3, none⟩ = some (.slice none 0 0) := (HMq.out.below hb6).cells.2.2.2; have y4 := (HMq.out.below hb6).fz; clear hb6))
  have hlt := HH.out.lt
  have hplt : p < w.heap.size := blk_lt HH.out.box
  have hb6 : Below w.heap.size w w6 := HBV.out.trans ((HBq.out.trans (HB6.out.mono HBq.out.size)).mono HBV.out.size)
  have hk6 : Keeps (fun x => x = FB) w (w6.setCell ⟨FB, 3, none⟩ (.slice none 0 0)) := (Keeps.of_below (F := fun x => x = FB) hb6).setCell (p := ⟨FB, 3, none⟩) (fun _ => rfl) _
  have hm6 := HM6.out.stack none 0 0
  have hx6 := blk_far HX6.out (p := ⟨FB, 3, none⟩) (show z ≠ FB by omega) (.slice none 0 0)
  generalize (w6.setCell ⟨FB, 3, none⟩ (.slice none 0 0)) = V6 at *
  obtain ⟨q0, q1, q2⟩ := cells3 hx6
  have KD := Lib.hid (do_0 hm6 (HM.out.keepF (fun b hb => hk6.block b (HM.out.lt b hb) (HSF.out b hb)) hk6.size) HSF.out hpc k v HVv.out b u ans)
  have HK6 := Lib.hid hk6
  clear hm6 hx6 hk6 hb6 y3 y4 e3
  go_wp2_with (first
    | (go_at_call 62; go_must (refine KD.out.mono ?_; rintro e w7 ⟨rfl, SA, sc, hm7, hsc, hl7, hg7, hk7⟩; have HM7 := Lib.hid hm7; have HL7 := Lib.hid hl7; have HG7 := Lib.hid hg7; have HK7 := Lib.hid hk7; have KTa := Lib.hid (taken_calls w7 p _ _ hm7.box rfl); clear hm7 hl7 hg7 hk7))
    | (go_at_call 63; go_must (refine KTa.out.mono ?_; rintro e w8 ⟨rfl, hb8, hk8⟩; have HB8 := Lib.hid hb8; have HK8 := Lib.hid hk8; clear hb8 hk8)))
  go_ret2
  refine ⟨rfl, SA, sc, ⟨HB8.out, ?_⟩, hsc, ?_, ?_, ?_⟩
  · obtain ⟨cs', h', hs⟩ := HM7.out.fr
    exact ⟨cs', (HK8.out.block FB (blk_lt h') (Ne.symm hlt.2)).trans h', hs⟩
  · intro hp1
    obtain ⟨g, o, rfl, hc⟩ := HL7.out hp1
    refine ⟨g, o, rfl, fun j u hj => ?_⟩
    have hgp : g ≠ p := by have := HG7.out g o rfl; have := HK6.out.size; omega
    exact (World.cell?_of_block (a := ⟨g, o + j, none⟩) (HK8.out.block g (World.block_lt_of_cell? w7 ⟨g, o + j, none⟩ (hc j u hj)) hgp)).trans (hc j u hj)
  · intro g o e
    exact Nat.le_trans HK6.out.size (HG7.out g o e)
  · exact (((HK6.out.trans HK7.out).mono (fun x _ h => .inl h)).step HK8.out (fun x _ h => .inr h))
end Go.Proofs.YtmceaeoeakkppaaGreatDoor
namespace Go.Proofs.YtmceaeoeakkppaaGreatDoor
open Go.RowKit Go.Sort
set_option linter.unusedVariables false
theorem slice_all (w : World) (A : Option Addr) (c : Nat) (_h : 1 ≤ c) : (Instr.slice 25 (.slice A 1 c) (some (.int .i64 0)) none none).run Tryz.prog w = .ok (.slice A 1 c) w := by
  have hu := Tryz.underlying25
  simp [Instr.slice, run_underlying hu, go_sem]
theorem slice_zero (w : World) (A : Option Addr) (c : Nat) (_h : 1 ≤ c) : (Instr.slice 25 (.slice A 1 c) none (some (.int .i64 0)) none).run Tryz.prog w = .ok (.slice A 0 c) w := by
  have hu := Tryz.underlying25
  simp [Instr.slice, run_underlying hu, go_sem]
set_option maxRecDepth 100000 in
set_option maxHeartbeats 8000000 in
theorem next_26 {S : Nat → Prop} {w : World} {p FB hp tp : Nat} {m : Md} {B0 B1 B2 B3 B4 : Option Addr} {m0 m1 m2 m3 m4 d0 d1 d2 d3 d4 : Nat} {q : Int} {MA : Option Addr} {mn mc fc pc : Nat} {LA : Option Addr} {ln lc : Nat} {SA : Option Addr} {sc : Nat} (h : Mc1 w p FB hp tp B0 B1 B2 B3 B4 m0 m1 m2 m3 m4 d0 d1 d2 d3 d4 q MA mn mc fc pc LA ln lc SA 1 sc) (hM : MRow S w m B0 B1 B2 B3 B4 m0 m1 m2 m3 m4) (f : Fn) (hf : m.funcs[0]? = some f) (hl : f.code.length ≤ 1000) (ia b : Int) (hi : f.code[pc]? = some ⟨26, ia, b⟩) (v : Int) (hsc : 1 ≤ sc) (hL : Lie w SA 1 [.int .u64 v]) (ans : Value) :
    Calls Tryz.prog 25 #[.pointer (some ⟨p, 0, none⟩), ans] w fun e w' => e = .returned (.tuple #[.slice none 0 0, .bool true]) ∧ McE w' p FB hp tp B0 B1 B2 B3 B4 m0 m1 m2 m3 m4 d0 d1 d2 d3 d4 q MA mn mc fc v ∧ Keeps (fun x => x = FB ∨ x = p) w w' := by
  have hpc : pc ≤ 1000 := by have := (List.getElem?_eq_some_iff.1 hi).1; omega
  have c8 : w.cell? ⟨p, 8, none⟩ = some (.int .i64 0) := blk_cell h.box 8
  have KI := Lib.hid (instr_calls h hM f hf _ hi hl)
  have HH := Lib.hid h
  have HM := Lib.hid hM
  have HLs := Lib.hid hL
  clear h hM hf hi hL
  go_enter Tryz.func25, Tryz.ntmps25
  go_upto_region 4 with (first
    | (go_at_call 58; go_must (refine KI.out.mono ?_; rintro e w1 ⟨rfl, hb1⟩; have HB1 := Lib.hid hb1; have KT := Lib.hid (top_calls w1 p FB fc (blk_cell (HH.out.below hb1).box 12)); clear hb1))
    | (go_at_call 59; go_must (refine KT.out.mono ?_; rintro e w2 ⟨rfl, hb2⟩; have HB2 := Lib.hid (HB1.out.trans (hb2.mono HB1.out.size)); clear hb2)))
  have hBV : Below w.heap.size w (w2.alloc (Obj.cells #[.int .i64 26, .int .i64 ia, .int .i64 b] 62)) := HB2.out.alloc HB2.out.size _
  have HX := Lib.hid (blk_new w2 (Obj.cells #[.int .i64 26, .int .i64 ia, .int .i64 b] 62))
  have hz := HB2.out.size
  generalize hzz : w2.heap.size = z at *
  generalize (w2.alloc (Obj.cells #[.int .i64 26, .int .i64 ia, .int .i64 b] 62)) = V at *
  clear hzz
  have HBV := Lib.hid hBV
  have hmc := HH.out.below hBV
  obtain ⟨-, -, -, e3⟩ := hmc.cells
  obtain ⟨x0, x1, x2⟩ := cells3 HX.out
  have g3 := cell_regrown e3
  have g0 := cell_regrown x0
  have g1 := cell_regrown x1
  have g2 := cell_regrown x2
  have KTk := Lib.hid (fun W => takes_26 W (.pointer (some ⟨p, 0, none⟩)) ia b)
  have hw0 : IntKind.i64.wrap 0 = 0 := rfl
  have hs0 := fun W => slice_all W SA sc hsc
  have hs1 := fun W => slice_zero W SA sc hsc
  have HMc := Lib.hid hmc
  clear hmc e3 x0 x1 x2 hBV c8
  refine wp_region_quiet_below (by kernel_rfl) (by kernel_rfl) ?_
  repeat (first | go_big_quiet_step (with_reducible exact calls_regrown KTk.out _ _) | quiet_step (with_reducible exact calls_regrown KTk.out _ _))
  refine wpQuiet_nil ?_
  intro _ hw'
  obtain ⟨⟨dq, osq⟩, hw''⟩ := hw'
  subst hw''
  clear g0 g1 g2 g3
  have HBq := Lib.hid (below_regrown V dq osq)
  generalize grow (redrawn V dq) osq = wq at *
  have HMq := Lib.hid (HMc.out.below HBq.out)
  obtain ⟨-, -, -, e3⟩ := HMq.out.cells
  have HXq := Lib.hid (blk_below HX.out HBq.out (blk_lt HX.out))
  go_upto_region 7 with (go_at_call 61; go_must (refine (clone64_calls _ SA 1 sc [v] rfl (by omega) (HLs.out.below (HBV.out.trans (HBq.out.mono HBV.out.size)))).mono ?_; rintro e w6 ⟨u, rfl, hmem, hgu, hb6⟩; obtain ⟨g9, c9, rfl, -, -, -, -⟩ := hmem.at_ (by decide); have HL9 := Lib.hid hmem.lie; have hg9 := hgu g9 rfl; clear hmem hgu; have HB6 := Lib.hid hb6; have HM6 := Lib.hid (HMq.out.below hb6); have HX6 := Lib.hid (blk_below HXq.out hb6 (blk_lt HXq.out)); have y3 : w6.cell? ⟨FB, 3, none⟩ = some (.slice SA 1 sc) := (HMq.out.below hb6).cells.2.2.2; have y4 := (HMq.out.below hb6).fz; clear hb6))
  have hlt := HH.out.lt
  have hplt : p < w.heap.size := blk_lt HH.out.box
  have hbq : Below w.heap.size w wq := HBV.out.trans (HBq.out.mono HBV.out.size)
  have hb6 : Below w.heap.size w w6 := hbq.trans (HB6.out.mono hbq.size)
  have hk6 : Keeps (fun x => x = FB) w (w6.setCell ⟨FB, 3, none⟩ (.slice SA 0 sc)) := (Keeps.of_below (F := fun x => x = FB) hb6).setCell (p := ⟨FB, 3, none⟩) (fun _ => rfl) _
  have hm6 := HM6.out.stack SA 0 sc
  have hx6 := blk_far HX6.out (p := ⟨FB, 3, none⟩) (show z ≠ FB by omega) (.slice SA 0 sc)
  have hg9F : g9 ≠ FB := by have h1 := hbq.size; omega
  have hgF : ∀ g o, (some ⟨g9, 0, none⟩ : Option Addr) = some ⟨g, o, none⟩ → g ≠ FB := fun g o e => by cases e; exact hg9F
  have hL6 : Lie (w6.setCell ⟨FB, 3, none⟩ (.slice SA 0 sc)) (some ⟨g9, 0, none⟩) 1 [.int .u64 v] := fun hp1 => by
    obtain ⟨g, o, e, hc⟩ := HL9.out hp1
    cases e
    refine ⟨g9, 0, rfl, fun j u hj => ?_⟩
    rw [World.cell?_setCell_far _ _ _ _ (by exact fun e => hg9F e.symm)]
    exact hc j u hj
  generalize (w6.setCell ⟨FB, 3, none⟩ (.slice SA 0 sc)) = V6 at *
  obtain ⟨q0, q1, q2⟩ := cells3 hx6
  have KD := Lib.hid (do_26 hm6 hpc ia b (some ⟨g9, 0, none⟩) c9 v hL6 hgF ans)
  have HK6 := Lib.hid hk6
  clear hm6 hx6 hk6 hb6 y3 y4 e3 hL6 hgF hg9F
  go_wp2_with (first
    | (go_at_call 62; go_must (refine KD.out.mono ?_; rintro e w7 ⟨rfl, hE, hk7⟩; have HK7 := Lib.hid hk7; have KTa := Lib.hid (taken_calls w7 p _ _ hE rfl); clear hE hk7))
    | (go_at_call 63; go_must (refine KTa.out.mono ?_; rintro e w8 ⟨rfl, hb8, hk8⟩; have HB8 := Lib.hid hb8; have HK8 := Lib.hid hk8; clear hb8 hk8)))
  go_ret2
  exact ⟨rfl, HB8.out, (((HK6.out.mono (fun x _ h => .inl h)).step HK7.out (fun x _ h => h.symm)).step HK8.out (fun x _ h => .inr h))⟩
end Go.Proofs.YtmceaeoeakkppaaGreatDoor
