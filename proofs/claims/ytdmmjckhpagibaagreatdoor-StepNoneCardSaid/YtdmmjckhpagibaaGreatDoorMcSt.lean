/- state.Fits, of a state at a module's beginning. -/
import Derived.Test.YtdmmjckhpagibaaGreatDoorMcCheck
namespace Go.Proofs.YtdmmjckhpagibaaGreatDoor
open Go.RowKit Go.Sort
set_option linter.unusedVariables false
set_option maxRecDepth 100000 in
theorem has_zero (w : World) (p : Value) (k n : Int) (hk : k ≠ 5) : Calls Tryz.prog 116 #[p, .int .u64 0, .agg #[.int .i64 k, .int .i64 n]] w fun e w' => e = .returned (.bool true) ∧ Below w.heap.size w w' := by
  have h5 : (k == 5) = false := by simpa using hk
  have hb := below_a1 w (Obj.cells #[.int .i64 k, .int .i64 n] 23)
  have HB := Lib.hid hb
  clear hb hk
  by_cases h1 : k = 1
  · subst h1
    go_enter Tryz.func116, Tryz.ntmps116
    go_wp2
    go_ret
    exact ⟨rfl, HB.out⟩
  by_cases h8 : k = 8
  · subst h8
    go_enter Tryz.func116, Tryz.ntmps116
    go_wp2
    go_ret
    exact ⟨rfl, HB.out⟩
  have e1 : (k == 1) = false := by simpa using h1
  have e8 : (k == 8) = false := by simpa using h8
  clear h1 h8
  go_enter Tryz.func116, Tryz.ntmps116
  go_wp2
  go_ret
  exact ⟨rfl, HB.out⟩
theorem eg_has : ∀ (args : Array Value) (w : World), (callFunc 116 args).run Tryz.prog w = .ok (.enter 116 args) w := eg_of Tryz.func116 (by kernel_rfl) rfl
set_option maxRecDepth 100000 in
set_option maxHeartbeats 4000000 in
/-- Numbers that are 0 are of any types that are no handles. -/
theorem equal_zero {S : Nat → Prop} (w : World) (p : Value) (A B : Option Addr) (n c d : Nat) (ws : List Int) (ts : List Ty) (hn : ws.length = n) (hm : n ≤ 100000) (ht : ts.length = n) (hS : ∀ b, S b → b < w.heap.size) (r1 : (Rd.int .u64).Row S w A ws) (r2 : k_ty.Row S w B ts) (hz : ∀ x ∈ ws, x = 0) (h5 : ∀ t ∈ ts, t.kind ≠ 5) :
    Calls Tryz.prog 115 #[.slice A n c, .slice B n d, .func (.func 116) #[p] #[]] w fun e w' => e = .returned (.bool true) ∧ Below w.heap.size w w' := by
  have HN := Lib.hid hn
  have HT := Lib.hid ht
  have HS := Lib.hid hS
  have R1 := Lib.hid r1
  have R2 := Lib.hid r2
  have HZ := Lib.hid hz
  have H5 := Lib.hid h5
  have EG := Lib.hid eg_has
  clear hn ht hS r1 r2 hz h5
  go_enter Tryz.func115, Tryz.ntmps115
  go_wp2_with fail
  go_loopw [17] (fun ix wr => ∃ k : Nat, k ≤ n ∧ ix = .int .i64 k ∧ Hid (Below w.heap.size w wr)) (fun ix _ => n - (intOf ix).toNat)
  case atStart => exact ⟨0, Nat.zero_le _, rfl, Lib.hid (Below.refl _ _)⟩
  case round =>
    obtain ⟨k, hk, rfl, HB⟩ := hrel
    by_cases hlt : k < n
    · obtain ⟨x, hx⟩ : ∃ x, ws[k]? = some x := ⟨_, List.getElem?_eq_getElem (by rw [HN.out]; exact hlt)⟩
      obtain ⟨t, ht⟩ : ∃ t, ts[k]? = some t := ⟨_, List.getElem?_eq_getElem (by rw [HT.out]; exact hlt)⟩
      obtain rfl := HZ.out x (List.mem_of_getElem? hx)
      have ht5 := H5.out t (List.mem_of_getElem? ht)
      obtain ⟨b1, o1, rfl, -, hc1⟩ := R1.out.keep (fun b hb => HB.out.block b (HS.out b hb)) (by rw [HN.out]; omega)
      obtain ⟨cs1, hK, hcell⟩ := hc1 k (by rw [HN.out]; exact hlt)
      have v1 : wr.cell? ⟨b1, o1 + k, none⟩ = some (.int .u64 0) := by
        have h1 := hK.1
        have h2 : ws[k]'(by rw [HN.out]; exact hlt) = 0 := by
          have := List.getElem?_eq_getElem (l := ws) (i := k) (by rw [HN.out]; exact hlt)
          rw [this] at hx; injection hx
        rw [h2] at h1
        have := hcell 0 _ (by rw [h1]; rfl)
        simpa [Rd.int] using this
      obtain ⟨b2, o2, rfl, -, t0, t1, -, -⟩ := k_ty_at (R2.out.keep (fun b hb => HB.out.block b (HS.out b hb))) ht
      have K := Lib.hid (fun W => has_zero W p t.kind t.n ht5)
      have HSz := Lib.hid HB.out.size
      have HBx := Lib.hid (below_a1 wr (Obj.cells #[.int .i64 t.kind, .int .i64 t.n] 23))
      clear hx ht hc1 hK hcell ht5
      go_wp2_with fail
      refine (K.out _).mono ?_
      rintro e w1 ⟨rfl, hb1⟩
      have HB1 := Lib.hid (HB.out.trans ((HBx.out.trans (hb1.mono HBx.out.size)).mono HSz.out))
      clear hb1
      go_wp2
      go_roundw
      case rel => exact ⟨k + 1, by omega, by go_num, HB1⟩
      case measure => simp [intOf]; omega
    · go_wp2
      go_ret
      exact ⟨rfl, HB.out⟩
set_option maxRecDepth 100000 in
theorem have_zero {S : Nat → Prop} (w : World) (p : Value) (A B : Option Addr) (n c d : Nat) (ws : List Int) (ts : List Ty) (hn : ws.length = n) (hm : n ≤ 100000) (ht : ts.length = n) (hS : ∀ b, S b → b < w.heap.size) (r1 : (Rd.int .u64).Row S w A ws) (r2 : k_ty.Row S w B ts) (hz : ∀ x ∈ ws, x = 0) (h5 : ∀ t ∈ ts, t.kind ≠ 5) :
    Calls Tryz.prog 84 #[p, .slice A n c, .slice B n d] w fun e w' => e = .returned (.bool true) ∧ Below w.heap.size w w' := by
  have K := Lib.hid (equal_zero w p A B n c d ws ts hn hm ht hS r1 r2 hz h5)
  clear hn ht hS r1 r2 hz h5
  go_enter Tryz.func84, Tryz.ntmps84
  go_wp2_with (go_at_call 115; refine K.out.mono ?_; rintro e w1 ⟨rfl, hb1⟩)
  go_ret
  exact ⟨rfl, hb1⟩
/-- A looker at a state that goes on, with one frame at the beginning of function 0. -/
structure Lk (S : Nat → Prop) (w : World) (p : Nat) (m : Md) (B0 B1 B2 B3 B4 : Option Addr) (m0 m1 m2 m3 m4 d0 d1 d2 d3 d4 : Nat) (MA : Option Addr) (mn mc : Nat) (mps : List (List Shp)) (FA OA HA : Option Addr) (fc oc hc : Nat) (q : Int) : Prop where
  mrow : MRow S w m B0 B1 B2 B3 B4 m0 m1 m2 m3 m4
  box : w.heap[p]? = some (.cells #[.slice B0 m0 d0, .slice B1 m1 d1, .slice B2 m2 d2, .slice B3 m3 d3, .slice B4 m4 d4, .slice MA mn mc, .slice FA 1 fc, .slice OA 0 oc, .slice HA 0 hc, .int .i64 q, .int .i64 0, .int .i64 0, .int .u64 0] 125 (0, 0))
  mp : (Rd.slice k_shape).Row S w MA mps
  ml : mps.length = mn
theorem Lk.below {S : Nat → Prop} {w w' : World} {p : Nat} {m : Md} {B0 B1 B2 B3 B4 : Option Addr} {m0 m1 m2 m3 m4 d0 d1 d2 d3 d4 : Nat} {MA : Option Addr} {mn mc : Nat} {mps : List (List Shp)} {FA OA HA : Option Addr} {fc oc hc : Nat} {q : Int} (h : Lk S w p m B0 B1 B2 B3 B4 m0 m1 m2 m3 m4 d0 d1 d2 d3 d4 MA mn mc mps FA OA HA fc oc hc q) (hb : Below w.heap.size w w') : Lk S w' p m B0 B1 B2 B3 B4 m0 m1 m2 m3 m4 d0 d1 d2 d3 d4 MA mn mc mps FA OA HA fc oc hc q :=
  ⟨h.mrow.below hb, blk_below h.box hb (blk_lt h.box), h.mp.keep (fun b hS => hb.block b (h.mrow.lt b hS)), h.ml⟩
theorem hold7 {V w' : World} {p g : Nat} {t t' : TypeId} {cs cs' : Array Value} {a b c0 c1 c2 c3 c4 : Value} (hp : V.heap[p]? = some (.cells cs t (0, 0))) (ha : cs[1]? = some a) (hg : V.heap[g]? = some (.cells cs' t' (0, 0))) (hb' : cs'[0]? = some b) {fb fo : Nat} (h0 : V.cell? ⟨fb, fo, none⟩ = some c0) (h1 : V.cell? ⟨fb, fo + 1, none⟩ = some c1) (h2 : V.cell? ⟨fb, fo + 2, none⟩ = some c2) (h3 : V.cell? ⟨fb, fo + 3, none⟩ = some c3) (h4 : V.cell? ⟨fb, fo + 4, none⟩ = some c4) (hb : Below V.heap.size V w') :
    w'.cell? ⟨p, 1, none⟩ = some a ∧ w'.cell? ⟨g, 0, none⟩ = some b ∧ w'.cell? ⟨fb, fo, none⟩ = some c0 ∧ w'.cell? ⟨fb, fo + 1, none⟩ = some c1 ∧ w'.cell? ⟨fb, fo + 2, none⟩ = some c2 ∧ w'.cell? ⟨fb, fo + 3, none⟩ = some c3 ∧ w'.cell? ⟨fb, fo + 4, none⟩ = some c4 ∧ Below V.heap.size V w' :=
  ⟨(blk_cell (blk_below hp hb (blk_lt hp)) 1).trans ha, (blk_cell (blk_below hg hb (blk_lt hg)) 0).trans hb', below_cell h0 hb, below_cell h1 hb, below_cell h2 hb, below_cell h3 hb, below_cell h4 hb, hb⟩
theorem held7 {a b c d e f g : Prop} {V w' : World} (hh : a ∧ b ∧ c ∧ d ∧ e ∧ f ∧ g ∧ Below V.heap.size V w') : Below V.heap.size V w' := hh.2.2.2.2.2.2.2
theorem hold3c {V w' : World} {p g : Nat} {t t' : TypeId} {cs cs' : Array Value} {a b c : Value} (hp : V.heap[p]? = some (.cells cs t (0, 0))) (ha : cs[2]? = some a) (hg : V.heap[g]? = some (.cells cs' t' (0, 0))) (h0 : cs'[0]? = some b) (h3 : cs'[3]? = some c) (hb : Below V.heap.size V w') :
    w'.cell? ⟨p, 2, none⟩ = some a ∧ w'.cell? ⟨g, 0, none⟩ = some b ∧ w'.cell? ⟨g, 3, none⟩ = some c ∧ Below V.heap.size V w' :=
  ⟨(blk_cell (blk_below hp hb (blk_lt hp)) 2).trans ha, (blk_cell (blk_below hg hb (blk_lt hg)) 0).trans h0, (blk_cell (blk_below hg hb (blk_lt hg)) 3).trans h3, hb⟩
theorem held3c {a b c : Prop} {V w' : World} (hh : a ∧ b ∧ c ∧ Below V.heap.size V w') : Below V.heap.size V w' := hh.2.2.2
set_option maxRecDepth 100000 in
set_option maxHeartbeats 8000000 in
theorem at_zero {S : Nat → Prop} (w : World) (p : Nat) {m : Md} {B0 B1 B2 B3 B4 : Option Addr} {m0 m1 m2 m3 m4 d0 d1 d2 d3 d4 : Nat} {MA : Option Addr} {mn mc : Nat} {mps : List (List Shp)} {FA OA HA : Option Addr} {fc oc hc : Nat} {q : Int} (h : Lk S w p m B0 B1 B2 B3 B4 m0 m1 m2 m3 m4 d0 d1 d2 d3 d4 MA mn mc mps FA OA HA fc oc hc q)
    (f : Fn) (hf : m.funcs[0]? = some f) (ha : f.args = []) (hl : f.locals.length ≤ 1000) (h5 : ∀ t ∈ f.locals, t.kind ≠ 5) (sh0 : List Shp) (hsh : mps[0]? = some sh0) (s0 : List Ty) (hs0 : sh0[0]? = some ⟨true, s0⟩) (hc0 : 0 < f.code.length) (LA SA : Option Addr) (lc sc : Nat) (ws : List Int) (hw : ws.length = f.locals.length) (hz : ∀ x ∈ ws, x = 0) (rL : (Rd.int .u64).Row S w LA ws) :
    Calls Tryz.prog 83 #[.pointer (some ⟨p, 0, none⟩), .agg #[.int .i64 0, .int .i64 0, .slice LA f.locals.length lc, .slice SA 0 sc]] w fun e w' => e = .returned (.bool true) ∧ Below w.heap.size w w' := by
  have hm1 : 0 < m1 := by have := (List.getElem?_eq_some_iff.1 hf).1; have := h.mrow.e1; omega
  have hV := below_a1 w (Obj.cells #[.int .i64 0, .int .i64 0, .slice LA f.locals.length lc, .slice SA 0 sc] 83)
  have hL := h.below hV
  have hbx := blk_new w (Obj.cells #[.int .i64 0, .int .i64 0, .slice LA f.locals.length lc, .slice SA 0 sc] 83)
  have hS2 : ∀ b, S b → b < (w.alloc (Obj.cells #[.int .i64 0, .int .i64 0, .slice LA f.locals.length lc, .slice SA 0 sc] 83)).heap.size := hL.mrow.lt
  have hrL := rL.keep (fun b hb => hV.block b (h.mrow.lt b hb))
  obtain ⟨b, o, A0, c0, A3, c3, A4, c4, rfl, hSb, f0, f1, f2, f3, f4, l0, -, r0, -, -, l3, -, r3, l4, m4', -⟩ := k_func_at hL.mrow.r1 hf
  obtain ⟨mb, mo, A5, c5, rfl, hSm, mm0, l5, m5, rS⟩ := row_slice_at hL.mp hsh
  obtain ⟨sb, so, A6, c6, rfl, hSs, ss0, -, -, -, -⟩ := k_shape_at rS hs0
  simp only [Nat.zero_mul, Nat.add_zero] at f0 f1 f2 f3 f4 mm0 ss0
  have hsl0 : 0 < sh0.length := (List.getElem?_eq_some_iff.1 hs0).1
  have hmn : 0 < mn := by have := (List.getElem?_eq_some_iff.1 hsh).1; have := h.ml; omega
  rw [ha] at f0
  simp only [List.length_nil] at f0
  generalize hVV : w.alloc (Obj.cells #[.int .i64 0, .int .i64 0, .slice LA f.locals.length lc, .slice SA 0 sc] 83) = V at *
  have g0 := cell_regrown (blk_cell hbx 0 : V.cell? _ = some (.int .i64 0))
  have g1 := cell_regrown (blk_cell hbx 1 : V.cell? _ = some (.int .i64 0))
  have g2 := cell_regrown (blk_cell hL.box 1 : V.cell? _ = some (.slice (some ⟨b, o, none⟩) m1 d1))
  have g3 := cell_regrown (blk_cell hL.box 5 : V.cell? _ = some (.slice (some ⟨mb, mo, none⟩) mn mc))
  have g4 := cell_regrown f4
  have g5 := cell_regrown mm0
  have g6 := cell_regrown ss0
  obtain ⟨N, hN⟩ : ∃ N, f.code.length = N := ⟨_, rfl⟩
  rw [hN] at g4 hc0 f4
  have d5' : decide (m1 = 0) = false := decide_eq_false (by omega)
  have d6' : decide (N = 0) = false := decide_eq_false (by omega)
  have d1' : decide ((0 : Int) ≥ (m1 : Int)) = false := decide_eq_false (by omega)
  have d2' : decide ((m1 : Int) ≤ 0) = false := decide_eq_false (by omega)
  have d3' : decide ((0 : Int) ≥ (N : Int)) = false := decide_eq_false (by omega)
  have d4' : decide ((N : Int) ≤ 0) = false := decide_eq_false (by omega)
  have HL := Lib.hid hL
  have HBx := Lib.hid hbx
  have HV := Lib.hid hV
  have HF0 := Lib.hid f0
  have HF1 := Lib.hid f1
  have HF2 := Lib.hid f2
  have HF3 := Lib.hid f3
  have HF4 := Lib.hid f4
  have HW := Lib.hid hw
  have HZ := Lib.hid hz
  have HRL := Lib.hid hrL
  have HR3 := Lib.hid r3
  have H5 := Lib.hid h5
  have HS2 := Lib.hid hS2
  clear h hf hL hbx hV f0 f1 f2 f3 f4 mm0 ss0 hw hz rL hrL r0 r3 rS h5 hS2 hsh hs0 ha
  go_enter Tryz.func83, Tryz.ntmps83
  go_upto_region 1 with fail
  clear hVV
  refine wp_region_quiet_below (by kernel_rfl) (by kernel_rfl) ?_
  repeat (first | go_big_quiet_step (fail) | quiet_step (fail))
  refine wpQuiet_nil ?_
  intro _ hw'
  obtain ⟨⟨dq, osq⟩, hw''⟩ := hw'
  subst hw''
  clear g0 g1 g2 g3 g4 g5 g6
  have HBq := Lib.hid (below_regrown V dq osq)
  generalize grow (redrawn V dq) osq = wq at *
  have HLq := Lib.hid (HL.out.below HBq.out)
  have HBxq := Lib.hid (blk_below HBx.out HBq.out (blk_lt HBx.out))
  have K0 := Lib.hid (below_cell HF0.out HBq.out)
  have K1 := Lib.hid (below_cell HF1.out HBq.out)
  have K2 := Lib.hid (below_cell HF2.out HBq.out)
  have K3 := Lib.hid (below_cell HF3.out HBq.out)
  have K4 := Lib.hid (below_cell HF4.out HBq.out)
  go_upto_region 3 with fail
  go_region_held3 (fun w' => w'.cell? ⟨p, 1, none⟩ = some (.slice (some ⟨b, o, none⟩) m1 d1) ∧ w'.cell? ⟨w.heap.size, 0, none⟩ = some (.int .i64 0) ∧ w'.cell? ⟨b, o, none⟩ = some (.slice A0 0 c0) ∧ w'.cell? ⟨b, o + 1, none⟩ = some (.int .i64 f.ret.kind) ∧ w'.cell? ⟨b, o + 2, none⟩ = some (.int .i64 f.ret.n) ∧ w'.cell? ⟨b, o + 3, none⟩ = some (.slice A3 f.locals.length c3) ∧ w'.cell? ⟨b, o + 4, none⟩ = some (.slice A4 N c4) ∧ Below wq.heap.size wq w')
    (first | (refine hold7 HLq.out.box rfl HBxq.out rfl K0.out K1.out K2.out K3.out K4.out ?_; repeat (first | assumption | exact Below.refl _ _ | exact held7 (by assumption) | refine Below.drew ?_ | refine below_up ?_ _)))
    (first | fail)
  all_goals
    go_upto_region 4 with fail
    have HB4 := Lib.hid ((below_a1 wq (Obj.cells #[.slice A0 0 c0, .int .i64 f.ret.kind, .int .i64 f.ret.n, .slice A3 f.locals.length c3, .slice A4 N c4] 54)).drew)
    have HX4 := Lib.hid (blk_drew (blk_new wq (Obj.cells #[.slice A0 0 c0, .int .i64 f.ret.kind, .int .i64 f.ret.n, .slice A3 f.locals.length c3, .slice A4 N c4] 54)))
    generalize (wq.alloc (Obj.cells #[.slice A0 0 c0, .int .i64 f.ret.kind, .int .i64 f.ret.n, .slice A3 f.locals.length c3, .slice A4 N c4] 54)).drew = V4 at *
    have HBx4 := Lib.hid (blk_below HBxq.out HB4.out (blk_lt HBxq.out))
    have HBV := Lib.hid (HBq.out.trans (HB4.out.mono HBq.out.size))
    have HR4 := Lib.hid (HR3.out.keep (fun b hb => HBV.out.block b (HS2.out b hb)))
    have HW4 := Lib.hid (HRL.out.keep (fun b hb => HBV.out.block b (HS2.out b hb)))
    have HS4 := Lib.hid (fun b hb => Nat.lt_of_lt_of_le (HS2.out b hb) HBV.out.size)
    go_region_held3 (fun w' => w'.cell? ⟨w.heap.size, 2, none⟩ = some (.slice LA f.locals.length lc) ∧ w'.cell? ⟨wq.heap.size, 0, none⟩ = some (.slice A0 0 c0) ∧ w'.cell? ⟨wq.heap.size, 3, none⟩ = some (.slice A3 f.locals.length c3) ∧ Below V4.heap.size V4 w')
      (first | (refine hold3c HBx4.out rfl HX4.out rfl rfl ?_; repeat (first | assumption | exact Below.refl _ _ | exact held3c (by assumption) | refine Below.drew ?_ | refine below_up ?_ _)))
      (first
        | (go_at_call 114; go_must (refine (concat2_calls (S := S) (V4.drew.alloc (Obj.cells #[.slice A0 0 c0, .slice A3 f.locals.length c3] 24)) V4.heap.size 24 A0 A3 0 c0 f.locals.length c3 [] f.locals rfl rfl (Nat.zero_le _) l3 (by omega) hl (fun b hb => Nat.lt_of_lt_of_le (HS4.out b hb) (below_a1 V4 _).size) (blk_new V4.drew _) (Rd.Row.nil _ _ _ _) (HR4.out.keep (fun b hb => Below.heap_alloc _ _ b (HS4.out b hb)))).mono ?_; rw [Nat.zero_add]; rintro e w8 ⟨A8, c8, rfl, hc8, hsp8, hrow8, hb8⟩; have hbV8 : Below V4.heap.size V4 w8 := ((below_a1 V4 (Obj.cells #[.slice A0 0 c0, .slice A3 f.locals.length c3] 24)).drew).trans (hb8.mono (below_a1 V4 _).size)))
        | (go_at_call 84; go_must (refine (have_zero (S := fun b => b < w8.heap.size) w8 _ LA A8 f.locals.length lc c8 ws f.locals HW.out (by omega) rfl (fun b h => h) ((HW4.out.keep (fun b hb => hbV8.block b (HS4.out b hb))).mono (fun b hb => Nat.lt_of_lt_of_le (HS4.out b hb) hbV8.size)) (hrow8.mono (fun b hb => hb.2)) HZ.out H5.out).mono ?_; rintro e w9 ⟨rfl, hb9⟩; have hbV9 : Below V4.heap.size V4 w9 := hbV8.trans (hb9.mono hbV8.size))))
    all_goals
      go_wp2
      go_ret
      exact ⟨rfl, HV.out.trans ((HBV.out.trans (hbV9.mono HBV.out.size)).mono HV.out.size)⟩
end Go.Proofs.YtdmmjckhpagibaaGreatDoor
