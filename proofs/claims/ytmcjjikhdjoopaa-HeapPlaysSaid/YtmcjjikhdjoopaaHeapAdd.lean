/- heap.New, heap.Heap.Add. -/
import Derived.Test.YtmcjjikhdjoopaaHeapM
import Derived.Deep.RegionHeld3
namespace Go.Proofs.Ytmcjjikhdjoopaa
open Go.RowKit Go.Sort
set_option linter.unusedVariables false
/-- A callee that answers alike in every world behind w, met in a world of the class. -/
theorem calls_regrown {P : Program} {f : FuncId} {args : Array Value} {w : World} {v : Value} (h : ∀ W, Calls P f args W fun e w' => e = .returned v ∧ Below W.heap.size W w') (d : Nat) (os : Array Go.Obj) : Calls P f args (grow (redrawn w d) os) fun e w'' => e = .returned v ∧ ∃ p : Regrown, w'' = grow (redrawn w p.d) p.os := Calls.regrown_of (h _)
theorem heapNew_calls {S : Nat → Prop} (w : World) (A : Option Addr) (n c : Nat) (q u : Int) (objs : List Ob) (hn : objs.length = n) (hm : n ≤ 10000) (hl : ∀ o ∈ objs, o.words.length ≤ 1000000 ∧ o.bytes.length ≤ 1000000) (hS : ∀ b, S b → b < w.heap.size) (hr : k_obj.Row S w A objs) :
    Calls Try.prog 13 #[.slice A n c, .int .i64 q, .int .i64 u] w fun e w' => ∃ p A' c' L, e = .returned (.pointer (some ⟨p, 0, none⟩)) ∧ L.map (·.1) = objs ∧ Hp w' p (.slice A' n c') L q u ∧ (∀ b, HF p (.slice A' n c') L b → w.heap.size ≤ b) ∧ Below w.heap.size w w' := by
  have HN := Lib.hid hn
  have HR := Lib.hid hr
  have HS := Lib.hid hS
  have HL := Lib.hid hl
  clear hn hr hS hl
  go_enter Try.func13, Try.ntmps13
  go_wp2_with (go_at_call 35; refine (copy_calls _ _ _ _ objs HN.out hm HL.out HS.out HR.out).mono ?_; rintro e w1 ⟨A', c', L, rfl, hLm, hO, hF, hB⟩; have HO := Lib.hid hO; have HF1 := Lib.hid hF; have HLm := Lib.hid hLm; have HB := Lib.hid hB; clear hLm hO hF hB)
  go_ret
  have hll : L.length = n := by rw [← HN.out, ← HLm.out, List.length_map]
  refine ⟨_, A', c', L, rfl, HLm.out, ⟨blk_new _ _, HO.out.below ((Below.refl _ _).alloc (Nat.le_refl _) _), by omega⟩, fun b hb => ?_, HB.out.alloc HB.out.size _⟩
  rcases hb with rfl | hb
  · exact HB.out.size
  · exact HF1.out b hb
set_option maxRecDepth 100000 in
theorem add_none (w : World) (k n : Value) (A B : Option Addr) (a b c d : Nat) : Calls Try.prog 14 #[.pointer none, .agg #[k, n, .slice A a c, .slice B b d]] w fun e w' => e = .returned (.tuple #[.int .u64 0, .bool false]) ∧ Below w.heap.size w w' := by
  have HB := Lib.hid ((Below.refl w.heap.size w).alloc (Nat.le_refl _) (Obj.cells #[k, n, .slice A a c, .slice B b d] 31))
  go_enter Try.func14, Try.ntmps14
  go_wp2_with fail
  refine wp_region_quiet_below (by kernel_rfl) (by kernel_rfl) ?_
  repeat (first | go_big_quiet_step (fail) | quiet_step (fail))
  refine wpQuiet_nil ?_
  intro _ hw'
  obtain ⟨⟨dq, osq⟩, hw''⟩ := hw'
  subst hw''
  go_wp2
  go_ret2
  exact ⟨rfl, HB.out.trans ((below_regrown _ dq osq).mono (by simp))⟩
set_option maxRecDepth 100000 in
theorem add_no (w : World) (p : Nat) (v : Value) (L : List (Ob × OV)) (q u : Int) (h : Hp w p v L q u) (k n : Int) (A B : Option Addr) (a b c d : Nat) (ha : a ≤ 1000000) (hb : b ≤ 1000000) (hq : -1099511627776 ≤ q ∧ q ≤ 1099511627776) (hno : q - (16 + 8 * (a : Int) + b) < u) : Calls Try.prog 14 #[.pointer (some ⟨p, 0, none⟩), .agg #[.int .i64 k, .int .i64 n, .slice A a c, .slice B b d]] w fun e w' => e = .returned (.tuple #[.int .u64 0, .bool false]) ∧ Below w.heap.size w w' := by
  have HB := Lib.hid ((Below.refl w.heap.size w).alloc (Nat.le_refl _) (Obj.cells #[.int .i64 k, .int .i64 n, .slice A a c, .slice B b d] 31))
  have hbx := blk_alloc h.box (Obj.cells #[.int .i64 k, .int .i64 n, .slice A a c, .slice B b d] 31)
  have hnx := blk_new w (Obj.cells #[.int .i64 k, .int .i64 n, .slice A a c, .slice B b d] 31)
  have b1 := (blk_cell hbx 1 : _ = some (Value.int .i64 q))
  have b2 := (blk_cell hbx 2 : _ = some (Value.int .i64 u))
  have n0 := (blk_cell hnx 0 : _ = some (Value.int .i64 k))
  have n1 := (blk_cell hnx 1 : _ = some (Value.int .i64 n))
  have n2 := (blk_cell hnx 2 : _ = some (Value.slice A a c))
  have n3 := (blk_cell hnx 3 : _ = some (Value.slice B b d))
  have r1 := cell_regrown b1
  have r2 := cell_regrown b2
  have s0 := cell_regrown n0
  have s1 := cell_regrown n1
  have s2 := cell_regrown n2
  have s3 := cell_regrown n3
  have hw : IntKind.i64.wrap (q - (16 + 8 * (a : Int) + b)) = q - (16 + 8 * (a : Int) + b) := by rw [IntKind.wrap_i64]; omega
  have hd : decide (q - (16 + 8 * (a : Int) + b) < u) = true := decide_eq_true hno
  have HC := Lib.hid (fun W => heapCost_calls W (.int .i64 k) (.int .i64 n) A B a b c d ha hb)
  clear h hbx hnx b1 b2 n0 n1 n2 n3 hno
  go_enter Try.func14, Try.ntmps14
  go_wp2_with fail
  refine wp_region_quiet_below (by kernel_rfl) (by kernel_rfl) ?_
  repeat (first | go_big_quiet_step (exact calls_regrown HC.out _ _) | quiet_step (exact calls_regrown HC.out _ _))
  refine wpQuiet_nil ?_
  intro _ hw'
  obtain ⟨⟨dq, osq⟩, hw''⟩ := hw'
  subst hw''
  go_wp2
  go_ret2
  exact ⟨rfl, HB.out.trans ((below_regrown _ dq osq).mono (by simp))⟩
theorem hold4 {w : World} {g : Nat} {t : TypeId} {a b c d : Value} (h : w.heap[g]? = some (.cells #[a, b, c, d] t (0, 0))) : w.cell? ⟨g, 0, none⟩ = some a ∧ w.cell? ⟨g, 1, none⟩ = some b ∧ w.cell? ⟨g, 2, none⟩ = some c ∧ w.cell? ⟨g, 3, none⟩ = some d :=
  ⟨blk_cell h 0, blk_cell h 1, blk_cell h 2, blk_cell h 3⟩
theorem add_foot {p B N : Nat} {v v' : Value} {L : List (Ob × OV)} {y : Ob × OV} (hat : v'.ownBlock = v.ownBlock ∨ v'.ownBlock = some N) {x : Nat} (h : OLF v' (L ++ [y]) x) (hy : ∀ x, OMF y x → B ≤ x) (hN : B ≤ N) : HF p v L x ∨ B ≤ x := by
  rcases h.snoc with h | h | h
  · rcases hat with h2 | h2
    · exact .inl (.inr (.inl (h2 ▸ h)))
    · rw [h2] at h
      cases h
      exact .inr hN
  · exact .inl (.inr (.inr h))
  · exact .inr (hy x h)
theorem setp_keeps {w0 w : World} {p : Nat} {v : Value} {L : List (Ob × OV)} (h : Keeps (HF p v L) w0 w) (x : Nat) (u : Value) : Keeps (HF p v L) w0 (w.setCell ⟨p, x, none⟩ u) := h.setCell (fun _ => .inl rfl) u
theorem hp_store {w : World} {p : Nat} {v v' : Value} {L : List (Ob × OV)} {q u : Int} (hb : w.heap[p]? = some (.cells #[v, .int .i64 q, .int .i64 u] 72 (0, 0))) (ho : OL w v' L) (hl : L.length ≤ 10000) : Hp (w.setCell ⟨p, 0, none⟩ v') p v' L q u :=
  ⟨blk_set hb 0 v', ho.keeps (Keeps.setCell (F := (· = p)) (Keeps.refl _ _) (fun _ => rfl) _) (fun b hb2 e => by subst e; exact ho.ne_box hb hb2), hl⟩
theorem hp_used {w : World} {p : Nat} {v : Value} {L : List (Ob × OV)} {q u : Int} (h : Hp w p v L q u) (u' : Int) : Hp (w.setCell ⟨p, 2, none⟩ (.int .i64 u')) p v L q u' :=
  ⟨blk_set h.box 2 _, h.ol.keeps (Keeps.setCell (F := (· = p)) (Keeps.refl _ _) (fun _ => rfl) _) (fun b hb2 e => by subst e; exact h.ol.ne_box h.box hb2), h.len⟩
set_option maxRecDepth 100000 in
set_option maxHeartbeats 2000000 in
theorem add_ok (w : World) (p : Nat) (A0 : Option Addr) (m c0 : Nat) (L : List (Ob × OV)) (hLm : L.length = m) (q u : Int) (h : Hp w p (.slice A0 m c0) L q u) (k n : Int) (A B : Option Addr) (a b c d : Nat) (ws bs : List Int) (hws : ws.length = a) (hbs : bs.length = b) (ha : a ≤ 1000000) (hb : b ≤ 1000000) (hlw : Lie w A a (wcells ws)) (hlb : Lie w B b (bcells bs)) (hwf : Ob.wf ⟨k, n, ws, bs⟩) (hq : -1099511627776 ≤ q ∧ q ≤ 1099511627776) (hu : -1099511627776 ≤ u) (hno : u ≤ q - (16 + 8 * (a : Int) + b)) (hm : m < 4096) :
    Calls Try.prog 14 #[.pointer (some ⟨p, 0, none⟩), .agg #[.int .i64 k, .int .i64 n, .slice A a c, .slice B b d]] w fun e w' => ∃ A1 c1 ov, e = .returned (.tuple #[.int .u64 ((m + 1 : Nat) : Int), .bool true]) ∧ Hp w' p (.slice A1 (m + 1) c1) (L ++ [(⟨k, n, ws, bs⟩, ov)]) q (u + (16 + 8 * (a : Int) + b)) ∧ (∀ x, HF p (.slice A1 (m + 1) c1) (L ++ [(⟨k, n, ws, bs⟩, ov)]) x → HF p (.slice A0 m c0) L x ∨ w.heap.size ≤ x) ∧ Keeps (HF p (.slice A0 m c0) L) w w' := by
  have HB := Lib.hid ((Below.refl w.heap.size w).alloc (Nat.le_refl _) (Obj.cells #[.int .i64 k, .int .i64 n, .slice A a c, .slice B b d] 31))
  have hbx := blk_alloc h.box (Obj.cells #[.int .i64 k, .int .i64 n, .slice A a c, .slice B b d] 31)
  have hnx := blk_new w (Obj.cells #[.int .i64 k, .int .i64 n, .slice A a c, .slice B b d] 31)
  have b0 := (blk_cell hbx 0 : _ = some (Value.slice A0 m c0))
  have b1 := (blk_cell hbx 1 : _ = some (Value.int .i64 q))
  have b2 := (blk_cell hbx 2 : _ = some (Value.int .i64 u))
  have n0 := (blk_cell hnx 0 : _ = some (Value.int .i64 k))
  have n1 := (blk_cell hnx 1 : _ = some (Value.int .i64 n))
  have n2 := (blk_cell hnx 2 : _ = some (Value.slice A a c))
  have n3 := (blk_cell hnx 3 : _ = some (Value.slice B b d))
  have r0 := cell_regrown b0
  have r1 := cell_regrown b1
  have r2 := cell_regrown b2
  have s0 := cell_regrown n0
  have s1 := cell_regrown n1
  have s2 := cell_regrown n2
  have s3 := cell_regrown n3
  have hw : IntKind.i64.wrap (q - (16 + 8 * (a : Int) + b)) = q - (16 + 8 * (a : Int) + b) := by rw [IntKind.wrap_i64]; omega
  have hd : decide (q - (16 + 8 * (a : Int) + b) < u) = false := decide_eq_false (by omega)
  have hd2 : decide (4096 ≤ (m : Int)) = false := decide_eq_false (by omega)
  have HC := Lib.hid (fun W => heapCost_calls W (.int .i64 k) (.int .i64 n) A B a b c d ha hb)
  have HP1 := Lib.hid (h.below HB.out)
  have HNX := Lib.hid hnx
  have HW1 := Lib.hid (hlw.below HB.out)
  have HB1 := Lib.hid (hlb.below HB.out)
  have HPl := Lib.hid h
  have HLm := Lib.hid hLm
  have HWF := Lib.hid hwf
  have hpl := blk_lt h.box
  clear h hbx hnx b0 b1 b2 n0 n1 n2 n3 hlw hlb hLm hwf
  go_enter Try.func14, Try.ntmps14
  go_wp2_with fail
  refine wp_region_quiet_below (by kernel_rfl) (by kernel_rfl) ?_
  repeat (first | go_big_quiet_step (exact calls_regrown HC.out _ _) | quiet_step (exact calls_regrown HC.out _ _))
  refine wpQuiet_nil ?_
  intro _ hw'
  obtain ⟨⟨dq, osq⟩, hw''⟩ := hw'
  subst hw''
  clear r0 r1 r2 s0 s1 s2 s3 hw hd hd2
  have hbq := below_regrown (w.alloc (Obj.cells #[.int .i64 k, .int .i64 n, .slice A a c, .slice B b d] 31)) dq osq
  have HPq := Lib.hid (HP1.out.below hbq)
  have HNq := Lib.hid (blk_below HNX.out hbq (by simp))
  have HWq := Lib.hid (HW1.out.below hbq)
  have HBq := Lib.hid (HB1.out.below hbq)
  have HBw := Lib.hid (HB.out.trans (hbq.mono (by simp)))
  clear hbq HP1 HNX HW1 HB1
  generalize grow (redrawn (w.alloc (Obj.cells #[.int .i64 k, .int .i64 n, .slice A a c, .slice B b d] 31)) dq) osq = wq at *
  have hsq := HBw.out.size
  have cq : wq.cell? ⟨p, 0, none⟩ = some (.slice A0 m c0) := blk_cell HPq.out.box 0
  go_wp2_with fail
  have q0 : wq.cell? ⟨w.heap.size, 0, none⟩ = some (.int .i64 k) := blk_cell HNq.out 0
  have q1 : wq.cell? ⟨w.heap.size, 1, none⟩ = some (.int .i64 n) := blk_cell HNq.out 1
  have q2 : wq.cell? ⟨w.heap.size, 2, none⟩ = some (.slice A a c) := blk_cell HNq.out 2
  have q3 : wq.cell? ⟨w.heap.size, 3, none⟩ = some (.slice B b d) := blk_cell HNq.out 3
  go_region_law (
    first
      | (go_simp; go_at_call 36; refine (copied_calls _ k n A B a b c d ws bs hws hbs ha hb (by exact HWq.out) (by exact HBq.out)).mono ?_; rintro e w9 ⟨vw, vb, rfl, hmw, hmb, hfw, hfb, hb9⟩; obtain ⟨A5, c5, rfl, _, _⟩ := hmw.shape; obtain ⟨B5, d5, rfl, _, _⟩ := hmb.shape; have hB9 : Below wq.heap.size wq w9 := ⟨hb9.os, hb9.tape, hb9.output, hb9.size, hb9.block⟩; have HOM : Hid (OM w9 (⟨k, n, ws, bs⟩, ⟨.slice A5 a c5, .slice B5 b d5⟩)) := Lib.hid ⟨by rw [hws]; exact hmw, by rw [hbs]; exact hmb, HWF.out⟩; have HO9 := Lib.hid (HPq.out.ol.below hB9); have HFr : Hid (∀ x, OMF (⟨k, n, ws, bs⟩, ⟨.slice A5 a c5, .slice B5 b d5⟩) x → wq.heap.size ≤ x) := Lib.hid (fun x hx => by rcases hx with hx | hx; exact hfw x hx; exact hfb x hx); have HN9 := Lib.hid (blk_below HNq.out hB9 (blk_lt HNq.out)); have hx9 := blk_below HPq.out.box hB9 (by omega); have HX9 := Lib.hid hx9; have c9 : w9.cell? ⟨p, 0, none⟩ = some (.slice A0 m c0) := blk_cell hx9 0; have HBw9 := Lib.hid (HBw.out.trans (hB9.mono hsq)); have c9a : ∀ ob, (w9.alloc ob).cell? ⟨p, 0, none⟩ = some (.slice A0 m c0) := fun ob => blk_cell (blk_alloc hx9 ob) 0; have hs9 := hB9.size; clear hmw hmb hfw hfb hb9 hB9 hx9)
      | (refine step_app _ (by rfl) (.tmp 34) (.tmp 37) _ (by rfl) 31 Try.underlying34 obj_info rfl (by decide) (by decide) 0 (n := m) (xs := ocells L) (by rfl) (by exact (HO9.out.own_n HLm.out).alloc _) (news := ocell (⟨k, n, ws, bs⟩, ⟨.slice A5 a c5, .slice B5 b d5⟩)) (by rfl) (by rfl) (by exact lie_new _ _ _ rfl) ocell_one (by omega) (Nat.zero_le _) ?_; intro v' w11 hown hg hat; have hK := ((Keeps.refl (fun b => (Value.slice A0 m c0).ownBlock = some b) w9).alloc _).grown hg (fun g hg _ => by exact hg); obtain ⟨A6, c6, rfl, _, _, _⟩ := own_shape hown; have HFn : Hid (∀ x, OLF (.slice A6 (m + 1) c6) (L ++ [(⟨k, n, ws, bs⟩, ⟨.slice A5 a c5, .slice B5 b d5⟩)]) x → HF p (.slice A0 m c0) L x ∨ w.heap.size ≤ x) := Lib.hid (fun x hx => add_foot (by exact hat) hx (fun x hx => Nat.le_trans hsq (HFr.out x hx)) (by simp; omega)); have HO11 := Lib.hid (HO9.out.snoc HOM.out (fun x hx hx2 => by have h1 := HFr.out x hx; have h2 := HPq.out.ol.lt hx2; omega) (by rw [HLm.out]; exact hown) hK); have HN11 := Lib.hid (blk_keeps HN9.out hK (fun e => by have := HPl.out.ol.lt (.inl e); omega)); have hx11 := blk_keeps HX9.out hK (fun e => own_ne_blk HO9.out.own HX9.out (by decide) e); have HX11 := Lib.hid hx11; have c11 := blk_cell hx11 0; have f11 := blk_frozen hx11 0; have HK11 := Lib.hid ((Keeps.of_below (F := HF p (.slice A0 m c0) L) HBw9.out).step hK (fun x _ hx => .inr (.inl hx))); clear hown hg hat hx11 hK))
  all_goals
    have HpS := Lib.hid (hp_store (v' := .slice A6 (m + 1) c6) HX11.out HO11.out (by rw [List.length_append, HLm.out]; simp; omega))
    have HNS := Lib.hid (blk_far HN11.out (p := ⟨p, 0, none⟩) (Nat.ne_of_gt hpl) (.slice A6 (m + 1) c6))
    have HKS := Lib.hid (setp_keeps HK11.out 0 (.slice A6 (m + 1) c6))
    clear HX11 HO11 HN11 HK11 c11 f11 HN9 HX9 c9 c9a HBw9 cq q0 q1 q2 q3 HPq HNq HWq HBq HBw hsq HO9 HOM HFr hs9 HB
    generalize w11.setCell ⟨p, 0, none⟩ (.slice A6 (m + 1) c6) = wS at *
    have hw2 : IntKind.i64.wrap (u + (16 + 8 * (a : Int) + b)) = u + (16 + 8 * (a : Int) + b) := by rw [IntKind.wrap_i64]; omega
    have t2 : wS.cell? ⟨p, 2, none⟩ = some (.int .i64 u) := blk_cell HpS.out.box 2
    have q0 : wS.cell? ⟨w.heap.size, 0, none⟩ = some (.int .i64 k) := blk_cell HNS.out 0
    have q1 : wS.cell? ⟨w.heap.size, 1, none⟩ = some (.int .i64 n) := blk_cell HNS.out 1
    have q2 : wS.cell? ⟨w.heap.size, 2, none⟩ = some (.slice A a c) := blk_cell HNS.out 2
    have q3 : wS.cell? ⟨w.heap.size, 3, none⟩ = some (.slice B b d) := blk_cell HNS.out 3
    go_wp2_with fail
    go_region_law (
      first
        | (go_simp; go_at_call 32; refine (HC.out _).mono ?_; rintro e wC ⟨rfl, hbC⟩; have hBC : Below wS.heap.size wS wC := ⟨hbC.os, hbC.tape, hbC.output, hbC.size, hbC.block⟩; have HpC := Lib.hid (HpS.out.below hBC); have HKC := Lib.hid (HKS.out.step (Keeps.of_below (F := fun _ => False) hBC) (fun _ _ h => h.elim)); have u2 : wC.cell? ⟨p, 2, none⟩ = some (.int .i64 u) := blk_cell HpC.out.box 2; have g2 := blk_frozen HpC.out.box; clear hbC hBC))
    all_goals
      have HpT := Lib.hid (hp_used HpC.out (u + (16 + 8 * (a : Int) + b)))
      have HKT := Lib.hid (setp_keeps HKC.out 2 (.int .i64 (u + (16 + 8 * (a : Int) + b))))
      clear HpC HKC u2 g2 t2 q0 q1 q2 q3 HpS HNS HKS
      generalize wC.setCell ⟨p, 2, none⟩ (.int .i64 (u + (16 + 8 * (a : Int) + b))) = wT at *
      have t0 : wT.cell? ⟨p, 0, none⟩ = some (.slice A6 (m + 1) c6) := blk_cell HpT.out.box 0
      go_wp2
      go_ret2
      refine ⟨A6, c6, _, rfl, HpT.out, fun x hx => ?_, HKT.out⟩
      rcases hx with hx | hx
      · exact .inl (.inl hx)
      · exact HFn.out x hx
end Go.Proofs.Ytmcjjikhdjoopaa
