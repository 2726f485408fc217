/- inst.Get. -/
import Derived.Test.YtjcceabdphkalaaInstPut
import Derived.Test.YtjcceabdphkalaaRdFixed
import Derived.Laws.ResultCell
namespace Go.Proofs.Ytjcceabdphkalaa
open Go.RowKit
set_option linter.unusedVariables false
theorem own_getD {w : World} {base bv : Nat} {k c : Nat} {A : Option Addr} {bs : List Int} (h : w.ownsRow base 5 1 (.slice A k c) k (bcells bs)) (hk : bs.length = k) (hbv : bv < base) : 0 < bs.length → ∃ b off, A = some ⟨b, off, none⟩ ∧ b < w.heap.size ∧ b ≠ bv ∧ ∀ j, j < bs.length → w.cell? ⟨b, off + j, none⟩ = some (.int .u8 (bs[j]?.getD 0)) := by
  intro hp
  obtain ⟨g, c', cur, e, _, hg, _, _, hc, _⟩ := own_at h (by omega)
  cases e
  exact ⟨g, 0, rfl, hg, by have := (h.lt g rfl).1; omega, fun j hj => by
    rw [Nat.zero_add, List.getElem?_eq_getElem hj]
    exact hc j _ (bcells_at (List.getElem?_eq_getElem hj))⟩
theorem rdFixed_no (w : World) (p : Nat) (S : Nat → Prop) (bs : List Int) (bad : Bool) (h : Rdr w p S bs bad) (n : Int) (hn : bad = true ∨ bs.length < cnt n) : Calls Try.prog 60 #[.pointer (some ⟨p, 0, none⟩), .int .i64 n] w fun e w' => e = .returned (.int .u64 0) ∧ Rdr w' p S bs true ∧ Keeps (· = p) w w' := by
  have hp := blk_lt (h.box.choose_spec.choose_spec.1)
  refine (rdFixed_of w (some ⟨p, 0, none⟩) n (fun w1 w2 ys => ys = [] ∧ Rdr w2 p S bs true ∧ Keeps (· = p) w1 w2) ?_).mono ?_
  · rintro w1 m rfl rfl
    have h1 := h.below ((Below.refl _ w).alloc (Nat.le_refl _) (.cells #[.int .u64 0] 25))
    refine (take_no _ p S bs bad h1 _ (hn.elim .inl (fun h => .inr (.inr (by omega))))).mono ?_
    rintro e w2 ⟨rfl, hR, hK⟩
    exact ⟨[], ⟨none, 0, rfl, by simp, fun x hx => absurd hx (by simp), fun h => absurd h (by simp)⟩, ⟨rfl, hR, hK⟩, blk_keeps (blk_new _ _) hK (by omega)⟩
  · rintro e w' ⟨ys, w1, w2, rfl, rfl, ⟨rfl, hR, hK⟩, hk⟩
    refine ⟨rfl, hR.keeps hk (by omega) (fun b hb => by have := (h.far b hb).1; omega), ?_⟩
    exact ((Keeps.refl (· = p) w).alloc _).trans hK |>.step hk (fun x hx e => by omega)
theorem rdFixed_ok (w : World) (p : Nat) (S : Nat → Prop) (bs : List Int) (h : Rdr w p S bs false) (n : Int) (hn : cnt n ≤ bs.length) : Calls Try.prog 60 #[.pointer (some ⟨p, 0, none⟩), .int .i64 n] w fun e w' => e = .returned (.int .u64 (leB (bs.take (cnt n)))) ∧ Rdr w' p S (bs.drop (cnt n)) false ∧ Keeps (· = p) w w' := by
  have hp := blk_lt (h.box.choose_spec.choose_spec.1)
  have hc8 := cnt_le n
  have hl : (bs.take (cnt n)).length = cnt n := by rw [List.length_take]; omega
  refine (rdFixed_of w (some ⟨p, 0, none⟩) n (fun w1 w2 ys => ys = bs.take (cnt n) ∧ Rdr w2 p S (bs.drop (cnt n)) false ∧ Keeps (· = p) w1 w2) ?_).mono ?_
  · rintro w1 m rfl rfl
    have h1 := h.below ((Below.refl _ w).alloc (Nat.le_refl _) (.cells #[.int .u64 0] 25))
    refine (take_ok _ p S bs h1 _ hn).mono ?_
    rintro e w2 ⟨A, c, rfl, ho, hR, hK⟩
    exact ⟨bs.take (cnt n), ⟨A, c, by rw [hl], by omega, fun x hx => h.isb x (List.mem_of_mem_take hx), own_getD ho hl (by simp)⟩, ⟨rfl, hR, hK⟩, blk_keeps (blk_new _ _) hK (by omega)⟩
  · rintro e w' ⟨ys, w1, w2, rfl, rfl, ⟨rfl, hR, hK⟩, hk⟩
    refine ⟨rfl, hR.keeps hk (by omega) (fun b hb => by have := (h.far b hb).1; omega), ?_⟩
    exact ((Keeps.refl (· = p) w).alloc _).trans hK |>.step hk (fun x hx e => by omega)
/-- One byte. -/
theorem rdByte (w : World) (p : Nat) (S : Nat → Prop) (o : Nat) (r : List Int) (h : Rdr w p S ((o : Int) :: r) false) : Calls Try.prog 60 #[.pointer (some ⟨p, 0, none⟩), .int .i64 1] w fun e w' => e = .returned (.int .u64 (o : Int)) ∧ Rdr w' p S r false ∧ Keeps (· = p) w w' := by
  have hb := h.isb (o : Int) (by simp)
  refine (rdFixed_ok w p S _ h 1 (by show cnt 1 ≤ r.length + 1; rw [show cnt 1 = 1 from rfl]; omega)).mono ?_
  rintro e w' ⟨rfl, hR, hK⟩
  rw [show cnt 1 = 1 from rfl] at hR ⊢
  refine ⟨?_, hR, hK⟩
  have e : leB (((o : Int) :: r).take 1) = o := by simp [leB]; omega
  rw [e]
def gotV : Option (Ins × List Int) → Value
  | none => .tuple #[.agg #[.int .i64 0, .int .i64 0, .int .i64 0], .bool false]
  | some (i, _) => .tuple #[.agg #[.int .i64 i.op, .int .i64 i.a, .int .i64 i.b], .bool true]
/-- What Get leaves. -/
def GotI (w : World) (p : Nat) (S : Nat → Prop) (bs : List Int) (e : Ending) (w' : World) : Prop := e = .returned (gotV (getI bs)) ∧ Keeps (· = p) w w' ∧ ∀ i r, getI bs = some (i, r) → Rdr w' p S r false
theorem keeps3 {p R : Nat} {w w3 : World} (hk : Keeps (· = p) w w3) (hR : w.heap.size ≤ R) (x y z : Value) : Keeps (· = p) w (((w3.setCell ⟨R, 0, none⟩ x).setCell ⟨R, 1, none⟩ y).setCell ⟨R, 2, none⟩ z) :=
  ((hk.setCell (p := ⟨R, 0, none⟩) (fun h => by have : R < w.heap.size := h; omega) _).setCell (p := ⟨R, 1, none⟩) (fun h => by have : R < w.heap.size := h; omega) _).setCell (p := ⟨R, 2, none⟩) (fun h => by have : R < w.heap.size := h; omega) _
theorem got_none {p R : Nat} {S : Nat → Prop} {w w3 : World} {bs : List Int} {x y z : Value} (h : getI bs = none) (hk : Keeps (· = p) w w3) (hR : w.heap.size ≤ R) : GotI w p S bs (.returned (.tuple #[.agg #[.int .i64 0, .int .i64 0, .int .i64 0], .bool false])) (((w3.setCell ⟨R, 0, none⟩ x).setCell ⟨R, 1, none⟩ y).setCell ⟨R, 2, none⟩ z) :=
  ⟨by rw [h]; rfl, keeps3 hk hR _ _ _, fun i r e => by rw [h] at e; cases e⟩
theorem got_some {p R : Nat} {S : Nat → Prop} {w w3 : World} {bs r : List Int} {x y z : Value} {i : Ins} (h : getI bs = some (i, r)) (hk : Keeps (· = p) w w3) (hr : Rdr w3 p S r false) (hR : w.heap.size ≤ R) (hp : p < w.heap.size) (hS : ∀ b, S b → b < w.heap.size) : GotI w p S bs (.returned (.tuple #[.agg #[.int .i64 i.op, .int .i64 i.a, .int .i64 i.b], .bool true])) (((w3.setCell ⟨R, 0, none⟩ x).setCell ⟨R, 1, none⟩ y).setCell ⟨R, 2, none⟩ z) :=
  ⟨by rw [h]; rfl, keeps3 hk hR _ _ _, fun j r' e => by
    rw [h] at e
    cases e
    have k3 : Keeps (· = R) w3 (((w3.setCell ⟨R, 0, none⟩ x).setCell ⟨R, 1, none⟩ y).setCell ⟨R, 2, none⟩ z) := Keeps.setCell (F := (· = R)) (Keeps.setCell (F := (· = R)) (Keeps.setCell (F := (· = R)) (Keeps.refl _ _) (p := ⟨R, 0, none⟩) (fun _ => rfl) x) (p := ⟨R, 1, none⟩) (fun _ => rfl) y) (p := ⟨R, 2, none⟩) (fun _ => rfl) z
    exact hr.keeps k3 (by omega) (fun b hb e => by have := hS b hb; omega)⟩
def Inv (r : List Int) (k x y : Nat) (rest : List Int) : Prop :=
  (k = 0 ∧ x = 0 ∧ y = 0 ∧ rest = r) ∨ (k = 1 ∧ (readV 0 0 r).bad = false ∧ (readV 0 0 r).val = x ∧ x ≤ 255 ∧ y = 0 ∧ rest = (readV 0 0 r).rest) ∨
  (k = 2 ∧ (readV 0 0 r).bad = false ∧ (readV 0 0 r).val = x ∧ x ≤ 255 ∧ (readV 0 0 (readV 0 0 r).rest).bad = false ∧ (readV 0 0 (readV 0 0 r).rest).val = y ∧ y ≤ 255 ∧ rest = (readV 0 0 (readV 0 0 r).rest).rest)
theorem Inv.small {r : List Int} {k x y : Nat} {rest : List Int} (h : Inv r k x y rest) : x ≤ 255 ∧ y ≤ 255 := by
  rcases h with h | h | h <;> omega
theorem Inv.step0 {r : List Int} (hb : (readV 0 0 r).bad = false) (hv : (readV 0 0 r).val ≤ 255) : Inv r 1 (readV 0 0 r).val 0 (readV 0 0 r).rest := .inr (.inl ⟨rfl, hb, rfl, hv, rfl, rfl⟩)
theorem getI_fin {op : Int} {r : List Int} {k x y : Nat} {rest : List Int} (h : Inv r k x y rest) (hk : argsN op = (k : Int)) : getI (op :: r) = some (⟨op, x, y⟩, rest) := by
  rcases h with ⟨rfl, rfl, rfl, rfl⟩ | ⟨rfl, h1, rfl, h2, rfl, rfl⟩ | ⟨rfl, h1, rfl, h2, h3, rfl, h4, rfl⟩
  · simp [getI, hk]
  · have h5 : ¬ 255 < (readV 0 0 r).val := by omega
    simp [getI, hk, h1, h5]
  · have h5 : ¬ 255 < (readV 0 0 r).val := by omega
    have h6 : ¬ 255 < (readV 0 0 (readV 0 0 r).rest).val := by omega
    simp [getI, hk, h1, h3, h5, h6]
theorem getI_stop {op : Int} {r : List Int} {k n x y : Nat} {rest : List Int} (h : Inv r k x y rest) (hk : k < n) (hn : argsN op = (n : Int)) (hn2 : n ≤ 2) (hb : (readV 0 0 rest).bad = true ∨ 255 < (readV 0 0 rest).val) : getI (op :: r) = none := by
  rcases h with ⟨rfl, rfl, rfl, rfl⟩ | ⟨rfl, h1, rfl, h2, rfl, rfl⟩ | ⟨rfl, _⟩
  · have : n = 1 ∨ n = 2 := by omega
    rcases this with rfl | rfl <;> simp [getI, hn, hb]
  · obtain rfl : n = 2 := by omega
    have h5 : ¬ 255 < (readV 0 0 r).val := by omega
    simp [getI, hn, h1, h5, hb]
  · omega
theorem Inv.next {r : List Int} {k x y : Nat} {rest : List Int} (h : Inv r k x y rest) (hk : k < 2) (hb : (readV 0 0 rest).bad = false) (hv : (readV 0 0 rest).val ≤ 255) : Inv r (k + 1) (if k = 0 then (readV 0 0 rest).val else x) (if k = 0 then y else (readV 0 0 rest).val) (readV 0 0 rest).rest := by
  rcases h with ⟨rfl, rfl, rfl, rfl⟩ | ⟨rfl, h1, rfl, h2, rfl, rfl⟩ | ⟨rfl, _⟩
  · exact .inr (.inl ⟨rfl, hb, rfl, hv, rfl, rfl⟩)
  · exact .inr (.inr ⟨rfl, h1, rfl, h2, hb, rfl, hv, rfl⟩)
  · omega
theorem cells_next (k x y v : Nat) (hk : k < 2) : (#[Value.int .u64 (x : Int), .int .u64 (y : Int)] : Array Value).setIfInBounds k (.int .u64 (v : Int)) = #[.int .u64 ((if k = 0 then v else x : Nat) : Int), .int .u64 ((if k = 0 then y else v : Nat) : Int)] := by
  have : k = 0 ∨ k = 1 := by omega
  rcases this with rfl | rfl <;> rfl
set_option maxRecDepth 100000 in
set_option maxHeartbeats 1000000 in
theorem get_nil (w : World) (p : Nat) (S : Nat → Prop) (h : Rdr w p S [] false) : Calls Try.prog 32 #[.pointer (some ⟨p, 0, none⟩)] w (GotI w p S []) := by
  have HR1 := Lib.hid (h.below ((Below.refl _ w).alloc (Nat.le_refl _) (.cells #[.int .i64 0, .int .i64 0, .int .i64 0] 54)))
  have HX := Lib.hid (blk_new w (.cells #[.int .i64 0, .int .i64 0, .int .i64 0] 54))
  have hp := blk_lt (h.box.choose_spec.choose_spec.1)
  have HA := Lib.hid (fun w' => args_at w' 0 1 rfl)
  have HK0 := Lib.hid ((Keeps.refl (· = p) w).alloc (.cells #[.int .i64 0, .int .i64 0, .int .i64 0] 54))
  clear h
  go_enter Try.func32, Try.ntmps32
  go_wp2_with (first
    | (go_at_call 60; refine (rdFixed_no _ _ _ _ _ HR1.out 1 (.inr (by decide))).mono ?_; rintro e w2 ⟨rfl, hR, hK⟩; have HR2 := Lib.hid hR; have HK2 := Lib.hid hK; have HX2 := Lib.hid (blk_keeps HX.out hK (by omega)); obtain ⟨c0, c1, c2⟩ := box3 HX2.out; have f0 := blk_frozen HX2.out 0; have f1 := blk_frozen HX2.out 1; have f2 := blk_frozen HX2.out 2; clear hR hK)
    | (go_at_call 36; refine (HA.out _).mono ?_; rintro e w3 ⟨rfl, rfl⟩)
    | (go_at_call 53; refine (bad_calls _ _ _ _ _ HR2.out).mono ?_; rintro e w3 ⟨rfl, rfl⟩))
  have hcell := blk_cell (blk_set (blk_set (blk_set HX2.out 0 (.int .i64 0)) 1 (.int .i64 0)) 2 (.int .i64 0))
  exact bodyPost_ret (v := .tuple #[.agg #[.int .i64 0, .int .i64 0, .int .i64 0], .bool false]) (by simp [results, Try.results32, go_sem, hcell]) rfl (got_none rfl (HK0.out.trans HK2.out) (by omega))
set_option maxRecDepth 100000 in
set_option maxHeartbeats 2000000 in
theorem get_cons (w : World) (p : Nat) (S : Nat → Prop) (o : Nat) (r : List Int) (h : Rdr w p S ((o : Int) :: r) false) : Calls Try.prog 32 #[.pointer (some ⟨p, 0, none⟩)] w (GotI w p S ((o : Int) :: r)) := by
  have HR1 := Lib.hid (h.below ((Below.refl _ w).alloc (Nat.le_refl _) (.cells #[.int .i64 0, .int .i64 0, .int .i64 0] 54)))
  have HX := Lib.hid (blk_new w (.cells #[.int .i64 0, .int .i64 0, .int .i64 0] 54))
  have hp := blk_lt (h.box.choose_spec.choose_spec.1)
  have HS := Lib.hid (fun b hb => (h.far b hb).1)
  have hb := h.isb (o : Int) (by simp)
  have HK0 := Lib.hid ((Keeps.refl (· = p) w).alloc (.cells #[.int .i64 0, .int .i64 0, .int .i64 0] 54))
  obtain ⟨n, hn⟩ : ∃ n : Int, argsN (o : Int) = n := ⟨_, rfl⟩
  have hr := argsN_range (o : Int)
  rw [hn] at hr
  have HN := Lib.hid hn
  clear h hn
  rcases hr with rfl | hr
  · have HA := Lib.hid (fun w' => args_at w' (o : Int) (-1) HN.out)
    go_enter Try.func32, Try.ntmps32
    go_wp2_with (first
      | (go_at_call 60; refine (rdByte _ _ _ _ _ HR1.out).mono ?_; rintro e w2 ⟨rfl, hR, hK⟩; have HR2 := Lib.hid hR; have HK2 := Lib.hid hK; have HX2 := Lib.hid (blk_keeps HX.out hK (by omega)); obtain ⟨c0, c1, c2⟩ := box3 HX2.out; have f0 := blk_frozen HX2.out 0; have f1 := blk_frozen HX2.out 1; have f2 := blk_frozen HX2.out 2; clear hR hK)
      | (go_at_call 36; refine (HA.out _).mono ?_; rintro e w3 ⟨rfl, rfl⟩)
      | (go_at_call 53; refine (bad_calls _ _ _ _ _ HR2.out).mono ?_; rintro e w3 ⟨rfl, rfl⟩))
    have hcell := blk_cell (blk_set (blk_set (blk_set HX2.out 0 (.int .i64 0)) 1 (.int .i64 0)) 2 (.int .i64 0))
    exact bodyPost_ret (v := .tuple #[.agg #[.int .i64 0, .int .i64 0, .int .i64 0], .bool false]) (by simp [results, Try.results32, go_sem, hcell]) rfl (got_none (by simp [getI, HN.out]) (HK0.out.trans HK2.out) (by omega))
  · obtain ⟨m, rfl⟩ := Int.eq_ofNat_of_zero_le (show 0 ≤ n by omega)
    have hm : m ≤ 2 := by omega
    have HA := Lib.hid (fun w' => args_at w' (o : Int) (m : Int) HN.out)
    clear hr
    go_enter Try.func32, Try.ntmps32
    go_wp2_with (first
      | (go_at_call 60; refine (rdByte _ _ _ _ _ HR1.out).mono ?_; rintro e w2 ⟨rfl, hR, hK⟩; have HR2 := Lib.hid hR; have HK2 := Lib.hid (HK0.out.trans hK); have HX2 := Lib.hid (blk_keeps HX.out hK (by omega)); clear hR hK)
      | (go_at_call 36; refine (HA.out _).mono ?_; rintro e w3 ⟨rfl, rfl⟩)
      | (go_at_call 53; refine (bad_calls _ _ _ _ _ HR2.out).mono ?_; rintro e w3 ⟨rfl, rfl⟩))
    have hVl := HK2.out.size
    have HV := Lib.hid (blk_new w3 (Obj.cells #[.int .u64 0, .int .u64 0] 100))
    have HXV := Lib.hid (blk_alloc HX2.out (Obj.cells #[.int .u64 0, .int .u64 0] 100))
    have HRV := Lib.hid (HR2.out.below ((Below.refl _ w3).alloc (Nat.le_refl _) (Obj.cells #[.int .u64 0, .int .u64 0] 100)))
    have HKV := Lib.hid (HK2.out.alloc (Obj.cells #[.int .u64 0, .int .u64 0] 100))
    have hRl := blk_lt HX2.out
    clear HR1 HX HK0 HX2 HR2 HK2 HA
    go_loopw [21] (fun ix wr => ∃ (k x y : Nat) (rest : List Int), k ≤ m ∧ ix = .int .i64 k ∧ Hid (Inv r k x y rest) ∧ Hid (Rdr wr p S rest false) ∧ Hid (wr.heap[w3.heap.size]? = some (.cells #[.int .u64 x, .int .u64 y] 100 (0, 0))) ∧ Hid (wr.heap[w.heap.size]? = some (.cells #[.int .i64 0, .int .i64 0, .int .i64 0] 54 (0, 0))) ∧ Hid (Keeps (· = p) w wr) ∧ w3.heap.size < wr.heap.size) (fun ix _ => m - (intOf ix).toNat)
    case atStart => exact ⟨0, 0, 0, r, by omega, rfl, Lib.hid (.inl ⟨rfl, rfl, rfl, rfl⟩), HRV, HV, HXV, HKV, by simp⟩
    case round =>
      obtain ⟨k, x, y, rest, hk, rfl, HI, HR, HV, HX, HK, hsz⟩ := hrel
      by_cases hlt : k < m
      · have hk2 : k < 2 := by omega
        cases hbad : (readV 0 0 rest).bad with
        | true =>
          have hv0 := Lib.hid (readV_bad _ 0 0 hbad)
          have hbd := Lib.hid hbad
          have HG := Lib.hid (getI_stop HI.out hlt HN.out hm (.inl hbad))
          clear hbad
          have hk01 : k = 0 ∨ k = 1 := by omega
          have hne1 : w.heap.size ≠ w3.heap.size := by omega
          have hne2 : w3.heap.size ≠ w.heap.size := by omega
          rcases hk01 with rfl | rfl
          all_goals
            go_wp2_with (first
              | (go_at_call 61; refine (rdVar_calls _ _ _ _ HR.out).mono ?_; rw [hv0.out, hbd.out]; rintro e w4 ⟨rfl, hR, hK⟩; have HV4 := Lib.hid (blk_keeps HV.out hK (by omega)); have HX4 := Lib.hid (blk_keeps HX.out hK (by omega)); have HK4 := Lib.hid (HK.out.trans hK); have HR4 := Lib.hid hR; have q0 := blk_cell HV4.out 0; have q1 := blk_cell HV4.out 1; have g0 := blk_frozen HV4.out 0; have g1 := blk_frozen HV4.out 1; simp at q0 q1; have hs4 := hK.size; obtain ⟨c0, c1, c2⟩ := box3 HX4.out; have f0 := blk_frozen HX4.out 0; have f1 := blk_frozen HX4.out 1; have f2 := blk_frozen HX4.out 2; clear hR hK)
              | (go_at_call 53; refine (bad_calls _ _ _ _ _ (HR4.out.keeps (Keeps.setCell (F := (· = w3.heap.size)) (Keeps.refl _ _) (fun _ => rfl) _) (by omega) (fun b hb e => by have := HS.out b hb; omega))).mono ?_; rintro e w5 ⟨rfl, rfl⟩))
            first
              | (have hcell := blk_cell (blk_set (blk_set (blk_set (blk_far HX4.out (p := ⟨w3.heap.size, 0, none⟩) hne1 (.int .u64 0)) 0 (.int .i64 0)) 1 (.int .i64 0)) 2 (.int .i64 0)); exact bodyPost_ret (v := .tuple #[.agg #[.int .i64 0, .int .i64 0, .int .i64 0], .bool false]) (by simp [results, Try.results32, go_sem, hcell]) rfl (got_none HG.out (HK4.out.setCell (p := ⟨w3.heap.size, 0, none⟩) (fun h => absurd (show w3.heap.size < w.heap.size from h) (by omega)) _) (Nat.le_refl _)))
              | (have hcell := blk_cell (blk_set (blk_set (blk_set (blk_far HX4.out (p := ⟨w3.heap.size, 1, none⟩) hne1 (.int .u64 0)) 0 (.int .i64 0)) 1 (.int .i64 0)) 2 (.int .i64 0)); exact bodyPost_ret (v := .tuple #[.agg #[.int .i64 0, .int .i64 0, .int .i64 0], .bool false]) (by simp [results, Try.results32, go_sem, hcell]) rfl (got_none HG.out (HK4.out.setCell (p := ⟨w3.heap.size, 1, none⟩) (fun h => absurd (show w3.heap.size < w.heap.size from h) (by omega)) _) (Nat.le_refl _)))
        | false =>
          obtain ⟨v, hv⟩ : ∃ v, (readV 0 0 rest).val = v := ⟨_, rfl⟩
          have hv0 := Lib.hid hv
          have hbd := Lib.hid hbad
          have hk01 : k = 0 ∨ k = 1 := by omega
          have hne1 : w.heap.size ≠ w3.heap.size := by omega
          have hne2 : w3.heap.size ≠ w.heap.size := by omega
          by_cases hbig : 255 < v
          · have HG := Lib.hid (getI_stop HI.out hlt HN.out hm (.inr (by rw [hv]; exact hbig)))
            clear hbad hv
            rcases hk01 with rfl | rfl
            all_goals
              go_wp2_with (first
              | (go_at_call 61; refine (rdVar_calls _ _ _ _ HR.out).mono ?_; rw [hv0.out, hbd.out]; rintro e w4 ⟨rfl, hR, hK⟩; have HV4 := Lib.hid (blk_keeps HV.out hK (by omega)); have HX4 := Lib.hid (blk_keeps HX.out hK (by omega)); have HK4 := Lib.hid (HK.out.trans hK); have HR4 := Lib.hid hR; have q0 := blk_cell HV4.out 0; have q1 := blk_cell HV4.out 1; have g0 := blk_frozen HV4.out 0; have g1 := blk_frozen HV4.out 1; simp at q0 q1; have hs4 := hK.size; obtain ⟨c0, c1, c2⟩ := box3 HX4.out; have f0 := blk_frozen HX4.out 0; have f1 := blk_frozen HX4.out 1; have f2 := blk_frozen HX4.out 2; clear hR hK)
              | (go_at_call 53; refine (bad_calls _ _ _ _ _ (HR4.out.keeps (Keeps.setCell (F := (· = w3.heap.size)) (Keeps.refl _ _) (fun _ => rfl) _) (by omega) (fun b hb e => by have := HS.out b hb; omega))).mono ?_; rintro e w5 ⟨rfl, rfl⟩))
              first
                | (have hcell := blk_cell (blk_set (blk_set (blk_set (blk_far HX4.out (p := ⟨w3.heap.size, 0, none⟩) hne1 (.int .u64 (v : Int))) 0 (.int .i64 0)) 1 (.int .i64 0)) 2 (.int .i64 0)); exact bodyPost_ret (v := .tuple #[.agg #[.int .i64 0, .int .i64 0, .int .i64 0], .bool false]) (by simp [results, Try.results32, go_sem, hcell]) rfl (got_none HG.out (HK4.out.setCell (p := ⟨w3.heap.size, 0, none⟩) (fun h => absurd (show w3.heap.size < w.heap.size from h) (by omega)) _) (Nat.le_refl _)))
                | (have hcell := blk_cell (blk_set (blk_set (blk_set (blk_far HX4.out (p := ⟨w3.heap.size, 1, none⟩) hne1 (.int .u64 (v : Int))) 0 (.int .i64 0)) 1 (.int .i64 0)) 2 (.int .i64 0)); exact bodyPost_ret (v := .tuple #[.agg #[.int .i64 0, .int .i64 0, .int .i64 0], .bool false]) (by simp [results, Try.results32, go_sem, hcell]) rfl (got_none HG.out (HK4.out.setCell (p := ⟨w3.heap.size, 1, none⟩) (fun h => absurd (show w3.heap.size < w.heap.size from h) (by omega)) _) (Nat.le_refl _)))
          · have HNx := Lib.hid (HI.out.next hk2 hbad (by omega))
            have hv8 : v ≤ 255 := by omega
            clear hbad hv
            rcases hk01 with rfl | rfl
            all_goals
              go_wp2_with (first
              | (go_at_call 61; refine (rdVar_calls _ _ _ _ HR.out).mono ?_; rw [hv0.out, hbd.out]; rintro e w4 ⟨rfl, hR, hK⟩; have HV4 := Lib.hid (blk_keeps HV.out hK (by omega)); have HX4 := Lib.hid (blk_keeps HX.out hK (by omega)); have HK4 := Lib.hid (HK.out.trans hK); have HR4 := Lib.hid hR; have q0 := blk_cell HV4.out 0; have q1 := blk_cell HV4.out 1; have g0 := blk_frozen HV4.out 0; have g1 := blk_frozen HV4.out 1; simp at q0 q1; have hs4 := hK.size; obtain ⟨c0, c1, c2⟩ := box3 HX4.out; have f0 := blk_frozen HX4.out 0; have f1 := blk_frozen HX4.out 1; have f2 := blk_frozen HX4.out 2; clear hR hK)
              | (go_at_call 53; refine (bad_calls _ _ _ _ _ (HR4.out.keeps (Keeps.setCell (F := (· = w3.heap.size)) (Keeps.refl _ _) (fun _ => rfl) _) (by omega) (fun b hb e => by have := HS.out b hb; omega))).mono ?_; rintro e w5 ⟨rfl, rfl⟩))
              go_roundw
              case rel =>
                have hn := HNx.out
                rw [hv0.out] at hn
                refine ⟨_, _, _, _, ?_, ?_, Lib.hid hn, Lib.hid (HR4.out.keeps (Keeps.setCell (F := (· = w3.heap.size)) (Keeps.refl _ _) (fun _ => rfl) _) (by omega) (fun b hb e => by have := HS.out b hb; omega)), Lib.hid ?_, Lib.hid (blk_far HX4.out hne1 _), Lib.hid (HK4.out.setCell (fun h => absurd (show w3.heap.size < w.heap.size from h) (by omega)) _), by simp; omega⟩
                · omega
                · go_num
                · first | exact blk_set HV4.out 0 _ | exact blk_set HV4.out 1 _
              case measure => simp [intOf]; omega
      · obtain rfl : k = m := by omega
        have q0 := blk_cell HV.out 0
        have q1 := blk_cell HV.out 1
        simp at q0 q1
        obtain ⟨c0, c1, c2⟩ := box3 HX.out
        have f0 := blk_frozen HX.out 0
        have f1 := blk_frozen HX.out 1
        have f2 := blk_frozen HX.out 2
        have hxy := HI.out.small
        have hx8 := hxy.1
        have hy8 := hxy.2
        clear hxy
        go_wp2
        have hcell := blk_cell (blk_set (blk_set (blk_set HX.out 0 (.int .i64 (o : Int))) 1 (.int .i64 (x : Int))) 2 (.int .i64 (y : Int)))
        exact bodyPost_ret (v := .tuple #[.agg #[.int .i64 (o : Int), .int .i64 (x : Int), .int .i64 (y : Int)], .bool true]) (by simp [results, Try.results32, go_sem, hcell]) rfl (got_some (getI_fin HI.out HN.out) HK.out HR.out (Nat.le_refl _) hp HS.out)
theorem get_calls (w : World) (p : Nat) (S : Nat → Prop) (bs : List Int) (h : Rdr w p S bs false) : Calls Try.prog 32 #[.pointer (some ⟨p, 0, none⟩)] w (GotI w p S bs) := by
  cases bs with
  | nil => exact get_nil w p S h
  | cons c r =>
    obtain ⟨o, rfl⟩ := Int.eq_ofNat_of_zero_le (h.isb c (by simp)).1
    exact get_cons w p S o r h
theorem get_ok (w : World) (p : Nat) (S : Nat → Prop) (bs : List Int) (h : Rdr w p S bs false) (i : Ins) (r : List Int) (hg : getI bs = some (i, r)) : Calls Try.prog 32 #[.pointer (some ⟨p, 0, none⟩)] w fun e w' => e = .returned (.tuple #[.agg #[.int .i64 i.op, .int .i64 i.a, .int .i64 i.b], .bool true]) ∧ Rdr w' p S r false ∧ Keeps (· = p) w w' :=
  (get_calls w p S bs h).mono fun e w' ⟨h1, h2, h3⟩ => ⟨by rw [h1, hg]; rfl, h3 i r hg, h2⟩
theorem get_no (w : World) (p : Nat) (S : Nat → Prop) (bs : List Int) (h : Rdr w p S bs false) (hg : getI bs = none) : Calls Try.prog 32 #[.pointer (some ⟨p, 0, none⟩)] w fun e w' => e = .returned (.tuple #[.agg #[.int .i64 0, .int .i64 0, .int .i64 0], .bool false]) ∧ Keeps (· = p) w w' :=
  (get_calls w p S bs h).mono fun e w' ⟨h1, h2, h3⟩ => ⟨by rw [h1, hg]; rfl, h2⟩
end Go.Proofs.Ytjcceabdphkalaa
