/- Script: script.order, the reading of one line. -/
import Derived.Test.YtikidknmfbhilaaDoorScPure
namespace Go.Proofs.YtikidknmfbhilaaDoor
open Go.RowKit Go.Sort
set_option linter.unusedVariables false
def orderV : Option Odr → Value
  | some o => .tuple #[.agg #[.int .i64 o.kind, .int .i64 o.a, .int .i64 o.b, .int .i64 o.c], .bool true]
  | none => .tuple #[.agg #[.int .i64 0, .int .i64 0, .int .i64 0, .int .i64 0], .bool false]
theorem pieces_sp (s : ByteArray) : (Lib.splitB ⟨#[32]⟩ 0 (Lib.countB s ⟨#[32]⟩) s).map (·.data.toList) = sp 32 s.data.toList := by
  rw [Lib.splitB_data]
  exact split_sp 32 _ _ (Nat.le_refl _)
theorem pieces_len (s : ByteArray) : (Lib.splitB ⟨#[32]⟩ 0 (Lib.countB s ⟨#[32]⟩) s).length = Lib.countB s ⟨#[32]⟩ + 1 :=
  Lib.splitB_all _ (by decide) 0 _ s rfl
theorem count_small (s : ByteArray) : Lib.countB s ⟨#[32]⟩ ≤ s.size := Lib.countB_le _ (by decide) _ s (Nat.le_refl _)
theorem byte_eta (s : ByteArray) : (⟨s.data.toList.toArray⟩ : ByteArray) = s := by simp
theorem mem_jn (c : UInt8) : ∀ (ps : List (List UInt8)) (p : List UInt8), p ∈ ps → p.length ≤ (jn c ps).length
  | [], p, h => by cases h
  | [q], p, h => by rw [List.mem_singleton] at h; subst h; exact Nat.le_refl _
  | q :: r :: ps, p, h => by
    rw [jn, List.length_append, List.length_cons]
    rcases List.mem_cons.1 h with rfl | h
    · omega
    · have := mem_jn c (r :: ps) p h
      omega
theorem piece_le (s : ByteArray) (p : ByteArray) (h : p ∈ Lib.splitB ⟨#[32]⟩ 0 (Lib.countB s ⟨#[32]⟩) s) : p.size ≤ s.size := by
  have h1 : p.data.toList ∈ sp 32 s.data.toList := by rw [← pieces_sp]; exact List.mem_map.2 ⟨p, h, rfl⟩
  have h2 := mem_jn 32 _ _ h1
  rw [jn_sp] at h2
  rw [Lib.size_eq, Lib.size_eq]; exact h2
theorem bytes_eq {a : ByteArray} {l : List UInt8} : (⟨l.toArray⟩ : ByteArray) = a ↔ l = a.data.toList := by
  constructor
  · rintro rfl; simp
  · rintro rfl; exact byte_eta a
def icells4 (ns : List Int) : Array Value := (ns.map (Value.int .i64 ·)).toArray
theorem icells4_set (ns : List Int) (k : Nat) (v : Int) : (icells4 ns).setIfInBounds k (.int .i64 v) = icells4 (ns.set k v) := by
  simp [icells4, List.map_set]
/-- What the numbers read so far are. -/
def Got (ps : List ByteArray) (ns : List Int) (k : Nat) : Prop := ns.length = 4 ∧ ∀ j, j < k → ∀ p, ps[j]? = some p → numP p.data.toList = ns[j]?
theorem Got.next {ps : List ByteArray} {ns : List Int} {k : Nat} (h : Got ps ns k) (hk : k < 4) {p : ByteArray} (hp : ps[k]? = some p) {v : Int} (hv : numP p.data.toList = some v) : Got ps (ns.set k v) (k + 1) := by
  refine ⟨by rw [List.length_set]; exact h.1, fun j hj q hq => ?_⟩
  by_cases e : k = j
  · subst e
    rw [hp] at hq
    injection hq with hq
    subst hq
    rw [hv, List.getElem?_set_self (by have := h.1; omega)]
  · rw [List.getElem?_set_ne e]
    exact h.2 j (by omega) q hq
theorem Got.at_ {ps : List ByteArray} {ns : List Int} {k : Nat} (h : Got ps ns k) (hk : k < 4) : (icells4 ns)[k]? = some (.int .i64 (ns.getD k 0)) := by
  have := h.1
  simp [icells4, List.getElem?_eq_getElem (show k < ns.length by omega), List.getD]
theorem Got.all {ps : List ByteArray} {ns : List Int} {l : List UInt8} (h : Got ps ns 4) (hl : ps.length = 4) (hs : ps.map (·.data.toList) = sp 32 l) : ∃ a b c d, ns = [a, b, c, d] ∧ orderP l = some ⟨a, b, c, d⟩ := by
  obtain ⟨h1, h2⟩ := h
  match ns, h1 with
  | [a, b, c, d], _ =>
    match ps, hl with
    | [p, q, r, s], _ =>
      refine ⟨a, b, c, d, rfl, ?_⟩
      exact orderP_four hs.symm (h2 0 (by decide) p rfl) (h2 1 (by decide) q rfl) (h2 2 (by decide) r rfl) (h2 3 (by decide) s rfl)
theorem order_bad {ps : List ByteArray} {l : List UInt8} (hs : ps.map (·.data.toList) = sp 32 l) {k : Nat} {p : ByteArray} (hp : ps[k]? = some p) (h : numP p.data.toList = none) : orderP l = none :=
  orderP_no (by rw [← hs]; exact List.mem_map.2 ⟨p, List.mem_of_getElem? hp, rfl⟩) h

theorem below_growN (w : World) (k : Nat) (os : Array Go.Obj) : RowKit.Below w.heap.size w (grow (w.drewN k) os) :=
  ⟨rfl, rfl, rfl, by show w.heap.size ≤ (w.heap ++ os).size; rw [Array.size_append]; omega, fun j hj => by show (w.heap ++ os)[j]? = _; rw [Array.getElem?_append_left hj]⟩
theorem box4 {W : World} {b : Nat} {t : TypeId} {x0 x1 x2 x3 : Value} (h : W.heap[b]? = some (.cells #[x0, x1, x2, x3] t (0, 0))) :
    (W.cell? ⟨b, 0, none⟩ = some x0 ∧ W.cell? ⟨b, 1, none⟩ = some x1 ∧ W.cell? ⟨b, 2, none⟩ = some x2 ∧ W.cell? ⟨b, 3, none⟩ = some x3) ∧ W.frozen? ⟨b, 0, none⟩ = false ∧ W.frozen? ⟨b, 1, none⟩ = false ∧ W.frozen? ⟨b, 2, none⟩ = false ∧ W.frozen? ⟨b, 3, none⟩ = false :=
  ⟨⟨blk_cell h 0, blk_cell h 1, blk_cell h 2, blk_cell h 3⟩, blk_frozen h 0, blk_frozen h 1, blk_frozen h 2, blk_frozen h 3⟩
theorem set4 {W : World} {b : Nat} {t : TypeId} {x0 x1 x2 x3 : Value} (h : W.heap[b]? = some (.cells #[x0, x1, x2, x3] t (0, 0))) (y0 y1 y2 y3 : Value) :
    ((((W.setCell ⟨b, 0, none⟩ y0).setCell ⟨b, 1, none⟩ y1).setCell ⟨b, 2, none⟩ y2).setCell ⟨b, 3, none⟩ y3).heap[b]? = some (.cells #[y0, y1, y2, y3] t (0, 0)) := by
  simpa using blk_set (blk_set (blk_set (blk_set h 0 y0) 1 y1) 2 y2) 3 y3
set_option maxRecDepth 100000 in
theorem order_results (tmps : Array Value) (w : World) (b : Nat) (x0 x1 x2 x3 : Int) (r : Bool) (h2 : tmps.getD 2 undef = .pointer (some ⟨b, 0, none⟩)) (h3 : tmps.getD 3 undef = .bool r) (hb : w.heap[b]? = some (.cells #[.int .i64 x0, .int .i64 x1, .int .i64 x2, .int .i64 x3] 36 (0, 0))) :
    (results Tryd.f20 tmps).run Tryd.prog w = .ok (.tuple #[.agg #[.int .i64 x0, .int .i64 x1, .int .i64 x2, .int .i64 x3], .bool r]) w := by
  rw [results_cell_tmp Tryd.results20, h2, h3]
  have c0 := blk_cell hb 0
  have c1 := blk_cell hb 1
  have c2 := blk_cell hb 2
  have c3 := blk_cell hb 3
  simp at c0 c1 c2 c3
  simp [go_sem, c0, c1, c2, c3]
theorem beq_str {x p : ByteArray} : (x.toList == p.toList) = decide (x = p) := by
  rw [Lib.toList_data, Lib.toList_data]
  by_cases h : x = p
  · subst h; simp
  · have : x.data.toList ≠ p.data.toList := fun e => h (by rw [← byte_eta x, e, byte_eta])
    rw [decide_eq_false h, beq_eq_false_iff_ne]
    exact this
theorem below4 {B : Nat} {w W : World} {b : Nat} (h : RowKit.Below B w W) (hb : B ≤ b) (y0 y1 y2 y3 : Value) : RowKit.Below B w ((((W.setCell ⟨b, 0, none⟩ y0).setCell ⟨b, 1, none⟩ y1).setCell ⟨b, 2, none⟩ y2).setCell ⟨b, 3, none⟩ y3) :=
  (((h.setCell (p := ⟨b, 0, none⟩) hb _).setCell (p := ⟨b, 1, none⟩) hb _).setCell (p := ⟨b, 2, none⟩) hb _).setCell (p := ⟨b, 3, none⟩) hb _
theorem numP_ok {p : List UInt8} {v : Int} (h : Lib.atoiAll p = .ok v) : numP p = if Lib.itoa v = p ∧ fitsB v = true then some v else none := by
  unfold numP; rw [h]
theorem numP_no {p : List UInt8} (h : Lib.atoiAll p = .«syntax» ∨ Lib.atoiAll p = .range) : numP p = none := by
  unfold numP; rcases h with h | h <;> rw [h]
set_option maxRecDepth 100000 in
set_option maxHeartbeats 8000000 in
theorem order_calls (w : World) (s : ByteArray) (hs : s.size ≤ 1000000) (F : Facts w) :
    Calls Tryd.prog 20 #[.string s] w fun e w' => e = .returned (orderV (orderP s.data.toList)) ∧ Below w.heap.size w w' := by
  have HF := Lib.hid F
  obtain ⟨m, hm⟩ := F.len
  have hm1 : ∀ o, (w.alloc o).cell? ⟨0, 0, none⟩ = some (.int .i64 m) := fun o => (((Below.refl w.heap.size w).alloc (Nat.le_refl _) o).cell (p := ⟨0, 0, none⟩) (by have := HF.out.big; show 0 < _; omega)).trans hm
  have hc := count_small s
  have HP := Lib.hid (pieces_sp s)
  have HL := Lib.hid (pieces_len s)
  have HZ := Lib.hid (piece_le s)
  go_enter Tryd.func20, Tryd.ntmps20
  by_cases h4 : Lib.countB s ⟨#[32]⟩ = 3
  · go_wp2_with (go_at_call 25; refine (strings_Split _ _ m _ (by omega) (hm1 _) (by decide)).mono ?_; rintro e w' ⟨rfl, rfl⟩)
    rw [h4] at HP HL HZ
    generalize Lib.splitB ⟨#[32]⟩ 0 3 s = ps at *
    go_loopw [18] (fun i wr => ∃ (k : Nat) (ns : List Int), k ≤ 4 ∧ i = .int .i64 k ∧ Got ps ns k ∧ wr.heap[w.heap.size]? = some (.cells #[.int .i64 0, .int .i64 0, .int .i64 0, .int .i64 0] 36 (0, 0)) ∧ wr.heap[w.heap.size + 1]? = some (.cells (ps.map Value.string).toArray 9 (0, 0)) ∧ wr.heap[w.heap.size + 1 + 1]? = some (.cells (icells4 ns) 41 (0, 0)) ∧ Below w.heap.size w wr) (fun i _ => 4 - (intOf i).toNat)
    case atStart =>
      refine ⟨0, [0, 0, 0, 0], by omega, rfl, ⟨rfl, fun j hj => absurd hj (by omega)⟩, blk_alloc (blk_alloc (blk_new _ _) _) _, blk_alloc (by simpa using blk_new (w.alloc _) _) _, by simpa [icells4] using blk_new ((w.alloc _).alloc _) _, (((Below.refl _ _).alloc (Nat.le_refl _) _).alloc (by simp) _).alloc (by simp; omega) _⟩
    case round =>
      obtain ⟨k, ns, hk, rfl, hG, b0, b1, b2, hb⟩ := hrel
      have HB := Lib.hid hb
      have hsz := hb.size
      have s2 := blk_lt b2
      by_cases hlt : k < 4
      · obtain ⟨p, hp⟩ : ∃ p, ps[k]? = some p := ⟨_, List.getElem?_eq_getElem (by have := HL.out; omega)⟩
        have hps : p.size ≤ 1000000 := Nat.le_trans (HZ.out p (List.mem_of_getElem? hp)) hs
        have c1 : wr.cell? ⟨w.heap.size + 1, k, none⟩ = some (.string p) := by rw [blk_cell b1]; simp [hp]
        have HF1 := Lib.hid (HF.out.below hb HF.out.big)
        have HG := Lib.hid hG
        have H0 := Lib.hid b0
        have H1 := Lib.hid b1
        have H2 := Lib.hid b2
        have HQ := Lib.hid hp
        clear b0 b1 b2 hb hG hp F
        cases hA : Lib.atoiAll p.data.toList with
        | ok v =>
          have HA := Lib.hid hA
          clear hA
          have hv := Lib.atoiAll_bounds HA.out
          generalize hx : (⟨(Lib.itoa v).toArray⟩ : ByteArray) = x
          have HX := Lib.hid hx
          clear hx
          by_cases he : x = p
          · have hbe : (x.toList == p.toList) = true := by rw [beq_str]; exact decide_eq_true he
            have hX : Lib.itoa v = p.data.toList := bytes_eq.1 (HX.out.trans he)
            by_cases hf : fitsB v = true
            · go_wp2_with (first
                | (go_at_call 26; refine (strconv_Atoi_ok p (by omega) v HA.out _).mono ?_; rintro e w1 ⟨rfl, hw1⟩; have HB1 := Lib.hid (show RowKit.Below wr.heap.size wr w1 by rcases hw1 with rfl | ⟨t, rfl⟩; exact RowKit.Below.refl _ _; exact Lib.bytesWorld_below _ _ _); clear hw1)
                | (go_at_call 17; refine (strconv_Itoa v hv.1 hv.2 _ (HF1.out.below HB1.out (by have := HF.out.big; omega)).tab).mono ?_; rw [HX.out]; rintro e w2 ⟨rfl, kk, os, hw2⟩; have HB2 := Lib.hid (show RowKit.Below wr.heap.size wr w2 by rw [hw2]; exact HB1.out.trans ((below_growN w1 kk os).mono HB1.out.size)); clear hw2; have hs2 := HB2.out.size; skip)
                | (go_at_call 14; refine (fits_calls _ v).mono ?_; rw [hf]; rintro e w3 ⟨rfl, hb3⟩; have HB3 := Lib.hid (HB2.out.trans (hb3.mono hs2)); clear hb3; have hs3 := HB3.out.size; have HE := Lib.hid (blk_below H2.out HB3.out s2); have d3 : w3.cell? ⟨w.heap.size + 1 + 1, k, none⟩ = some (.int .i64 (ns.getD k 0)) := (blk_cell HE.out k).trans (HG.out.at_ hlt); have z3 := blk_frozen HE.out k))
              refine ⟨⟨k + 1, ns.set k v, by omega, by go_num, HG.out.next hlt HQ.out (by rw [numP_ok HA.out, if_pos ⟨hX, hf⟩]), blk_far (blk_below H0.out HB3.out (by omega)) (by simp; omega) _, blk_far (blk_below H1.out HB3.out (by omega)) (by simp) _, ?_, (HB.out.trans (HB3.out.mono hsz)).setCell (by show _ ≤ w.heap.size + 1 + 1; omega) _⟩, by simp [intOf]; omega⟩
              rw [← icells4_set]
              exact blk_set HE.out k _
            · have hf' : fitsB v = false := by simpa using hf
              go_wp2_with (first
                | (go_at_call 26; refine (strconv_Atoi_ok p (by omega) v HA.out _).mono ?_; rintro e w1 ⟨rfl, hw1⟩; have HB1 := Lib.hid (show RowKit.Below wr.heap.size wr w1 by rcases hw1 with rfl | ⟨t, rfl⟩; exact RowKit.Below.refl _ _; exact Lib.bytesWorld_below _ _ _); clear hw1)
                | (go_at_call 17; refine (strconv_Itoa v hv.1 hv.2 _ (HF1.out.below HB1.out (by have := HF.out.big; omega)).tab).mono ?_; rw [HX.out]; rintro e w2 ⟨rfl, kk, os, hw2⟩; have HB2 := Lib.hid (show RowKit.Below wr.heap.size wr w2 by rw [hw2]; exact HB1.out.trans ((below_growN w1 kk os).mono HB1.out.size)); clear hw2; have hs2 := HB2.out.size; skip)
                | (go_at_call 14; refine (fits_calls _ v).mono ?_; rw [hf']; rintro e w3 ⟨rfl, hb3⟩; have HB3 := Lib.hid (HB2.out.trans (hb3.mono hs2)); clear hb3; have hs3 := HB3.out.size; have HE := Lib.hid (blk_below H0.out HB3.out (by omega)); obtain ⟨⟨d0, d1, d2, d3⟩, z0, z1, z2, z3⟩ := box4 HE.out))
              refine bodyPost_ret (order_results _ _ w.heap.size 0 0 0 0 false rfl rfl (set4 HE.out _ _ _ _)) rfl ?_
              rw [order_bad HP.out HQ.out (by rw [numP_ok HA.out, if_neg (fun h => hf h.2)])]
              exact ⟨rfl, below4 (HB.out.trans (HB3.out.mono hsz)) (Nat.le_refl _) _ _ _ _⟩
          · have hbe : (x.toList == p.toList) = false := by rw [beq_str]; exact decide_eq_false he
            have hX : ¬ Lib.itoa v = p.data.toList := fun e => he (HX.out.symm.trans (bytes_eq.2 e))
            go_wp2_with (first
              | (go_at_call 26; refine (strconv_Atoi_ok p (by omega) v HA.out _).mono ?_; rintro e w1 ⟨rfl, hw1⟩; have HB1 := Lib.hid (show RowKit.Below wr.heap.size wr w1 by rcases hw1 with rfl | ⟨t, rfl⟩; exact RowKit.Below.refl _ _; exact Lib.bytesWorld_below _ _ _); clear hw1)
              | (go_at_call 17; refine (strconv_Itoa v hv.1 hv.2 _ (HF1.out.below HB1.out (by have := HF.out.big; omega)).tab).mono ?_; rw [HX.out]; rintro e w2 ⟨rfl, kk, os, hw2⟩; have HB2 := Lib.hid (show RowKit.Below wr.heap.size wr w2 by rw [hw2]; exact HB1.out.trans ((below_growN w1 kk os).mono HB1.out.size)); clear hw2; have hs2 := HB2.out.size; have HE := Lib.hid (blk_below H0.out HB2.out (by omega)); obtain ⟨⟨d0, d1, d2, d3⟩, z0, z1, z2, z3⟩ := box4 HE.out))
            refine bodyPost_ret (order_results _ _ w.heap.size 0 0 0 0 false rfl rfl (set4 HE.out _ _ _ _)) rfl ?_
            rw [order_bad HP.out HQ.out (by rw [numP_ok HA.out, if_neg (fun h => hX h.1)])]
            exact ⟨rfl, below4 (HB.out.trans (HB2.out.mono hsz)) (Nat.le_refl _) _ _ _ _⟩
        | «syntax» =>
          have HA := Lib.hid hA
          clear hA
          obtain ⟨t, q, hsyn⟩ := HF1.out.syn
          go_wp2_with (go_at_call 26; refine (strconv_Atoi_syntax p (by omega) HA.out _ _ hsyn (.inr ⟨t, q, rfl⟩)).mono ?_; rintro e w2 ⟨N, rfl, _, _, hb2⟩; have HB2 := Lib.hid hb2; clear hb2; have HE := Lib.hid (blk_below H0.out HB2.out (by omega)); obtain ⟨⟨d0, d1, d2, d3⟩, z0, z1, z2, z3⟩ := box4 HE.out)
          refine bodyPost_ret (order_results _ _ w.heap.size 0 0 0 0 false rfl rfl (set4 HE.out _ _ _ _)) rfl ?_
          rw [order_bad HP.out HQ.out (numP_no (.inl HA.out))]
          exact ⟨rfl, below4 (HB.out.trans (HB2.out.mono hsz)) (Nat.le_refl _) _ _ _ _⟩
        | range =>
          have HA := Lib.hid hA
          clear hA
          obtain ⟨t, q, hrng⟩ := HF1.out.rng
          go_wp2_with (go_at_call 26; refine (strconv_Atoi_range p (by omega) HA.out _ _ hrng (.inr ⟨t, q, rfl⟩)).mono ?_; rintro e w2 ⟨N, rfl, _, _, hb2⟩; have HB2 := Lib.hid hb2; clear hb2; have HE := Lib.hid (blk_below H0.out HB2.out (by omega)); obtain ⟨⟨d0, d1, d2, d3⟩, z0, z1, z2, z3⟩ := box4 HE.out)
          refine bodyPost_ret (order_results _ _ w.heap.size 0 0 0 0 false rfl rfl (set4 HE.out _ _ _ _)) rfl ?_
          rw [order_bad HP.out HQ.out (numP_no (.inr HA.out))]
          exact ⟨rfl, below4 (HB.out.trans (HB2.out.mono hsz)) (Nat.le_refl _) _ _ _ _⟩
      · have hk4 : k = 4 := by omega
        subst hk4
        obtain ⟨a, b, c, d, rfl, ho⟩ := hG.all HL.out HP.out
        obtain ⟨⟨x0, x1, x2, x3⟩, _⟩ := box4 b2
        obtain ⟨⟨d0, d1, d2, d3⟩, z0, z1, z2, z3⟩ := box4 b0
        go_wp2
        refine bodyPost_ret (order_results _ _ w.heap.size a b c d true rfl rfl (set4 b0 _ _ _ _)) rfl ?_
        exact ⟨rfl, below4 hb (Nat.le_refl _) _ _ _ _⟩
  · have h4' : ¬ (Lib.countB s ⟨#[32]⟩ + 1 : Int) = 4 := by omega
    go_wp2_with (go_at_call 25; refine (strings_Split _ _ m _ (by omega) (hm1 _) (by decide)).mono ?_; rintro e w' ⟨rfl, rfl⟩)
    refine bodyPost_ret (order_results _ _ w.heap.size 0 0 0 0 false rfl rfl (blk_alloc (blk_new _ _) _)) rfl ?_
    rw [orderP_len (by rw [← HP.out, List.length_map, HL.out]; omega)]
    exact ⟨rfl, ((Below.refl _ _).alloc (Nat.le_refl _) _).alloc (by simp) _⟩
end Go.Proofs.YtikidknmfbhilaaDoor
