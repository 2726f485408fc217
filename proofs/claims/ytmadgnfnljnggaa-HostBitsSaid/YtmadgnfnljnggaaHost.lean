/- host.Needs, host.Bind, host.Wants and the reference's: which kinds are needed, as four bits. -/
import Derived.Test.YtmadgnfnljnggaaOwn
namespace Go.Proofs.Ytmadgnfnljnggaa
open Go.RowKit
set_option linter.unusedVariables false

/-! the plain part -/
structure B4 where
  a : Bool
  b : Bool
  c : Bool
  d : Bool
def B4.none : B4 := ⟨false, false, false, false⟩
def B4.part (s : B4) (k : Nat) : Int := (if s.a ∧ 0 < k then 1 else 0) + (if s.b ∧ 1 < k then 2 else 0) + (if s.c ∧ 2 < k then 4 else 0) + (if s.d ∧ 3 < k then 8 else 0)
def B4.val (s : B4) : Int := (if s.a then 1 else 0) + (if s.b then 2 else 0) + (if s.c then 4 else 0) + (if s.d then 8 else 0)
def B4.set (s : B4) (k : Int) : B4 := if k = 0 then ⟨true, s.b, s.c, s.d⟩ else if k = 1 then ⟨s.a, true, s.c, s.d⟩ else if k = 2 then ⟨s.a, s.b, true, s.d⟩ else if k = 3 then ⟨s.a, s.b, s.c, true⟩ else s
def need1 (s : B4) (h : Han) : B4 := if h.opn then s.set h.kind else s
def needs (hs : List Han) : B4 := hs.foldl need1 B4.none
def want1 (s : B4) (i : Imp) : B4 := if i.ret.kind = 5 then s.set i.ret.n else s
def wants (l : List Imp) : B4 := l.foldl want1 B4.none
def wantHans (l : List Imp) : List Han := l.flatMap fun i => if i.ret.kind = 5 then [⟨i.ret.n, 0, true⟩] else []
theorem B4.set_far {s : B4} {k : Int} (h : k < 0 ∨ 3 < k) : s.set k = s := by
  unfold B4.set
  rw [if_neg (by omega), if_neg (by omega), if_neg (by omega), if_neg (by omega)]
theorem B4.or_set (s : B4) (k : Int) (h0 : 0 ≤ k) (h1 : k < 4) : Go.bits .or .i64 s.val (wrap64 (2 ^ k.toNat)) = (s.set k).val := by
  obtain rfl | rfl | rfl | rfl : k = 0 ∨ k = 1 ∨ k = 2 ∨ k = 3 := by omega
  all_goals (obtain ⟨a, b, c, d⟩ := s; revert a b c d; decide +kernel)
theorem wants_hans (l : List Imp) : needs (wantHans l) = wants l := by
  unfold needs wants wantHans
  suffices h : ∀ s, (l.flatMap fun i => if i.ret.kind = 5 then [(⟨i.ret.n, 0, true⟩ : Han)] else []).foldl need1 s = l.foldl want1 s from h _
  induction l with
  | nil => intro s; rfl
  | cons i l ih =>
    intro s
    rw [List.flatMap_cons, List.foldl_append, List.foldl_cons, ih]
    congr 1
    unfold want1
    split <;> simp [need1]

/-! host.Needs -/
theorem needs_calls {S : Nat → Prop} (w : World) (F H : Value) (A : Option Addr) (c : Nat) (q u e v : Int) (hs : List Han) (hm : hs.length ≤ 1000000) (hS : ∀ b, S b → b < w.heap.size) (hr : k_han.Row S w A hs) :
   Calls Try.prog 19 #[.agg #[F, H, .slice A hs.length c, .int .i64 q, .int .i64 u, .int .i64 e, .int .u64 v]] w fun e w' => e = .returned (.int .i64 (needs hs).val) ∧ Below w.heap.size w w' := by
  go_enter Try.func19, Try.ntmps19
  go_wp2
  go_loopw [3, 9] (fun nn i wr => ∃ k : Nat, k ≤ hs.length ∧ i = .int .i64 k ∧ nn = .int .i64 ((hs.take k).foldl need1 B4.none).val ∧ Below w.heap.size w wr) (fun _ i _ => hs.length - (intOf i).toNat)
  case atStart => exact ⟨0, Nat.zero_le _, rfl, rfl, (Below.refl _ _).alloc (Nat.le_refl _) _⟩
  case round =>
    obtain ⟨k, hk, rfl, rfl, hb⟩ := hrel
    by_cases hlt : k < hs.length
    · obtain ⟨x, hx⟩ : ∃ x, hs[k]? = some x := ⟨_, List.getElem?_eq_getElem hlt⟩
      have hn := Lib.hid (foldl_take need1 B4.none hs k x hx)
      obtain ⟨b, o, rfl, hSb, c0, c1, c2, _⟩ := k_han_at (hr.keep (fun b hb' => hb.block b (hS b hb'))) hx
      clear hx
      obtain ⟨kd, ds, op⟩ := x
      simp only at c0 c1 c2
      cases op with
      | false =>
        go_wp2
        go_roundw
        case rel => exact ⟨k + 1, by omega, by go_num, by rw [hn.out]; rfl, hb.alloc hb.size _⟩
        case measure => simp [intOf]; omega
      | true =>
        by_cases h0 : 0 ≤ kd
        · by_cases h1 : kd < 4
          · have hor := Lib.hid (B4.or_set ((hs.take k).foldl need1 B4.none) kd h0 h1)
            go_wp2
            go_roundw
            case rel => exact ⟨k + 1, by omega, by go_num, by rw [hor.out, hn.out]; rfl, hb.alloc hb.size _⟩
            case measure => simp [intOf]; omega
          · have hfar := Lib.hid (B4.set_far (s := (hs.take k).foldl need1 B4.none) (k := kd) (by omega))
            go_wp2
            go_roundw
            case rel => exact ⟨k + 1, by omega, by go_num, by rw [hn.out]; simp only [need1, if_true]; rw [hfar.out], hb.alloc hb.size _⟩
            case measure => simp [intOf]; omega
        · have hfar := Lib.hid (B4.set_far (s := (hs.take k).foldl need1 B4.none) (k := kd) (by omega))
          go_wp2
          go_roundw
          case rel => exact ⟨k + 1, by omega, by go_num, by rw [hn.out]; simp only [need1, if_true]; rw [hfar.out], hb.alloc hb.size _⟩
          case measure => simp [intOf]; omega
    · have hall := Lib.hid (foldl_all need1 B4.none hs k hk hlt)
      go_wp2
      go_ret
      exact ⟨by rw [hall.out]; rfl, hb⟩

/-! host.Bind -/
def bindOf (s : B4) (has : Int) : Int := if Go.bits .andNot .i64 s.val has = 0 then 0 else 8
theorem bind_calls {S : Nat → Prop} (w : World) (F H : Value) (A : Option Addr) (c : Nat) (q u e v has : Int) (hs : List Han) (hm : hs.length ≤ 1000000) (hS : ∀ b, S b → b < w.heap.size) (hr : k_han.Row S w A hs) :
   Calls Try.prog 18 #[.agg #[F, H, .slice A hs.length c, .int .i64 q, .int .i64 u, .int .i64 e, .int .u64 v], .int .i64 has] w fun e w' => e = .returned (.int .i64 (bindOf (needs hs) has)) ∧ Below w.heap.size w w' := by
  go_enter Try.func18, Try.ntmps18
  go_wp2_with (go_at_call 19; refine (needs_calls (S := S) _ _ _ _ _ _ _ _ _ hs hm (fun b hb => Nat.lt_of_lt_of_le (hS b hb) (by simp)) (hr.keep (fun b hb => Below.heap_alloc _ _ _ (hS b hb)))).mono ?_; rintro e w1 ⟨rfl, hb⟩)
  · go_ret
    exact ⟨ret_int (by unfold bindOf; rw [if_neg (by simpa using ‹(Go.bits .andNot .i64 (needs hs).val has != 0) = true›)]), ((Below.refl _ _).alloc (Nat.le_refl _) _).trans (hb.mono (by simp))⟩
  · go_ret
    exact ⟨ret_int (by unfold bindOf; rw [if_pos (by simpa using ‹(Go.bits .andNot .i64 (needs hs).val has != 0) = false›)]), ((Below.refl _ _).alloc (Nat.le_refl _) _).trans (hb.mono (by simp))⟩

/-! the reference's Needs -/
theorem b4_cells (s : B4) (k : Int) (h0 : 0 ≤ k) (h1 : k < 4) : (#[.bool s.a, .bool s.b, .bool s.c, .bool s.d] : Array Value).setIfInBounds k.toNat (.bool true) = #[.bool (s.set k).a, .bool (s.set k).b, .bool (s.set k).c, .bool (s.set k).d] := by
  obtain rfl | rfl | rfl | rfl : k = 0 ∨ k = 1 ∨ k = 2 ∨ k = 3 := by omega
  all_goals rfl
theorem b4_sum (s : B4) : wrap64 (wrap64 (wrap64 (wrap64 (0 + if s.a then 1 else 0) + if s.b then 2 else 0) + if s.c then 4 else 0) + if s.d then 8 else 0) = s.val := by
  obtain ⟨a, b, c, d⟩ := s
  revert a b c d; decide +kernel
theorem refNeeds_calls {S : Nat → Prop} (w : World) (F H : Value) (A : Option Addr) (c : Nat) (q u e v : Int) (hs : List Han) (hm : hs.length ≤ 1000000) (hS : ∀ b, S b → b < w.heap.size) (hr : k_han.Row S w A hs) :
   Calls Try.prog 17 #[.agg #[F, H, .slice A hs.length c, .int .i64 q, .int .i64 u, .int .i64 e, .int .u64 v]] w fun e w' => e = .returned (.int .i64 (needs hs).val) ∧ Below w.heap.size w w' := by
  go_enter Try.func17, Try.ntmps17
  go_wp2
  go_loopw [4] (fun i wr => ∃ k : Nat, k ≤ hs.length ∧ i = .int .i64 k ∧ Below w.heap.size w wr ∧ wr.heap[w.heap.size]? = some (.cells #[F, H, .slice A hs.length c, .int .i64 q, .int .i64 u, .int .i64 e, .int .u64 v] 27 (0, 0)) ∧
      Hid (wr.heap[w.heap.size + 1]? = some (.cells #[.bool ((hs.take k).foldl need1 B4.none).a, .bool ((hs.take k).foldl need1 B4.none).b, .bool ((hs.take k).foldl need1 B4.none).c, .bool ((hs.take k).foldl need1 B4.none).d] 86 (0, 0)))) (fun i _ => hs.length - (intOf i).toNat)
  case atStart => exact ⟨0, Nat.zero_le _, rfl, ((Below.refl _ _).alloc (Nat.le_refl _) _).alloc (by simp) _, blk_alloc (blk_new w _) _, Lib.hid (blk_new2 w _ _)⟩
  case round =>
    obtain ⟨k, hk, rfl, hb, hbox, harr⟩ := hrel
    have hc2 := blk_cell hbox 2
    have HBX := Lib.hid hbox
    clear hbox
    by_cases hlt : k < hs.length
    · obtain ⟨x, hx⟩ : ∃ x, hs[k]? = some x := ⟨_, List.getElem?_eq_getElem hlt⟩
      have hn := Lib.hid (foldl_take need1 B4.none hs k x hx)
      obtain ⟨b, o, rfl, hSb, c0, c1, c2, _⟩ := k_han_at (hr.keep (fun b hb' => hb.block b (hS b hb'))) hx
      clear hx
      obtain ⟨kd, ds, op⟩ := x
      simp only at c0 c1 c2
      cases op with
      | false =>
        go_wp2
        go_roundw
        case rel => exact ⟨k + 1, by omega, by go_num, hb, HBX.out, by rw [hn.out]; exact harr⟩
        case measure => simp [intOf]; omega
      | true =>
        by_cases h0 : 0 ≤ kd
        · by_cases h1 : kd < 4
          · have hfr : ∀ i, wr.frozen? ⟨w.heap.size + 1, i, none⟩ = false := blk_frozen harr.out
            have hca : wr.cell? ⟨w.heap.size + 1, kd.toNat, none⟩ = some (.bool true) ∨ wr.cell? ⟨w.heap.size + 1, kd.toNat, none⟩ = some (.bool false) := by
              rw [blk_cell harr.out]
              obtain rfl | rfl | rfl | rfl : kd = 0 ∨ kd = 1 ∨ kd = 2 ∨ kd = 3 := by omega
              all_goals simp
            have hset := Lib.hid (b4_cells ((hs.take k).foldl need1 B4.none) kd h0 h1)
            rcases hca with hca | hca
            all_goals
              go_wp2
              go_roundw
              case rel => exact ⟨k + 1, by omega, by go_num, hb.setCell (by simp) _, blk_far HBX.out (by simp) _, Lib.hid (by
                rw [hn.out]
                show _ = some (Obj.cells #[.bool (B4.set _ kd).a, .bool (B4.set _ kd).b, .bool (B4.set _ kd).c, .bool (B4.set _ kd).d] _ _)
                rw [← hset.out]
                exact blk_set harr.out _ _)⟩
              case measure => simp [intOf]; omega
          · have hfar := Lib.hid (B4.set_far (s := (hs.take k).foldl need1 B4.none) (k := kd) (by omega))
            go_wp2
            go_roundw
            case rel => exact ⟨k + 1, by omega, by go_num, hb, HBX.out, by rw [hn.out]; simp only [need1, if_true]; rw [hfar.out]; exact harr⟩
            case measure => simp [intOf]; omega
        · have hfar := Lib.hid (B4.set_far (s := (hs.take k).foldl need1 B4.none) (k := kd) (by omega))
          go_wp2
          go_roundw
          case rel => exact ⟨k + 1, by omega, by go_num, hb, HBX.out, by rw [hn.out]; simp only [need1, if_true]; rw [hfar.out]; exact harr⟩
          case measure => simp [intOf]; omega
    · rw [foldl_all need1 B4.none hs k hk hlt] at harr
      have hgen : ∃ s, s = needs hs := ⟨_, rfl⟩
      obtain ⟨s, hs2⟩ := hgen
      have harr2 : Hid (wr.heap[w.heap.size + 1]? = some (.cells #[.bool s.a, .bool s.b, .bool s.c, .bool s.d] 86 (0, 0))) := by rw [hs2]; exact harr
      have HS := Lib.hid hs2
      clear hs2 harr hr
      have c0 := blk_cell harr2.out 0
      have c1 := blk_cell harr2.out 1
      have c2 := blk_cell harr2.out 2
      have c3 := blk_cell harr2.out 3
      simp only [List.getElem?_toArray, List.getElem?_cons_zero, List.getElem?_cons_succ] at c0 c1 c2 c3
      go_wp2
      go_loop [5, 6] (fun nn i => ∃ k : Nat, k ≤ 4 ∧ i = .int .i64 k ∧ nn = .int .i64 (s.part k)) (fun _ i => 4 - (intOf i).toNat)
      case atStart => exact ⟨0, by omega, rfl, congrArg _ (by simp [B4.part])⟩
      case round =>
        obtain ⟨k, hk, rfl, rfl⟩ := hrel
        obtain ⟨a, b, c, d⟩ := s
        simp only at c0 c1 c2 c3
        obtain rfl | rfl | rfl | rfl | rfl : k = 0 ∨ k = 1 ∨ k = 2 ∨ k = 3 ∨ k = 4 := by omega
        · cases a
          all_goals go_wp2
          all_goals (refine ⟨⟨1, by omega, rfl, congrArg _ ?_⟩, by simp [intOf]⟩; clear HS harr2 c0 c1 c2 c3; revert b c d; decide +kernel)
        · cases b
          all_goals go_wp2
          all_goals (refine ⟨⟨2, by omega, rfl, congrArg _ ?_⟩, by simp [intOf]⟩; clear HS harr2 c0 c1 c2 c3; revert a c d; decide +kernel)
        · cases c
          all_goals go_wp2
          all_goals (refine ⟨⟨3, by omega, rfl, congrArg _ ?_⟩, by simp [intOf]⟩; clear HS harr2 c0 c1 c2 c3; revert a b d; decide +kernel)
        · cases d
          all_goals go_wp2
          all_goals (refine ⟨⟨4, by omega, rfl, congrArg _ ?_⟩, by simp [intOf]⟩; clear HS harr2 c0 c1 c2 c3; revert a b c; decide +kernel)
        · go_wp2
          go_ret
          exact ⟨ret_int (by rw [← HS.out]; simp [B4.part, B4.val]), hb⟩
end Go.Proofs.Ytmadgnfnljnggaa
