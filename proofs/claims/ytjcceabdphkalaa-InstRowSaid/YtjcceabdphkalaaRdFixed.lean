/- num.Reader.Fixed. -/
import Derived.Test.YtjcceabdphkalaaBack
import Derived.Test.YtjcceabdphkalaaRdVar
import Derived.Test.YtjcceabdphkalaaCnt
namespace Go.Proofs.Ytjcceabdphkalaa
open Go.RowKit Go.Shelf
set_option linter.unusedVariables false
attribute [local go_sem] Oper.semAt_some
/-- A number's bytes, the lowest one first. -/
def leB : List Int → Nat
  | [] => 0
  | c :: r => c.toNat % 256 + 256 * leB r
theorem leB_lt (bs : List Int) : leB bs < 256 ^ bs.length := by
  induction bs with
  | nil => simp [leB]
  | cons c r ih =>
    show c.toNat % 256 + 256 * leB r < _
    rw [List.length_cons, Nat.pow_succ]
    omega
theorem leB_small {bs : List Int} (h : bs.length ≤ 8) : leB bs < 18446744073709551616 := by
  have h1 := leB_lt bs
  have h2 : 256 ^ bs.length ≤ 256 ^ 8 := Nat.pow_le_pow_right (by decide) h
  have h3 : (256 : Nat) ^ 8 = 18446744073709551616 := by decide +kernel
  omega
def foldF (bs : List Int) (pre : List Nat) : Nat := pre.foldl (fun a i => (a * 256 + (bs[i]?.getD 0).toNat % 256) % 18446744073709551616) 0
theorem foldF_snoc (bs : List Int) (pre : List Nat) (x : Nat) : foldF bs (pre ++ [x]) = (foldF bs pre * 256 + (bs[x]?.getD 0).toNat % 256) % 18446744073709551616 := by simp [foldF]
theorem foldF_lt (bs : List Int) (pre : List Nat) : foldF bs pre < 18446744073709551616 := by
  rcases List.eq_nil_or_concat pre with rfl | ⟨p, x, rfl⟩
  · simp [foldF]
  · rw [List.concat_eq_append, foldF_snoc]; omega
theorem foldF_all (bs : List Int) (h : bs.length ≤ 8) : foldF bs (downto bs.length 0) = leB bs := by
  suffices hs : ∀ (rest : List Int) (k : Nat), bs.drop k = rest → rest.length ≤ 8 → (List.range' k rest.length).foldr (fun i a => (a * 256 + (bs[i]?.getD 0).toNat % 256) % 18446744073709551616) 0 = leB rest by
    have := hs bs 0 (by simp) h
    unfold foldF downto
    rw [List.foldl_reverse]
    simpa using this
  intro rest
  induction rest with
  | nil => intro k _ _; simp [leB]
  | cons c r ih =>
    intro k hd hl
    have hk : bs[k]? = some c := by
      have h1 : (bs.drop k)[0]? = some c := by rw [hd]; rfl
      simpa using h1
    have h2 : bs.drop (k + 1) = r := by rw [← List.tail_drop, hd]; rfl
    have h3 := leB_small hl
    rw [List.length_cons, List.range'_succ, List.foldr_cons, ih (k + 1) h2 (by simp at hl; omega), hk]
    show (leB r * 256 + c.toNat % 256) % 18446744073709551616 = c.toNat % 256 + 256 * leB r
    have h4 : leB (c :: r) = c.toNat % 256 + 256 * leB r := rfl
    omega
theorem or_low (a c : Nat) (hc : c < 256) : Go.bits .or .u64 (IntKind.u64.wrap ((a : Int) * 256)) (c : Int) = (((a * 256 + c) % 18446744073709551616 : Nat) : Int) := by
  have e1 : IntKind.u64.wrap ((a : Int) * 256) = ((2 ^ 8 * (a % 72057594037927936) : Nat) : Int) := by
    rw [IntKind.wrap_u64]
    omega
  rw [e1]
  have h1 : (BitVec.ofInt 64 ((2 ^ 8 * (a % 72057594037927936) : Nat) : Int)).toNat = 2 ^ 8 * (a % 72057594037927936) := by
    generalize hm : 2 ^ 8 * (a % 72057594037927936) = m
    rw [BitVec.toNat_ofInt]; omega
  have h2 : (BitVec.ofInt 64 (c : Int)).toNat = c := by rw [BitVec.toNat_ofInt]; omega
  have e2 : (BitVec.ofInt 64 ((2 ^ 8 * (a % 72057594037927936) : Nat) : Int) ||| BitVec.ofInt 64 (c : Int)).toNat = 2 ^ 8 * (a % 72057594037927936) + c := by
    rw [BitVec.toNat_or, h1, h2, ← Nat.two_pow_add_eq_or_of_lt (i := 8) hc]
  show IntKind.u64.wrap (((BitVec.ofInt 64 ((2 ^ 8 * (a % 72057594037927936) : Nat) : Int) ||| BitVec.ofInt 64 (c : Int)).toNat : Nat) : Int) = _
  rw [e2, IntKind.wrap_u64]
  omega
theorem or_low' (a : Nat) (c : Int) (hc : 0 ≤ c ∧ c ≤ 255) : Go.bits .or .u64 (IntKind.u64.wrap ((a : Int) * 256)) c = (((a * 256 + c.toNat % 256) % 18446744073709551616 : Nat) : Int) := by
  obtain ⟨d, rfl⟩ := Int.eq_ofNat_of_zero_le hc.1
  rw [or_low a d (by omega)]
  congr 3
  omega
theorem isB_getD {bs : List Int} (h : isB bs) (x : Nat) : 0 ≤ bs[x]?.getD 0 ∧ bs[x]?.getD 0 ≤ 255 := by
  cases hx : bs[x]? with
  | none => simp
  | some c => exact h c (List.mem_of_getElem? hx)
/-- What Take has to tell for Fixed. -/
def Took (bv : Nat) (w2 : World) (e : Ending) (bs : List Int) : Prop := ∃ A c, e = .returned (.slice A bs.length c) ∧ bs.length ≤ 8 ∧ isB bs ∧ (0 < bs.length → ∃ b off, A = some ⟨b, off, none⟩ ∧ b < w2.heap.size ∧ b ≠ bv ∧ ∀ j, j < bs.length → w2.cell? ⟨b, off + j, none⟩ = some (.int .u8 (bs[j]?.getD 0)))
set_option maxRecDepth 100000 in
set_option maxHeartbeats 2000000 in
theorem rdFixed_of (w : World) (r : Option Addr) (n : Int) (R : World → World → List Int → Prop)
    (htake : ∀ (w1 : World) (m : Int), w1 = w.alloc (.cells #[.int .u64 0] 25) → m = (cnt n : Int) → Calls Try.prog 52 #[.pointer r, .int .i64 m] w1 fun e w2 => ∃ bs, Took w.heap.size w2 e bs ∧ R w1 w2 bs ∧ w2.heap[w.heap.size]? = some (.cells #[.int .u64 0] 25 (0, 0))) :
    Calls Try.prog 60 #[.pointer r, .int .i64 n] w fun e w' => ∃ (bs : List Int) (w1 w2 : World), e = .returned (.int .u64 (leB bs)) ∧ w1 = w.alloc (.cells #[.int .u64 0] 25) ∧ R w1 w2 bs ∧ Keeps (· = w.heap.size) w2 w' := by
  have HT := Lib.hid htake
  clear htake
  have hway : n < 0 ∨ (¬ n < 0 ∧ 8 < n) ∨ (0 ≤ n ∧ n ≤ 8) := by omega
  have hcn : (cnt n : Int) = if n < 0 then 0 else if 8 < n then 8 else n := by unfold cnt; split; rfl; split; rfl; omega
  refine (callsIn_wide (n := 3)).1 ?_
  rcases hway with h | ⟨h1, h2⟩ | ⟨h1, h2⟩
  all_goals
    first | rw [if_pos h] at hcn | rw [if_neg h1, if_pos h2] at hcn | rw [if_neg (by omega), if_neg (by omega)] at hcn
    have HC := Lib.hid hcn.symm
    clear hcn
    refine callsIn_of_wp_marks Try.func60 rfl trivial ?_ rfl
    simp only [Try.ntmps60, List.size_toArray, List.length_cons, List.length_nil, Nat.reduceAdd, Nat.reduceSub, Array.replicate_succ, Array.replicate_zero, List.push_toArray, List.append_toArray, List.nil_append, List.cons_append]
    gi_wp2_with (first
      | (refine ⟨trivial, ?_⟩; gi_at_call 52; refine (callsIn_wide.2 (HT.out _ _ rfl HC.out)).mono ?_; rintro e w2 ⟨bs, ⟨A, c, rfl, hl8, hB, hcell⟩, hR, hbox⟩; have HR := Lib.hid hR; have HB := Lib.hid hB; have HCell := Lib.hid hcell; have HBox := Lib.hid hbox; clear hR hB hcell hbox)
      | (refine ⟨trivial, ?_⟩; gi_at_call 69; refine (back_in _ _ trivial rfl _ _ _ _).mono ?_; rintro e w3 ⟨rfl, rfl⟩))
    have hbl := blk_lt HBox.out
    have h13 : 1 ≤ 3 := by decide
    have hbS := Boxed.new w2 29 (.slice A bs.length c)
    have hc0 : (w2.alloc (.cells #[.slice A bs.length c] 29)).cell? ⟨w.heap.size, 0, none⟩ = some (.int .u64 (foldF bs [])) := blk_cell (blk_alloc HBox.out _) 0
    have hf0 : (w2.alloc (.cells #[.slice A bs.length c] 29)).frozen? ⟨w.heap.size, 0, none⟩ = false := blk_frozen (blk_alloc HBox.out _) 0
    have hrow : 0 < bs.length → ∃ b off, A = some ⟨b, off, none⟩ ∧ ¬ (b = w.heap.size ∨ w2.heap.size + 1 ≤ b) ∧ ∀ j, j < bs.length → (w2.alloc (.cells #[.slice A bs.length c] 29)).cell? ⟨b, off + j, none⟩ = some (.int .u8 (bs[j]?.getD 0)) := fun hp => by
      obtain ⟨b, off, e, hb, hb2, hc⟩ := HCell.out hp
      exact ⟨b, off, e, by omega, fun j hj => ((((Below.refl w2.heap.size w2).alloc (Nat.le_refl _) _).cell (p := ⟨b, off + j, none⟩) hb)).trans (hc j hj)⟩
    have hOwn : OwnFrom (w2.alloc (.cells #[.slice A bs.length c] 29)).heap.size (fun (pre : List Nat) W => (W.cell? ⟨w.heap.size, 0, none⟩ = some (.int .u64 (foldF bs pre)) ∧ W.frozen? ⟨w.heap.size, 0, none⟩ = false) ∧ Keeps (· = w.heap.size) w2 W) :=
      OwnFrom.and (Own.from (fun s A B row hs hg hr => ⟨cell_kept hs.1 hg hr, (frozen_kept hs.1 hg hr).trans hs.2⟩) _) (fun s A B row hs hg hr => hs.grown hg (fun g e hlt => by have := (hr g e).1; simp at this; omega))
    first
      | (have tk : n < 0 := h; clear tk; refine wpIn_rangeFunc_ownG (F := Fence.wide) rfl h13 (gf := 70) (lb := #[.pointer (some ⟨w2.heap.size, 0, none⟩)]) rfl trivial (enters_of Try.func70 (by kernel_rfl) rfl)
            (back_stops _ 2 trivial rfl (by decide) (fun k => k = w.heap.size ∨ w2.heap.size + 1 ≤ k) w2.heap.size A bs.length c bs rfl (by omega) _ (by simp) (by simp; omega) hbS.cell hrow) Keeps.trans (keepsK_b (fun l h => .inr (by simpa using h))) (Below.refl _ _) (fun _ => rfl)
            (fun pre W => (W.cell? ⟨w.heap.size, 0, none⟩ = some (.int .u64 (foldF bs pre)) ∧ W.frozen? ⟨w.heap.size, 0, none⟩ = false) ∧ Keeps (· = w.heap.size) w2 W)
            (fun _ _ _ => False)
            hOwn (fun _ _ _ _ _ hs _ _ => hs) ⟨⟨hc0, hf0⟩, (Keeps.refl _ _).alloc _⟩
            (fun x => { tmps := #[.pointer r, .int .i64 n, undef, undef, .int .u64 0, .pointer (some ⟨w.heap.size, 0, none⟩), undef, .int .u8 (bs[x]?.getD 0), .pointer r, .int .i64 n, .int .i64 0, .int .i64 0, .slice A bs.length c, .func (.func 70) #[] #[.pointer (some ⟨w2.heap.size, 0, none⟩)], .int .i64 (x : Int), .int .u8 (bs[x]?.getD 0), undef, undef, undef, undef, undef, undef], defers := [] }) ?assign ?body ?done ?stop)
      | (have tk : 8 < n := h2; clear tk; refine wpIn_rangeFunc_ownG (F := Fence.wide) rfl h13 (gf := 70) (lb := #[.pointer (some ⟨w2.heap.size, 0, none⟩)]) rfl trivial (enters_of Try.func70 (by kernel_rfl) rfl)
            (back_stops _ 2 trivial rfl (by decide) (fun k => k = w.heap.size ∨ w2.heap.size + 1 ≤ k) w2.heap.size A bs.length c bs rfl (by omega) _ (by simp) (by simp; omega) hbS.cell hrow) Keeps.trans (keepsK_b (fun l h => .inr (by simpa using h))) (Below.refl _ _) (fun _ => rfl)
            (fun pre W => (W.cell? ⟨w.heap.size, 0, none⟩ = some (.int .u64 (foldF bs pre)) ∧ W.frozen? ⟨w.heap.size, 0, none⟩ = false) ∧ Keeps (· = w.heap.size) w2 W)
            (fun _ _ _ => False)
            hOwn (fun _ _ _ _ _ hs _ _ => hs) ⟨⟨hc0, hf0⟩, (Keeps.refl _ _).alloc _⟩
            (fun x => { tmps := #[.pointer r, .int .i64 n, undef, undef, .int .u64 0, .pointer (some ⟨w.heap.size, 0, none⟩), undef, .int .u8 (bs[x]?.getD 0), .pointer r, .int .i64 n, .int .i64 n, .int .i64 8, .slice A bs.length c, .func (.func 70) #[] #[.pointer (some ⟨w2.heap.size, 0, none⟩)], .int .i64 (x : Int), .int .u8 (bs[x]?.getD 0), undef, undef, undef, undef, undef, undef], defers := [] }) ?assign ?body ?done ?stop)
      | (have tk : n ≤ 8 := h2; clear tk; refine wpIn_rangeFunc_ownG (F := Fence.wide) rfl h13 (gf := 70) (lb := #[.pointer (some ⟨w2.heap.size, 0, none⟩)]) rfl trivial (enters_of Try.func70 (by kernel_rfl) rfl)
            (back_stops _ 2 trivial rfl (by decide) (fun k => k = w.heap.size ∨ w2.heap.size + 1 ≤ k) w2.heap.size A bs.length c bs rfl (by omega) _ (by simp) (by simp; omega) hbS.cell hrow) Keeps.trans (keepsK_b (fun l h => .inr (by simpa using h))) (Below.refl _ _) (fun _ => rfl)
            (fun pre W => (W.cell? ⟨w.heap.size, 0, none⟩ = some (.int .u64 (foldF bs pre)) ∧ W.frozen? ⟨w.heap.size, 0, none⟩ = false) ∧ Keeps (· = w.heap.size) w2 W)
            (fun _ _ _ => False)
            hOwn (fun _ _ _ _ _ hs _ _ => hs) ⟨⟨hc0, hf0⟩, (Keeps.refl _ _).alloc _⟩
            (fun x => { tmps := #[.pointer r, .int .i64 n, undef, undef, .int .u64 0, .pointer (some ⟨w.heap.size, 0, none⟩), undef, .int .u8 (bs[x]?.getD 0), .pointer r, .int .i64 n, .int .i64 n, .int .i64 n, .slice A bs.length c, .func (.func 70) #[] #[.pointer (some ⟨w2.heap.size, 0, none⟩)], .int .i64 (x : Int), .int .u8 (bs[x]?.getD 0), undef, undef, undef, undef, undef, undef], defers := [] }) ?assign ?body ?done ?stop)
    case assign =>
      intro l x W K hK
      gi_wp2
      exact hK
    case body =>
      rintro l pre x W ⟨⟨hc, hf⟩, hK⟩ _
      have hor := or_low' (foldF bs pre) _ (isB_getD HB.out x)
      obtain ⟨m, hm⟩ : ∃ m, m = (foldF bs pre * 256 + (bs[x]?.getD 0).toNat % 256) % 18446744073709551616 := ⟨_, rfl⟩
      rw [← hm] at hor
      have HM := Lib.hid hm
      clear hm
      have hlt := foldF_lt bs pre
      have hwr : IntKind.u64.wrap (bs[x]?.getD 0) = bs[x]?.getD 0 := by rw [IntKind.wrap_u64]; have := isB_getD HB.out x; omega
      gi_wp2
      exact ⟨(KeepsOthers.setCell _ _ _).from _, (Keeps.refl _ _).setCell (fun _ => .inl rfl) _, ⟨by rw [foldF_snoc, ← HM.out]; exact World.cell?_setCell_same' _ _ _ (by rw [hc]; rfl), by rw [World.frozen?_setCell]; exact hf⟩, hK.setCell (fun _ => rfl) _⟩
    case done =>
      rintro D ys W hD rfl ⟨⟨hc, _⟩, hK⟩ hKD
      gi_wp2
      refine ⟨by simp, .inl ⟨_, _, rfl, run_takeDeferred hKD, ?_⟩⟩
      exact ⟨_, results_tmp rfl _ _ _, bs, _, w2, by rw [foldF_all bs hl8]; rfl, rfl, HR.out, hK.grown (grownBy_putObj' W D _) (fun g e hlt => by cases e; simp at hD; omega)⟩
    case stop =>
      rintro D c pre W _ _ h _
      exact h.elim
end Go.Proofs.Ytjcceabdphkalaa
