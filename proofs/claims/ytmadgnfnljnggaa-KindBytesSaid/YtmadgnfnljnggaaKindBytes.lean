/- The walk of KindBytes. -/
import Derived.Test.YtmadgnfnljnggaaKindB
namespace Go.Proofs.Ytmadgnfnljnggaa
open Go.RowKit
set_option linter.unusedVariables false
theorem boxTwo {w : World} {g : Nat} {t : TypeId} {x y : Value} (h : w.heap[g]? = some (.cells #[x, y] t (0, 0))) : w.cell? ⟨g, 0, none⟩ = some x ∧ w.cell? ⟨g, 1, none⟩ = some y := ⟨blk_cell h 0, blk_cell h 1⟩
theorem own_brow {w : World} {base : Nat} {A : Option Addr} {n c : Nat} {bs : List Int} (h : w.ownsRow base 5 1 (.slice A n c) n (bcells bs)) (hn : bs.length = n) (hB : isB bs) (hm : n ≤ 1000000) : (Rd.int .u8).Row (fun b => (Value.slice A n c).ownBlock = some b) w A bs := by
  subst hn
  obtain ⟨_, _, e, _, _, hr⟩ := Rd.Sl.of_own (d := Rd.int .u8) (S := fun b => (Value.slice A bs.length c).ownBlock = some b) h (fun g hg => hg) (byte_flat.2 ⟨rfl, hB⟩) (by omega)
  cases e
  exact hr
abbrev PutLike (f : Nat) (k n : Int) (L : Nat) (T : List Int) : Prop := ∀ w' : World, Calls Try.prog f #[.agg #[.int .i64 k, .int .i64 n]] w' fun e w'' => ∃ A c, e = .returned (.slice A L c) ∧ w''.ownsRow w'.heap.size 5 1 (.slice A L c) L (bcells T) ∧ Below w'.heap.size w' w''
abbrev GetLike (r : Nat) (bs more : List Int) (x y : Int) (ok : Bool) : Prop := ∀ (w' : World) (p : Nat) (S : Nat → Prop), Rdr w' p S bs false → Calls Try.prog 41 #[.pointer (some ⟨p, 0, none⟩), .int .i64 r] w' fun e w'' => e = .returned (.tuple #[.agg #[.int .i64 x, .int .i64 y], .bool ok]) ∧ Keeps (· = p) w' w'' ∧ (ok = true → Rdr w'' p S more false)
abbrev GoodLike (r : Nat) (k n : Int) (g : Bool) : Prop := ∀ w' : World, Calls Try.prog 27 #[.agg #[.int .i64 k, .int .i64 n], .int .i64 r] w' fun e w'' => e = .returned (.bool g) ∧ Below w'.heap.size w' w''

set_option maxRecDepth 100000 in
set_option maxHeartbeats 4000000 in
theorem kb_good (w : World) (k n : Int) (r : Nat) (hr : r ≤ 255) (A2 : Option Addr) (c2 m : Nat) (x2 : List Int) (T : List Int) (L : Nat) (hLT : T.length = L) (hm : x2.length = m) (hL : L ≤ 20) (hm50 : m ≤ 50) (HT : Hid (isB T)) (HB : Hid (isB x2)) (HLie : Hid (Lie w A2 m (bcells x2))) (HP : Hid (PutLike 39 k n L T)) (HY : Hid (PutLike 43 k n L T)) (HG : Hid (GetLike r (T ++ x2) x2 k n true)) (HGd : Hid (GoodLike r k n true)) : Calls Try.prog 15 #[.agg #[.int .i64 k, .int .i64 n], .int .u8 r, .slice A2 m c2] w fun e w' => e = .returned (.bool true) ∧ Below w.heap.size w w' := by
  have HX0 := Lib.hid (blk_new w (Obj.cells #[.int .i64 k, .int .i64 n] 38))
  have HB0 := Lib.hid ((Below.refl w.heap.size w).alloc (Nat.le_refl _) (Obj.cells #[.int .i64 k, .int .i64 n] 38))
  have hL3 : L ≤ 1000000 := by omega
  have HLn := Lib.hid hLT
  have HMn := Lib.hid hm
  have hall := Lib.hid (show (T ++ x2).length = L + m by rw [List.length_append, hLT, hm])
  have hBall := Lib.hid (isB_append HT.out HB.out)
  clear hLT hm
  go_enter Try.func15, Try.ntmps15
  go_wp2_with (first
    | (go_at_call 39; refine (HP.out _).mono ?_; rintro e w1 ⟨A1, c1, rfl, ho, hb1⟩; have HO1 := Lib.hid ho; have HX1 := Lib.hid (blk_below HX0.out hb1 (by simp)); have hX1l := blk_lt HX1.out; have HB1 := Lib.hid (HB0.out.trans (hb1.mono (by simp))); have hs1 := HB1.out.size; clear ho hb1)
    | (at_builtin; refine list_app _ rfl (.tmp 17) (.tmp 18) _ rfl 5 Try.underlying77 byte_info rfl (by decide) (by decide) w1.heap.size rfl (World.ownsRow_made w1 #[] 0 (Nat.le_refl _) (Nat.zero_le _) rfl) rfl (by rw [bcells_length, HLn.out]) (by exact (own_lie HO1.out).below ((Below.refl _ _).alloc (Nat.le_refl _) _)) (bcells_one _) (by omega) (by simp) ?_; intro v' w4 hown hg hat; have hB := grown_below ((Below.refl w1.heap.size w1).alloc (Nat.le_refl _) _) hg (by simp) (.inr ⟨_, rfl, Nat.le_refl _⟩); simp only [Nat.zero_add, List.nil_append] at hown; obtain ⟨A4, c4, rfl, hn4, _, _⟩ := own_shape hown; have HO4 := Lib.hid hown; have HB4 := Lib.hid hB; have hs4 := hB.size; clear hown hg hat hB)
    | (at_builtin; refine list_app _ rfl (.tmp 19) (.tmp 20) _ rfl 5 Try.underlying77 byte_info rfl (by decide) (by decide) w1.heap.size rfl HO4.out rfl (by rw [bcells_length, HMn.out]) (by exact HLie.out.below (HB1.out.trans (HB4.out.mono hs1))) (bcells_one _) (by omega) (by omega) ?_; intro v' w5 hown hg hat; have hB := grown_below HB4.out hg (by omega) (own_ge HO4.out); rw [← bcells_append] at hown; obtain ⟨A5, c5, rfl, hn5, _, _⟩ := own_shape hown; have HO5 := Lib.hid hown; have HB5 := Lib.hid hB; have hs5 := hB.size; clear hown hg hat hB)
    | (go_at_call 40; refine (newReader_calls _ _ _ _ (T ++ x2) hall.out (by omega) (own_lie HO5.out) hBall.out).mono ?_; rintro e w6 ⟨p, S, rfl, hR, hp, hS, hb6⟩; have HR6 := Lib.hid hR; have HB6 := Lib.hid (HB5.out.trans (hb6.mono (by omega))); have hp3 : w1.heap.size ≤ p := by omega
       have hs6 := HB6.out.size
       clear hR hS hb6)
    | (go_at_call 41; refine (HG.out _ _ _ HR6.out).mono ?_; rintro e w7 ⟨rfl, hK, hR⟩; have hB7 := HB6.out.trans (hK.below hs6 (fun x hx e => by omega)); have hs7 := hB7.size; have HR7 := Lib.hid ((hR rfl).below ((Below.refl w7.heap.size w7).alloc (Nat.le_refl _) (Obj.cells #[.int .i64 k, .int .i64 n] 38))); have HX7 := Lib.hid (blk_new w7 (Obj.cells #[.int .i64 k, .int .i64 n] 38)); have HY7 := Lib.hid (blk_alloc (blk_below HX1.out hB7 hX1l) (Obj.cells #[.int .i64 k, .int .i64 n] 38)); have hB7' := hB7.alloc hs7 (Obj.cells #[.int .i64 k, .int .i64 n] 38); have HB7 := Lib.hid hB7'; have HO7 := Lib.hid (own_below HO1.out hB7'); have hs7' := hB7'.size; have hX7l := blk_lt HX7.out; have hY7l := blk_lt HY7.out; obtain ⟨k0, k1⟩ := boxTwo HX7.out; obtain ⟨j0, j1⟩ := boxTwo HY7.out; clear hR hK hB7 hB7')
    | (go_at_call 43; refine (HY.out _).mono ?_; rintro e w8 ⟨A8, c8, rfl, ho8, hb8⟩; have HR8 := Lib.hid (HR7.out.below hb8); have HO8 := Lib.hid ho8; have HOW := Lib.hid (own_below HO7.out hb8); have HX8 := Lib.hid (blk_below HX7.out hb8 hX7l); have HY8 := Lib.hid (blk_below HY7.out hb8 hY7l); have hB8 := HB7.out.trans (hb8.mono hs7'); have HB8 := Lib.hid hB8; have hs8 := hB8.size; have hX8l := blk_lt HX8.out; have hY8l := blk_lt HY8.out; clear ho8 hb8 hB8)
    | (go_at_call 42; refine (same_calls (S := fun b => (Value.slice A1 L c1).ownBlock = some b) (T := fun b => (Value.slice A8 L c8).ownBlock = some b) _ _ _ _ _ _ _ T T HLn.out HLn.out hL3 hL3 (fun b hb => (HOW.out.lt b hb).2) (fun b hb => (HO8.out.lt b hb).2) (own_brow HOW.out HLn.out HT.out hL3) (own_brow HO8.out HLn.out HT.out hL3)).mono ?_; rintro e w9 ⟨he, hb9⟩; obtain rfl := he.trans (ret_bool (decide_eq_true rfl)); have HR9 := Lib.hid (HR8.out.below hb9); have HX9 := Lib.hid (blk_below HX8.out hb9 hX8l); have HY9 := Lib.hid (blk_below HY8.out hb9 hY8l); have hB9 := HB8.out.trans (hb9.mono hs8); have HB9 := Lib.hid hB9; have hs9 := hB9.size; have hX9l := blk_lt HX9.out; have hY9l := blk_lt HY9.out; obtain ⟨q0, q1⟩ := boxTwo HY9.out; clear he hb9 hB9)
    | (go_at_call 27; refine (HGd.out _).mono ?_; rintro e w10 ⟨rfl, hb10⟩; have HR10 := Lib.hid (HR9.out.below hb10); have HX10 := Lib.hid (blk_below HX9.out hb10 hX9l); have HY10 := Lib.hid (blk_below HY9.out hb10 hY9l); have hB10 := HB9.out.trans (hb10.mono hs9); have HB10 := Lib.hid hB10; have hs10 := hB10.size; have hX10l := blk_lt HX10.out; have hY10l := blk_lt HY10.out; clear hb10 hB10)
    | (go_at_call 20; refine (kindAnswers_calls _).mono ?_; rintro e w11 ⟨rfl, hb11⟩; have HR11 := Lib.hid (HR10.out.below hb11); obtain ⟨k0, k1⟩ := boxTwo (blk_below HX10.out hb11 hX10l); obtain ⟨j0, j1⟩ := boxTwo (blk_below HY10.out hb11 hY10l); have HB11 := Lib.hid (HB10.out.trans (hb11.mono hs10)); clear hb11)
    | (go_at_call 44; refine (left_calls _ _ _ _ _ HR11.out).mono ?_; rw [HMn.out]; rintro e w12 ⟨rfl, rfl⟩))
  go_ret
  exact ⟨rfl, HB1.out.trans (HB11.out.mono hs1)⟩

set_option maxRecDepth 100000 in
set_option maxHeartbeats 4000000 in
theorem kb_no (w : World) (k n : Int) (r : Nat) (hr : r ≤ 255) (A2 : Option Addr) (c2 m : Nat) (x2 : List Int) (T : List Int) (L : Nat) (hLT : T.length = L) (hm : x2.length = m) (hL : L ≤ 20) (hm50 : m ≤ 50) (HT : Hid (isB T)) (HB : Hid (isB x2)) (HLie : Hid (Lie w A2 m (bcells x2))) (HP : Hid (PutLike 39 k n L T)) (HY : Hid (PutLike 43 k n L T)) (HG : Hid (GetLike r (T ++ x2) x2 0 0 false)) (HGd : Hid (GoodLike r k n false)) : Calls Try.prog 15 #[.agg #[.int .i64 k, .int .i64 n], .int .u8 r, .slice A2 m c2] w fun e w' => e = .returned (.bool true) ∧ Below w.heap.size w w' := by
  have HX0 := Lib.hid (blk_new w (Obj.cells #[.int .i64 k, .int .i64 n] 38))
  have HB0 := Lib.hid ((Below.refl w.heap.size w).alloc (Nat.le_refl _) (Obj.cells #[.int .i64 k, .int .i64 n] 38))
  have hL3 : L ≤ 1000000 := by omega
  have HLn := Lib.hid hLT
  have HMn := Lib.hid hm
  have hall := Lib.hid (show (T ++ x2).length = L + m by rw [List.length_append, hLT, hm])
  have hBall := Lib.hid (isB_append HT.out HB.out)
  clear hLT hm
  go_enter Try.func15, Try.ntmps15
  go_wp2_with (first
    | (go_at_call 39; refine (HP.out _).mono ?_; rintro e w1 ⟨A1, c1, rfl, ho, hb1⟩; have HO1 := Lib.hid ho; have HX1 := Lib.hid (blk_below HX0.out hb1 (by simp)); have hX1l := blk_lt HX1.out; have HB1 := Lib.hid (HB0.out.trans (hb1.mono (by simp))); have hs1 := HB1.out.size; clear ho hb1)
    | (at_builtin; refine list_app _ rfl (.tmp 17) (.tmp 18) _ rfl 5 Try.underlying77 byte_info rfl (by decide) (by decide) w1.heap.size rfl (World.ownsRow_made w1 #[] 0 (Nat.le_refl _) (Nat.zero_le _) rfl) rfl (by rw [bcells_length, HLn.out]) (by exact (own_lie HO1.out).below ((Below.refl _ _).alloc (Nat.le_refl _) _)) (bcells_one _) (by omega) (by simp) ?_; intro v' w4 hown hg hat; have hB := grown_below ((Below.refl w1.heap.size w1).alloc (Nat.le_refl _) _) hg (by simp) (.inr ⟨_, rfl, Nat.le_refl _⟩); simp only [Nat.zero_add, List.nil_append] at hown; obtain ⟨A4, c4, rfl, hn4, _, _⟩ := own_shape hown; have HO4 := Lib.hid hown; have HB4 := Lib.hid hB; have hs4 := hB.size; clear hown hg hat hB)
    | (at_builtin; refine list_app _ rfl (.tmp 19) (.tmp 20) _ rfl 5 Try.underlying77 byte_info rfl (by decide) (by decide) w1.heap.size rfl HO4.out rfl (by rw [bcells_length, HMn.out]) (by exact HLie.out.below (HB1.out.trans (HB4.out.mono hs1))) (bcells_one _) (by omega) (by omega) ?_; intro v' w5 hown hg hat; have hB := grown_below HB4.out hg (by omega) (own_ge HO4.out); rw [← bcells_append] at hown; obtain ⟨A5, c5, rfl, hn5, _, _⟩ := own_shape hown; have HO5 := Lib.hid hown; have HB5 := Lib.hid hB; have hs5 := hB.size; clear hown hg hat hB)
    | (go_at_call 40; refine (newReader_calls _ _ _ _ (T ++ x2) hall.out (by omega) (own_lie HO5.out) hBall.out).mono ?_; rintro e w6 ⟨p, S, rfl, hR, hp, hS, hb6⟩; have HR6 := Lib.hid hR; have HB6 := Lib.hid (HB5.out.trans (hb6.mono (by omega))); have hp3 : w1.heap.size ≤ p := by omega
       have hs6 := HB6.out.size
       clear hR hS hb6)
    | (go_at_call 41; refine (HG.out _ _ _ HR6.out).mono ?_; rintro e w7 ⟨rfl, hK, hR⟩; have hB7 := HB6.out.trans (hK.below hs6 (fun x hx e => by omega)); have hs7 := hB7.size; have HX7 := Lib.hid (blk_new w7 (Obj.cells #[.int .i64 0, .int .i64 0] 38)); have HY7 := Lib.hid (blk_alloc (blk_below HX1.out hB7 hX1l) (Obj.cells #[.int .i64 0, .int .i64 0] 38)); have hB7' := hB7.alloc hs7 (Obj.cells #[.int .i64 0, .int .i64 0] 38); have HB7 := Lib.hid hB7'; have HO7 := Lib.hid (own_below HO1.out hB7'); have hs7' := hB7'.size; have hX7l := blk_lt HX7.out; have hY7l := blk_lt HY7.out; obtain ⟨k0, k1⟩ := boxTwo HX7.out; obtain ⟨j0, j1⟩ := boxTwo HY7.out; clear hR hK hB7 hB7')
    | (go_at_call 43; refine (HY.out _).mono ?_; rintro e w8 ⟨A8, c8, rfl, ho8, hb8⟩; have HO8 := Lib.hid ho8; have HOW := Lib.hid (own_below HO7.out hb8); have HX8 := Lib.hid (blk_below HX7.out hb8 hX7l); have HY8 := Lib.hid (blk_below HY7.out hb8 hY7l); have hB8 := HB7.out.trans (hb8.mono hs7'); have HB8 := Lib.hid hB8; have hs8 := hB8.size; have hX8l := blk_lt HX8.out; have hY8l := blk_lt HY8.out; clear ho8 hb8 hB8)
    | (go_at_call 42; refine (same_calls (S := fun b => (Value.slice A1 L c1).ownBlock = some b) (T := fun b => (Value.slice A8 L c8).ownBlock = some b) _ _ _ _ _ _ _ T T HLn.out HLn.out hL3 hL3 (fun b hb => (HOW.out.lt b hb).2) (fun b hb => (HO8.out.lt b hb).2) (own_brow HOW.out HLn.out HT.out hL3) (own_brow HO8.out HLn.out HT.out hL3)).mono ?_; rintro e w9 ⟨he, hb9⟩; obtain rfl := he.trans (ret_bool (decide_eq_true rfl)); have HX9 := Lib.hid (blk_below HX8.out hb9 hX8l); have HY9 := Lib.hid (blk_below HY8.out hb9 hY8l); have hB9 := HB8.out.trans (hb9.mono hs8); have HB9 := Lib.hid hB9; have hs9 := hB9.size; have hX9l := blk_lt HX9.out; have hY9l := blk_lt HY9.out; obtain ⟨q0, q1⟩ := boxTwo HY9.out; clear he hb9 hB9)
    | (go_at_call 27; refine (HGd.out _).mono ?_; rintro e w10 ⟨rfl, hb10⟩; have HX10 := Lib.hid (blk_below HX9.out hb10 hX9l); have HY10 := Lib.hid (blk_below HY9.out hb10 hY9l); have hB10 := HB9.out.trans (hb10.mono hs9); have HB10 := Lib.hid hB10; have hs10 := hB10.size; have hX10l := blk_lt HX10.out; have hY10l := blk_lt HY10.out; clear hb10 hB10)
    | (go_at_call 20; refine (kindAnswers_calls _).mono ?_; rintro e w11 ⟨rfl, hb11⟩; obtain ⟨k0, k1⟩ := boxTwo (blk_below HX10.out hb11 hX10l); obtain ⟨j0, j1⟩ := boxTwo (blk_below HY10.out hb11 hY10l); have HB11 := Lib.hid (HB10.out.trans (hb11.mono hs10)); clear hb11))
  go_ret
  exact ⟨rfl, HB1.out.trans (HB11.out.mono hs1)⟩

set_option maxRecDepth 100000 in
set_option maxHeartbeats 4000000 in
theorem kb_n (w : World) (k n x y : Int) (r : Nat) (hr : r ≤ 255) (A2 : Option Addr) (c2 m : Nat) (x2 : List Int) (T : List Int) (L : Nat) (hLT : T.length = L) (hm : x2.length = m) (hL : L ≤ 20) (hm50 : m ≤ 50) (HT : Hid (isB T)) (HB : Hid (isB x2)) (HLie : Hid (Lie w A2 m (bcells x2))) (HP : Hid (PutLike 39 k n L T)) (HY : Hid (PutLike 43 k n L T)) (HG : Hid (GetLike r (T ++ x2) x2 x y true)) (HGd : Hid (GoodLike r k n false)) (hn : decide (n < 0) = true) : Calls Try.prog 15 #[.agg #[.int .i64 k, .int .i64 n], .int .u8 r, .slice A2 m c2] w fun e w' => e = .returned (.bool true) ∧ Below w.heap.size w w' := by
  have HX0 := Lib.hid (blk_new w (Obj.cells #[.int .i64 k, .int .i64 n] 38))
  have HB0 := Lib.hid ((Below.refl w.heap.size w).alloc (Nat.le_refl _) (Obj.cells #[.int .i64 k, .int .i64 n] 38))
  have hL3 : L ≤ 1000000 := by omega
  have HLn := Lib.hid hLT
  have HMn := Lib.hid hm
  have hall := Lib.hid (show (T ++ x2).length = L + m by rw [List.length_append, hLT, hm])
  have hBall := Lib.hid (isB_append HT.out HB.out)
  clear hLT hm
  go_enter Try.func15, Try.ntmps15
  go_wp2_with (first
    | (go_at_call 39; refine (HP.out _).mono ?_; rintro e w1 ⟨A1, c1, rfl, ho, hb1⟩; have HO1 := Lib.hid ho; have HX1 := Lib.hid (blk_below HX0.out hb1 (by simp)); have hX1l := blk_lt HX1.out; have HB1 := Lib.hid (HB0.out.trans (hb1.mono (by simp))); have hs1 := HB1.out.size; clear ho hb1)
    | (at_builtin; refine list_app _ rfl (.tmp 17) (.tmp 18) _ rfl 5 Try.underlying77 byte_info rfl (by decide) (by decide) w1.heap.size rfl (World.ownsRow_made w1 #[] 0 (Nat.le_refl _) (Nat.zero_le _) rfl) rfl (by rw [bcells_length, HLn.out]) (by exact (own_lie HO1.out).below ((Below.refl _ _).alloc (Nat.le_refl _) _)) (bcells_one _) (by omega) (by simp) ?_; intro v' w4 hown hg hat; have hB := grown_below ((Below.refl w1.heap.size w1).alloc (Nat.le_refl _) _) hg (by simp) (.inr ⟨_, rfl, Nat.le_refl _⟩); simp only [Nat.zero_add, List.nil_append] at hown; obtain ⟨A4, c4, rfl, hn4, _, _⟩ := own_shape hown; have HO4 := Lib.hid hown; have HB4 := Lib.hid hB; have hs4 := hB.size; clear hown hg hat hB)
    | (at_builtin; refine list_app _ rfl (.tmp 19) (.tmp 20) _ rfl 5 Try.underlying77 byte_info rfl (by decide) (by decide) w1.heap.size rfl HO4.out rfl (by rw [bcells_length, HMn.out]) (by exact HLie.out.below (HB1.out.trans (HB4.out.mono hs1))) (bcells_one _) (by omega) (by omega) ?_; intro v' w5 hown hg hat; have hB := grown_below HB4.out hg (by omega) (own_ge HO4.out); rw [← bcells_append] at hown; obtain ⟨A5, c5, rfl, hn5, _, _⟩ := own_shape hown; have HO5 := Lib.hid hown; have HB5 := Lib.hid hB; have hs5 := hB.size; clear hown hg hat hB)
    | (go_at_call 40; refine (newReader_calls _ _ _ _ (T ++ x2) hall.out (by omega) (own_lie HO5.out) hBall.out).mono ?_; rintro e w6 ⟨p, S, rfl, hR, hp, hS, hb6⟩; have HR6 := Lib.hid hR; have HB6 := Lib.hid (HB5.out.trans (hb6.mono (by omega))); have hp3 : w1.heap.size ≤ p := by omega
       have hs6 := HB6.out.size
       clear hR hS hb6)
    | (go_at_call 41; refine (HG.out _ _ _ HR6.out).mono ?_; rintro e w7 ⟨rfl, hK, hR⟩; have hB7 := HB6.out.trans (hK.below hs6 (fun x hx e => by omega)); have hs7 := hB7.size; have HX7 := Lib.hid (blk_new w7 (Obj.cells #[.int .i64 x, .int .i64 y] 38)); have HY7 := Lib.hid (blk_alloc (blk_below HX1.out hB7 hX1l) (Obj.cells #[.int .i64 x, .int .i64 y] 38)); have hB7' := hB7.alloc hs7 (Obj.cells #[.int .i64 x, .int .i64 y] 38); have HB7 := Lib.hid hB7'; have HO7 := Lib.hid (own_below HO1.out hB7'); have hs7' := hB7'.size; have hX7l := blk_lt HX7.out; have hY7l := blk_lt HY7.out; obtain ⟨k0, k1⟩ := boxTwo HX7.out; obtain ⟨j0, j1⟩ := boxTwo HY7.out; clear hR hK hB7 hB7')
    | (go_at_call 43; refine (HY.out _).mono ?_; rintro e w8 ⟨A8, c8, rfl, ho8, hb8⟩; have HO8 := Lib.hid ho8; have HOW := Lib.hid (own_below HO7.out hb8); have HX8 := Lib.hid (blk_below HX7.out hb8 hX7l); have HY8 := Lib.hid (blk_below HY7.out hb8 hY7l); have hB8 := HB7.out.trans (hb8.mono hs7'); have HB8 := Lib.hid hB8; have hs8 := hB8.size; have hX8l := blk_lt HX8.out; have hY8l := blk_lt HY8.out; clear ho8 hb8 hB8)
    | (go_at_call 42; refine (same_calls (S := fun b => (Value.slice A1 L c1).ownBlock = some b) (T := fun b => (Value.slice A8 L c8).ownBlock = some b) _ _ _ _ _ _ _ T T HLn.out HLn.out hL3 hL3 (fun b hb => (HOW.out.lt b hb).2) (fun b hb => (HO8.out.lt b hb).2) (own_brow HOW.out HLn.out HT.out hL3) (own_brow HO8.out HLn.out HT.out hL3)).mono ?_; rintro e w9 ⟨he, hb9⟩; obtain rfl := he.trans (ret_bool (decide_eq_true rfl)); have HX9 := Lib.hid (blk_below HX8.out hb9 hX8l); have HY9 := Lib.hid (blk_below HY8.out hb9 hY8l); have hB9 := HB8.out.trans (hb9.mono hs8); have HB9 := Lib.hid hB9; have hs9 := hB9.size; have hX9l := blk_lt HX9.out; have hY9l := blk_lt HY9.out; obtain ⟨q0, q1⟩ := boxTwo HY9.out; clear he hb9 hB9)
    | (go_at_call 27; refine (HGd.out _).mono ?_; rintro e w10 ⟨rfl, hb10⟩; have HX10 := Lib.hid (blk_below HX9.out hb10 hX9l); have HY10 := Lib.hid (blk_below HY9.out hb10 hY9l); have hB10 := HB9.out.trans (hb10.mono hs9); have HB10 := Lib.hid hB10; have hs10 := hB10.size; have hX10l := blk_lt HX10.out; have hY10l := blk_lt HY10.out; clear hb10 hB10)
    | (go_at_call 20; refine (kindAnswers_calls _).mono ?_; rintro e w11 ⟨rfl, hb11⟩; obtain ⟨k0, k1⟩ := boxTwo (blk_below HX10.out hb11 hX10l); obtain ⟨j0, j1⟩ := boxTwo (blk_below HY10.out hb11 hY10l); have HB11 := Lib.hid (HB10.out.trans (hb11.mono hs10)); clear hb11))
  go_ret
  exact ⟨rfl, HB1.out.trans (HB11.out.mono hs1)⟩

set_option maxRecDepth 100000 in
set_option maxHeartbeats 4000000 in
theorem kb_k (w : World) (k n x y : Int) (r : Nat) (hr : r ≤ 255) (A2 : Option Addr) (c2 m : Nat) (x2 : List Int) (T : List Int) (L : Nat) (hLT : T.length = L) (hm : x2.length = m) (hL : L ≤ 20) (hm50 : m ≤ 50) (HT : Hid (isB T)) (HB : Hid (isB x2)) (HLie : Hid (Lie w A2 m (bcells x2))) (HP : Hid (PutLike 39 k n L T)) (HY : Hid (PutLike 43 k n L T)) (HG : Hid (GetLike r (T ++ x2) x2 x y true)) (HGd : Hid (GoodLike r k n false)) (hn : decide (n < 0) = false) (hk : decide (k < 0) = true) : Calls Try.prog 15 #[.agg #[.int .i64 k, .int .i64 n], .int .u8 r, .slice A2 m c2] w fun e w' => e = .returned (.bool true) ∧ Below w.heap.size w w' := by
  have HX0 := Lib.hid (blk_new w (Obj.cells #[.int .i64 k, .int .i64 n] 38))
  have HB0 := Lib.hid ((Below.refl w.heap.size w).alloc (Nat.le_refl _) (Obj.cells #[.int .i64 k, .int .i64 n] 38))
  have hL3 : L ≤ 1000000 := by omega
  have HLn := Lib.hid hLT
  have HMn := Lib.hid hm
  have hall := Lib.hid (show (T ++ x2).length = L + m by rw [List.length_append, hLT, hm])
  have hBall := Lib.hid (isB_append HT.out HB.out)
  clear hLT hm
  go_enter Try.func15, Try.ntmps15
  go_wp2_with (first
    | (go_at_call 39; refine (HP.out _).mono ?_; rintro e w1 ⟨A1, c1, rfl, ho, hb1⟩; have HO1 := Lib.hid ho; have HX1 := Lib.hid (blk_below HX0.out hb1 (by simp)); have hX1l := blk_lt HX1.out; have HB1 := Lib.hid (HB0.out.trans (hb1.mono (by simp))); have hs1 := HB1.out.size; clear ho hb1)
    | (at_builtin; refine list_app _ rfl (.tmp 17) (.tmp 18) _ rfl 5 Try.underlying77 byte_info rfl (by decide) (by decide) w1.heap.size rfl (World.ownsRow_made w1 #[] 0 (Nat.le_refl _) (Nat.zero_le _) rfl) rfl (by rw [bcells_length, HLn.out]) (by exact (own_lie HO1.out).below ((Below.refl _ _).alloc (Nat.le_refl _) _)) (bcells_one _) (by omega) (by simp) ?_; intro v' w4 hown hg hat; have hB := grown_below ((Below.refl w1.heap.size w1).alloc (Nat.le_refl _) _) hg (by simp) (.inr ⟨_, rfl, Nat.le_refl _⟩); simp only [Nat.zero_add, List.nil_append] at hown; obtain ⟨A4, c4, rfl, hn4, _, _⟩ := own_shape hown; have HO4 := Lib.hid hown; have HB4 := Lib.hid hB; have hs4 := hB.size; clear hown hg hat hB)
    | (at_builtin; refine list_app _ rfl (.tmp 19) (.tmp 20) _ rfl 5 Try.underlying77 byte_info rfl (by decide) (by decide) w1.heap.size rfl HO4.out rfl (by rw [bcells_length, HMn.out]) (by exact HLie.out.below (HB1.out.trans (HB4.out.mono hs1))) (bcells_one _) (by omega) (by omega) ?_; intro v' w5 hown hg hat; have hB := grown_below HB4.out hg (by omega) (own_ge HO4.out); rw [← bcells_append] at hown; obtain ⟨A5, c5, rfl, hn5, _, _⟩ := own_shape hown; have HO5 := Lib.hid hown; have HB5 := Lib.hid hB; have hs5 := hB.size; clear hown hg hat hB)
    | (go_at_call 40; refine (newReader_calls _ _ _ _ (T ++ x2) hall.out (by omega) (own_lie HO5.out) hBall.out).mono ?_; rintro e w6 ⟨p, S, rfl, hR, hp, hS, hb6⟩; have HR6 := Lib.hid hR; have HB6 := Lib.hid (HB5.out.trans (hb6.mono (by omega))); have hp3 : w1.heap.size ≤ p := by omega
       have hs6 := HB6.out.size
       clear hR hS hb6)
    | (go_at_call 41; refine (HG.out _ _ _ HR6.out).mono ?_; rintro e w7 ⟨rfl, hK, hR⟩; have hB7 := HB6.out.trans (hK.below hs6 (fun x hx e => by omega)); have hs7 := hB7.size; have HX7 := Lib.hid (blk_new w7 (Obj.cells #[.int .i64 x, .int .i64 y] 38)); have HY7 := Lib.hid (blk_alloc (blk_below HX1.out hB7 hX1l) (Obj.cells #[.int .i64 x, .int .i64 y] 38)); have hB7' := hB7.alloc hs7 (Obj.cells #[.int .i64 x, .int .i64 y] 38); have HB7 := Lib.hid hB7'; have HO7 := Lib.hid (own_below HO1.out hB7'); have hs7' := hB7'.size; have hX7l := blk_lt HX7.out; have hY7l := blk_lt HY7.out; obtain ⟨k0, k1⟩ := boxTwo HX7.out; obtain ⟨j0, j1⟩ := boxTwo HY7.out; clear hR hK hB7 hB7')
    | (go_at_call 43; refine (HY.out _).mono ?_; rintro e w8 ⟨A8, c8, rfl, ho8, hb8⟩; have HO8 := Lib.hid ho8; have HOW := Lib.hid (own_below HO7.out hb8); have HX8 := Lib.hid (blk_below HX7.out hb8 hX7l); have HY8 := Lib.hid (blk_below HY7.out hb8 hY7l); have hB8 := HB7.out.trans (hb8.mono hs7'); have HB8 := Lib.hid hB8; have hs8 := hB8.size; have hX8l := blk_lt HX8.out; have hY8l := blk_lt HY8.out; clear ho8 hb8 hB8)
    | (go_at_call 42; refine (same_calls (S := fun b => (Value.slice A1 L c1).ownBlock = some b) (T := fun b => (Value.slice A8 L c8).ownBlock = some b) _ _ _ _ _ _ _ T T HLn.out HLn.out hL3 hL3 (fun b hb => (HOW.out.lt b hb).2) (fun b hb => (HO8.out.lt b hb).2) (own_brow HOW.out HLn.out HT.out hL3) (own_brow HO8.out HLn.out HT.out hL3)).mono ?_; rintro e w9 ⟨he, hb9⟩; obtain rfl := he.trans (ret_bool (decide_eq_true rfl)); have HX9 := Lib.hid (blk_below HX8.out hb9 hX8l); have HY9 := Lib.hid (blk_below HY8.out hb9 hY8l); have hB9 := HB8.out.trans (hb9.mono hs8); have HB9 := Lib.hid hB9; have hs9 := hB9.size; have hX9l := blk_lt HX9.out; have hY9l := blk_lt HY9.out; obtain ⟨q0, q1⟩ := boxTwo HY9.out; clear he hb9 hB9)
    | (go_at_call 27; refine (HGd.out _).mono ?_; rintro e w10 ⟨rfl, hb10⟩; have HX10 := Lib.hid (blk_below HX9.out hb10 hX9l); have HY10 := Lib.hid (blk_below HY9.out hb10 hY9l); have hB10 := HB9.out.trans (hb10.mono hs9); have HB10 := Lib.hid hB10; have hs10 := hB10.size; have hX10l := blk_lt HX10.out; have hY10l := blk_lt HY10.out; clear hb10 hB10)
    | (go_at_call 20; refine (kindAnswers_calls _).mono ?_; rintro e w11 ⟨rfl, hb11⟩; obtain ⟨k0, k1⟩ := boxTwo (blk_below HX10.out hb11 hX10l); obtain ⟨j0, j1⟩ := boxTwo (blk_below HY10.out hb11 hY10l); have HB11 := Lib.hid (HB10.out.trans (hb11.mono hs10)); clear hb11))
  go_ret
  exact ⟨rfl, HB1.out.trans (HB11.out.mono hs1)⟩

theorem nat_ways {k : Int} (h : -9223372036854775808 ≤ k ∧ k ≤ 9223372036854775807) : ∃ a : Nat, a < 9223372036854775808 ∧ ((k < 0 ∧ a = 0) ∨ k = (a : Int)) := ⟨k.toNat, by omega, by omega⟩
set_option maxRecDepth 100000 in
set_option maxHeartbeats 2000000 in
theorem kindBytes_walk (w : World) (cs0 : List Value) (x0 : Ty) (K0 : k_ty.K (· < w.heap.size) w x0 cs0) (a1 : Int) (w1 : (Lit.int .u8 a1).wf = true) (A2 : Option Addr) (c2 : Nat) (x2 : (List Int)) (l2 : x2.length ≤ c2) (m2 : x2.length ≤ 140737488351232) (row2 : (Rd.int .u8).Row (· < w.heap.size) w A2 x2) :
    Calls Try.prog 15 #[.agg cs0.toArray, .int .u8 a1, .slice A2 x2.length c2] w fun e w' => e = .returned (.bool true) ∧ Below w.heap.size w w' := by
  obtain ⟨cells, hfl, hlie⟩ := row2.flat
  obtain ⟨rfl, hB⟩ := byte_flat.1 hfl
  obtain ⟨rfl, f0, f1⟩ := k_ty_open K0
  obtain ⟨k, n⟩ := x0
  have bk : -9223372036854775808 ≤ k ∧ k ≤ 9223372036854775807 := bounds_i64 f0
  have bn : -9223372036854775808 ≤ n ∧ n ≤ 9223372036854775807 := bounds_i64 f1
  have br := bounds_u8 w1
  obtain ⟨r, rfl⟩ := Int.eq_ofNat_of_zero_le br.1
  have hr : r ≤ 255 := by omega
  have HL := Lib.hid hlie
  have HB := Lib.hid hB
  clear hfl hlie row2 hB K0 f0 f1 w1 br
  by_cases hbig : 50 < x2.length
  · have HB0 := Lib.hid ((Below.refl w.heap.size w).alloc (Nat.le_refl _) (Obj.cells #[.int .i64 k, .int .i64 n] 38))
    go_enter Try.func15, Try.ntmps15
    go_wp2_with (go_at_call 20; refine (kindAnswers_calls _).mono ?_; rintro e w5 ⟨rfl, hb5⟩)
    go_ret
    exact ⟨rfl, HB0.out.trans (hb5.mono (by simp))⟩
  · obtain ⟨a, ha, hwa⟩ := nat_ways bk
    obtain ⟨b, hb, hwb⟩ := nat_ways bn
    have ha64 : a < 18446744073709551616 := by omega
    have hb64 : b < 18446744073709551616 := by omega
    have la := varB_ten ha64
    have lb := varB_ten hb64
    have hL : (varB a ++ varB b).length ≤ 20 := by rw [List.length_append]; omega
    have HT := Lib.hid (isB_append (varB_isB a) (varB_isB b))
    have HP : Hid (PutLike 39 k n (varB a ++ varB b).length (varB a ++ varB b)) := Lib.hid (fun w' => kput_calls w' k n a b ha hb hwa hwb)
    have HY : Hid (PutLike 43 k n (varB a ++ varB b).length (varB a ++ varB b)) := Lib.hid (fun w' => refType_calls w' k n a b ha hb hwa hwb)
    have HGd : Hid (GoodLike r k n (good ⟨k, n⟩ r)) := Lib.hid (fun w' => refGood_calls w' k n r)
    have hm : x2.length ≤ 50 := by omega
    have hrr : (r : Int) ≤ 255 := by omega
    cases hg : good ⟨(a : Int), (b : Int)⟩ (r : Int) with
    | true =>
      obtain ⟨_, h9, _, h26⟩ := good_range hrr hg
      have HG : Hid (GetLike r ((varB a ++ varB b) ++ x2) x2 a b true) := Lib.hid (fun w' p S hR => (kget_ok w' p S a b r x2 ha64 hb64 (by rw [← List.append_assoc]; exact hR) (by omega) (by omega) hg).mono fun e w'' h => ⟨h.1, h.2.2, fun _ => h.2.1⟩)
      by_cases hn0 : n < 0
      · have hgf : good ⟨k, n⟩ r = false := by
          cases h : good ⟨k, n⟩ r with
          | false => rfl
          | true => have := good_range hrr h; omega
        rw [hgf] at HGd
        exact kb_n w k n a b r hr A2 c2 _ x2 _ _ rfl rfl hL hm HT HB HL HP HY HG HGd (decide_eq_true hn0)
      · by_cases hk0 : k < 0
        · have hgf : good ⟨k, n⟩ r = false := by
            cases h : good ⟨k, n⟩ r with
            | false => rfl
            | true => have := good_range hrr h; omega
          rw [hgf] at HGd
          exact kb_k w k n a b r hr A2 c2 _ x2 _ _ rfl rfl hL hm HT HB HL HP HY HG HGd (decide_eq_false hn0) (decide_eq_true hk0)
        · have ek : (a : Int) = k := by omega
          have en : (b : Int) = n := by omega
          rw [ek, en] at HG hg
          rw [hg] at HGd
          exact kb_good w k n r hr A2 c2 _ x2 _ _ rfl rfl hL hm HT HB HL HP HY HG HGd
    | false =>
      have HG : Hid (GetLike r ((varB a ++ varB b) ++ x2) x2 0 0 false) := Lib.hid (fun w' p S hR => (kget_no w' p S a b r x2 ha64 hb64 (by rw [← List.append_assoc]; exact hR) (by
        by_cases h1 : 8 < a
        · exact .inl h1
        · by_cases h2 : 255 < b
          · exact .inr (.inl ⟨by omega, h2⟩)
          · exact .inr (.inr ⟨by omega, by omega, hg⟩))).mono fun e w'' h => ⟨h.1, h.2, fun h => by cases h⟩)
      have hgf : good ⟨k, n⟩ r = false := by
        cases h : good ⟨k, n⟩ r with
        | false => rfl
        | true =>
          have h4 := good_range hrr h
          have ek : (a : Int) = k := by omega
          have en : (b : Int) = n := by omega
          rw [ek, en, h] at hg
          cases hg
      rw [hgf] at HGd
      exact kb_no w k n r hr A2 c2 _ x2 _ _ rfl rfl hL hm HT HB HL HP HY HG HGd
end Go.Proofs.Ytmadgnfnljnggaa
