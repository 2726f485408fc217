/- What a program that does nothing does not answer of parts. -/
import Derived.Test.YtmcjjikhdjoopaaPackParts
import Derived.Lib.SlBytesConst
import Derived.Laws.BytesArg
namespace Go.Proofs.Ytmcjjikhdjoopaa
open Go.RowKit
set_option linter.unusedVariables false
theorem split_ok {w : World} {bs : List Int} {most : Int} {e : Ending} {w' : World} {l : List (List Int)} (h : SplitPost w bs most e w') (hs : splitB bs most = some l) : ∃ A c, e = .returned (.tuple #[.slice A l.length c, .int .i64 0]) ∧ l.length ≤ c ∧ kB.Row (fun b => w.heap.size ≤ b ∧ b < w'.heap.size) w' A l := by
  rcases h with ⟨h1, _⟩ | ⟨l', A, c, h1, h2, h3, _, h4⟩
  · rw [hs] at h1; cases h1
  · rw [hs] at h1; cases h1
    exact ⟨A, c, h2, h3, h4⟩
theorem split_no {w : World} {bs : List Int} {most : Int} {e : Ending} {w' : World} (h : SplitPost w bs most e w') (hs : splitB bs most = none) : e = .returned (.tuple #[.slice none 0 0, .int .i64 2]) := by
  rcases h with ⟨_, h1⟩ | ⟨l', A, c, h1, _⟩
  · exact h1
  · rw [hs] at h1; cases h1
theorem own_row {w : World} {base : Nat} {A : Option Addr} {n c : Nat} {l : List (List Int)} {cells : List Value} (S : Nat → Prop) (ho : w.ownsRow base 29 1 (.slice A n c) n cells) (hn : l.length = n) (hS : ∀ b, (Value.slice A n c).ownBlock = some b → S b) (hf : kB.Flat S w l cells) (hm : n ≤ 1000000) : kB.Row S w A l := by
  subst hn
  obtain ⟨A3, c3, e, _, _, hr⟩ := Rd.Sl.of_own (d := kB) (S := S) ho hS hf (by omega)
  cases e
  exact hr
theorem conv_a (w : World) (b o c : Nat) (h : w.cell? ⟨b, o, none⟩ = some (.int .u8 97)) : (convert 29 9 (.slice (some ⟨b, o, none⟩) 1 c)).run Try.prog w = .ok (.string ⟨#[97]⟩) w :=
  run_convert_bytes_arg w 29 5 Try.underlying29 Try.underlying5 b o 1 c [97] rfl (fun i hi => by
    obtain rfl : i = 0 := by omega
    exact h) 9 Try.underlying9
theorem packAnswers_row (w : World) : kB.Row (fun b => b = w.heap.size ∨ b = w.heap.size + 1) ((w.alloc (.cells #[.int .u8 97] 5 (1, 2))).alloc (.cells #[.slice (some ⟨w.heap.size, 0, none⟩) 1 1, .slice none 0 0] 29)) (some ⟨w.heap.size + 1, 0, none⟩) [[97], []] := by
  have h0 := blk_new w (.cells #[.int .u8 97] 5 (1, 2))
  have h1 := blk_alloc h0 (.cells #[.slice (some ⟨w.heap.size, 0, none⟩) 1 1, .slice none 0 0] 29)
  refine Rd.Row.of_blk (blk_new2 w _ _) (.inr rfl) (Rd.Flat.cons (c := [.slice (some ⟨w.heap.size, 0, none⟩) 1 1]) ⟨_, rfl, _, 1, rfl, Nat.le_refl 1, by decide, ?_⟩ (Rd.Flat.one (d := kB) (c := [.slice none 0 0]) ⟨_, rfl, _, 0, rfl, Nat.le_refl 0, by decide, Rd.Row.nil _ _ _ _⟩)) (fun j v hj => by simpa using hj)
  exact Rd.Row.of_blk h1 (.inl rfl) (byte_flat.2 ⟨rfl, isB_one (by decide)⟩) (fun j v hj => by simpa [bcells] using hj)
set_option maxRecDepth 100000 in
theorem packAnswers_calls (w : World) : Calls Try.prog 18 #[] w fun e w' => e = .returned (.bool true) ∧ Below w.heap.size w w' := by
  have hj : joinB [[97], []] = [2, 1, 97, 0] := by simp [joinB, partsB, varB_small]
  have hs : splitB [2, 1, 97, 0] 2 = some [[97], []] := by rw [← hj, splitB_back _ (by simp) (by simp)]; simp
  have HSp := Lib.hid hs
  have HB4 : Hid (isB [2, 1, 97, 0]) := Lib.hid (fun x hx => by simp at hx; omega)
  have hcv := Lib.run_convert_bytes_const (P := Try.prog) w 29 5 #[.int .u8 97] 1 1 Try.underlying29 Try.underlying5
  have HRow := Lib.hid (packAnswers_row w)
  have HJ := Lib.hid hj
  have hBx := Lib.hid (((Below.refl w.heap.size w).alloc (Nat.le_refl _) (.cells #[.int .u8 97] 5 (1, 2))).alloc (by simp) (.cells #[.slice (some ⟨w.heap.size, 0, none⟩) 1 1, .slice none 0 0] 29))
  clear hj hs
  go_enter Try.func18, Try.ntmps18
  go_wp2_with (first
    | (go_at_call 19; refine (join_calls _ _ _ _ [[97], []] rfl (by decide) 100 (partsB_len (M := 40) (by decide) (by simp)) (by decide) (by rintro b (rfl | rfl) <;> simp <;> omega) HRow.out).mono ?_; rw [HJ.out]; rintro e w2 ⟨A2, c2, rfl, ho, hb⟩; have HO2 := Lib.hid ho; have HB2 := Lib.hid (hBx.out.trans (hb.mono (by simp; omega))); have hs2 := HB2.out.size; clear ho hb)
    | (go_at_call 20; refine (split_calls _ _ _ _ [2, 1, 97, 0] rfl (by decide) (own_lie HO2.out) HB4.out 2 (by decide)).mono ?_; rintro e w3 ⟨hp, hb⟩; obtain ⟨A3, c3, rfl, hc3, hr3⟩ := split_ok hp HSp.out; obtain ⟨b4, o4, B4, c4, rfl, _, hcell, hc4, hr4⟩ := row_sl_at hr3 (k := 0) (p := [97]) rfl; obtain ⟨b5, o5, rfl, _, hcell5, _⟩ := row_u8_at hr4 (i := 0) (x := 97) rfl; have hcva := fun c => conv_a w3 b5 o5 c hcell5; have hcell' : w3.cell? ⟨b4, o4, none⟩ = some (.slice (some ⟨b5, o5, none⟩) 1 c4) := hcell; clear hcell; have HB3 := Lib.hid (HB2.out.trans (hb.mono hs2)); clear hp hb hr3 hr4 hcell5))
  go_ret
  exact ⟨rfl, HB3.out⟩
end Go.Proofs.Ytmcjjikhdjoopaa
