/- num.Fixed, pack.Join. Printed by gen_mc.py of this repo out of XFixed, XPackPure and XPackJoin. -/
import Derived.Test.YtdmmjckhpagibaaGreatDoorNumVar
import Derived.Test.YtdmmjckhpagibaaGreatDoorCnt
import Derived.Test.YtdmmjckhpagibaaGreatDoorData
namespace Go.Proofs.YtdmmjckhpagibaaGreatDoor
open Go.RowKit
set_option linter.unusedVariables false
/-- The lowest k bytes. -/
def fixB (v k : Nat) : List Int := (List.range k).map fun i => ((v / 256 ^ i % 256 : Nat) : Int)
theorem fixB_succ (v k : Nat) : fixB v (k + 1) = fixB v k ++ [((v / 256 ^ k % 256 : Nat) : Int)] := by
  unfold fixB; rw [List.range_succ, List.map_append]; rfl
theorem fixB_len (v k : Nat) : (fixB v k).length = k := by simp [fixB]
theorem fixB_isB (v k : Nat) : isB (fixB v k) := by
  intro x hx
  simp only [fixB, List.mem_map] at hx
  obtain ⟨i, _, rfl⟩ := hx
  omega
theorem shr8 (v k : Nat) : (v : Int) / 2 ^ (8 * k) % 256 = ((v / 256 ^ k % 256 : Nat) : Int) := by
  have h : (2 : Nat) ^ (8 * k) = 256 ^ k := by rw [Nat.pow_mul]
  have h2 : ((2 : Int) ^ (8 * k)) = ((2 ^ (8 * k) : Nat) : Int) := by rw [Int.natCast_pow]; rfl
  rw [h2, h, ← Int.natCast_ediv]
  omega
set_option maxRecDepth 100000 in
theorem fixed_calls (w : World) (v : Nat) (n : Int) (hv : v < 18446744073709551616) : Calls Tryz.prog 150 #[.int .u64 v, .int .i64 n] w fun e w' => ∃ A c, e = .returned (.slice A (cnt n) c) ∧ w'.ownsRow w.heap.size 5 1 (.slice A (cnt n) c) (cnt n) (bcells (fixB v (cnt n))) ∧ Below w.heap.size w w' := by
  have hc8 := cnt_le n
  have hway : n < 0 ∨ (¬ n < 0 ∧ 8 < n) ∨ (0 ≤ n ∧ n ≤ 8) := by omega
  have hcn : (cnt n : Int) = if n < 0 then 0 else if 8 < n then 8 else n := by unfold cnt; split; rfl; split; rfl; omega
  rcases hway with h | ⟨h1, h2⟩ | ⟨h1, h2⟩
  all_goals
    first | rw [if_pos h] at hcn | rw [if_neg h1, if_pos h2] at hcn | rw [if_neg (by omega), if_neg (by omega)] at hcn
    go_enter Tryz.func150, Tryz.ntmps150
    go_wp2
    go_loopw [5, 10] (fun out i wr => ∃ (k : Nat) (A : Option Addr) (c : Nat), k ≤ cnt n ∧ i = .int .i64 k ∧ out = .slice A k c ∧ Hid (wr.ownsRow w.heap.size 5 1 (.slice A k c) k (bcells (fixB v k))) ∧ Below w.heap.size w wr) (fun _ i _ => 8 - (intOf i).toNat)
    case atStart => exact ⟨0, none, 0, by omega, rfl, rfl, Lib.hid ⟨rfl, .inl ⟨rfl, rfl⟩⟩, Below.refl _ _⟩
    case round =>
      obtain ⟨k, A, c, hk, rfl, rfl, HO, hb⟩ := hrel
      have hsz := hb.size
      by_cases hlt : k < cnt n
      · have HB8 := Lib.hid (shr8 v k)
        have hnn : 0 < cnt n := by omega
        go_wp2_with (at_builtin; refine list_app _ rfl (.tmp 13) (.tmp 19) _ rfl 5 Tryz.underlying134 byte_info rfl (by decide) (by decide) w.heap.size (n := k) (xs := bcells (fixB v k)) rfl (by exact HO.out.alloc _) (news := [.int .u8 ((v : Int) / 2 ^ (8 * k) % 256)]) rfl rfl (by exact lie_new _ _ _ rfl) (by exact byte1 _) (by omega) (by simp; omega) ?_; intro v' w3 hown hg hat; have hB := Lib.hid (grown_below (hb.alloc hsz _) hg (by simp; omega) (own_row_ge HO.out)); obtain ⟨A3, c3, rfl, hn3, _, _⟩ := own_shape hown; have HO3 := Lib.hid hown; clear hown hg hat)
        all_goals go_roundw
        all_goals first
          | (case rel => exact ⟨k + 1, A3, c3, by omega, by go_num, rfl, Lib.hid (by rw [fixB_succ, bsnoc, ← HB8.out]; exact HO3.out), hB.out⟩)
          | (case measure => simp [intOf]; omega)
      · have he : k = cnt n := by omega
        subst he
        go_wp2
        go_ret
        exact ⟨_, _, rfl, HO.out, hb⟩
def partsB (l : List (List Int)) : List Int := l.flatMap fun p => varB p.length ++ p
def joinB (l : List (List Int)) : List Int := varB l.length ++ partsB l
theorem partsB_cons (p : List Int) (l : List (List Int)) : partsB (p :: l) = varB p.length ++ p ++ partsB l := by simp [partsB]
theorem partsB_snoc (l : List (List Int)) (p : List Int) : partsB (l ++ [p]) = partsB l ++ (varB p.length ++ p) := by simp [partsB]
theorem joinB_isB {l : List (List Int)} (h : ∀ p ∈ l, isB p) : isB (joinB l) := by
  unfold joinB
  refine isB_append (varB_isB _) ?_
  intro x hx
  simp only [partsB, List.mem_flatMap, List.mem_append] at hx
  obtain ⟨p, hp, hx | hx⟩ := hx
  · exact varB_isB _ x hx
  · exact h p hp x hx
/-- With something behind it a Join is none. -/
theorem row_sl_at {S : Nat → Prop} {w : World} {A : Option Addr} {l : List (List Int)} {k : Nat} {p : List Int} (h : (Rd.slice (Rd.int .u8)).Row S w A l) (hk : l[k]? = some p) : ∃ b o B c, A = some ⟨b, o, none⟩ ∧ S b ∧ w.cell? ⟨b, o + k, none⟩ = some (.slice B p.length c) ∧ p.length ≤ c ∧ (Rd.int .u8).Row S w B p := by
  obtain ⟨hlt, he⟩ := List.getElem?_eq_some_iff.1 hk
  obtain ⟨b, o, e, hb, hc⟩ := h (by omega)
  obtain ⟨cs, ⟨v, rfl, B, c, rfl, h1, h2, h3⟩, hcell⟩ := hc k hlt
  rw [he] at h1 h3 hcell
  have := hcell 0 _ rfl
  refine ⟨b, o, B, c, e, hb, ?_, h1, h3⟩
  simpa [Rd.slice] using this
theorem partsB_take (l : List (List Int)) (k : Nat) : (partsB (l.take k)).length ≤ (partsB l).length := by
  have h : partsB l = partsB (l.take k) ++ partsB (l.drop k) := by
    have h2 : partsB (l.take k ++ l.drop k) = partsB (l.take k) ++ partsB (l.drop k) := by unfold partsB; rw [List.flatMap_append]
    rwa [List.take_append_drop] at h2
  rw [h, List.length_append]
  omega
theorem partsB_len {l : List (List Int)} {M : Nat} (hM : M < 18446744073709551616) (h : ∀ p ∈ l, p.length ≤ M) : (partsB l).length ≤ l.length * (M + 10) := by
  induction l with
  | nil => simp [partsB]
  | cons p l ih =>
    have h1 := h p (by simp)
    have h2 := ih (fun q hq => h q (by simp [hq]))
    have h3 := varB_ten (v := p.length) (by omega)
    rw [partsB_cons, List.length_append, List.length_append, List.length_cons, Nat.add_mul]
    omega
theorem partsB_part {l : List (List Int)} {p : List Int} (h : p ∈ l) : p.length ≤ (partsB l).length := by
  obtain ⟨k, hk⟩ := List.getElem?_of_mem h
  have h1 := partsB_take l (k + 1)
  rw [List.take_add_one, hk, Option.toList_some, partsB_snoc, List.length_append, List.length_append] at h1
  omega
set_option maxRecDepth 100000 in
set_option maxHeartbeats 2000000 in
theorem pjoin_calls {S : Nat → Prop} (w : World) (A : Option Addr) (n c : Nat) (l : List (List Int)) (hn : l.length = n) (hm : n ≤ 300) (T : Nat) (hT : (partsB l).length ≤ T) (hT2 : T ≤ 600000) (hS : ∀ b, S b → b < w.heap.size) (hrow : (Rd.slice (Rd.int .u8)).Row S w A l) : Calls Tryz.prog 98 #[.slice A n c] w fun e w' => ∃ A' c', e = .returned (.slice A' (joinB l).length c') ∧ w'.ownsRow w.heap.size 5 1 (.slice A' (joinB l).length c') (joinB l).length (bcells (joinB l)) ∧ Below w.heap.size w w' := by
  have HN := Lib.hid hn
  have HR := Lib.hid hrow
  have HS := Lib.hid hS
  have hT3 := Lib.hid hT
  have hn64 : n < 18446744073709551616 := by omega
  have hv := varB_ten hn64
  clear hn hrow hS hT
  go_enter Tryz.func98, Tryz.ntmps98
  go_wp2_with (go_at_call 145; refine (var_calls _ _ hn64).mono ?_; rintro e w1 ⟨A1, c1, rfl, ho, hb⟩; have HO0 := Lib.hid ho; have HB0 := Lib.hid hb; clear ho hb)
  go_loopw [3, 5, 12] (fun out p ix wr => ∃ (k m : Nat) (pre : List Int) (A' : Option Addr) (c' : Nat), k ≤ n ∧ ix = .int .i64 k ∧ out = .slice A' m c' ∧ m ≤ 10 + T ∧ Hid (pre.length = m) ∧ Hid (pre = varB n ++ partsB (l.take k)) ∧ Hid (wr.ownsRow w.heap.size 5 1 (.slice A' m c') m (bcells pre)) ∧ Below w.heap.size w wr) (fun _ _ ix _ => n - (intOf ix).toNat)
  case atStart => exact ⟨0, _, _, A1, c1, Nat.zero_le _, rfl, rfl, by omega, Lib.hid rfl, Lib.hid (by simp [partsB]), HO0, HB0.out⟩
  case round =>
    obtain ⟨k, m, pre, A', c', hk, rfl, rfl, hmm, HM, HP, HO, hb⟩ := hrel
    by_cases hlt : k < n
    · obtain ⟨p, hp⟩ : ∃ p, l[k]? = some p := ⟨_, List.getElem?_eq_getElem (by have := HN.out; omega)⟩
      obtain ⟨b, o, B, cp, rfl, hSb, hcell0, hcp, hrp⟩ := row_sl_at HR.out hp
      have hcell := (World.cell?_of_block (a := ⟨b, o + k, none⟩) (hb.block b (HS.out b hSb))).trans hcell0
      obtain ⟨cells, hfl, hlie⟩ := hrp.flat
      obtain ⟨rfl, hBp⟩ := byte_flat.1 hfl
      obtain ⟨q, hq⟩ : ∃ q, p.length = q := ⟨_, rfl⟩
      have hq1 : q ≤ T := by rw [← hq]; exact Nat.le_trans (partsB_part (List.mem_of_getElem? hp)) hT3.out
      have hsum : m + (varB q).length + q ≤ 10 + T := by
        have h1 := partsB_take l (k + 1)
        rw [List.take_add_one, hp, Option.toList_some, partsB_snoc, List.length_append, List.length_append, hq] at h1
        have h2 := hT3.out
        have h3 := HM.out
        rw [HP.out, List.length_append] at h3
        omega
      have HQ := Lib.hid hq
      rw [hq] at hcell hcp hlie
      have HPp := Lib.hid hp
      have HLp := Lib.hid hlie
      have hq64 : q < 18446744073709551616 := by omega
      have hvq := varB_ten hq64
      have hsz := hb.size
      clear hp hrp hq hcell0 hfl hBp hlie
      go_wp2_with (first
        | (go_at_call 145; refine (var_calls _ _ hq64).mono ?_; rintro e w2 ⟨A2, c2, rfl, ho2, hb2⟩; have HO2 := Lib.hid ho2; have HOO := Lib.hid (own_below HO.out hb2); have hbW : Below w.heap.size w w2 := hb.trans (hb2.mono hsz); have HB2 := Lib.hid hbW; have hs2 := hbW.size; clear ho2 hb2 hbW)
        | (at_builtin; refine list_app _ rfl (.tmp 16) (.tmp 20) _ rfl 5 Tryz.underlying134 byte_info rfl (by decide) (by decide) w.heap.size rfl HOO.out rfl (bcells_length _) (own_lie HO2.out) (bcells_one _) (by omega) hs2 ?_; intro v' w3 hown hg hat; have hbW := grown_below HB2.out hg hs2 (own_ge HOO.out); rw [← bcells_append] at hown; obtain ⟨A3, c3, rfl, hn3, _, _⟩ := own_shape hown; have HO3 := Lib.hid hown; have HB3 := Lib.hid hbW; have hs3 := hbW.size; clear hown hg hat hbW)
        | (at_builtin; refine list_app _ rfl (.tmp 22) (.tmp 23) _ rfl 5 Tryz.underlying134 byte_info rfl (by decide) (by decide) w.heap.size rfl HO3.out rfl (by rw [bcells_length, HQ.out]) (by exact HLp.out.below HB3.out) (bcells_one _) (by omega) hs3 ?_; intro v' w4 hown hg hat; have hbW := grown_below HB3.out hg hs3 (own_ge HO3.out); rw [← bcells_append] at hown; obtain ⟨A4, c4, rfl, hn4, _, _⟩ := own_shape hown; have HO4 := Lib.hid hown; have HB4 := Lib.hid hbW; have hs4 := hbW.size; clear hown hg hat hbW))
      go_roundw
      case rel =>
        refine ⟨k + 1, _, pre ++ varB q ++ p, A4, c4, by omega, by go_num, rfl, by omega, Lib.hid (by rw [List.length_append, List.length_append, HM.out, HQ.out]), Lib.hid ?_, HO4, HB4.out⟩
        rw [List.take_add_one, HPp.out, Option.toList_some, partsB_snoc, HP.out, HQ.out]
        simp only [List.append_assoc]
      case measure => simp [intOf]; omega
    · have hkn : k = n := by omega
      subst hkn
      have hj : joinB l = pre := by rw [HP.out]; unfold joinB; rw [HN.out, ← HN.out, List.take_length]
      have HJ := Lib.hid hj
      clear hj
      go_wp2
      go_ret
      rw [HJ.out, HM.out]
      exact ⟨A', c', rfl, HO.out, hb⟩

end Go.Proofs.YtdmmjckhpagibaaGreatDoor
