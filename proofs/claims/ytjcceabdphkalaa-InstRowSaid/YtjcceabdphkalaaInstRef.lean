/- The reference's Instr. -/
import Derived.Test.YtjcceabdphkalaaInstPut
namespace Go.Proofs.Ytjcceabdphkalaa
open Go.RowKit
set_option linter.unusedVariables false
theorem ref_start (w : World) (op : Int) (a b base : Nat) (hb : base ≤ w.heap.size) : (w.alloc (Obj.cells #[.int .u8 op] 5)).ownsRow base 5 1 (.slice (some ⟨w.heap.size, 0, none⟩) 1 1) 1 (bcells (enc op a b 0)) :=
  own_down (own_made w 5 1 1 [.int .u8 op] rfl (by decide)) hb
set_option maxRecDepth 100000 in
set_option maxHeartbeats 1000000 in
theorem refInstr_calls : PutSaid 35 := by
  intro w op a b
  by_cases hg : goodI ⟨op, a, b⟩ = true
  · obtain ⟨h1, h2, h3, h4, h5, h6, h7⟩ := goodI_open hg
    simp only at h1 h2 h3 h4 h5 h6 h7
    obtain ⟨a, rfl⟩ := Int.eq_ofNat_of_zero_le h2
    obtain ⟨b, rfl⟩ := Int.eq_ofNat_of_zero_le h4
    have hop := argsN_op h1
    have ha : a < 18446744073709551616 := by omega
    have hb : b < 18446744073709551616 := by omega
    obtain ⟨n, hn⟩ : ∃ n : Nat, argsN op = (n : Int) := ⟨(argsN op).toNat, by omega⟩
    have hI := Lib.hid (instB_enc hg hn)
    have hn2 : (n = 0 ∧ (a : Int) = 0 ∧ (b : Int) = 0) ∨ (n = 1 ∧ (b : Int) = 0) ∨ n = 2 := by rcases argsN_range op with h | h | h | h <;> omega
    have HN := Lib.hid hn
    have hl := enc_len op ha hb
    have HLen := Lib.hid hl
    have hl1 := varB_ten ha
    have hl2 := varB_ten hb
    have hb0 := Lib.hid (blk_new w (Obj.cells #[.int .i64 op, .int .i64 (a : Int), .int .i64 (b : Int)] 54))
    have hbw := Lib.hid ((Below.refl w.heap.size w).alloc (Nat.le_refl _) (Obj.cells #[.int .i64 op, .int .i64 (a : Int), .int .i64 (b : Int)] 54))
    clear hg hn h1 h2 h4 h6 h7 hl
    have hqa : n = 0 → ((a : Int) == 0) = true := fun h => by rcases hn2 with h2 | h2 | h2 <;> simp <;> omega
    have hqb : n = 0 ∨ n = 1 → ((b : Int) == 0) = true := fun h => by rcases hn2 with h2 | h2 | h2 <;> simp <;> omega
    have hn3 : n = 0 ∨ n = 1 ∨ n = 2 := by omega
    clear hn2
    rcases hn3 with rfl | rfl | rfl
    all_goals
      (first | (have qa := hqa rfl) | skip)
      (first | (have qb := hqb (.inl rfl)) | (have qb := hqb (.inr rfl)) | skip)
      clear hqa hqb
      (try have qa2 : ((a : Int) != 0) = false := by rw [bne, qa]; rfl)
      (try have qb2 : ((b : Int) != 0) = false := by rw [bne, qb]; rfl)
      first | have HA := Lib.hid (fun w' => refArgs_at w' op 0 HN.out) | have HA := Lib.hid (fun w' => refArgs_at w' op 1 HN.out) | have HA := Lib.hid (fun w' => refArgs_at w' op 2 HN.out)
      rw [hI.out]
      go_enter Try.func35, Try.ntmps35
      go_wp2_with (first
        | (go_at_call 30; refine (HA.out _).mono ?_; rintro e w1 ⟨rfl, hb1⟩; have hbx := Lib.hid (blk_below hb0.out hb1 (by simp)); obtain ⟨c0, c1, c2⟩ := box3 hbx.out; have HB1 := Lib.hid (hbw.out.trans (hb1.mono (by simp))); have hs1 := HB1.out.size; have HO := Lib.hid (ref_start w1 op a b w.heap.size hs1); have hbx2 := Lib.hid (blk_alloc hbx.out (Obj.cells #[.int .u8 op] 5)); have hg1 := blk_lt hbx.out; clear hb1 HA)
        | (go_at_call 54; have tok := HO; refine (refVar_calls a _ ha).mono ?_; rintro e w3 ⟨A3, c3, rfl, ho, hb3⟩; have HO3 := Lib.hid ho; have hbx3 := Lib.hid (blk_below hbx2.out hb3 (by simp; omega)); have HB3 := Lib.hid ((HB1.out.alloc hs1 (Obj.cells #[.int .u8 op] 5)).trans (hb3.mono (by simp; omega))); have HOO := Lib.hid (own_below HO.out hb3); have hs3 := HB3.out.size; clear ho hb3 tok; clear HO)
        | (at_builtin; refine list_app _ rfl (.tmp 54) (.tmp 58) _ rfl 5 Try.underlying29 byte_info rfl (by decide) (by decide) w.heap.size rfl HOO.out rfl (bcells_length _) (by exact own_lie HO3.out) (bcells_one _) (by omega) (by omega) ?_; intro v' w4 hown hg hat; have HB4 := Lib.hid (grown_below HB3.out hg (by omega) (own_ge HOO.out)); rw [show bcells (enc op a b 0) ++ bcells (varB a) = bcells (enc op a b 1) by rw [← bcells_append, enc_one]] at hown; obtain ⟨A4, c4, rfl, hn4, _, _⟩ := own_shape hown; have HO4 := Lib.hid hown; have hbx4 := Lib.hid (blk_grown hbx3.out hg (fun e => own_ne_blk HOO.out hbx3.out (by decide) e.symm)); obtain ⟨d0, d1, d2⟩ := box3 hbx4.out; have hs4 := HB4.out.size; clear hown hg hat)
        | (go_at_call 54; refine (refVar_calls b _ hb).mono ?_; rintro e w5 ⟨A5, c5, rfl, ho, hb5⟩; have HO5 := Lib.hid ho; have HB5 := Lib.hid (HB4.out.trans (hb5.mono hs4)); have HOP := Lib.hid (own_below HO4.out hb5); have hs5 := HB5.out.size; clear ho hb5)
        | (at_builtin; refine list_app _ rfl (.tmp 62) (.tmp 66) _ rfl 5 Try.underlying29 byte_info rfl (by decide) (by decide) w.heap.size rfl HOP.out rfl (bcells_length _) (by exact own_lie HO5.out) (bcells_one _) (by omega) (by omega) ?_; intro v' w6 hown hg hat; have HB6 := Lib.hid (grown_below HB5.out hg (by omega) (own_ge HOP.out)); rw [show bcells (enc op a b 1) ++ bcells (varB b) = bcells (enc op a b 2) by rw [← bcells_append, enc_two]] at hown; obtain ⟨A6, c6, rfl, hn6, _, _⟩ := own_shape hown; have HO6 := Lib.hid hown; clear hown hg hat))
      go_ret
    · exact ⟨_, _, rfl, HO.out, HB1.out.alloc hs1 _⟩
    · have e : 1 + (varB a).length = (enc op a b 1).length := by rw [enc_one, List.length_append]; rfl
      rw [e] at HO4 ⊢
      exact ⟨_, _, rfl, HO4.out, HB4.out⟩
    · have e : 1 + (varB a).length + (varB b).length = (enc op a b 2).length := by rw [enc_two, enc_one, List.length_append, List.length_append]; rfl
      rw [e] at HO6 ⊢
      exact ⟨_, _, rfl, HO6.out, HB6.out⟩
  · have hgf : goodI ⟨op, a, b⟩ = false := by simpa using hg
    have HI := Lib.hid (instB_bad hgf)
    obtain ⟨n, hn⟩ : ∃ n : Int, argsN op = n := ⟨_, rfl⟩
    have hr := argsN_range op
    rw [hn] at hr
    have hway : n = -1 ∨ (0 ≤ n ∧ a < 0) ∨ (0 ≤ n ∧ ¬ a < 0 ∧ 255 < a) ∨ (0 ≤ n ∧ ¬ a < 0 ∧ ¬ 255 < a ∧ b < 0) ∨ (0 ≤ n ∧ ¬ a < 0 ∧ ¬ 255 < a ∧ ¬ b < 0 ∧ 255 < b) ∨ (n = 0 ∧ ¬ a < 0 ∧ ¬ 255 < a ∧ ¬ b < 0 ∧ ¬ 255 < b ∧ ((a : Int) == 0) = false) ∨ (n = 0 ∧ ¬ a < 0 ∧ ¬ 255 < a ∧ ¬ b < 0 ∧ ¬ 255 < b ∧ ((a : Int) == 0) = true ∧ ((b : Int) == 0) = false) ∨ (n = 1 ∧ ¬ a < 0 ∧ ¬ 255 < a ∧ ¬ b < 0 ∧ ¬ 255 < b ∧ ((b : Int) == 0) = false) := by
      unfold goodI mayN at hgf
      rw [hn] at hgf
      simp only [beq_eq_false_iff_ne, beq_iff_eq]
      by_cases g1 : n = -1
      · omega
      by_cases g2 : a < 0
      · omega
      by_cases g3 : 255 < a
      · omega
      by_cases g4 : b < 0
      · omega
      by_cases g5 : 255 < b
      · omega
      have e1 : decide (0 ≤ n) = true := decide_eq_true (by omega)
      have e2 : decide (0 ≤ a) = true := decide_eq_true (by omega)
      have e3 : decide (a ≤ 255) = true := decide_eq_true (by omega)
      have e4 : decide (0 ≤ b) = true := decide_eq_true (by omega)
      have e5 : decide (b ≤ 255) = true := decide_eq_true (by omega)
      simp only [e1, e2, e3, e4, e5, Bool.true_and] at hgf
      simp at hgf
      omega
    have HN := Lib.hid hn
    have hb0 := Lib.hid (blk_new w (Obj.cells #[.int .i64 op, .int .i64 a, .int .i64 b] 54))
    have hbw := Lib.hid ((Below.refl w.heap.size w).alloc (Nat.le_refl _) (Obj.cells #[.int .i64 op, .int .i64 a, .int .i64 b] 54))
    clear hg hgf hn
    rw [HI.out]
    have HA := Lib.hid (fun w' => refArgs_at w' op n HN.out)
    rcases hway with rfl | ⟨h0, h1⟩ | ⟨h0, h1, h2⟩ | ⟨h0, h1, h2, h3⟩ | ⟨h0, h1, h2, h3, h4⟩ | ⟨rfl, h1, h2, h3, h4, q1⟩ | ⟨rfl, h1, h2, h3, h4, q1, q2⟩ | ⟨rfl, h1, h2, h3, h4, q2⟩
    all_goals
      (try have qa2 : (a != 0) = true := by rw [bne, q1]; rfl)
      (try have qa3 : (a != 0) = false := by rw [bne, q1]; rfl)
      (try have qb2 : (b != 0) = true := by rw [bne, q2]; rfl)
      go_enter Try.func35, Try.ntmps35
      go_wp2_with (first
        | (go_at_call 30; refine (HA.out _).mono ?_; rintro e w1 ⟨rfl, hb1⟩; have hbx := Lib.hid (blk_below hb0.out hb1 (by simp)); obtain ⟨c0, c1, c2⟩ := box3 hbx.out; have HB1 := Lib.hid (hbw.out.trans (hb1.mono (by simp))); clear hb1 HA))
      go_ret
      exact ⟨none, 0, rfl, nil_owned _ _, HB1.out⟩
end Go.Proofs.Ytjcceabdphkalaa
