/- The walk of HansPlays. -/
import Derived.Test.YtmadgnfnljnggaaHansOwn
namespace Go.Proofs.Ytmadgnfnljnggaa
open Go.RowKit
set_option linter.unusedVariables false
theorem shutAt_some {hs : List Han} {k : Nat} {x : Han} (h : openAt hs (k : Int) = some x) : shutAt hs (k : Int) = hs.set k { x with opn := false } := by
  unfold shutAt; rw [h]; rfl
theorem openAt_far {hs : List Han} {n : Int} (h : (hs.length : Int) ≤ n) : openAt hs n = none := by
  unfold openAt; rw [List.getElem?_eq_none (by omega)]; rfl
theorem openAt_no {hs : List Han} {k : Nat} {x : Han} (h : hs[k]? = some x) (ho : x.opn = false) : openAt hs (k : Int) = none := by
  unfold openAt; simp [h, Option.filter, ho]
theorem openAt_yes {hs : List Han} {k : Nat} {x : Han} (h : hs[k]? = some x) (ho : x.opn = true) : openAt hs (k : Int) = some x := by
  unfold openAt; simp [h, Option.filter, ho]
theorem wf_snoc {hs : List Han} {x : Han} (h : ∀ y ∈ hs, y.wf) (hx : x.wf) : ∀ y ∈ hs ++ [x], y.wf := fun y hy => by
  rcases List.mem_append.1 hy with hy | hy
  · exact h y hy
  · rw [List.mem_singleton.1 hy]; exact hx
theorem own_le {w : World} {base base' : Nat} {e : TypeId} {size : Nat} {v : Value} {n : Nat} {xs : List Value} (h : w.ownsRow base e size v n xs) (hb : base' ≤ base) : w.ownsRow base' e size v n xs := by
  refine ⟨h.1, ?_⟩
  rcases h.2 with h2 | ⟨g, cap, cur, h1, h2, h3⟩
  · exact .inl h2
  · exact .inr ⟨g, cap, cur, h1, Nat.le_trans hb h2, h3⟩
/-- A row of handles that is owned can be read. -/
theorem own_row {w : World} {A : Option Addr} {c : Nat} {hs : List Han} (h : w.ownsRow 0 35 3 (.slice A hs.length c) hs.length (hcells hs)) (hw : ∀ h ∈ hs, h.wf) (hm : hs.length ≤ 1000000) : k_han.Row (· < w.heap.size) w A hs := by
  obtain ⟨_, _, e, _, _, hr⟩ := Rd.Sl.of_own (d := k_han) (S := (· < w.heap.size)) h (fun g hg => (h.lt g hg).2) (han_flat.2 ⟨rfl, hw⟩) (by omega)
  cases e
  exact hr
theorem one3 (a b : Int) (c : Bool) : ∀ u ∈ ([.int .i64 a, .int .u64 b, .bool c] : List Value), u.oneCell' = true := hcells_one [⟨a, b, c⟩]
theorem snoc3 (hs : List Han) (a b : Int) (c : Bool) : hcells (hs ++ [⟨a, b, c⟩]) = hcells hs ++ [.int .i64 a, .int .u64 b, .bool c] := hcells_append _ _
attribute [local irreducible] shutAt openAt hcells
/-- What stands in a round of HansPlays: the list beside it, and the table. -/
structure Plays (w : World) (p : Nat) (wr : World) (v : Value) (A : Option Addr) (c : Nat) (hs hs2 : List Han) : Prop where
  all : wr.ownsRow w.heap.size 35 3 (.slice A hs.length c) hs.length (hcells hs)
  tab : Tab wr p v hs2
  ne : ∀ g, v.ownBlock = some g → (Value.slice A hs.length c).ownBlock ≠ some g
  low : ∀ g, v.ownBlock = some g → w.heap.size ≤ g
  kept : Below w.heap.size w wr
  size : w.heap.size ≤ wr.heap.size
section
variable {w wr w' w2 w3 : World} {p : Nat} {v v2 : Value} {A A' : Option Addr} {c c' : Nat} {hs hs2 : List Han}
theorem Plays.step (h : Plays w p wr v A c hs hs2) (hb : Below wr.heap.size wr w') : Plays w p w' v A c hs hs2 :=
  ⟨own_below h.all hb, h.tab.keeps (Keeps.of_below (F := fun _ => False) hb) (fun h => h) (fun _ _ h => h), h.ne, h.low, h.kept.trans (hb.mono h.size), Nat.le_trans h.size hb.size⟩
theorem Plays.far (h : Plays w p wr v A c hs hs2) : ¬ TabF p v wr.heap.size := fun hf => hf.elim
  (fun e => by have := blk_lt h.tab.box; omega) (fun e => by have := (h.tab.own.lt _ e).2; omega)
theorem Plays.apart (h : Plays w p wr v A c hs hs2) : ∀ g, (Value.slice A hs.length c).ownBlock = some g → ¬ TabF p v g := fun g hg hf => hf.elim
  (fun e => own_ne_blk h.all h.tab.box (by decide) (e ▸ hg)) (fun e => h.ne g e hg)
theorem Plays.opened (h : Plays w p wr v A c hs hs2) (hp : w.heap.size ≤ p) {hs3 : List Han} (ht : Tab w2 p v2 hs3) (hv : v2.ownBlock = v.ownBlock ∨ v2.ownBlock = some (wr.heap.size + 1)) (hk : Keeps (TabF p v) wr w2) : Plays w p w2 v2 A c hs hs3 :=
  ⟨own_keeps h.all hk h.apart, ht, fun g hg e => by
      rcases hv with hv | hv
      · exact h.ne g (hv ▸ hg) e
      · have h1 := (h.all.lt g e).2
        rw [hv] at hg
        have := Option.some.inj hg
        omega, own_ge2 h.low hv h.size, keeps_low h.kept hk h.size (tabF_ge hp h.low), Nat.le_trans h.size hk.size⟩
theorem Plays.closed (h : Plays w p wr v A c hs hs2) {hs3 : List Han} (ht : Tab w2 p v hs3) (hk : Keeps (fun b => v.ownBlock = some b) wr w2) : Plays w p w2 v A c hs hs3 :=
  ⟨own_keeps h.all hk (fun g hg hf => h.ne g hf hg), ht, h.ne, h.low, keeps_low h.kept hk h.size h.low, Nat.le_trans h.size hk.size⟩
theorem Plays.appended (h : Plays w p wr v A c hs hs2) {hs3 : List Han} (ho : w3.ownsRow w.heap.size 35 3 (.slice A' hs3.length c') hs3.length (hcells hs3)) (hg : wr.grownBy w3 (Value.slice A hs.length c).ownBlock) (ha : (Value.slice A' hs3.length c').ownBlock = (Value.slice A hs.length c).ownBlock ∨ (Value.slice A' hs3.length c').ownBlock = some wr.heap.size) : Plays w p w3 v A' c' hs3 hs2 :=
  have hk : Keeps (fun b => (Value.slice A hs.length c).ownBlock = some b) wr w3 := (Keeps.refl _ _).grown hg (fun g e _ => e)
  ⟨ho, h.tab.keeps hk (fun e => h.apart _ e (.inl rfl)) (fun g hg e => h.ne g hg e), fun g hg e => by
      rcases ha with ha | ha
      · exact h.ne g hg (ha ▸ e)
      · have h1 := (h.tab.own.lt g hg).2
        rw [ha] at e
        have := Option.some.inj e
        omega, h.low, keeps_low h.kept hk h.size (fun g hg => (h.all.lt g hg).1), Nat.le_trans h.size hk.size⟩
theorem Plays.snoc (h : Plays w p wr v A c hs hs2) (a b : Int) (d : Bool) {bo : Value} (hbo : bo.ownBlock = (Value.slice A hs.length c).ownBlock) {sz : Nat} (hsz : sz = wr.heap.size) (ho : w3.ownsRow w.heap.size 35 3 (.slice A' (hs.length + 1) c') (hs.length + 1) (hcells hs ++ [.int .i64 a, .int .u64 b, .bool d])) (hg : wr.grownBy w3 bo.ownBlock) (ha : (Value.slice A' (hs.length + 1) c').ownBlock = bo.ownBlock ∨ (Value.slice A' (hs.length + 1) c').ownBlock = some sz) : Plays w p w3 v A' c' (hs ++ [⟨a, b, d⟩]) hs2 := by
  subst hsz
  rw [hbo] at hg ha
  exact h.appended (by rw [List.length_append, snoc3]; exact ho) hg (by rw [List.length_append]; exact ha)
theorem Plays.stored {g : Nat} (h : Plays w p wr v (some ⟨g, 0, none⟩) c hs hs2) {hs3 : List Han} (j : Nat) (u : Value) (hl : hs3.length = hs.length) (ho : (wr.setCell ⟨g, j, none⟩ u).ownsRow w.heap.size 35 3 (.slice (some ⟨g, 0, none⟩) hs.length c) hs.length (hcells hs3)) : Plays w p (wr.setCell ⟨g, j, none⟩ u) v (some ⟨g, 0, none⟩) c hs3 hs2 := by
  have hk : Keeps (fun b => g = b) wr (wr.setCell ⟨g, j, none⟩ u) := Keeps.setCell (F := fun b => g = b) (Keeps.refl _ _) (fun _ => rfl) _
  refine ⟨by rw [hl]; exact ho, h.tab.keeps hk (fun e => h.apart g rfl (.inl e)) (fun g' hg e => h.ne g' hg (by rw [← e]; rfl)), fun g' hg e => h.ne g' hg (by rw [hl] at e; exact e), h.low, keeps_low h.kept hk h.size (fun x e => by have := (h.all.lt g rfl).1; omega), by simpa using h.size⟩
end
set_option maxRecDepth 100000 in
set_option maxHeartbeats 8000000 in
theorem hansPlays_walk (w : World) (A0 : Option Addr) (c0 : Nat) (x0 : (List Han)) (l0 : x0.length ≤ c0) (m0 : x0.length ≤ 140737488351232) (row0 : k_han.Row (· < w.heap.size) w A0 x0) (A1 : Option Addr) (c1 : Nat) (x1 : (List HanAct)) (l1 : x1.length ≤ c1) (m1 : x1.length ≤ 140737488351232) (row1 : k_hanact.Row (· < w.heap.size) w A1 x1) :
    Calls Try.prog 11 #[.slice A0 x0.length c0, .slice A1 x1.length c1] w fun e w' => e = .returned (.bool true) ∧ Below w.heap.size w w' := by
  obtain ⟨cells, hfl, hlie⟩ := row0.flat
  obtain ⟨rfl, hwf⟩ := han_flat.1 hfl
  have HF := Lib.hid hwf
  have HL := Lib.hid hlie
  have HR := Lib.hid row1
  clear hfl hwf hlie row0 row1
  by_cases hbig : 30 < x0.length ∨ 60 < x1.length
  · have hr : (30 < x0.length) ∨ (¬ 30 < x0.length ∧ 60 < x1.length) := by omega
    clear hbig
    rcases hr with h | ⟨h, h2⟩
    all_goals
      go_enter Try.func11, Try.ntmps11
      go_wp2_with (go_at_call 32; refine (hansAnswers_calls _).mono ?_; rintro e w5 ⟨rfl, hb5⟩)
      go_ret
      exact ⟨rfl, hb5⟩
  · have h30 : x0.length ≤ 30 := by omega
    have h60 : x1.length ≤ 60 := by omega
    clear hbig
    go_enter Try.func11, Try.ntmps11
    go_wp2_with (first
      | (go_at_call 33; refine (new_calls _ _ _ _ x0 rfl (by omega) HL.out HF.out).mono ?_; rintro e w1 ⟨p, v, rfl, ht, hp, hv, hb⟩; have HT := Lib.hid ht; have HV := Lib.hid hv; have HB := Lib.hid hb; have HL1 := Lib.hid (HL.out.below hb); clear ht hv hb)
      | (at_builtin; refine list_app _ rfl (.tmp 26) (.tmp 27) _ rfl 35 Try.underlying24 han_info rfl (by decide) (by decide) w1.heap.size rfl (World.ownsRow_made w1 #[] 0 (Nat.le_refl _) (Nat.zero_le _) rfl) rfl (hcells_length _) (by exact HL1.out.below ((Below.refl _ _).alloc (Nat.le_refl _) _)) (hcells_one _) (by omega) (by simp) ?_; intro v' w3 hown hg hat; have hB := Lib.hid (grown_below ((Below.refl w1.heap.size w1).alloc (Nat.le_refl _) _) hg (by simp) (.inr ⟨_, rfl, Nat.le_refl _⟩)); simp only [Nat.zero_add, List.nil_append] at hown; obtain ⟨A3, c3, rfl, hn3, _, _⟩ := own_shape hown; have HO := Lib.hid hown; clear hown hg hat))
    have hP : Plays w p w3 v A3 c3 x0 x0 := by
      have hs1 := HB.out.size
      have ht := HT.out.keeps (Keeps.of_below (F := fun _ => False) hB.out) (fun h => h) (fun _ _ h => h)
      refine ⟨own_le HO.out hs1, ht, fun g hg e => ?_, HV.out, HB.out.trans (hB.out.mono hs1), Nat.le_trans hs1 hB.out.size⟩
      have h1 := (HO.out.lt g e).1
      have h2 := (HT.out.own.lt g hg).2
      omega
    have HP := Lib.hid hP
    clear hP HT HV HB HL HL1 hB HO
    go_loopw [6, 7] (fun al i wr => ∃ (k : Nat) (hs : List Han) (v : Value) (A : Option Addr) (c : Nat), k ≤ x1.length ∧ i = .int .i64 k ∧ al = .slice A hs.length c ∧ hs.length ≤ 30 ∧ hs.length ≤ c ∧ Hid (Plays w p wr v A c hs hs)) (fun _ i _ => x1.length - (intOf i).toNat)
    case atStart => exact ⟨0, x0, v, A3, c3, Nat.zero_le _, rfl, rfl, h30, hn3, HP⟩
    case round =>
      obtain ⟨k, hs, v, A, c, hk, rfl, rfl, hl, hn, HP⟩ := hrel
      by_cases hlt : k < x1.length
      · obtain ⟨x, hx⟩ : ∃ x, x1[k]? = some x := ⟨_, List.getElem?_eq_getElem hlt⟩
        obtain ⟨b, o, rfl, hSb, e0, e1, e2, g0, g1, g2⟩ := k_hanact_at (HR.out.keep HP.out.kept.block) hx
        clear hx
        obtain ⟨what, kind, n⟩ := x
        simp only at e0 e1 e2 g0 g1 g2
        have HQ := Lib.hid (HP.out.step ((Below.refl _ _).alloc (Nat.le_refl _) (Go.Obj.cells #[.int .i64 what, .int .i64 kind, .int .u64 n] 64)))
        have hbx := Lib.hid (blk_new wr (Go.Obj.cells #[.int .i64 what, .int .i64 kind, .int .u64 n] 64))
        have hbn := bounds_u64 g2
        have hway : ((hs.length : Int) ≤ n ∧ Hid (openAt hs n = none)) ∨ (∃ (j : Nat) (g : Nat), n = j ∧ j < hs.length ∧ A = some ⟨g, 0, none⟩ ∧ wr.cell? ⟨g, j * 3 + 2, none⟩ = some (.bool false) ∧ g < wr.heap.size ∧ Hid (openAt hs n = none)) ∨ (∃ (j : Nat) (g : Nat) (x : Han), n = j ∧ j < hs.length ∧ A = some ⟨g, 0, none⟩ ∧ wr.cell? ⟨g, j * 3 + 1, none⟩ = some (.int .u64 x.desc) ∧ wr.cell? ⟨g, j * 3 + 2, none⟩ = some (.bool true) ∧ g < wr.heap.size ∧ Hid (openAt hs n = some x) ∧ Hid (hs[j]? = some x)) := by
          by_cases hfar : (hs.length : Int) ≤ n
          · exact .inl ⟨hfar, openAt_far hfar⟩
          · obtain ⟨j, rfl⟩ := Int.eq_ofNat_of_zero_le hbn.1
            have hj : j < hs.length := by omega
            obtain ⟨x, hx⟩ : ∃ x, hs[j]? = some x := ⟨_, List.getElem?_eq_getElem hj⟩
            obtain ⟨g, rfl, _, hg⟩ := own_addr HP.out.all (by omega)
            have hc := hcells_at _ j _ hx
            have d1 := (HP.out.all.cellAt (j * 3 + 1) (by omega)).trans hc.2.1
            have d2 := (HP.out.all.cellAt (j * 3 + 2) (by omega)).trans hc.2.2
            cases ho : x.opn with
            | false => rw [ho] at d2; exact .inr (.inl ⟨j, g, rfl, hj, rfl, d2, hg, openAt_no hx ho⟩)
            | true => rw [ho] at d2; exact .inr (.inr ⟨j, g, x, rfl, hj, rfl, d1, d2, hg, openAt_yes hx ho, hx⟩)
        have hbf := Lib.hid (Plays.far HP.out)
        clear HP
        by_cases hw0 : what = 0
        · subst hw0
          by_cases h16 : hs.length < 16
          · rcases hway with ⟨hfar, hno⟩ | ⟨j, g, rfl, hj, rfl, d2, hg, hno⟩ | ⟨j, g, x, rfl, hj, rfl, d1, d2, hg, hyes, hxj⟩
            · go_wp2_with (first
                | (go_at_call 34; refine (open_room _ _ _ _ HQ.out.tab h16 _ _ g1 g2).mono ?_; rintro e w2 ⟨v2, rfl, ht, hv, hk2⟩; have HO2 := Lib.hid (HQ.out.opened hp ht hv hk2); have hb2 := blk_keeps hbx.out hk2 hbf.out; have q1 := blk_cell hb2 1; have q2 := blk_cell hb2 2; simp at q1 q2; clear ht hv hk2 hb2)
                | (at_builtin; refine list_app _ rfl (.tmp 90) (.tmp 96) _ rfl 35 Try.underlying24 han_info rfl (by decide) (by decide) w.heap.size (n := hs.length) (xs := hcells hs) rfl (by exact HO2.out.all.alloc _) (news := [.int .i64 kind, .int .u64 n, .bool true]) rfl rfl (by exact lie_new _ _ _ rfl) (by exact one3 kind n true) (by omega) (by simp; exact Nat.le_succ_of_le HO2.out.size) ?_; intro v' w3 hown hg hat; obtain ⟨A3, c3, rfl, hn3, _, _⟩ := own_shape hown; have HP3 := Lib.hid ((HO2.out.step ((Below.refl _ _).alloc (Nat.le_refl _) _)).snoc kind n true (by rfl) (by rfl) hown hg hat); clear hown hg hat))
              go_roundw
              case rel => exact ⟨k + 1, hs ++ [⟨kind, n, true⟩], v2, A3, c3, by omega, by go_num, by rw [List.length_append]; rfl, by rw [List.length_append, List.length_singleton]; omega, by rw [List.length_append, List.length_singleton]; exact hn3, HP3⟩
              case measure => simp [intOf]; omega
            all_goals
              go_wp2_with (first
                | (go_at_call 34; refine (open_room _ _ _ _ HQ.out.tab h16 _ _ g1 g2).mono ?_; rintro e w2 ⟨v2, rfl, ht, hv, hk2⟩; have HO2 := Lib.hid (HQ.out.opened hp ht hv hk2); have hb2 := blk_keeps hbx.out hk2 hbf.out; have q1 := blk_cell hb2 1; have q2 := blk_cell hb2 2; simp at q1 q2; clear ht hv hk2 hb2)
                | (at_builtin; refine list_app _ rfl (.tmp 90) (.tmp 96) _ rfl 35 Try.underlying24 han_info rfl (by decide) (by decide) w.heap.size (n := hs.length) (xs := hcells hs) rfl (by exact HO2.out.all.alloc _) (news := [.int .i64 kind, .int .u64 (j : Int), .bool true]) rfl rfl (by exact lie_new _ _ _ rfl) (by exact one3 kind (j : Int) true) (by omega) (by simp; exact Nat.le_succ_of_le HO2.out.size) ?_; intro v' w3 hown hg hat; obtain ⟨A3, c3, rfl, hn3, _, _⟩ := own_shape hown; have HP3 := Lib.hid ((HO2.out.step ((Below.refl _ _).alloc (Nat.le_refl _) _)).snoc kind (j : Int) true (by rfl) (by rfl) hown hg hat); clear hown hg hat))
              go_roundw
              case rel => exact ⟨k + 1, hs ++ [⟨kind, (j : Int), true⟩], v2, A3, c3, by omega, by go_num, by rw [List.length_append]; rfl, by rw [List.length_append, List.length_singleton]; omega, by rw [List.length_append, List.length_singleton]; exact hn3, HP3⟩
              case measure => simp [intOf]; omega
          · rcases hway with ⟨hfar, hno⟩ | ⟨j, g, rfl, hj, rfl, d2, hg, hno⟩ | ⟨j, g, x, rfl, hj, rfl, d1, d2, hg, hyes, hxj⟩
            all_goals
              go_wp2_with (first
                | (go_at_call 34; refine (open_full _ _ _ _ HQ.out.tab (by omega) (by omega) _ _).mono ?_; rintro e w2 ⟨rfl, rfl⟩))
              go_roundw
              case rel => exact ⟨k + 1, hs, v, _, c, by omega, by go_num, rfl, hl, hn, HQ⟩
              case measure => simp [intOf]; omega
        · by_cases hw1 : what = 1
          · subst hw1
            rcases hway with ⟨hfar, hno⟩ | ⟨j, g, rfl, hj, rfl, d2, hg, hno⟩ | ⟨j, g, x, rfl, hj, rfl, d1, d2, hg, hyes, hxj⟩
            all_goals
              go_wp2_with (first
                | (go_at_call 35; refine (use_no _ _ _ _ HQ.out.tab (by omega) _ g2 hno.out).mono ?_; rintro e w2 ⟨rfl, rfl⟩)
                | (go_at_call 35; refine (use_some _ _ _ _ HQ.out.tab (by omega) _ g2 x hyes.out).mono ?_; rintro e w2 ⟨rfl, rfl⟩))
              go_roundw
              case rel => exact ⟨k + 1, hs, v, _, c, by omega, by go_num, rfl, hl, hn, HQ⟩
              case measure => simp [intOf]; omega
          · by_cases hw2 : what = 2
            · subst hw2
              rcases hway with ⟨hfar, hno⟩ | ⟨j, g, rfl, hj, rfl, d2, hg, hno⟩ | ⟨j, g, x, rfl, hj, rfl, d1, d2, hg, hyes, hxj⟩
              · go_wp2_with (first
                  | (go_at_call 36; refine (close_no _ _ _ _ HQ.out.tab (by omega) _ g2 hno.out).mono ?_; rintro e w2 ⟨rfl, ht, hk2⟩; have HP3 := Lib.hid (HQ.out.closed ht hk2); clear ht hk2))
                go_roundw
                case rel => exact ⟨k + 1, hs, v, _, c, by omega, by go_num, rfl, hl, hn, HP3⟩
                case measure => simp [intOf]; omega
              · go_wp2_with (first
                  | (go_at_call 36; refine (close_no _ _ _ _ HQ.out.tab (by omega) _ g2 hno.out).mono ?_; rintro e w2 ⟨rfl, ht, hk2⟩; have HP3 := Lib.hid (HQ.out.closed ht hk2); clear ht hk2))
                go_roundw
                case rel => exact ⟨k + 1, hs, v, _, c, by omega, by go_num, rfl, hl, hn, HP3⟩
                case measure => simp [intOf]; omega
              · have hsh := Lib.hid (shutAt_some hyes.out)
                go_wp2_with (first
                  | (go_at_call 36; refine (close_some _ _ _ _ _ HQ.out.tab (by omega) _ g2 x hyes.out hsh.out).mono ?_; rintro e w2 ⟨rfl, ht, hk2⟩; have HP3 := Lib.hid (HQ.out.closed ht hk2); have hb2 := blk_keeps hbx.out hk2 (fun e => hbf.out (.inr e)); have q1 := blk_cell hb2 1; have q2 := blk_cell hb2 2; simp at q1 q2; have hfr := HP3.out.all.frozenAt (j * 3 + 2); have hcl := (HP3.out.all.cellAt (j * 3 + 2) (by omega)).trans (hcells_at hs j x hxj.out).2.2; clear ht hk2 hb2))
                go_roundw
                case rel =>
                  refine ⟨k + 1, hs.set j { x with opn := false }, v, _, c, by omega, by go_num, by rw [List.length_set], by rw [List.length_set]; exact hl, by rw [List.length_set]; exact hn, Lib.hid (HP3.out.stored _ _ (List.length_set ..) ?_)⟩
                  have h := (HP3.out.all.stored (j * 3 + 2) (.bool false)).1
                  rw [hcells_set hs j x hxj.out] at h
                  exact h
                case measure => simp [intOf]; omega
            · rcases hway with ⟨hfar, hno⟩ | ⟨j, g, rfl, hj, rfl, d2, hg, hno⟩ | ⟨j, g, x, rfl, hj, rfl, d1, d2, hg, hyes, hxj⟩
              all_goals
                go_wp2
                go_roundw
                case rel => exact ⟨k + 1, hs, v, _, c, by omega, by go_num, rfl, hl, hn, HQ⟩
                case measure => simp [intOf]; omega
      · have HL := Lib.hid (Rd.Sl.of_own (d := k_han) (S := (· < wr.heap.size)) HP.out.all (fun g hg => (HP.out.all.lt g hg).2) (han_flat.2 ⟨rfl, HP.out.tab.wf⟩) (by omega))
        go_wp2_with (first
          | (go_at_call 32; refine (hansAnswers_calls _).mono ?_; rintro e w5 ⟨rfl, hb5⟩; have HP5 := Lib.hid (HP.out.step hb5))
          | (go_at_call 38; refine (tlist_calls _ _ _ _ HP5.out.tab (by omega)).mono ?_; rintro e w6 ⟨A6, c6, rfl, ho, hg, hb6⟩; have HP6 := Lib.hid (HP5.out.step hb6); have HO6 := Lib.hid ho; clear ho hg)
          | (go_at_call 37; go_loud (refine (refHans_calls (S := (· < w6.heap.size)) (T := (· < w6.heap.size)) _ _ _ _ _ _ _ hs hs rfl rfl (by omega) (by omega) (fun _ h => h) (fun _ h => h) (own_row HO6.out HP6.out.tab.wf (by omega)) (own_row (own_zero HP6.out.all) HP6.out.tab.wf (by omega))).mono ?_); rintro e w7 ⟨he, hb7⟩; obtain rfl := he.trans (ret_bool (decide_eq_true rfl)); clear he))
        go_ret
        exact ⟨rfl, HP6.out.kept.trans (hb7.mono HP6.out.size)⟩
end Go.Proofs.Ytmadgnfnljnggaa
