/- step's World.Do of an int; Machine.do of it. -/
import Derived.Test.YtdmmjckhpagibaaGreatDoorMcInstr
import Derived.Deep.RegionLaw
namespace Go.Proofs.YtdmmjckhpagibaaGreatDoor
open Go.RowKit Go.Sort
set_option linter.unusedVariables false
theorem hold3d {V w' : World} {p g b o : Nat} {t t' : TypeId} {cs cs' : Array Value} {a c v : Value} (hp : V.heap[p]? = some (.cells cs t (0, 0))) (ha : cs[3]? = some a) (hg : V.heap[g]? = some (.cells cs' t' (0, 0))) (hc : cs'[1]? = some c) (hv : V.cell? ⟨b, o, none⟩ = some v) (hb : Below V.heap.size V w') :
    w'.cell? ⟨p, 3, none⟩ = some a ∧ w'.cell? ⟨g, 1, none⟩ = some c ∧ w'.cell? ⟨b, o, none⟩ = some v ∧ Below V.heap.size V w' :=
  ⟨(blk_cell (blk_below hp hb (blk_lt hp)) 3).trans ha, (blk_cell (blk_below hg hb (blk_lt hg)) 1).trans hc, below_cell hv hb, hb⟩
theorem held3d {a b c : Prop} {V w' : World} (hh : a ∧ b ∧ c ∧ Below V.heap.size V w') : Below V.heap.size V w' := hh.2.2.2
set_option maxRecDepth 100000 in
set_option maxHeartbeats 4000000 in
theorem Do_0 {S : Nat → Prop} (w : World) (p : Nat) (cs : Array Value) (t : TypeId) (B3 : Option Addr) (m3 d3 : Nat) (ints : List Int) (hp : w.heap[p]? = some (.cells cs t (0, 0))) (h3 : cs[3]? = some (.slice B3 m3 d3)) (hn : ints.length = m3) (hS : ∀ b, S b → b < w.heap.size) (row : (Rd.int .u64).Row S w B3 ints) (k : Nat) (v : Int) (hv : ints[k]? = some v) (b : Int) (inn ans : Value) :
    Calls Tryz.prog 58 #[.pointer (some ⟨p, 0, none⟩), .agg #[.int .i64 0, .int .i64 (k : Int), .int .i64 b], inn, ans] w fun e w' => ∃ g, e = .returned (.slice (some ⟨g, 0, none⟩) 1 1) ∧ w'.heap[g]? = some (.cells #[.int .u64 v] 43 (0, 0)) ∧ w.heap.size ≤ g ∧ Below w.heap.size w w' := by
  have hkl : k < m3 := by have := (List.getElem?_eq_some_iff.1 hv).1; omega
  obtain ⟨ib, io, rfl, hSb, hc⟩ := row (by omega)
  obtain ⟨cs1, hK, hcell⟩ := hc k (by omega)
  have hv1 : w.cell? ⟨ib, io + k, none⟩ = some (.int .u64 v) := by
    have h1 := hK.1
    have h2 := List.getElem?_eq_getElem (l := ints) (i := k) (by omega)
    rw [h2] at hv
    injection hv with hv
    rw [hv] at h1
    have := hcell 0 _ (by rw [h1]; rfl)
    simpa [Rd.int] using this
  have hV := below_a1 w (Obj.cells #[.int .i64 0, .int .i64 (k : Int), .int .i64 b] 27)
  have HP := Lib.hid (blk_below hp hV (blk_lt hp))
  have HX := Lib.hid (blk_new w (Obj.cells #[.int .i64 0, .int .i64 (k : Int), .int .i64 b] 27))
  have HI := Lib.hid (below_cell hv1 hV)
  have H3 := Lib.hid h3
  have HV := Lib.hid hV
  clear hp h3 row hv hc hK hcell hv1 hV hn hS
  go_enter Tryz.func58, Tryz.ntmps58
  go_upto_region 3 with fail
  generalize (w.alloc (Obj.cells #[.int .i64 0, .int .i64 (k : Int), .int .i64 b] 27)) = V at *
  go_region_held3 (fun w' => w'.cell? ⟨p, 3, none⟩ = some (.slice (some ⟨ib, io, none⟩) m3 d3) ∧ w'.cell? ⟨w.heap.size, 1, none⟩ = some (.int .i64 (k : Int)) ∧ w'.cell? ⟨ib, io + k, none⟩ = some (.int .u64 v) ∧ Below V.heap.size V w')
    (first | (refine hold3d HP.out H3.out HX.out rfl HI.out ?_; repeat (first | assumption | exact Below.refl _ _ | exact held3d (by assumption) | refine Below.drew ?_ | refine below_up ?_ _)))
    (first | fail)
  all_goals
    go_wp2
    go_ret
    exact ⟨V.heap.size, rfl, blk_drew (blk_new V _), HV.out.size, (HV.out.trans ((below_a1 V _).mono HV.out.size)).drew⟩
theorem holdK {V w' : World} {g FB : Nat} {t : TypeId} {a b c : Value} (hg : V.heap[g]? = some (.cells #[a, b, c] t (0, 0))) (hne : g ≠ FB) (hk : Keeps (fun x => x = FB) V w') :
    w'.cell? ⟨g, 0, none⟩ = some a ∧ w'.cell? ⟨g, 1, none⟩ = some b ∧ w'.cell? ⟨g, 2, none⟩ = some c ∧ Keeps (fun x => x = FB) V w' :=
  have h := blk_keeps hg hk hne
  ⟨blk_cell h 0, blk_cell h 1, blk_cell h 2, hk⟩
theorem heldK {a b c : Prop} {V w' : World} {FB : Nat} (hh : a ∧ b ∧ c ∧ Keeps (fun x => x = FB) V w') : Keeps (fun x => x = FB) V w' := hh.2.2.2
set_option maxRecDepth 100000 in
set_option maxHeartbeats 8000000 in
theorem do_0 {S : Nat → Prop} {w : World} {p FB hp tp : Nat} {m : Md} {B0 B1 B2 B3 B4 : Option Addr} {m0 m1 m2 m3 m4 d0 d1 d2 d3 d4 : Nat} {q : Int} {MA : Option Addr} {mn mc fc pc : Nat} {LA : Option Addr} {ln lc : Nat} (h : Mc1 w p FB hp tp B0 B1 B2 B3 B4 m0 m1 m2 m3 m4 d0 d1 d2 d3 d4 q MA mn mc fc pc LA ln lc none 0 0) (hM : MRow S w m B0 B1 B2 B3 B4 m0 m1 m2 m3 m4) (hSF : ∀ b, S b → b ≠ FB) (hpc : pc ≤ 1000) (k : Nat) (v : Int) (hv : m.ints[k]? = some v) (b : Int) (inn ans : Value) :
    Calls Tryz.prog 33 #[.pointer (some ⟨p, 0, none⟩), .agg #[.int .i64 0, .int .i64 (k : Int), .int .i64 b], inn, ans] w fun e w' => e = .returned (.tuple #[]) ∧ ∃ SA sc, Mc1 w' p FB hp tp B0 B1 B2 B3 B4 m0 m1 m2 m3 m4 d0 d1 d2 d3 d4 q MA mn mc fc (pc + 1) LA ln lc SA 1 sc ∧ 1 ≤ sc ∧ Lie w' SA 1 [.int .u64 v] ∧ (∀ g o, SA = some ⟨g, o, none⟩ → w.heap.size ≤ g) ∧ Keeps (fun x => x = FB) w w' := by
  have hV := below_a1 w (Obj.cells #[.int .i64 0, .int .i64 (k : Int), .int .i64 b] 27)
  have hX := blk_new w (Obj.cells #[.int .i64 0, .int .i64 (k : Int), .int .i64 b] 27)
  have hh := h.below hV
  have KT := Lib.hid (top_calls _ p FB fc (blk_cell hh.box 12))
  obtain ⟨cs, h1, h2, h3, h4, h5, h6⟩ := hh.fr
  have hFlt : FB < w.heap.size := by obtain ⟨cs', h', _⟩ := h.fr; exact blk_lt h'
  have hpF : p ≠ FB := by obtain ⟨cs', h', _⟩ := h.fr; exact blk_ne h.box h' (by decide)
  have HF := Lib.hid h1
  have HC1 := Lib.hid h4
  have HC0 := Lib.hid h3
  have HC2 := Lib.hid h5
  have HC3 := Lib.hid h6
  have HCs := Lib.hid h2
  have HX := Lib.hid hX
  have HV := Lib.hid hV
  have HH := Lib.hid h
  have HM := Lib.hid hM
  have HSF := Lib.hid hSF
  have HVv := Lib.hid hv
  have hwp : wrap64 ((pc : Int) + 1) = pc + 1 := by unfold wrap64; omega
  clear h hM hSF hv hV hX hh h1 h2 h3 h4 h5 h6
  go_enter Tryz.func33, Tryz.ntmps33
  go_upto_region 4 with (go_at_call 30; go_must (refine KT.out.mono ?_; rintro e w1 ⟨rfl, hb1⟩; have hf1 := blk_below HF.out hb1 (blk_lt HF.out); have y1 : w1.cell? ⟨FB, 1, none⟩ = some (.int .i64 pc) := (blk_cell hf1 1).trans HC1.out; have y2 := blk_frozen hf1 1; have HB1 := Lib.hid (HV.out.trans (hb1.mono HV.out.size)); have HX1 := Lib.hid (blk_below HX.out hb1 (blk_lt HX.out)); have HF1 := Lib.hid hf1; clear hb1 hf1))
  have hne : w.heap.size ≠ FB := by omega
  have hkV : Keeps (fun x => x = FB) w (w1.setCell ⟨FB, 1, none⟩ (.int .i64 ((pc : Int) + 1))) := (Keeps.of_below (F := fun x => x = FB) HB1.out).setCell (p := ⟨FB, 1, none⟩) (fun _ => rfl) _
  have hXV : (w1.setCell ⟨FB, 1, none⟩ (.int .i64 ((pc : Int) + 1))).heap[w.heap.size]? = some (.cells #[.int .i64 0, .int .i64 (k : Int), .int .i64 b] 27 (0, 0)) := blk_far HX1.out hne _
  have hFV := blk_set HF1.out 1 (.int .i64 ((pc : Int) + 1))
  generalize (w1.setCell ⟨FB, 1, none⟩ (.int .i64 ((pc : Int) + 1))) = V at *
  have hc3 : (cs.setIfInBounds 1 (.int .i64 ((pc : Int) + 1)))[3]? = some (.slice none 0 0) := by rw [Array.getElem?_setIfInBounds_ne (by decide)]; exact HC3.out
  have z3 : V.cell? ⟨FB, 3, none⟩ = some (.slice none 0 0) := (blk_cell hFV 3).trans hc3
  have x0 : V.cell? ⟨w.heap.size, 0, none⟩ = some (.int .i64 0) := blk_cell hXV 0
  have HP := Lib.hid (blk_keeps HH.out.box hkV hpF)
  have HR3 := Lib.hid (HM.out.r3.keep (fun b hb => hkV.block b (HM.out.lt b hb) (HSF.out b hb)))
  have HLt := Lib.hid (fun b hb => Nat.lt_of_lt_of_le (HM.out.lt b hb) hkV.size)
  have HXV := Lib.hid hXV
  have HFV := Lib.hid hFV
  have HKV := Lib.hid hkV
  have HC3 := Lib.hid hc3
  clear hXV hFV hkV hc3 y1 y2
  go_upto_region 3 with fail
  have x1 : V.cell? ⟨w.heap.size, 1, none⟩ = some (.int .i64 (k : Int)) := blk_cell HXV.out 1
  have x2 : V.cell? ⟨w.heap.size, 2, none⟩ = some (.int .i64 b) := blk_cell HXV.out 2
  go_region_law (first
      | (go_simp; go_at_call 58; (refine (Do_0 (S := S) V.drew p _ _ B3 m3 d3 m.ints HP.out rfl HM.out.e3 HLt.out HR3.out k v HVv.out b _ _).mono ?_; rintro e w5 ⟨g, rfl, hg5, hge5, hb5⟩; have hkV5 : Keeps (fun x => x = FB) V w5 := ((Keeps.refl (fun x => x = FB) V).drew).trans (Keeps.of_below hb5); have hf5 := blk_below (blk_drew HFV.out) hb5 (blk_lt HFV.out); have z5 : w5.cell? ⟨FB, 3, none⟩ = some (.slice none 0 0) := (blk_cell hf5 3).trans HC3.out))
      | ((refine step_app _ (by rfl) (.tmp 22) (.tmp 29) _ (by rfl) 43 Tryz.underlying31 word_info rfl (by decide) (by decide) V.heap.size (n := 0) (xs := []) (by rfl) (World.ownsRow_nil w5 _ _ _) (news := [.int .u64 v]) (by rfl) (by rfl) (lie_blk hg5 (fun j u hj => by simpa using hj)) (by intro u hu; rw [List.mem_singleton.1 hu]; rfl) (by omega) hb5.size ?_; intro v' w6 hown hg hat; simp only [Nat.zero_add, List.nil_append] at hown; obtain ⟨A6, c6, rfl, hc6, _, hA6⟩ := own_shape hown; have hkV6 : Keeps (fun x => x = FB) V w6 := hkV5.grown hg (fun g hg _ => by cases hg); have hf6 := blk_grown hf5 hg (by intro e; cases e); have z6 : w6.cell? ⟨FB, 3, none⟩ = some (.slice none 0 0) := (blk_cell hf6 3).trans HC3.out; have z7 := blk_frozen hf6 3)))
  all_goals
    go_wp2
    (try simp only [Exit.inBlock, Exit.then])
    refine bodyPost_end (v := .tuple #[]) (by simp [results, Tryz.results33, go_sem]) rfl ⟨rfl, A6, c6, ⟨?_, ?_⟩, hc6, ?_, ?_, ?_⟩
    · exact blk_far (blk_keeps HP.out hkV6 hpF) hpF _
    · refine ⟨_, blk_set hf6 3 _, by simpa using HCs.out, ?_, ?_, ?_, ?_⟩
      · rw [Array.getElem?_setIfInBounds_ne (by decide), Array.getElem?_setIfInBounds_ne (by decide)]; exact HC0.out
      · have := HCs.out
        rw [Array.getElem?_setIfInBounds_ne (by decide), Array.getElem?_setIfInBounds_self_of_lt (by omega)]; push_cast; rfl
      · rw [Array.getElem?_setIfInBounds_ne (by decide), Array.getElem?_setIfInBounds_ne (by decide)]; exact HC2.out
      · have := HCs.out
        rw [Array.getElem?_setIfInBounds_self_of_lt (by simp; omega)]
    · exact own_lie (own_set_far hown (p := ⟨FB, 3, none⟩) (fun e => by have h1 := (hown.lt FB e).1; have h2 := HKV.out.size; omega) _)
    · intro g' o' e
      obtain ⟨g'', hg'', hb'', _⟩ := hA6 (by decide)
      rw [hg''] at e
      cases e
      exact Nat.le_trans HKV.out.size hb''
    · exact (HKV.out.trans hkV6).setCell (p := ⟨FB, 3, none⟩) (fun _ => rfl) _
end Go.Proofs.YtdmmjckhpagibaaGreatDoor
