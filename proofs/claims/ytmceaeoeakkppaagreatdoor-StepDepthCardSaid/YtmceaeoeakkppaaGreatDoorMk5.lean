/- step's machine with any number of frames: Next of a call. -/
import Derived.Test.YtmceaeoeakkppaaGreatDoorMk3
import Derived.Test.YtmceaeoeakkppaaGreatDoorMk4
namespace Go.Proofs.YtmceaeoeakkppaaGreatDoor
open Go.RowKit Go.Sort
set_option linter.unusedVariables false
set_option linter.unusedSimpArgs false
theorem list_set_same {α : Type} {l : List α} {i : Nat} {v : α} (h : l[i]? = some v) : l.set i v = l := by
  apply List.ext_getElem?
  intro j
  rw [List.getElem?_set]
  split
  · rename_i e
    subst e
    split
    · exact h.symm
    · rename_i hlt
      have := (List.getElem?_eq_some_iff.1 h).1
      omega
  · rfl
theorem Mk.stk0 {bs : Nat} {w : World} {p hp tp : Nat} {B0 B1 B2 B3 B4 : Option Addr} {m0 m1 m2 m3 m4 d0 d1 d2 d3 d4 : Nat} {q en v : Int} {MA : Option Addr} {mn mc : Nat} {FB : Nat} {fc : Nat} {fs : List Fra} (h : Mk bs w p hp tp B0 B1 B2 B3 B4 m0 m1 m2 m3 m4 d0 d1 d2 d3 d4 q en v MA mn mc (some ⟨FB, 0, none⟩) fc fs) {k : Nat} {x : Fra} (hx : fs[k]? = some x) (hpF : p ≠ FB) (h1 : x.SA = none) (h2 : x.sn = 0) (h3 : x.sc = 0) :
    Mk bs (w.setCell ⟨FB, k * 4 + 3, none⟩ (.slice none 0 0)) p hp tp B0 B1 B2 B3 B4 m0 m1 m2 m3 m4 d0 d1 d2 d3 d4 q en v MA mn mc (some ⟨FB, 0, none⟩) fc fs := by
  refine ⟨blk_far h.box hpF _, ?_⟩
  have h4 := own_set h.own (k * 4 + 3) (.slice none 0 0)
  rwa [list_set_same (frasC_at hx 3 _ (by simp [fraC, h1, h2, h3]))] at h4
set_option maxRecDepth 100000 in
set_option maxHeartbeats 8000000 in
theorem nextk_25 {S : Nat → Prop} {bs : Nat} {w : World} {p hp tp : Nat} {m : Md} {B0 B1 B2 B3 B4 : Option Addr} {m0 m1 m2 m3 m4 d0 d1 d2 d3 d4 : Nat} {q v : Int} {MA : Option Addr} {mn mc : Nat} {FB : Nat} {fc : Nat} {fs : List Fra} (h : Mk bs w p hp tp B0 B1 B2 B3 B4 m0 m1 m2 m3 m4 d0 d1 d2 d3 d4 q 0 v MA mn mc (some ⟨FB, 0, none⟩) fc fs) (hM : MRow S w m B0 B1 B2 B3 B4 m0 m1 m2 m3 m4) {k : Nat} (hk : fs.length = k + 1) (hk8 : k ≤ 1000) {x : Fra} (hx : fs[k]? = some x) (s1 : x.SA = none) (s2 : x.sn = 0) (s3 : x.sc = 0) (f : Fn) (hf : m.funcs[x.fn]? = some f) (hl : f.code.length ≤ 1000) (j : Nat) (b : Int) (hi : f.code[x.pc]? = some ⟨25, j, b⟩) (g : Fn) (hj : m.funcs[j]? = some g) (hga : g.args = []) (ans : Value) (Post : World → Prop)
    (KC : ∀ W, Mk bs W p hp tp B0 B1 B2 B3 B4 m0 m1 m2 m3 m4 d0 d1 d2 d3 d4 q 0 v MA mn mc (some ⟨FB, 0, none⟩) fc (fs.set k (atPc x (x.pc + 1))) → Keeps (fun x => x = FB) w W → Calls Tryz.prog 96 #[.pointer (some ⟨p, 0, none⟩), .int .i64 j, .slice none 0 0] W fun e W' => e = .returned (.tuple #[]) ∧ Post W')
    (PB : ∀ W, Post W → ∃ cs, W.heap[p]? = some (.cells cs 101 (0, 0)) ∧ cs[10]? = some (.slice none 0 0)) (PK : ∀ W W', Post W → W'.heap[p]? = W.heap[p]? → Keeps (fun x => x = p) W W' → Post W') :
    Calls Tryz.prog 25 #[.pointer (some ⟨p, 0, none⟩), ans] w fun e w' => e = .returned (.tuple #[.slice none 0 0, .bool true]) ∧ Post w' := by
  have hpc : x.pc ≤ 1000 := by have := (List.getElem?_eq_some_iff.1 hi).1; omega
  obtain ⟨FB', cur, e, hcur, hfc, c0, c1, c2, c3, hpF⟩ := h.last hk hx
  cases e
  rw [s1, s2, s3] at c3
  have hbox := h.box
  rw [hk] at hbox
  have c8 : w.cell? ⟨p, 8, none⟩ = some (.int .i64 0) := blk_cell hbox 8
  have KI := Lib.hid (instrk_calls h hM hk hk8 hx f hf _ hi hl)
  have KTop := Lib.hid (fun W (hb : Below w.heap.size w W) => topk_calls W p FB fc k hk8 (blk_cell (blk_below hbox hb (blk_lt hbox)) 12))
  have KTk := Lib.hid (fun W (hb : Below w.heap.size w W) => takes_25 W p _ _ m B0 B1 B2 B3 B4 m0 m1 m2 m3 m4 d1 (blk_below hbox hb (blk_lt hbox)) rfl (hM.below hb) j g hj b)
  rw [hga] at KTk
  have hlt : FB < w.heap.size := blk_lt hcur
  have HH := Lib.hid h
  have HC := Lib.hid hcur
  have HC3 := Lib.hid c3
  have HXx := Lib.hid hx
  have HK := Lib.hid hk
  have HKC := Lib.hid KC
  have HPB := Lib.hid PB
  have HPK := Lib.hid PK
  have HS1 := Lib.hid s1
  have HS2 := Lib.hid s2
  have HS3 := Lib.hid s3
  have hnil : ∀ w' : World, (binOp .eql 25 (.slice none 0 0) (.slice none 0 0)).run Tryz.prog w' = .ok (.bool true) w' := fun w' => Lib.run_eql_slice_nil w' _ _ none _ _ 0 0 Tryz.underlying25
  clear h hM hf hi hbox hcur c0 c1 c2 c3 hx hk KC PB PK hj s1 s2 s3
  go_enter Tryz.func25, Tryz.ntmps25
  go_upto_region 4 with (first
    | (go_at_call 58; go_must (refine KI.out.mono ?_; rintro e w1 ⟨rfl, hb1⟩; have HB1 := Lib.hid hb1; clear hb1))
    | (go_at_call 59; go_must (refine (KTop.out _ HB1.out).mono ?_; rintro e w2 ⟨rfl, hb2⟩; have HB2 := Lib.hid (HB1.out.trans (hb2.mono HB1.out.size)); clear hb2)))
  have hBV : Below w.heap.size w (w2.alloc (Obj.cells #[.int .i64 25, .int .i64 (j : Int), .int .i64 b] 62)) := HB2.out.alloc HB2.out.size _
  have HX := Lib.hid (blk_new w2 (Obj.cells #[.int .i64 25, .int .i64 (j : Int), .int .i64 b] 62))
  have hz := HB2.out.size
  generalize hzz : w2.heap.size = z at *
  generalize (w2.alloc (Obj.cells #[.int .i64 25, .int .i64 (j : Int), .int .i64 b] 62)) = V at *
  clear hzz
  have HBV := Lib.hid hBV
  obtain ⟨x0, x1, x2⟩ := cells3 HX.out
  have e3 := below_cell HC3.out hBV
  have g3 := cell_regrown e3
  have g0 := cell_regrown x0
  have g1 := cell_regrown x1
  have g2 := cell_regrown x2
  have KTkV := Lib.hid (fun W (hb : Below V.heap.size V W) => KTk.out W (hBV.trans (hb.mono hBV.size)))
  have hw0 : IntKind.i64.wrap 0 = 0 := rfl
  have hs0 := slice_nil0
  have hs1 := slice_nil1
  clear e3 x0 x1 x2 hBV c8
  refine wp_region_quiet_below (by kernel_rfl) (by kernel_rfl) ?_
  repeat (first | go_big_quiet_step (with_reducible exact Calls.regrown_of (KTkV.out _ (below_regrown V _ _))) | quiet_step (with_reducible exact Calls.regrown_of (KTkV.out _ (below_regrown V _ _))))
  refine wpQuiet_nil ?_
  intro _ hw'
  obtain ⟨⟨dq, osq⟩, hw''⟩ := hw'
  subst hw''
  clear g0 g1 g2 g3
  have HBq := Lib.hid (below_regrown V dq osq)
  generalize grow (redrawn V dq) osq = wq at *
  have hbq : Below w.heap.size w wq := HBV.out.trans (HBq.out.mono HBV.out.size)
  have HBqw := Lib.hid hbq
  have HXq := Lib.hid (blk_below HX.out HBq.out (blk_lt HX.out))
  have e3 := below_cell HC3.out hbq
  clear hbq
  go_upto_region 7 with (go_at_call 61; go_must (refine (clone64_nil _).mono ?_; rintro e w6 ⟨rfl, hb6⟩; have HB6 := Lib.hid (HBqw.out.trans (hb6.mono HBqw.out.size)); have HX6 := Lib.hid (blk_below HXq.out hb6 (blk_lt HXq.out)); have y3 : w6.cell? ⟨FB, k * 4 + 3, none⟩ = some (.slice none 0 0) := below_cell e3 hb6; have y4 := blk_frozen (blk_below HC.out (HBqw.out.trans (hb6.mono HBqw.out.size)) (blk_lt HC.out)) (k * 4 + 3); clear hb6))
  have hzF : z ≠ FB := by omega
  have hm6 := (HH.out.below HB6.out).stk0 HXx.out hpF HS1.out HS2.out HS3.out
  have hk6 : Keeps (fun x => x = FB) w (w6.setCell ⟨FB, k * 4 + 3, none⟩ (.slice none 0 0)) := (Keeps.of_below (F := fun x => x = FB) HB6.out).setCell (p := ⟨FB, k * 4 + 3, none⟩) (fun _ => rfl) _
  have hx6 := blk_far HX6.out (p := ⟨FB, k * 4 + 3, none⟩) hzF (.slice none 0 0)
  generalize (w6.setCell ⟨FB, k * 4 + 3, none⟩ (.slice none 0 0)) = V6 at *
  obtain ⟨q0, q1, q2⟩ := cells3 hx6
  have KD := Lib.hid (dok_25 hm6 HK.out hk8 HXx.out hpc j b (.slice none 0 0) ans Post (fun W hW hkW => HKC.out W hW (hk6.trans hkW)))
  clear hm6 hx6 hk6 y3 y4 e3
  go_wp2_with (first
    | (go_at_call 62; go_must (refine KD.out.mono ?_; rintro e w7 ⟨rfl, hp7⟩; obtain ⟨cs7, hb7, h10⟩ := HPB.out w7 hp7; have HP7 := Lib.hid hp7; have HB7 := Lib.hid hb7; have KTa := Lib.hid (taken_calls w7 p _ _ hb7 h10); clear hp7 hb7))
    | (go_at_call 63; go_must (refine KTa.out.mono ?_; rintro e w8 ⟨rfl, hb8, hk8⟩; have HP8 := Lib.hid (HPK.out w7 w8 HP7.out (hb8.trans HB7.out.symm) hk8); clear hb8 hk8)))
  go_ret2
  exact ⟨rfl, HP8.out⟩
end Go.Proofs.YtmceaeoeakkppaaGreatDoor
