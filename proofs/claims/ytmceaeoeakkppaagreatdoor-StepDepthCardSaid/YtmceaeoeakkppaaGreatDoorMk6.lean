/- step's machine with any number of frames: Next of a call: a frame more, or too deep. -/
import Derived.Test.YtmceaeoeakkppaaGreatDoorMk5
namespace Go.Proofs.YtmceaeoeakkppaaGreatDoor
open Go.RowKit Go.Sort
set_option linter.unusedVariables false
set_option linter.unusedSimpArgs false
theorem Mk.at_ {bs : Nat} {w : World} {p hp tp : Nat} {B0 B1 B2 B3 B4 : Option Addr} {m0 m1 m2 m3 m4 d0 d1 d2 d3 d4 : Nat} {q en v : Int} {MA : Option Addr} {mn mc : Nat} {FA : Option Addr} {fc : Nat} {fs : List Fra} (h : Mk bs w p hp tp B0 B1 B2 B3 B4 m0 m1 m2 m3 m4 d0 d1 d2 d3 d4 q en v MA mn mc FA fc fs) (hn : 0 < fs.length) : ∃ FB, FA = some ⟨FB, 0, none⟩ ∧ bs ≤ FB ∧ FB < w.heap.size ∧ p ≠ FB := by
  obtain ⟨g, c, cur, e, ho, hl, -, hcur, -, -⟩ := own_at h.own hn
  cases e
  exact ⟨g, rfl, (h.own.lt g ho).1, hl, blk_ne h.box hcur (by decide)⟩
theorem Mk.keep {bs : Nat} {w w' : World} {p hp tp : Nat} {B0 B1 B2 B3 B4 : Option Addr} {m0 m1 m2 m3 m4 d0 d1 d2 d3 d4 : Nat} {q en v : Int} {MA : Option Addr} {mn mc : Nat} {FA : Option Addr} {fc : Nat} {fs : List Fra} (h : Mk bs w p hp tp B0 B1 B2 B3 B4 m0 m1 m2 m3 m4 d0 d1 d2 d3 d4 q en v MA mn mc FA fc fs) (hp' : w'.heap[p]? = w.heap[p]?) (hk : Keeps (fun x => x = p) w w') : Mk bs w' p hp tp B0 B1 B2 B3 B4 m0 m1 m2 m3 m4 d0 d1 d2 d3 d4 q en v MA mn mc FA fc fs :=
  ⟨hp'.trans h.box, own_keep h.own (fun g hg => hk.block g (h.own.lt g hg).2 (fun e => own_ne_blk h.own h.box (by decide) (by rw [← e]; exact hg)))⟩
theorem nextk_push {S : Nat → Prop} {bs : Nat} {w : World} {p hp tp : Nat} {m : Md} {B0 B1 B2 B3 B4 : Option Addr} {m0 m1 m2 m3 m4 d0 d1 d2 d3 d4 : Nat} {q v : Int} {MA : Option Addr} {mn mc : Nat} {FB : Nat} {fc : Nat} {fs : List Fra} (h : Mk bs w p hp tp B0 B1 B2 B3 B4 m0 m1 m2 m3 m4 d0 d1 d2 d3 d4 q 0 v MA mn mc (some ⟨FB, 0, none⟩) fc fs) (hM : MRow S w m B0 B1 B2 B3 B4 m0 m1 m2 m3 m4) (hS : ∀ b, S b → b < bs) (hbs : bs ≤ w.heap.size) {k : Nat} (hk : fs.length = k + 1) (hk8 : k + 1 < 8) {x : Fra} (hx : fs[k]? = some x) (s1 : x.SA = none) (s2 : x.sn = 0) (s3 : x.sc = 0) (f : Fn) (hf : m.funcs[x.fn]? = some f) (hl : f.code.length ≤ 1000) (j : Nat) (b : Int) (hi : f.code[x.pc]? = some ⟨25, j, b⟩) (g : Fn) (hj : m.funcs[j]? = some g) (hga : g.args = []) (hgl : g.locals = []) (ans : Value) :
    Calls Tryz.prog 25 #[.pointer (some ⟨p, 0, none⟩), ans] w fun e w' => e = .returned (.tuple #[.slice none 0 0, .bool true]) ∧ ∃ FB' fc', Mk bs w' p hp tp B0 B1 B2 B3 B4 m0 m1 m2 m3 m4 d0 d1 d2 d3 d4 q 0 v MA mn mc (some ⟨FB', 0, none⟩) fc' (fs.set k (atPc x (x.pc + 1)) ++ [⟨j, 0, none, 0, 0, none, 0, 0⟩]) ∧ Keeps (fun y => y = FB ∨ y = p) w w' := by
  obtain ⟨FB', e, hFB, -, -⟩ := h.at_ (by omega)
  cases e
  refine nextk_25 h hM hk (by omega) hx s1 s2 s3 f hf hl j b hi g hj hga ans (fun W => ∃ FB' fc', Mk bs W p hp tp B0 B1 B2 B3 B4 m0 m1 m2 m3 m4 d0 d1 d2 d3 d4 q 0 v MA mn mc (some ⟨FB', 0, none⟩) fc' (fs.set k (atPc x (x.pc + 1)) ++ [⟨j, 0, none, 0, 0, none, 0, 0⟩]) ∧ Keeps (fun y => y = FB ∨ y = p) w W) (fun W hW hkW => ?_) (fun W hP => ?_) (fun W W' hP hp' hkp => ?_)
  · refine (callk_push (S := S) hW (hM.keepF (fun b hb => hkW.block b (hM.lt b hb) (fun e => by have := hS b hb; omega)) hkW.size) (n := k + 1) (by rw [List.length_set]; exact hk) hk8 j g hj hgl (Nat.le_trans hbs hkW.size)).mono ?_
    rintro e W' ⟨rfl, FA', fc', hm, hk'⟩
    obtain ⟨FB', rfl, -, -, -⟩ := hm.at_ (by simp)
    exact ⟨rfl, FB', fc', hm, (hkW.mono (fun y _ h => .inl h)).trans (hk'.mono (fun y _ h => h.elim .inr (fun e => .inl (by injection e with e; exact e.symm))))⟩
  · obtain ⟨FB', fc', hm, -⟩ := hP
    exact ⟨_, hm.box, rfl⟩
  · obtain ⟨FB', fc', hm, hkk⟩ := hP
    exact ⟨FB', fc', hm.keep hp' hkp, hkk.trans (hkp.mono (fun y _ h => .inr h))⟩
theorem nextk_trap {S : Nat → Prop} {bs : Nat} {w : World} {p hp tp : Nat} {m : Md} {B0 B1 B2 B3 B4 : Option Addr} {m0 m1 m2 m3 m4 d0 d1 d2 d3 d4 : Nat} {q v : Int} {MA : Option Addr} {mn mc : Nat} {FB : Nat} {fc : Nat} {fs : List Fra} (h : Mk bs w p hp tp B0 B1 B2 B3 B4 m0 m1 m2 m3 m4 d0 d1 d2 d3 d4 q 0 v MA mn mc (some ⟨FB, 0, none⟩) fc fs) (hM : MRow S w m B0 B1 B2 B3 B4 m0 m1 m2 m3 m4) (hk : fs.length = 7 + 1) {x : Fra} (hx : fs[7]? = some x) (s1 : x.SA = none) (s2 : x.sn = 0) (s3 : x.sc = 0) (f : Fn) (hf : m.funcs[x.fn]? = some f) (hl : f.code.length ≤ 1000) (j : Nat) (b : Int) (hi : f.code[x.pc]? = some ⟨25, j, b⟩) (g : Fn) (hj : m.funcs[j]? = some g) (hga : g.args = []) (ans : Value) :
    Calls Tryz.prog 25 #[.pointer (some ⟨p, 0, none⟩), ans] w fun e w' => e = .returned (.tuple #[.slice none 0 0, .bool true]) ∧ Mk bs w' p hp tp B0 B1 B2 B3 B4 m0 m1 m2 m3 m4 d0 d1 d2 d3 d4 q 6 v MA mn mc (some ⟨FB, 0, none⟩) fc (fs.set 7 (atPc x (x.pc + 1))) ∧ Keeps (fun y => y = FB ∨ y = p) w w' := by
  refine nextk_25 h hM hk (by decide) hx s1 s2 s3 f hf hl j b hi g hj hga ans (fun W => Mk bs W p hp tp B0 B1 B2 B3 B4 m0 m1 m2 m3 m4 d0 d1 d2 d3 d4 q 6 v MA mn mc (some ⟨FB, 0, none⟩) fc (fs.set 7 (atPc x (x.pc + 1))) ∧ Keeps (fun y => y = FB ∨ y = p) w W) (fun W hW hkW => ?_) (fun W hP => ⟨_, hP.1.box, rfl⟩) (fun W W' hP hp' hkp => ⟨hP.1.keep hp' hkp, hP.2.trans (hkp.mono (fun y _ h => .inr h))⟩)
  refine (callk_trap (m := m) hW (by rw [List.length_set]; exact hk) _ _).mono ?_
  rintro e W' ⟨rfl, hm, hk'⟩
  exact ⟨rfl, hm, (hkW.mono (fun y _ h => .inl h)).trans (hk'.mono (fun y _ h => .inr h))⟩
end Go.Proofs.YtmceaeoeakkppaaGreatDoor
