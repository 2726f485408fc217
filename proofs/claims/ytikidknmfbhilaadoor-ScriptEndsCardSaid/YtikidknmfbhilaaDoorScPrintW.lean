/- Script: the reference's Print. -/
import Derived.Test.YtikidknmfbhilaaDoorScDecs
import Derived.Lib.QuietBelow
import Derived.BigQuiet
namespace Go.Proofs.YtikidknmfbhilaaDoor
open Go.RowKit Go.Sort
set_option linter.unusedVariables false
def lineL (o : Odr) : List UInt8 := Lib.itoa o.kind ++ [32] ++ Lib.itoa o.a ++ [32] ++ Lib.itoa o.b ++ [32] ++ Lib.itoa o.c ++ [10]
def textL (l : List Odr) : List UInt8 := l.flatMap lineL
theorem nDigits_20 (u : Nat) (h : u < 18446744073709551616) : Lib.nDigits u ≤ 20 := by
  by_cases h1 : 1 ≤ u
  · have := Lib.numDigits_eq u h1 h
    obtain ⟨h2, h3⟩ := this
    rw [← h2]
    split <;> omega
  · have : u = 0 := by omega
    subst this
    rw [Lib.nDigits_small (by omega)]
    omega
theorem itoa_length (n : Int) (h0 : -9223372036854775808 ≤ n) (h1 : n ≤ 9223372036854775807) : (Lib.itoa n).length ≤ 21 := by
  unfold Lib.itoa
  split
  · rw [List.length_cons, Lib.decDigits_length]
    have := nDigits_20 n.natAbs (by omega)
    omega
  · rw [Lib.decDigits_length]
    have := nDigits_20 n.toNat (by omega)
    omega
theorem in_i64 {n : Int} (h : (Lit.int .i64 n).wf = true) : -9223372036854775808 ≤ n ∧ n ≤ 9223372036854775807 := by
  simp only [Lit.wf, Bool.and_eq_true, decide_eq_true_eq] at h
  obtain ⟨h1, h2⟩ := h
  have e1 : IntKind.i64.min = -9223372036854775808 := by decide
  have e2 : IntKind.i64.max = 9223372036854775807 := by decide
  omega
theorem lineL_length (o : Odr) (h0 : (Lit.int .i64 o.kind).wf = true) (h1 : (Lit.int .i64 o.a).wf = true) (h2 : (Lit.int .i64 o.b).wf = true) (h3 : (Lit.int .i64 o.c).wf = true) : (lineL o).length ≤ 88 := by
  have k0 := in_i64 h0
  have k1 := in_i64 h1
  have k2 := in_i64 h2
  have k3 := in_i64 h3
  have e0 := itoa_length o.kind (by omega) (by omega)
  have e1 := itoa_length o.a (by omega) (by omega)
  have e2 := itoa_length o.b (by omega) (by omega)
  have e3 := itoa_length o.c (by omega) (by omega)
  unfold lineL
  simp only [List.length_append, List.length_cons, List.length_nil]
  omega
theorem calls_regrown {P : Program} {f : FuncId} {args : Array Value} {w : World} {v : Value} (h : ∀ W, Calls P f args W fun e w' => e = .returned v ∧ Below W.heap.size W w') (d : Nat) (os : Array Go.Obj) : Calls P f args (grow (redrawn w d) os) fun e w'' => e = .returned v ∧ ∃ p : Regrown, w'' = grow (redrawn w p.d) p.os := Calls.regrown_of (h _)
set_option maxRecDepth 100000 in
set_option maxHeartbeats 4000000 in
theorem refPrint_calls {S : Nat → Prop} (w : World) (A : Option Addr) (n c : Nat) (l : List Odr) (hn : l.length = n) (hm : n ≤ 1000) (hS : ∀ b, S b → b < w.heap.size) (hx : k_order.Row S w A l) :
    Calls Tryd.prog 11 #[.slice A n c] w fun e w' => e = .returned (.string ⟨(textL l).toArray⟩) ∧ Below w.heap.size w w' := by
  have HN := Lib.hid hn
  have HX := Lib.hid hx
  clear hx hn
  go_enter Tryd.func11, Tryd.ntmps11
  go_wp2
  go_loopw [3, 4] (fun t i wr => ∃ k : Nat, k ≤ n ∧ i = .int .i64 k ∧ t = .string ⟨(textL (l.take k)).toArray⟩ ∧ (textL (l.take k)).length ≤ 88 * k ∧ Below w.heap.size w wr) (fun _ i _ => n - (intOf i).toNat)
  case atStart => exact ⟨0, Nat.zero_le _, rfl, rfl, by simp [textL], Below.refl _ _⟩
  case round =>
    obtain ⟨k, hk, rfl, rfl, hlen, hb⟩ := hrel
    by_cases hlt : k < n
    · obtain ⟨x, hx⟩ : ∃ x, l[k]? = some x := ⟨_, List.getElem?_eq_getElem (by have := HN.out; omega)⟩
      obtain ⟨b, o, rfl, hSb, e0, e1, e2, e3, f0, f1, f2, f3⟩ := k_order_at (HX.out.keep (fun b h => hb.block b (hS b h))) hx
      have r0 := cell_regrown e0
      have r1 := cell_regrown e1
      have r2 := cell_regrown e2
      have r3 := cell_regrown e3
      have HL := Lib.hid (lineL_length x f0 f1 f2 f3)
      have HT : Hid (textL (l.take (k + 1)) = textL (l.take k) ++ lineL x) := by
        refine Lib.hid ?_
        unfold textL
        obtain ⟨hk2, hx2⟩ := List.getElem?_eq_some_iff.1 hx
        rw [List.take_succ_eq_append_getElem hk2, List.flatMap_append, hx2]
        simp
      have K0 := Lib.hid (fun W => Dec_calls x.kind (in_i64 f0).1 (in_i64 f0).2 W)
      have K1 := Lib.hid (fun W => Dec_calls x.a (in_i64 f1).1 (in_i64 f1).2 W)
      have K2 := Lib.hid (fun W => Dec_calls x.b (in_i64 f2).1 (in_i64 f2).2 W)
      have K3 := Lib.hid (fun W => Dec_calls x.c (in_i64 f3).1 (in_i64 f3).2 W)
      have HBr := Lib.hid hb
      have hsz := hb.size
      have z0 : (⟨(Lib.itoa x.kind).toArray⟩ : ByteArray).size ≤ 21 := by have := itoa_length x.kind (in_i64 f0).1 (in_i64 f0).2; simpa [ByteArray.size] using this
      have z1 : (⟨(Lib.itoa x.a).toArray⟩ : ByteArray).size ≤ 21 := by have := itoa_length x.a (in_i64 f1).1 (in_i64 f1).2; simpa [ByteArray.size] using this
      have z2 : (⟨(Lib.itoa x.b).toArray⟩ : ByteArray).size ≤ 21 := by have := itoa_length x.b (in_i64 f2).1 (in_i64 f2).2; simpa [ByteArray.size] using this
      have z3 : (⟨(Lib.itoa x.c).toArray⟩ : ByteArray).size ≤ 21 := by have := itoa_length x.c (in_i64 f3).1 (in_i64 f3).2; simpa [ByteArray.size] using this
      have zt : (⟨(textL (l.take k)).toArray⟩ : ByteArray).size ≤ 88000 := by
        have : (⟨(textL (l.take k)).toArray⟩ : ByteArray).size = (textL (l.take k)).length := by simp [ByteArray.size]
        omega
      have E : (⟨(textL (l.take k)).toArray⟩ : ByteArray) ++ ⟨(Lib.itoa x.kind).toArray⟩ ++ ⟨#[32]⟩ ++ ⟨(Lib.itoa x.a).toArray⟩ ++ ⟨#[32]⟩ ++ ⟨(Lib.itoa x.b).toArray⟩ ++ ⟨#[32]⟩ ++ ⟨(Lib.itoa x.c).toArray⟩ ++ ⟨#[10]⟩ = ⟨(textL (l.take (k + 1))).toArray⟩ := by
        rw [show (⟨#[32]⟩ : ByteArray) = ⟨[32].toArray⟩ from rfl, show (⟨#[10]⟩ : ByteArray) = ⟨[10].toArray⟩ from rfl]
        simp only [str_app]
        rw [HT.out]
        simp [lineL]
      have HE := Lib.hid E
      have hu : (⟨#[32]⟩ : ByteArray).size = 1 := rfl
      have hv : (⟨#[10]⟩ : ByteArray).size = 1 := rfl
      clear E
      generalize (⟨(Lib.itoa x.kind).toArray⟩ : ByteArray) = s0 at *
      generalize (⟨(Lib.itoa x.a).toArray⟩ : ByteArray) = s1 at *
      generalize (⟨(Lib.itoa x.b).toArray⟩ : ByteArray) = s2 at *
      generalize (⟨(Lib.itoa x.c).toArray⟩ : ByteArray) = s3 at *
      generalize (⟨(textL (l.take k)).toArray⟩ : ByteArray) = t0 at *
      clear hx e0 e1 e2 e3 f0 f1 f2 f3 hSb hb
      go_wp2_with fail
      refine wp_region_quiet_below (by kernel_rfl) (by kernel_rfl) ?_
      repeat (first | go_big_quiet_step (first | with_reducible exact calls_regrown K0.out _ _ | with_reducible exact calls_regrown K1.out _ _ | with_reducible exact calls_regrown K2.out _ _ | with_reducible exact calls_regrown K3.out _ _) | quiet_step (fail))
      refine wpQuiet_nil ?_
      intro _ hw'
      obtain ⟨⟨dq, osq⟩, hw''⟩ := hw'
      subst hw''
      clear r0 r1 r2 r3 z0 z1 z2 z3
      have HBq := Lib.hid (HBr.out.trans ((below_regrown wr dq osq).mono hsz))
      generalize grow (redrawn wr dq) osq = wq at *
      rw [HE.out]
      go_wp2
      go_roundw
      case rel => exact ⟨k + 1, by omega, by go_num, rfl, by rw [HT.out, List.length_append]; have := HL.out; omega, HBq.out⟩
      case measure => simp [intOf]; omega
    · have ek : k = n := by omega
      have El : l.take k = l := List.take_of_length_le (by have := HN.out; omega)
      rw [El]
      clear hlen El
      go_wp2
      go_ret
      exact ⟨rfl, hb⟩
end Go.Proofs.YtikidknmfbhilaaDoor
