/- Script: what the package variables hold (Facts), numbers, fits, the reference's dec and Dec. -/
import Derived.Test.YtikidknmfbhilaaDoorShelf
import Derived.Test.YtikidknmfbhilaaDoorOwn
import Derived.Laws.ResultCell
import Derived.IntWalk
import Derived.Laws.IdiomStrings
namespace Go.Proofs.YtikidknmfbhilaaDoor
open Go.RowKit
set_option linter.unusedVariables false

/-- What the library's contracts want of the variables. -/
structure Facts (w : World) : Prop where
  len : ∃ m, w.cell? ⟨0, 0, none⟩ = some (.int .i64 m)
  tab : Lib.TabIs Tryd.prog w "internal/strconv.uint64pow10" .u64 Lib.pow10Tab
  syn : ∃ t p, w.cell? ⟨2, 0, none⟩ = some (.iface t p)
  rng : ∃ t p, w.cell? ⟨3, 0, none⟩ = some (.iface t p)
  big : 4 ≤ w.heap.size
theorem gTab : Tryd.prog.globalNamed "internal/strconv.uint64pow10" = some 1 := by kernel_rfl
theorem Facts.keep {w w' : World} (h : Facts w) (hs : w.heap.size ≤ w'.heap.size) (hb : ∀ g, g < 4 → w'.heap[g]? = w.heap[g]?) : Facts w' := by
  obtain ⟨⟨m, h1⟩, h2, ⟨t, p, h3⟩, ⟨t', p', h4⟩, h5⟩ := h
  refine ⟨⟨m, ?_⟩, ?_, ⟨t, p, ?_⟩, ⟨t', p', ?_⟩, Nat.le_trans h5 hs⟩
  · exact (World.cell?_of_block (a := ⟨0, 0, none⟩) (hb 0 (by decide))).trans h1
  · unfold Lib.TabIs World.var? at *
    rw [gTab] at *
    simp only [Option.bind_some] at *
    rw [hb 1 (by decide)]
    exact h2
  · exact (World.cell?_of_block (a := ⟨2, 0, none⟩) (hb 2 (by decide))).trans h3
  · exact (World.cell?_of_block (a := ⟨3, 0, none⟩) (hb 3 (by decide))).trans h4
theorem Facts.below {w w' : World} {B : Nat} (h : Facts w) (hb : Below B w w') (hB : 4 ≤ B) : Facts w' := h.keep hb.size (fun g hg => hb.block g (by omega))

set_option maxHeartbeats 2000000 in
theorem numbers_calls (w : World) (a b c d : Int) : Calls Tryd.prog 13 #[.agg #[.int .i64 a, .int .i64 b, .int .i64 c, .int .i64 d]] w fun e w' => e = .returned (.agg #[.int .i64 a, .int .i64 b, .int .i64 c, .int .i64 d]) ∧ Below w.heap.size w w' := by
  go_enter Tryd.func13, Tryd.ntmps13
  go_wp2
  exact bodyPost_ret (v := .agg #[.int .i64 a, .int .i64 b, .int .i64 c, .int .i64 d]) (by simp [results, Tryd.results13, go_sem]) rfl ⟨rfl, ((Below.refl w.heap.size w).alloc (Nat.le_refl _) _).alloc (by simp) _⟩

def fitsB (n : Int) : Bool := decide (-4611686018427387904 ≤ n) && decide (n ≤ 4611686018427387904)
theorem fits_calls (w : World) (n : Int) : Calls Tryd.prog 14 #[.int .i64 n] w fun e w' => e = .returned (.bool (fitsB n)) ∧ Below w.heap.size w w' := by
  have e : fitsB n = (if -4611686018427387904 ≤ n then decide (n ≤ 4611686018427387904) else false) := by unfold fitsB; split <;> simp [*]
  rw [e]
  by_cases h1 : -4611686018427387904 ≤ n
  · rw [if_pos h1]
    go_enter Tryd.func14, Tryd.ntmps14
    go_wp2
    go_ret
    exact ⟨rfl, Below.refl _ _⟩
  · rw [if_neg h1]
    go_enter Tryd.func14, Tryd.ntmps14
    go_wp2
    go_ret
    exact ⟨rfl, Below.refl _ _⟩

theorem conv1 (w : World) (b d : Nat) (hd : d < 10) (hc : w.cell? ⟨b, 0, none⟩ = some (.int .u8 (48 + d))) : (convert 38 9 (.slice (some ⟨b, 0, none⟩) 1 1)).run Tryd.prog w = .ok (.string ⟨[UInt8.ofNat (48 + d)].toArray⟩) w := by
  refine run_convert_bytes_back w 38 9 5 ⟨b, 0, none⟩ 1 [UInt8.ofNat (48 + d)] Tryd.underlying38 Tryd.underlying5 Tryd.underlying9 ?_
  intro j hj
  have hj0 : j = 0 := by simpa using hj
  subst hj0
  have e : ((UInt8.ofNat (48 + d)).toNat : Int) = 48 + d := by
    have : (UInt8.ofNat (48 + d)).toNat = 48 + d := by simp [UInt8.toNat_ofNat]; omega
    rw [this]; simp
  show w.cell? (Addr.add ⟨b, 0, none⟩ 0) = some (.int .u8 ((UInt8.ofNat (48 + d)).toNat : Int))
  rw [e]
  simpa [Addr.add] using hc
theorem str_app (a b : List UInt8) : (⟨a.toArray⟩ : ByteArray) ++ ⟨b.toArray⟩ = ⟨(a ++ b).toArray⟩ := by
  apply ByteArray.ext
  simp [ByteArray.data_append]

set_option maxRecDepth 100000 in
set_option maxHeartbeats 4000000 in
theorem dec_small (n : Nat) (h : n < 10) (w : World) : Calls Tryd.prog 27 #[.int .u64 n] w fun e w' => e = .returned (.string ⟨(Lib.decDigits n).toArray⟩) ∧ Below w.heap.size w w' := by
  have hi : (n : Int) < 10 := by omega
  have hm : IntKind.u8.wrap (n : Int) = n := IntWalk.u8_in _ (by omega)
  have hm2 : IntKind.u8.wrap (48 + (n : Int)) = 48 + n := IntWalk.u8_in _ (by omega)
  have hc := fun W b => conv1 W b n h
  rw [Lib.decDigits_one h]
  generalize (⟨[UInt8.ofNat (48 + n)].toArray⟩ : ByteArray) = s at hc ⊢
  go_enter Tryd.func27, Tryd.ntmps27
  go_wp2
  go_ret
  exact ⟨rfl, (Below.refl _ _).alloc (Nat.le_refl _) _⟩
end Go.Proofs.YtikidknmfbhilaaDoor
