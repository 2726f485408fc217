/- The walk of KindLeast: lemmas on its calls. Printed by gen_kl.py of this repo. -/
import Derived.Test.YtikidknmfbhilaaKlPure
import Derived.Lib.QuietBelow
import Derived.BigQuiet
import Derived.Deep.DeepCutAuto
namespace Go.Proofs.Ytikidknmfbhilaa
open Go.RowKit Go.Sort
set_option linter.unusedVariables false
attribute [local irreducible] sub join good isRef
theorem wpList_of_quiet {P : Program} {ops : Array Oper} {Q : Exit → Act → World → Prop} {C : World → Prop} {K : Act → Prop} (hK : ∀ a w, C w → K a → Q .normal a w) : ∀ (l : List Oper) (a : Act) (w : World), C w → wpQuiet P ops C K l a → wpList P ops Q l a w
  | [], a, w, hw, h => hK a w hw h
  | o :: rest, a, w, hw, h => by
    unfold wpQuiet at h
    unfold wpList
    split at h
    · rename_i hg
      rw [if_pos hg]
      exact .inl (Oper.wp_of_quiet hw (fun a w' hw' h' => wpList_of_quiet hK rest a w' hw' h') h)
    · rename_i hg
      rw [if_neg hg]
      exact wpList_of_quiet hK rest _ w hw h
theorem wp_region_quiet_lit {P : Program} {id : Nat} {Q : Exit → Act → World → Prop} {a : Act} {w : World} {l : List Oper}
    (h : wpQuiet P l.toArray (fun w' => ∃ p : Regrown, w' = grow (redrawn w p.d) p.os) (fun a' => ∀ w', (∃ p : Regrown, w' = grow (redrawn w p.d) p.os) → Q .normal a' w') l a) : (Code.region id l.toArray false).wp P Q a w :=
  wp_region_lit (wpList_of_quiet (fun a w' hw hk => hk w' hw) l a w ⟨⟨w.drawn, #[]⟩, by rw [grow_empty]; rfl⟩ h)
theorem calls_regrown {P : Program} {f : FuncId} {args : Array Value} {w : World} {v : Value} (h : ∀ W, Calls P f args W fun e w' => e = .returned v ∧ Below W.heap.size W w') (d : Nat) (os : Array Go.Obj) : Calls P f args (grow (redrawn w d) os) fun e w'' => e = .returned v ∧ ∃ p : Regrown, w'' = grow (redrawn w p.d) p.os := Calls.regrown_of (h _)
theorem sub_at (W : World) (ak an bk bn : Int) (s : Bool) (h : sub ⟨ak, an⟩ ⟨bk, bn⟩ = s) : Calls Try.prog 6 #[.agg #[.int .i64 ak, .int .i64 an], .agg #[.int .i64 bk, .int .i64 bn]] W fun e w' => e = .returned (.bool s) ∧ Below W.heap.size W w' := by
  rw [← h]
  exact sub_any W ak an bk bn
theorem join_at (W : World) (ak an bk bn jk jn : Int) (h : join ⟨ak, an⟩ ⟨bk, bn⟩ = ⟨jk, jn⟩) : Calls Try.prog 5 #[.agg #[.int .i64 ak, .int .i64 an], .agg #[.int .i64 bk, .int .i64 bn]] W fun e w' => e = .returned (.agg #[.int .i64 jk, .int .i64 jn]) ∧ Below W.heap.size W w' := by
  have := join_any W ak an bk bn
  rw [h] at this
  exact this
theorem ret_join {a b : Ty} {k n : Int} (h : join a b = ⟨k, n⟩) : Ending.returned (.agg #[.int .i64 (join a b).kind, .int .i64 (join a b).n]) = .returned (.agg #[.int .i64 k, .int .i64 n]) := by rw [h]
end Go.Proofs.Ytikidknmfbhilaa
