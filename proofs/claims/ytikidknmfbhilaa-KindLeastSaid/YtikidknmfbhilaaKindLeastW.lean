/- The walk of KindLeast. Printed by gen_kl.py of this repo. -/
import Derived.Test.YtikidknmfbhilaaKindLeastA
import Derived.Test.YtikidknmfbhilaaKindLeast1
import Derived.Test.YtikidknmfbhilaaKindLeast2
import Derived.Test.YtikidknmfbhilaaKindLeast3
namespace Go.Proofs.Ytikidknmfbhilaa
open Go.RowKit
theorem kindLeast_walk (w : World) (cs0 : List Value) (x0 : Ty) (K0 : k_ty.K (· < w.heap.size) w x0 cs0) (cs1 : List Value) (x1 : Ty) (K1 : k_ty.K (· < w.heap.size) w x1 cs1) (cs2 : List Value) (x2 : Ty) (K2 : k_ty.K (· < w.heap.size) w x2 cs2) :
    Calls Try.prog 3 #[.agg cs0.toArray, .agg cs1.toArray, .agg cs2.toArray] w fun e w' => e = .returned (.bool true) ∧ Below w.heap.size w w' := by
  by_cases h : okT x0.kind x0.n ∧ okT x1.kind x1.n ∧ okT x2.kind x2.n
  · obtain ⟨h0, h1, h2⟩ := h
    by_cases p1 : x0.kind = 4
    · exact kindLeast_good1 w cs0 x0 K0 cs1 x1 K1 cs2 x2 K2 p1 h0 h1 h2
    · by_cases p2 : x0.kind = 5
      · exact kindLeast_good2 w cs0 x0 K0 cs1 x1 K1 cs2 x2 K2 ⟨p1, p2⟩ h0 h1 h2
      · exact kindLeast_good3 w cs0 x0 K0 cs1 x1 K1 cs2 x2 K2 ⟨p1, p2, by have := h0; unfold okT at this; omega⟩ h0 h1 h2
  · exact kindLeast_bad w cs0 x0 K0 cs1 x1 K1 cs2 x2 K2 h
end Go.Proofs.Ytikidknmfbhilaa
