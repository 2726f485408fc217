/- The walk of KindLeast: what may not be. Printed by gen_kl.py of this repo. -/
import Derived.Test.YtikidknmfbhilaaKindLeastA0
import Derived.Test.YtikidknmfbhilaaKindLeastA1
import Derived.Test.YtikidknmfbhilaaKindLeastA2
import Derived.Test.YtikidknmfbhilaaKindLeastA3
import Derived.Lib.QuietBelow
import Derived.BigQuiet
import Derived.Deep.DeepCutAuto
namespace Go.Proofs.Ytikidknmfbhilaa
open Go.RowKit Go.Sort
set_option linter.unusedVariables false
attribute [local irreducible] sub join good isRef
theorem kindLeast_bad (w : World) (cs0 : List Value) (x0 : Ty) (K0 : k_ty.K (· < w.heap.size) w x0 cs0) (cs1 : List Value) (x1 : Ty) (K1 : k_ty.K (· < w.heap.size) w x1 cs1) (cs2 : List Value) (x2 : Ty) (K2 : k_ty.K (· < w.heap.size) w x2 cs2) (h : ¬ (okT x0.kind x0.n ∧ okT x1.kind x1.n ∧ okT x2.kind x2.n)) :
    Calls Try.prog 3 #[.agg cs0.toArray, .agg cs1.toArray, .agg cs2.toArray] w fun e w' => e = .returned (.bool true) ∧ Below w.heap.size w w' := by
  obtain ⟨ak, an⟩ := x0
  obtain ⟨bk, bn⟩ := x1
  obtain ⟨ck, cn⟩ := x2
  simp only at h
  by_cases p1 : ak < 1
  · exact kindLeast_bad0 w cs0 _ K0 cs1 _ K1 cs2 _ K2 p1
  · by_cases p2 : 8 < ak
    · exact kindLeast_bad1 w cs0 _ K0 cs1 _ K1 cs2 _ K2 p1 p2
    · by_cases p3 : bk < 1
      · exact kindLeast_bad2 w cs0 _ K0 cs1 _ K1 cs2 _ K2 p1 p2 p3
      · by_cases p4 : 8 < bk
        · exact kindLeast_bad3 w cs0 _ K0 cs1 _ K1 cs2 _ K2 p1 p2 p3 p4
        · by_cases p5 : ck < 1
          · exact kindLeast_bad4 w cs0 _ K0 cs1 _ K1 cs2 _ K2 p1 p2 p3 p4 p5
          · by_cases p6 : 8 < ck
            · exact kindLeast_bad5 w cs0 _ K0 cs1 _ K1 cs2 _ K2 p1 p2 p3 p4 p5 p6
            · by_cases p7 : ¬ ak = 4
              · by_cases p8 : ¬ ak = 5
                · by_cases p9 : ¬ an = 0
                  · exact kindLeast_bad6 w cs0 _ K0 cs1 _ K1 cs2 _ K2 p1 p2 p3 p4 p5 p6 p7 p8 p9
                  · by_cases p10 : ¬ bk = 4
                    · by_cases p11 : ¬ bk = 5
                      · by_cases p12 : ¬ bn = 0
                        · exact kindLeast_bad7 w cs0 _ K0 cs1 _ K1 cs2 _ K2 p1 p2 p3 p4 p5 p6 p7 p8 p9 p10 p11 p12
                        · by_cases p13 : ¬ ck = 4
                          · by_cases p14 : ¬ ck = 5
                            · by_cases p15 : ¬ cn = 0
                              · exact kindLeast_bad8 w cs0 _ K0 cs1 _ K1 cs2 _ K2 p1 p2 p3 p4 p5 p6 p7 p8 p9 p10 p11 p12 p13 p14 p15
                              · exact absurd (by unfold okT; omega) h
                            · exact absurd (by unfold okT; omega) h
                          · exact absurd (by unfold okT; omega) h
                      · by_cases p12 : ¬ ck = 4
                        · by_cases p13 : ¬ ck = 5
                          · by_cases p14 : ¬ cn = 0
                            · exact kindLeast_bad9 w cs0 _ K0 cs1 _ K1 cs2 _ K2 p1 p2 p3 p4 p5 p6 p7 p8 p9 p10 p11 p12 p13 p14
                            · exact absurd (by unfold okT; omega) h
                          · exact absurd (by unfold okT; omega) h
                        · exact absurd (by unfold okT; omega) h
                    · by_cases p11 : ¬ ck = 4
                      · by_cases p12 : ¬ ck = 5
                        · by_cases p13 : ¬ cn = 0
                          · exact kindLeast_bad10 w cs0 _ K0 cs1 _ K1 cs2 _ K2 p1 p2 p3 p4 p5 p6 p7 p8 p9 p10 p11 p12 p13
                          · exact absurd (by unfold okT; omega) h
                        · exact absurd (by unfold okT; omega) h
                      · exact absurd (by unfold okT; omega) h
                · by_cases p9 : ¬ bk = 4
                  · by_cases p10 : ¬ bk = 5
                    · by_cases p11 : ¬ bn = 0
                      · exact kindLeast_bad11 w cs0 _ K0 cs1 _ K1 cs2 _ K2 p1 p2 p3 p4 p5 p6 p7 p8 p9 p10 p11
                      · by_cases p12 : ¬ ck = 4
                        · by_cases p13 : ¬ ck = 5
                          · by_cases p14 : ¬ cn = 0
                            · exact kindLeast_bad12 w cs0 _ K0 cs1 _ K1 cs2 _ K2 p1 p2 p3 p4 p5 p6 p7 p8 p9 p10 p11 p12 p13 p14
                            · exact absurd (by unfold okT; omega) h
                          · exact absurd (by unfold okT; omega) h
                        · exact absurd (by unfold okT; omega) h
                    · by_cases p11 : ¬ ck = 4
                      · by_cases p12 : ¬ ck = 5
                        · by_cases p13 : ¬ cn = 0
                          · exact kindLeast_bad13 w cs0 _ K0 cs1 _ K1 cs2 _ K2 p1 p2 p3 p4 p5 p6 p7 p8 p9 p10 p11 p12 p13
                          · exact absurd (by unfold okT; omega) h
                        · exact absurd (by unfold okT; omega) h
                      · exact absurd (by unfold okT; omega) h
                  · by_cases p10 : ¬ ck = 4
                    · by_cases p11 : ¬ ck = 5
                      · by_cases p12 : ¬ cn = 0
                        · exact kindLeast_bad14 w cs0 _ K0 cs1 _ K1 cs2 _ K2 p1 p2 p3 p4 p5 p6 p7 p8 p9 p10 p11 p12
                        · exact absurd (by unfold okT; omega) h
                      · exact absurd (by unfold okT; omega) h
                    · exact absurd (by unfold okT; omega) h
              · by_cases p8 : ¬ bk = 4
                · by_cases p9 : ¬ bk = 5
                  · by_cases p10 : ¬ bn = 0
                    · exact kindLeast_bad15 w cs0 _ K0 cs1 _ K1 cs2 _ K2 p1 p2 p3 p4 p5 p6 p7 p8 p9 p10
                    · by_cases p11 : ¬ ck = 4
                      · by_cases p12 : ¬ ck = 5
                        · by_cases p13 : ¬ cn = 0
                          · exact kindLeast_bad16 w cs0 _ K0 cs1 _ K1 cs2 _ K2 p1 p2 p3 p4 p5 p6 p7 p8 p9 p10 p11 p12 p13
                          · exact absurd (by unfold okT; omega) h
                        · exact absurd (by unfold okT; omega) h
                      · exact absurd (by unfold okT; omega) h
                  · by_cases p10 : ¬ ck = 4
                    · by_cases p11 : ¬ ck = 5
                      · by_cases p12 : ¬ cn = 0
                        · exact kindLeast_bad17 w cs0 _ K0 cs1 _ K1 cs2 _ K2 p1 p2 p3 p4 p5 p6 p7 p8 p9 p10 p11 p12
                        · exact absurd (by unfold okT; omega) h
                      · exact absurd (by unfold okT; omega) h
                    · exact absurd (by unfold okT; omega) h
                · by_cases p9 : ¬ ck = 4
                  · by_cases p10 : ¬ ck = 5
                    · by_cases p11 : ¬ cn = 0
                      · exact kindLeast_bad18 w cs0 _ K0 cs1 _ K1 cs2 _ K2 p1 p2 p3 p4 p5 p6 p7 p8 p9 p10 p11
                      · exact absurd (by unfold okT; omega) h
                    · exact absurd (by unfold okT; omega) h
                  · exact absurd (by unfold okT; omega) h
end Go.Proofs.Ytikidknmfbhilaa
