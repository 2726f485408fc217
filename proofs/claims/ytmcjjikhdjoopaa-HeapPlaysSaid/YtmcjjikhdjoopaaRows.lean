/-
  No cell of these rows narrows 'for every input' (looked for: loops, veiled, ifaces, maps, wideKeys, modest, calm, conditions, laid).
  DERIVED. THE GIVEN ROWS OF THIS SEAT. 10 by the template 'for every input the law returns true; each argument reads behind the call as it read before'; 0 by the template 'total and deterministic' (their statements: YtmcjjikhdjoopaaTotals.lean).
  GIVEN WITH THE SEED: the statements are not yours to turn. If you find one false, say at which input.
  Laid BY PROGRAM, IN A SANDBOX (cutbox-rows.mjs): the forced cells as the released guide's own fill.sh prints them over the translation 13a67008fbe8ed97… (all of the seat's roots in one cut). By AI agents, Wed Nov 11 2026. No macro, syntax, notation, axiom, sorry.
-/
import Derived.Test.YtmcjjikhdjoopaaChecked
import GoSem.Claim
import GoSem.ClaimJoined
import GoSem.ClaimMapViews
import Derived.JoinedTies
import Derived.KernelRfl
namespace Go.Proofs.Ytmcjjikhdjoopaa
/- THE CELL 'sum', in the pinned program and in every row, IS THE sha256 OF THE DUMP (.gsa) THAT YtmcjjikhdjoopaaProg.lean LOADS. Nothing in Lean hashes anything: it is a label: what it is worth is what the hold of that sum in a sandbox is worth. -/
noncomputable def Try.pinned : Pinned := { name := "ytmcjjikhdjoopaa", sum := "13a67008fbe8ed979afe357f0a3a7fb197947fea72573bef1ba2f967ce7fddb2", checked := Try.checked }
namespace Rows
def none {H : Type} : Left H := { results := [], args := [] }

/-- 'chrysalislaw12.HeapQuota': WHATEVER THE INPUT: true; the input reads as it did. -/
def heapQuotaSpec : ChangeSpec := { name := "heapQuota", fn := fun _ => fun
  | [d1, d2] => { results := [.lit (.bool true)], args := [d1, d2] }
  | _ => none }
def heapQuotaRow : OpenClaim := { program := "ytmcjjikhdjoopaa", sum := "13a67008fbe8ed979afe357f0a3a7fb197947fea72573bef1ba2f967ce7fddb2", func := "chrysalis/chrysalislaw12.HeapQuota", spec := "heapQuota", apart := false }
def HeapQuotaSaid : Prop := heapQuotaRow.holds Try.pinned (OpenSpec.ofChange heapQuotaSpec)

/-- ITS FALSE NEIGHBOUR: 'it returns false'. Refute it at one input. -/
def heapQuotaWrong : ChangeSpec := { name := "heapQuota", fn := fun _ => fun
  | [d1, d2] => { results := [.lit (.bool false)], args := [d1, d2] }
  | _ => none }
def HeapQuotaWrongFalsely : Prop := heapQuotaRow.holds Try.pinned (OpenSpec.ofChange heapQuotaWrong)

/-- 'chrysalislaw03.PackBack': WHATEVER THE INPUT: true; the input reads as it did. -/
def packBackSpec : ChangeSpec := { name := "packBack", fn := fun _ => fun
  | [d1, d2] => { results := [.lit (.bool true)], args := [d1, d2] }
  | _ => none }
def packBackRow : OpenClaim := { program := "ytmcjjikhdjoopaa", sum := "13a67008fbe8ed979afe357f0a3a7fb197947fea72573bef1ba2f967ce7fddb2", func := "chrysalis/chrysalislaw03.PackBack", spec := "packBack", recurses := true, apart := false }
def PackBackSaid : Prop := packBackRow.holds Try.pinned (OpenSpec.ofChange packBackSpec)

/-- ITS FALSE NEIGHBOUR: 'it returns false'. Refute it at one input. -/
def packBackWrong : ChangeSpec := { name := "packBack", fn := fun _ => fun
  | [d1, d2] => { results := [.lit (.bool false)], args := [d1, d2] }
  | _ => none }
def PackBackWrongFalsely : Prop := packBackRow.holds Try.pinned (OpenSpec.ofChange packBackWrong)

/-- 'chrysalislaw03.PackReads': WHATEVER THE INPUT: true; the input reads as it did. -/
def packReadsSpec : ChangeSpec := { name := "packReads", fn := fun _ => fun
  | [d1, d2] => { results := [.lit (.bool true)], args := [d1, d2] }
  | _ => none }
def packReadsRow : OpenClaim := { program := "ytmcjjikhdjoopaa", sum := "13a67008fbe8ed979afe357f0a3a7fb197947fea72573bef1ba2f967ce7fddb2", func := "chrysalis/chrysalislaw03.PackReads", spec := "packReads", recurses := true, apart := false }
def PackReadsSaid : Prop := packReadsRow.holds Try.pinned (OpenSpec.ofChange packReadsSpec)

/-- ITS FALSE NEIGHBOUR: 'it returns false'. Refute it at one input. -/
def packReadsWrong : ChangeSpec := { name := "packReads", fn := fun _ => fun
  | [d1, d2] => { results := [.lit (.bool false)], args := [d1, d2] }
  | _ => none }
def PackReadsWrongFalsely : Prop := packReadsRow.holds Try.pinned (OpenSpec.ofChange packReadsWrong)

/-- 'chrysalislaw03.PackCuts': WHATEVER THE INPUT: true; the input reads as it did. -/
def packCutsSpec : ChangeSpec := { name := "packCuts", fn := fun _ => fun
  | [d1, d2, d3] => { results := [.lit (.bool true)], args := [d1, d2, d3] }
  | _ => none }
def packCutsRow : OpenClaim := { program := "ytmcjjikhdjoopaa", sum := "13a67008fbe8ed979afe357f0a3a7fb197947fea72573bef1ba2f967ce7fddb2", func := "chrysalis/chrysalislaw03.PackCuts", spec := "packCuts", recurses := true, apart := false }
def PackCutsSaid : Prop := packCutsRow.holds Try.pinned (OpenSpec.ofChange packCutsSpec)

/-- ITS FALSE NEIGHBOUR: 'it returns false'. Refute it at one input. -/
def packCutsWrong : ChangeSpec := { name := "packCuts", fn := fun _ => fun
  | [d1, d2, d3] => { results := [.lit (.bool false)], args := [d1, d2, d3] }
  | _ => none }
def PackCutsWrongFalsely : Prop := packCutsRow.holds Try.pinned (OpenSpec.ofChange packCutsWrong)

/-- 'chrysalislaw03.PackNested': WHATEVER THE INPUT: true; the input reads as it did. -/
def packNestedSpec : ChangeSpec := { name := "packNested", fn := fun _ => fun
  | [d1, d2] => { results := [.lit (.bool true)], args := [d1, d2] }
  | _ => none }
def packNestedRow : OpenClaim := { program := "ytmcjjikhdjoopaa", sum := "13a67008fbe8ed979afe357f0a3a7fb197947fea72573bef1ba2f967ce7fddb2", func := "chrysalis/chrysalislaw03.PackNested", spec := "packNested", apart := false }
def PackNestedSaid : Prop := packNestedRow.holds Try.pinned (OpenSpec.ofChange packNestedSpec)

/-- ITS FALSE NEIGHBOUR: 'it returns false'. Refute it at one input. -/
def packNestedWrong : ChangeSpec := { name := "packNested", fn := fun _ => fun
  | [d1, d2] => { results := [.lit (.bool false)], args := [d1, d2] }
  | _ => none }
def PackNestedWrongFalsely : Prop := packNestedRow.holds Try.pinned (OpenSpec.ofChange packNestedWrong)

/-- 'chrysalislaw03.PackMost': WHATEVER THE INPUT: true; the input reads as it did. -/
def packMostSpec : ChangeSpec := { name := "packMost", fn := fun _ => fun
  | [d1, d2] => { results := [.lit (.bool true)], args := [d1, d2] }
  | _ => none }
def packMostRow : OpenClaim := { program := "ytmcjjikhdjoopaa", sum := "13a67008fbe8ed979afe357f0a3a7fb197947fea72573bef1ba2f967ce7fddb2", func := "chrysalis/chrysalislaw03.PackMost", spec := "packMost", apart := false }
def PackMostSaid : Prop := packMostRow.holds Try.pinned (OpenSpec.ofChange packMostSpec)

/-- ITS FALSE NEIGHBOUR: 'it returns false'. Refute it at one input. -/
def packMostWrong : ChangeSpec := { name := "packMost", fn := fun _ => fun
  | [d1, d2] => { results := [.lit (.bool false)], args := [d1, d2] }
  | _ => none }
def PackMostWrongFalsely : Prop := packMostRow.holds Try.pinned (OpenSpec.ofChange packMostWrong)

/-- 'chrysalislaw12.HeapOwn': WHATEVER THE INPUT: true; the input reads as it did. -/
def heapOwnSpec : ChangeSpec := { name := "heapOwn", fn := fun _ => fun
  | [d1, d2] => { results := [.lit (.bool true)], args := [d1, d2] }
  | _ => none }
def heapOwnRow : OpenClaim := { program := "ytmcjjikhdjoopaa", sum := "13a67008fbe8ed979afe357f0a3a7fb197947fea72573bef1ba2f967ce7fddb2", func := "chrysalis/chrysalislaw12.HeapOwn", spec := "heapOwn", apart := false }
def HeapOwnSaid : Prop := heapOwnRow.holds Try.pinned (OpenSpec.ofChange heapOwnSpec)

/-- ITS FALSE NEIGHBOUR: 'it returns false'. Refute it at one input. -/
def heapOwnWrong : ChangeSpec := { name := "heapOwn", fn := fun _ => fun
  | [d1, d2] => { results := [.lit (.bool false)], args := [d1, d2] }
  | _ => none }
def HeapOwnWrongFalsely : Prop := heapOwnRow.holds Try.pinned (OpenSpec.ofChange heapOwnWrong)

/-- 'chrysalislaw12.HeapBounds': WHATEVER THE INPUT: true; the input reads as it did. -/
def heapBoundsSpec : ChangeSpec := { name := "heapBounds", fn := fun _ => fun
  | [d1, d2] => { results := [.lit (.bool true)], args := [d1, d2] }
  | _ => none }
def heapBoundsRow : OpenClaim := { program := "ytmcjjikhdjoopaa", sum := "13a67008fbe8ed979afe357f0a3a7fb197947fea72573bef1ba2f967ce7fddb2", func := "chrysalis/chrysalislaw12.HeapBounds", spec := "heapBounds", apart := false }
def HeapBoundsSaid : Prop := heapBoundsRow.holds Try.pinned (OpenSpec.ofChange heapBoundsSpec)

/-- ITS FALSE NEIGHBOUR: 'it returns false'. Refute it at one input. -/
def heapBoundsWrong : ChangeSpec := { name := "heapBounds", fn := fun _ => fun
  | [d1, d2] => { results := [.lit (.bool false)], args := [d1, d2] }
  | _ => none }
def HeapBoundsWrongFalsely : Prop := heapBoundsRow.holds Try.pinned (OpenSpec.ofChange heapBoundsWrong)

/-- 'chrysalislaw12.HeapPlays': WHATEVER THE INPUT: true; the input reads as it did. -/
def heapPlaysSpec : ChangeSpec := { name := "heapPlays", fn := fun _ => fun
  | [d1, d2, d3, d4] => { results := [.lit (.bool true)], args := [d1, d2, d3, d4] }
  | _ => none }
def heapPlaysRow : OpenClaim := { program := "ytmcjjikhdjoopaa", sum := "13a67008fbe8ed979afe357f0a3a7fb197947fea72573bef1ba2f967ce7fddb2", func := "chrysalis/chrysalislaw12.HeapPlays", spec := "heapPlays", apart := false }
def HeapPlaysSaid : Prop := heapPlaysRow.holds Try.pinned (OpenSpec.ofChange heapPlaysSpec)

/-- ITS FALSE NEIGHBOUR: 'it returns false'. Refute it at one input. -/
def heapPlaysWrong : ChangeSpec := { name := "heapPlays", fn := fun _ => fun
  | [d1, d2, d3, d4] => { results := [.lit (.bool false)], args := [d1, d2, d3, d4] }
  | _ => none }
def HeapPlaysWrongFalsely : Prop := heapPlaysRow.holds Try.pinned (OpenSpec.ofChange heapPlaysWrong)

/-- 'chrysalislaw12.HeapNone': WHATEVER THE INPUT: true; the input reads as it did. -/
def heapNoneSpec : ChangeSpec := { name := "heapNone", fn := fun _ => fun
  | [d1, d2, d3] => { results := [.lit (.bool true)], args := [d1, d2, d3] }
  | _ => none }
def heapNoneRow : OpenClaim := { program := "ytmcjjikhdjoopaa", sum := "13a67008fbe8ed979afe357f0a3a7fb197947fea72573bef1ba2f967ce7fddb2", func := "chrysalis/chrysalislaw12.HeapNone", spec := "heapNone", apart := false }
def HeapNoneSaid : Prop := heapNoneRow.holds Try.pinned (OpenSpec.ofChange heapNoneSpec)

/-- ITS FALSE NEIGHBOUR: 'it returns false'. Refute it at one input. -/
def heapNoneWrong : ChangeSpec := { name := "heapNone", fn := fun _ => fun
  | [d1, d2, d3] => { results := [.lit (.bool false)], args := [d1, d2, d3] }
  | _ => none }
def HeapNoneWrongFalsely : Prop := heapNoneRow.holds Try.pinned (OpenSpec.ofChange heapNoneWrong)

/- THE SECOND FORM. 'bulk': how many values and letters a reading holds, each counted each time it is reached (what is shared counts as often as it is met; a slice's spare places count too). A statement '..UptoSaid' is the law's where the arguments, and the package variables that the reading takes, are together of bulk at most 1048576: NARROWER than '..Said'. Prove '..Said' where nothing that the law and all that it calls make is longer than what came in: it says more and counts as full. Else prove '..UptoSaid'. A law counts once. -/
mutual
def uptoBulk {H : Type} : DataW H → Nat
  | .lit (.string bytes) => bytes.length + 1
  | .lit _ => 1
  | .nil => 1
  | .ptr d => uptoBulk d + 1
  | .slice elems spare => uptoBulkAll elems + uptoBulkAll spare + 1
  | .agg parts => uptoBulkAll parts + 1
  | .iface _ d => uptoBulk d + 1
  | .map entries => uptoBulkEntries entries + 1
  | .held _ => 1
def uptoBulkAll {H : Type} : List (DataW H) → Nat
  | [] => 0
  | d :: r => uptoBulk d + uptoBulkAll r
def uptoBulkEntries {H : Type} : List (Lit × DataW H) → Nat
  | [] => 0
  | x :: r => uptoBulkEntry x + uptoBulkEntries r
def uptoBulkEntry {H : Type} : Lit × DataW H → Nat
  | (.string bytes, d) => bytes.length + uptoBulk d + 1
  | (_, d) => uptoBulk d + 1
 end
def uptoSmall : (H : Type) → List (DataW H) → Bool := fun _ ds => decide (uptoBulkAll ds ≤ 1048576)
def OpenSpec.upto (s : _root_.Go.ChangeSpec) : _root_.Go.OpenSpec := { _root_.Go.OpenSpec.ofChange s with cond := some uptoSmall }

/-- 'chrysalislaw12.HeapQuota', WHERE WHAT IT READS IS OF BULK AT MOST 1048576: true; the input reads as it did. -/
def heapQuotaUptoRow : OpenClaim := { program := "ytmcjjikhdjoopaa", sum := "13a67008fbe8ed979afe357f0a3a7fb197947fea72573bef1ba2f967ce7fddb2", func := "chrysalis/chrysalislaw12.HeapQuota", spec := "heapQuota", apart := false, narrowed := true }
def HeapQuotaUptoSaid : Prop := heapQuotaUptoRow.holds Try.pinned (OpenSpec.upto heapQuotaSpec)

/-- 'chrysalislaw03.PackBack', WHERE WHAT IT READS IS OF BULK AT MOST 1048576: true; the input reads as it did. -/
def packBackUptoRow : OpenClaim := { program := "ytmcjjikhdjoopaa", sum := "13a67008fbe8ed979afe357f0a3a7fb197947fea72573bef1ba2f967ce7fddb2", func := "chrysalis/chrysalislaw03.PackBack", spec := "packBack", recurses := true, apart := false, narrowed := true }
def PackBackUptoSaid : Prop := packBackUptoRow.holds Try.pinned (OpenSpec.upto packBackSpec)

/-- 'chrysalislaw03.PackReads', WHERE WHAT IT READS IS OF BULK AT MOST 1048576: true; the input reads as it did. -/
def packReadsUptoRow : OpenClaim := { program := "ytmcjjikhdjoopaa", sum := "13a67008fbe8ed979afe357f0a3a7fb197947fea72573bef1ba2f967ce7fddb2", func := "chrysalis/chrysalislaw03.PackReads", spec := "packReads", recurses := true, apart := false, narrowed := true }
def PackReadsUptoSaid : Prop := packReadsUptoRow.holds Try.pinned (OpenSpec.upto packReadsSpec)

/-- 'chrysalislaw03.PackCuts', WHERE WHAT IT READS IS OF BULK AT MOST 1048576: true; the input reads as it did. -/
def packCutsUptoRow : OpenClaim := { program := "ytmcjjikhdjoopaa", sum := "13a67008fbe8ed979afe357f0a3a7fb197947fea72573bef1ba2f967ce7fddb2", func := "chrysalis/chrysalislaw03.PackCuts", spec := "packCuts", recurses := true, apart := false, narrowed := true }
def PackCutsUptoSaid : Prop := packCutsUptoRow.holds Try.pinned (OpenSpec.upto packCutsSpec)

/-- 'chrysalislaw03.PackNested', WHERE WHAT IT READS IS OF BULK AT MOST 1048576: true; the input reads as it did. -/
def packNestedUptoRow : OpenClaim := { program := "ytmcjjikhdjoopaa", sum := "13a67008fbe8ed979afe357f0a3a7fb197947fea72573bef1ba2f967ce7fddb2", func := "chrysalis/chrysalislaw03.PackNested", spec := "packNested", apart := false, narrowed := true }
def PackNestedUptoSaid : Prop := packNestedUptoRow.holds Try.pinned (OpenSpec.upto packNestedSpec)

/-- 'chrysalislaw03.PackMost', WHERE WHAT IT READS IS OF BULK AT MOST 1048576: true; the input reads as it did. -/
def packMostUptoRow : OpenClaim := { program := "ytmcjjikhdjoopaa", sum := "13a67008fbe8ed979afe357f0a3a7fb197947fea72573bef1ba2f967ce7fddb2", func := "chrysalis/chrysalislaw03.PackMost", spec := "packMost", apart := false, narrowed := true }
def PackMostUptoSaid : Prop := packMostUptoRow.holds Try.pinned (OpenSpec.upto packMostSpec)

/-- 'chrysalislaw12.HeapOwn', WHERE WHAT IT READS IS OF BULK AT MOST 1048576: true; the input reads as it did. -/
def heapOwnUptoRow : OpenClaim := { program := "ytmcjjikhdjoopaa", sum := "13a67008fbe8ed979afe357f0a3a7fb197947fea72573bef1ba2f967ce7fddb2", func := "chrysalis/chrysalislaw12.HeapOwn", spec := "heapOwn", apart := false, narrowed := true }
def HeapOwnUptoSaid : Prop := heapOwnUptoRow.holds Try.pinned (OpenSpec.upto heapOwnSpec)

/-- 'chrysalislaw12.HeapBounds', WHERE WHAT IT READS IS OF BULK AT MOST 1048576: true; the input reads as it did. -/
def heapBoundsUptoRow : OpenClaim := { program := "ytmcjjikhdjoopaa", sum := "13a67008fbe8ed979afe357f0a3a7fb197947fea72573bef1ba2f967ce7fddb2", func := "chrysalis/chrysalislaw12.HeapBounds", spec := "heapBounds", apart := false, narrowed := true }
def HeapBoundsUptoSaid : Prop := heapBoundsUptoRow.holds Try.pinned (OpenSpec.upto heapBoundsSpec)

/-- 'chrysalislaw12.HeapPlays', WHERE WHAT IT READS IS OF BULK AT MOST 1048576: true; the input reads as it did. -/
def heapPlaysUptoRow : OpenClaim := { program := "ytmcjjikhdjoopaa", sum := "13a67008fbe8ed979afe357f0a3a7fb197947fea72573bef1ba2f967ce7fddb2", func := "chrysalis/chrysalislaw12.HeapPlays", spec := "heapPlays", apart := false, narrowed := true }
def HeapPlaysUptoSaid : Prop := heapPlaysUptoRow.holds Try.pinned (OpenSpec.upto heapPlaysSpec)

/-- 'chrysalislaw12.HeapNone', WHERE WHAT IT READS IS OF BULK AT MOST 1048576: true; the input reads as it did. -/
def heapNoneUptoRow : OpenClaim := { program := "ytmcjjikhdjoopaa", sum := "13a67008fbe8ed979afe357f0a3a7fb197947fea72573bef1ba2f967ce7fddb2", func := "chrysalis/chrysalislaw12.HeapNone", spec := "heapNone", apart := false, narrowed := true }
def HeapNoneUptoSaid : Prop := heapNoneUptoRow.holds Try.pinned (OpenSpec.upto heapNoneSpec)

end Rows
end Go.Proofs.Ytmcjjikhdjoopaa
