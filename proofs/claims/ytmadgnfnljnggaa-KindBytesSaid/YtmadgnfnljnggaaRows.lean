/-
  No cell of these rows narrows 'for every input' (looked for: loops, veiled, ifaces, maps, wideKeys, modest, calm, conditions, laid).
  DERIVED. THE GIVEN ROWS OF THIS SEAT. 13 by the template 'for every input the law returns true; each argument reads behind the call as it read before'; 0 by the template 'total and deterministic' (their statements: YtmadgnfnljnggaaTotals.lean).
  GIVEN WITH THE SEED: the statements are not yours to turn. If you find one false, say at which input.
  Laid BY PROGRAM, IN A SANDBOX (cutbox-rows.mjs): the forced cells as the released guide's own fill.sh prints them over the translation b8a00941215b48dd… (all of the seat's roots in one cut). By AI agents, Wed Nov 11 2026. No macro, syntax, notation, axiom, sorry.
-/
import Derived.Test.YtmadgnfnljnggaaChecked
import GoSem.Claim
import GoSem.ClaimJoined
import GoSem.ClaimMapViews
import Derived.JoinedTies
import Derived.KernelRfl
namespace Go.Proofs.Ytmadgnfnljnggaa
/- THE CELL 'sum', in the pinned program and in every row, IS THE sha256 OF THE DUMP (.gsa) THAT YtmadgnfnljnggaaProg.lean LOADS. Nothing in Lean hashes anything: it is a label: what it is worth is what the hold of that sum in a sandbox is worth. -/
noncomputable def Try.pinned : Pinned := { name := "ytmadgnfnljnggaa", sum := "b8a00941215b48dde9c3f94250c8c881954e6deda4f6326c7acc6415b81912aa", checked := Try.checked }
namespace Rows
def none {H : Type} : Left H := { results := [], args := [] }

/-- 'chrysalislaw23.HostBinds': WHATEVER THE INPUT: true; the input reads as it did. -/
def hostBindsSpec : ChangeSpec := { name := "hostBinds", fn := fun _ => fun
  | [d1, d2] => { results := [.lit (.bool true)], args := [d1, d2] }
  | _ => none }
def hostBindsRow : OpenClaim := { program := "ytmadgnfnljnggaa", sum := "b8a00941215b48dde9c3f94250c8c881954e6deda4f6326c7acc6415b81912aa", func := "chrysalis/chrysalislaw23.HostBinds", spec := "hostBinds", apart := false }
def HostBindsSaid : Prop := hostBindsRow.holds Try.pinned (OpenSpec.ofChange hostBindsSpec)

/-- ITS FALSE NEIGHBOUR: 'it returns false'. Refute it at one input. -/
def hostBindsWrong : ChangeSpec := { name := "hostBinds", fn := fun _ => fun
  | [d1, d2] => { results := [.lit (.bool false)], args := [d1, d2] }
  | _ => none }
def HostBindsWrongFalsely : Prop := hostBindsRow.holds Try.pinned (OpenSpec.ofChange hostBindsWrong)

/-- 'chrysalislaw23.HostMore': WHATEVER THE INPUT: true; the input reads as it did. -/
def hostMoreSpec : ChangeSpec := { name := "hostMore", fn := fun _ => fun
  | [d1, d2, d3] => { results := [.lit (.bool true)], args := [d1, d2, d3] }
  | _ => none }
def hostMoreRow : OpenClaim := { program := "ytmadgnfnljnggaa", sum := "b8a00941215b48dde9c3f94250c8c881954e6deda4f6326c7acc6415b81912aa", func := "chrysalis/chrysalislaw23.HostMore", spec := "hostMore", apart := false }
def HostMoreSaid : Prop := hostMoreRow.holds Try.pinned (OpenSpec.ofChange hostMoreSpec)

/-- ITS FALSE NEIGHBOUR: 'it returns false'. Refute it at one input. -/
def hostMoreWrong : ChangeSpec := { name := "hostMore", fn := fun _ => fun
  | [d1, d2, d3] => { results := [.lit (.bool false)], args := [d1, d2, d3] }
  | _ => none }
def HostMoreWrongFalsely : Prop := hostMoreRow.holds Try.pinned (OpenSpec.ofChange hostMoreWrong)

/-- 'chrysalislaw04.KindLeast': WHATEVER THE INPUT: true; the input reads as it did. -/
def kindLeastSpec : ChangeSpec := { name := "kindLeast", fn := fun _ => fun
  | [d1, d2, d3] => { results := [.lit (.bool true)], args := [d1, d2, d3] }
  | _ => none }
def kindLeastRow : OpenClaim := { program := "ytmadgnfnljnggaa", sum := "b8a00941215b48dde9c3f94250c8c881954e6deda4f6326c7acc6415b81912aa", func := "chrysalis/chrysalislaw04.KindLeast", spec := "kindLeast", apart := false }
def KindLeastSaid : Prop := kindLeastRow.holds Try.pinned (OpenSpec.ofChange kindLeastSpec)

/-- ITS FALSE NEIGHBOUR: 'it returns false'. Refute it at one input. -/
def kindLeastWrong : ChangeSpec := { name := "kindLeast", fn := fun _ => fun
  | [d1, d2, d3] => { results := [.lit (.bool false)], args := [d1, d2, d3] }
  | _ => none }
def KindLeastWrongFalsely : Prop := kindLeastRow.holds Try.pinned (OpenSpec.ofChange kindLeastWrong)

/-- 'chrysalislaw04.KindChain': WHATEVER THE INPUT: true; the input reads as it did. -/
def kindChainSpec : ChangeSpec := { name := "kindChain", fn := fun _ => fun
  | [d1, d2, d3] => { results := [.lit (.bool true)], args := [d1, d2, d3] }
  | _ => none }
def kindChainRow : OpenClaim := { program := "ytmadgnfnljnggaa", sum := "b8a00941215b48dde9c3f94250c8c881954e6deda4f6326c7acc6415b81912aa", func := "chrysalis/chrysalislaw04.KindChain", spec := "kindChain", apart := false }
def KindChainSaid : Prop := kindChainRow.holds Try.pinned (OpenSpec.ofChange kindChainSpec)

/-- ITS FALSE NEIGHBOUR: 'it returns false'. Refute it at one input. -/
def kindChainWrong : ChangeSpec := { name := "kindChain", fn := fun _ => fun
  | [d1, d2, d3] => { results := [.lit (.bool false)], args := [d1, d2, d3] }
  | _ => none }
def KindChainWrongFalsely : Prop := kindChainRow.holds Try.pinned (OpenSpec.ofChange kindChainWrong)

/-- 'chrysalislaw04.KindThree': WHATEVER THE INPUT: true; the input reads as it did. -/
def kindThreeSpec : ChangeSpec := { name := "kindThree", fn := fun _ => fun
  | [d1, d2, d3] => { results := [.lit (.bool true)], args := [d1, d2, d3] }
  | _ => none }
def kindThreeRow : OpenClaim := { program := "ytmadgnfnljnggaa", sum := "b8a00941215b48dde9c3f94250c8c881954e6deda4f6326c7acc6415b81912aa", func := "chrysalis/chrysalislaw04.KindThree", spec := "kindThree", apart := false }
def KindThreeSaid : Prop := kindThreeRow.holds Try.pinned (OpenSpec.ofChange kindThreeSpec)

/-- ITS FALSE NEIGHBOUR: 'it returns false'. Refute it at one input. -/
def kindThreeWrong : ChangeSpec := { name := "kindThree", fn := fun _ => fun
  | [d1, d2, d3] => { results := [.lit (.bool false)], args := [d1, d2, d3] }
  | _ => none }
def KindThreeWrongFalsely : Prop := kindThreeRow.holds Try.pinned (OpenSpec.ofChange kindThreeWrong)

/-- 'chrysalislaw23.HostNeeds': WHATEVER THE INPUT: true; the input reads as it did. -/
def hostNeedsSpec : ChangeSpec := { name := "hostNeeds", fn := fun _ => fun
  | [d1, d2] => { results := [.lit (.bool true)], args := [d1, d2] }
  | _ => none }
def hostNeedsRow : OpenClaim := { program := "ytmadgnfnljnggaa", sum := "b8a00941215b48dde9c3f94250c8c881954e6deda4f6326c7acc6415b81912aa", func := "chrysalis/chrysalislaw23.HostNeeds", spec := "hostNeeds", apart := false }
def HostNeedsSaid : Prop := hostNeedsRow.holds Try.pinned (OpenSpec.ofChange hostNeedsSpec)

/-- ITS FALSE NEIGHBOUR: 'it returns false'. Refute it at one input. -/
def hostNeedsWrong : ChangeSpec := { name := "hostNeeds", fn := fun _ => fun
  | [d1, d2] => { results := [.lit (.bool false)], args := [d1, d2] }
  | _ => none }
def HostNeedsWrongFalsely : Prop := hostNeedsRow.holds Try.pinned (OpenSpec.ofChange hostNeedsWrong)

/-- 'chrysalislaw23.HostBits': WHATEVER THE INPUT: true; the input reads as it did. -/
def hostBitsSpec : ChangeSpec := { name := "hostBits", fn := fun _ => fun
  | [d1, d2] => { results := [.lit (.bool true)], args := [d1, d2] }
  | _ => none }
def hostBitsRow : OpenClaim := { program := "ytmadgnfnljnggaa", sum := "b8a00941215b48dde9c3f94250c8c881954e6deda4f6326c7acc6415b81912aa", func := "chrysalis/chrysalislaw23.HostBits", spec := "hostBits", apart := false }
def HostBitsSaid : Prop := hostBitsRow.holds Try.pinned (OpenSpec.ofChange hostBitsSpec)

/-- ITS FALSE NEIGHBOUR: 'it returns false'. Refute it at one input. -/
def hostBitsWrong : ChangeSpec := { name := "hostBits", fn := fun _ => fun
  | [d1, d2] => { results := [.lit (.bool false)], args := [d1, d2] }
  | _ => none }
def HostBitsWrongFalsely : Prop := hostBitsRow.holds Try.pinned (OpenSpec.ofChange hostBitsWrong)

/-- 'chrysalislaw04.KindTypes': WHATEVER THE INPUT: true; the input reads as it did. -/
def kindTypesSpec : ChangeSpec := { name := "kindTypes", fn := fun _ => fun
  | [d1, d2, d3] => { results := [.lit (.bool true)], args := [d1, d2, d3] }
  | _ => none }
def kindTypesRow : OpenClaim := { program := "ytmadgnfnljnggaa", sum := "b8a00941215b48dde9c3f94250c8c881954e6deda4f6326c7acc6415b81912aa", func := "chrysalis/chrysalislaw04.KindTypes", spec := "kindTypes", apart := false }
def KindTypesSaid : Prop := kindTypesRow.holds Try.pinned (OpenSpec.ofChange kindTypesSpec)

/-- ITS FALSE NEIGHBOUR: 'it returns false'. Refute it at one input. -/
def kindTypesWrong : ChangeSpec := { name := "kindTypes", fn := fun _ => fun
  | [d1, d2, d3] => { results := [.lit (.bool false)], args := [d1, d2, d3] }
  | _ => none }
def KindTypesWrongFalsely : Prop := kindTypesRow.holds Try.pinned (OpenSpec.ofChange kindTypesWrong)

/-- 'chrysalislaw13.HansPlays': WHATEVER THE INPUT: true; the input reads as it did. -/
def hansPlaysSpec : ChangeSpec := { name := "hansPlays", fn := fun _ => fun
  | [d1, d2] => { results := [.lit (.bool true)], args := [d1, d2] }
  | _ => none }
def hansPlaysRow : OpenClaim := { program := "ytmadgnfnljnggaa", sum := "b8a00941215b48dde9c3f94250c8c881954e6deda4f6326c7acc6415b81912aa", func := "chrysalis/chrysalislaw13.HansPlays", spec := "hansPlays", apart := false }
def HansPlaysSaid : Prop := hansPlaysRow.holds Try.pinned (OpenSpec.ofChange hansPlaysSpec)

/-- ITS FALSE NEIGHBOUR: 'it returns false'. Refute it at one input. -/
def hansPlaysWrong : ChangeSpec := { name := "hansPlays", fn := fun _ => fun
  | [d1, d2] => { results := [.lit (.bool false)], args := [d1, d2] }
  | _ => none }
def HansPlaysWrongFalsely : Prop := hansPlaysRow.holds Try.pinned (OpenSpec.ofChange hansPlaysWrong)

/-- 'chrysalislaw13.HansNone': WHATEVER THE INPUT: true; the input reads as it did. -/
def hansNoneSpec : ChangeSpec := { name := "hansNone", fn := fun _ => fun
  | [d1, d2] => { results := [.lit (.bool true)], args := [d1, d2] }
  | _ => none }
def hansNoneRow : OpenClaim := { program := "ytmadgnfnljnggaa", sum := "b8a00941215b48dde9c3f94250c8c881954e6deda4f6326c7acc6415b81912aa", func := "chrysalis/chrysalislaw13.HansNone", spec := "hansNone", apart := false }
def HansNoneSaid : Prop := hansNoneRow.holds Try.pinned (OpenSpec.ofChange hansNoneSpec)

/-- ITS FALSE NEIGHBOUR: 'it returns false'. Refute it at one input. -/
def hansNoneWrong : ChangeSpec := { name := "hansNone", fn := fun _ => fun
  | [d1, d2] => { results := [.lit (.bool false)], args := [d1, d2] }
  | _ => none }
def HansNoneWrongFalsely : Prop := hansNoneRow.holds Try.pinned (OpenSpec.ofChange hansNoneWrong)

/-- 'chrysalislaw13.HansFull': WHATEVER THE INPUT: true; the input reads as it did. -/
def hansFullSpec : ChangeSpec := { name := "hansFull", fn := fun _ => fun
  | [d1, d2] => { results := [.lit (.bool true)], args := [d1, d2] }
  | _ => none }
def hansFullRow : OpenClaim := { program := "ytmadgnfnljnggaa", sum := "b8a00941215b48dde9c3f94250c8c881954e6deda4f6326c7acc6415b81912aa", func := "chrysalis/chrysalislaw13.HansFull", spec := "hansFull", apart := false }
def HansFullSaid : Prop := hansFullRow.holds Try.pinned (OpenSpec.ofChange hansFullSpec)

/-- ITS FALSE NEIGHBOUR: 'it returns false'. Refute it at one input. -/
def hansFullWrong : ChangeSpec := { name := "hansFull", fn := fun _ => fun
  | [d1, d2] => { results := [.lit (.bool false)], args := [d1, d2] }
  | _ => none }
def HansFullWrongFalsely : Prop := hansFullRow.holds Try.pinned (OpenSpec.ofChange hansFullWrong)

/-- 'chrysalislaw13.HansOwn': WHATEVER THE INPUT: true; the input reads as it did. -/
def hansOwnSpec : ChangeSpec := { name := "hansOwn", fn := fun _ => fun
  | [d] => { results := [.lit (.bool true)], args := [d] }
  | _ => none }
def hansOwnRow : OpenClaim := { program := "ytmadgnfnljnggaa", sum := "b8a00941215b48dde9c3f94250c8c881954e6deda4f6326c7acc6415b81912aa", func := "chrysalis/chrysalislaw13.HansOwn", spec := "hansOwn", apart := false }
def HansOwnSaid : Prop := hansOwnRow.holds Try.pinned (OpenSpec.ofChange hansOwnSpec)

/-- ITS FALSE NEIGHBOUR: 'it returns false'. Refute it at one input. -/
def hansOwnWrong : ChangeSpec := { name := "hansOwn", fn := fun _ => fun
  | [d] => { results := [.lit (.bool false)], args := [d] }
  | _ => none }
def HansOwnWrongFalsely : Prop := hansOwnRow.holds Try.pinned (OpenSpec.ofChange hansOwnWrong)

/-- 'chrysalislaw04.KindBytes': WHATEVER THE INPUT: true; the input reads as it did. -/
def kindBytesSpec : ChangeSpec := { name := "kindBytes", fn := fun _ => fun
  | [d1, d2, d3] => { results := [.lit (.bool true)], args := [d1, d2, d3] }
  | _ => none }
def kindBytesRow : OpenClaim := { program := "ytmadgnfnljnggaa", sum := "b8a00941215b48dde9c3f94250c8c881954e6deda4f6326c7acc6415b81912aa", func := "chrysalis/chrysalislaw04.KindBytes", spec := "kindBytes", recurses := true, apart := false }
def KindBytesSaid : Prop := kindBytesRow.holds Try.pinned (OpenSpec.ofChange kindBytesSpec)

/-- ITS FALSE NEIGHBOUR: 'it returns false'. Refute it at one input. -/
def kindBytesWrong : ChangeSpec := { name := "kindBytes", fn := fun _ => fun
  | [d1, d2, d3] => { results := [.lit (.bool false)], args := [d1, d2, d3] }
  | _ => none }
def KindBytesWrongFalsely : Prop := kindBytesRow.holds Try.pinned (OpenSpec.ofChange kindBytesWrong)

/- THE SECOND FORM. 'bulk': how many values and letters a reading holds, each counted each time it is reached (what is shared counts as often as it is met; a slice's spare places count too). A statement '..UptoSaid' is the law's where the arguments, and the package variables that the reading takes, are together of bulk at most 1048576: NARROWER than '..Said'. Prove '..Said' where nothing that the law and all that it calls make is longer than what came in: it says more and counts as full. Else prove '..UptoSaid'. A law counts once. -/
mutual
def uptoBulk {H : Type} : DataW H → Nat
  | .lit (.string bytes) => bytes.length + 1
  | .lit _ => 1
  | .nil => 1
  | .ptr d => uptoBulk d + 1
  | .slice elems spare => uptoBulkAll elems + uptoBulkAll spare + 1
  | .agg parts => uptoBulkAll parts + 1
  | .iface _ d => uptoBulk d + 1
  | .map entries => uptoBulkEntries entries + 1
  | .held _ => 1
def uptoBulkAll {H : Type} : List (DataW H) → Nat
  | [] => 0
  | d :: r => uptoBulk d + uptoBulkAll r
def uptoBulkEntries {H : Type} : List (Lit × DataW H) → Nat
  | [] => 0
  | x :: r => uptoBulkEntry x + uptoBulkEntries r
def uptoBulkEntry {H : Type} : Lit × DataW H → Nat
  | (.string bytes, d) => bytes.length + uptoBulk d + 1
  | (_, d) => uptoBulk d + 1
 end
def uptoSmall : (H : Type) → List (DataW H) → Bool := fun _ ds => decide (uptoBulkAll ds ≤ 1048576)
def OpenSpec.upto (s : _root_.Go.ChangeSpec) : _root_.Go.OpenSpec := { _root_.Go.OpenSpec.ofChange s with cond := some uptoSmall }

/-- 'chrysalislaw23.HostBinds', WHERE WHAT IT READS IS OF BULK AT MOST 1048576: true; the input reads as it did. -/
def hostBindsUptoRow : OpenClaim := { program := "ytmadgnfnljnggaa", sum := "b8a00941215b48dde9c3f94250c8c881954e6deda4f6326c7acc6415b81912aa", func := "chrysalis/chrysalislaw23.HostBinds", spec := "hostBinds", apart := false, narrowed := true }
def HostBindsUptoSaid : Prop := hostBindsUptoRow.holds Try.pinned (OpenSpec.upto hostBindsSpec)

/-- 'chrysalislaw23.HostMore', WHERE WHAT IT READS IS OF BULK AT MOST 1048576: true; the input reads as it did. -/
def hostMoreUptoRow : OpenClaim := { program := "ytmadgnfnljnggaa", sum := "b8a00941215b48dde9c3f94250c8c881954e6deda4f6326c7acc6415b81912aa", func := "chrysalis/chrysalislaw23.HostMore", spec := "hostMore", apart := false, narrowed := true }
def HostMoreUptoSaid : Prop := hostMoreUptoRow.holds Try.pinned (OpenSpec.upto hostMoreSpec)

/-- 'chrysalislaw04.KindLeast', WHERE WHAT IT READS IS OF BULK AT MOST 1048576: true; the input reads as it did. -/
def kindLeastUptoRow : OpenClaim := { program := "ytmadgnfnljnggaa", sum := "b8a00941215b48dde9c3f94250c8c881954e6deda4f6326c7acc6415b81912aa", func := "chrysalis/chrysalislaw04.KindLeast", spec := "kindLeast", apart := false, narrowed := true }
def KindLeastUptoSaid : Prop := kindLeastUptoRow.holds Try.pinned (OpenSpec.upto kindLeastSpec)

/-- 'chrysalislaw04.KindChain', WHERE WHAT IT READS IS OF BULK AT MOST 1048576: true; the input reads as it did. -/
def kindChainUptoRow : OpenClaim := { program := "ytmadgnfnljnggaa", sum := "b8a00941215b48dde9c3f94250c8c881954e6deda4f6326c7acc6415b81912aa", func := "chrysalis/chrysalislaw04.KindChain", spec := "kindChain", apart := false, narrowed := true }
def KindChainUptoSaid : Prop := kindChainUptoRow.holds Try.pinned (OpenSpec.upto kindChainSpec)

/-- 'chrysalislaw04.KindThree', WHERE WHAT IT READS IS OF BULK AT MOST 1048576: true; the input reads as it did. -/
def kindThreeUptoRow : OpenClaim := { program := "ytmadgnfnljnggaa", sum := "b8a00941215b48dde9c3f94250c8c881954e6deda4f6326c7acc6415b81912aa", func := "chrysalis/chrysalislaw04.KindThree", spec := "kindThree", apart := false, narrowed := true }
def KindThreeUptoSaid : Prop := kindThreeUptoRow.holds Try.pinned (OpenSpec.upto kindThreeSpec)

/-- 'chrysalislaw23.HostNeeds', WHERE WHAT IT READS IS OF BULK AT MOST 1048576: true; the input reads as it did. -/
def hostNeedsUptoRow : OpenClaim := { program := "ytmadgnfnljnggaa", sum := "b8a00941215b48dde9c3f94250c8c881954e6deda4f6326c7acc6415b81912aa", func := "chrysalis/chrysalislaw23.HostNeeds", spec := "hostNeeds", apart := false, narrowed := true }
def HostNeedsUptoSaid : Prop := hostNeedsUptoRow.holds Try.pinned (OpenSpec.upto hostNeedsSpec)

/-- 'chrysalislaw23.HostBits', WHERE WHAT IT READS IS OF BULK AT MOST 1048576: true; the input reads as it did. -/
def hostBitsUptoRow : OpenClaim := { program := "ytmadgnfnljnggaa", sum := "b8a00941215b48dde9c3f94250c8c881954e6deda4f6326c7acc6415b81912aa", func := "chrysalis/chrysalislaw23.HostBits", spec := "hostBits", apart := false, narrowed := true }
def HostBitsUptoSaid : Prop := hostBitsUptoRow.holds Try.pinned (OpenSpec.upto hostBitsSpec)

/-- 'chrysalislaw04.KindTypes', WHERE WHAT IT READS IS OF BULK AT MOST 1048576: true; the input reads as it did. -/
def kindTypesUptoRow : OpenClaim := { program := "ytmadgnfnljnggaa", sum := "b8a00941215b48dde9c3f94250c8c881954e6deda4f6326c7acc6415b81912aa", func := "chrysalis/chrysalislaw04.KindTypes", spec := "kindTypes", apart := false, narrowed := true }
def KindTypesUptoSaid : Prop := kindTypesUptoRow.holds Try.pinned (OpenSpec.upto kindTypesSpec)

/-- 'chrysalislaw13.HansPlays', WHERE WHAT IT READS IS OF BULK AT MOST 1048576: true; the input reads as it did. -/
def hansPlaysUptoRow : OpenClaim := { program := "ytmadgnfnljnggaa", sum := "b8a00941215b48dde9c3f94250c8c881954e6deda4f6326c7acc6415b81912aa", func := "chrysalis/chrysalislaw13.HansPlays", spec := "hansPlays", apart := false, narrowed := true }
def HansPlaysUptoSaid : Prop := hansPlaysUptoRow.holds Try.pinned (OpenSpec.upto hansPlaysSpec)

/-- 'chrysalislaw13.HansNone', WHERE WHAT IT READS IS OF BULK AT MOST 1048576: true; the input reads as it did. -/
def hansNoneUptoRow : OpenClaim := { program := "ytmadgnfnljnggaa", sum := "b8a00941215b48dde9c3f94250c8c881954e6deda4f6326c7acc6415b81912aa", func := "chrysalis/chrysalislaw13.HansNone", spec := "hansNone", apart := false, narrowed := true }
def HansNoneUptoSaid : Prop := hansNoneUptoRow.holds Try.pinned (OpenSpec.upto hansNoneSpec)

/-- 'chrysalislaw13.HansFull', WHERE WHAT IT READS IS OF BULK AT MOST 1048576: true; the input reads as it did. -/
def hansFullUptoRow : OpenClaim := { program := "ytmadgnfnljnggaa", sum := "b8a00941215b48dde9c3f94250c8c881954e6deda4f6326c7acc6415b81912aa", func := "chrysalis/chrysalislaw13.HansFull", spec := "hansFull", apart := false, narrowed := true }
def HansFullUptoSaid : Prop := hansFullUptoRow.holds Try.pinned (OpenSpec.upto hansFullSpec)

/-- 'chrysalislaw13.HansOwn', WHERE WHAT IT READS IS OF BULK AT MOST 1048576: true; the input reads as it did. -/
def hansOwnUptoRow : OpenClaim := { program := "ytmadgnfnljnggaa", sum := "b8a00941215b48dde9c3f94250c8c881954e6deda4f6326c7acc6415b81912aa", func := "chrysalis/chrysalislaw13.HansOwn", spec := "hansOwn", apart := false, narrowed := true }
def HansOwnUptoSaid : Prop := hansOwnUptoRow.holds Try.pinned (OpenSpec.upto hansOwnSpec)

/-- 'chrysalislaw04.KindBytes', WHERE WHAT IT READS IS OF BULK AT MOST 1048576: true; the input reads as it did. -/
def kindBytesUptoRow : OpenClaim := { program := "ytmadgnfnljnggaa", sum := "b8a00941215b48dde9c3f94250c8c881954e6deda4f6326c7acc6415b81912aa", func := "chrysalis/chrysalislaw04.KindBytes", spec := "kindBytes", recurses := true, apart := false, narrowed := true }
def KindBytesUptoSaid : Prop := kindBytesUptoRow.holds Try.pinned (OpenSpec.upto kindBytesSpec)

end Rows
end Go.Proofs.Ytmadgnfnljnggaa
