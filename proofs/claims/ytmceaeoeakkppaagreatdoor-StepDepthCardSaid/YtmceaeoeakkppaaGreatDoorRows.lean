/-
  NARROWER THAN 'FOR EVERY INPUT', by the rows' own cells (each row's printed sentence says how): StepLoads: laid · StepTraps: laid · StepDepth: laid · ExecDeep: laid · ExecFrom: laid · RunParts: laid · RunStops: laid · RunNever: laid · StepMoves: laid · ExecRuns: laid · ExecLoads: laid · ExecTurns: laid.
  DERIVED. THE GIVEN ROWS OF THIS SEAT. 12 by the template 'for every input the law returns true; each argument reads behind the call as it read before'; 0 by the template 'total and deterministic' (their statements: YtmceaeoeakkppaaGreatDoorTotals.lean).
  GIVEN WITH THE SEED: the statements are not yours to turn. If you find one false, say at which input.
  Laid BY PROGRAM, IN A SANDBOX (cutbox-rows.mjs): the forced cells as the released guide's own fill.sh prints them over the translation 637bb9d70e8f5000… (all of the seat's roots in one cut). By AI agents, Wed Nov 11 2026. No macro, syntax, notation, axiom, sorry.
-/
import Derived.Test.YtmceaeoeakkppaaGreatDoorChecked
import GoSem.Claim
import GoSem.ClaimJoined
import GoSem.ClaimMapViews
import Derived.JoinedTies
import Derived.KernelRfl
namespace Go.Proofs.YtmceaeoeakkppaaGreatDoor
/- THE CELL 'sum', in the pinned program and in every row, IS THE sha256 OF THE DUMP (.gsa) THAT YtmceaeoeakkppaaGreatDoorProg.lean LOADS. Nothing in Lean hashes anything: it is a label: what it is worth is what the hold of that sum in a sandbox is worth. -/
noncomputable def Tryz.pinned : Pinned := { name := "ytmceaeoeakkppaagreatdoor", sum := "637bb9d70e8f500012f42f6535ae041122580fdc4f2707d8dcb0b7ab81cef696", checked := Tryz.checked }
namespace Rows
def none {H : Type} : Left H := { results := [], args := [] }

/- WHAT THE LISTED PACKAGE-LEVEL VARIABLES READ AS WHEN THE CALL BEGINS. Each datum BY PROGRAM (the guide's laid-datum.mjs) off the statement by which the dump's own 'gosem.cut.vars' lays the variable. In a bare row this is a premise. The card (YtmceaeoeakkppaaGreatDoorCards.lean) ties it to the program's text. -/
def laid_chrysalis_flow_number {H : Type} : DataW H := .agg [.lit (.int .i64 1), .lit (.int .i64 0)]
def laid_chrysalis_flow_octets {H : Type} : DataW H := .agg [.lit (.int .i64 2), .lit (.int .i64 0)]
def laid_chrysalis_flow_words {H : Type} : DataW H := .agg [.lit (.int .i64 3), .lit (.int .i64 0)]
def laid_chrysalis_flow_refs {H : Type} : DataW H := .agg [.lit (.int .i64 7), .lit (.int .i64 0)]
def laid_chrysalis_flow_use {H : Type} : DataW H := .agg [.lit (.int .i64 8), .lit (.int .i64 0)]

/-- 'chrysalislaw15.StepLoads': WHATEVER THE INPUT: true; the input reads as it did. -/
def stepLoadsSpec : ChangeSpec := { name := "stepLoads", fn := fun _ => fun
  | [d1, d2, d3] => { results := [.lit (.bool true)], args := [d1, d2, d3] }
  | _ => none }
def stepLoadsRow : OpenClaim := { program := "ytmceaeoeakkppaagreatdoor", sum := "637bb9d70e8f500012f42f6535ae041122580fdc4f2707d8dcb0b7ab81cef696", func := "chrysalis/chrysalislaw15.StepLoads", spec := "stepLoads", unfollowed := true, recurses := true, named := ["chrysalis/flow.use", "chrysalis/flow.number", "chrysalis/flow.words", "chrysalis/flow.octets", "chrysalis/flow.refs"], apart := false, laid := [("chrysalis/flow.number", laid_chrysalis_flow_number), ("chrysalis/flow.octets", laid_chrysalis_flow_octets), ("chrysalis/flow.words", laid_chrysalis_flow_words), ("chrysalis/flow.refs", laid_chrysalis_flow_refs), ("chrysalis/flow.use", laid_chrysalis_flow_use)] }
def StepLoadsSaid : Prop := stepLoadsRow.holds Tryz.pinned (OpenSpec.ofChange stepLoadsSpec)

/-- ITS FALSE NEIGHBOUR: 'it returns false'. Refute it at one input. -/
def stepLoadsWrong : ChangeSpec := { name := "stepLoads", fn := fun _ => fun
  | [d1, d2, d3] => { results := [.lit (.bool false)], args := [d1, d2, d3] }
  | _ => none }
def StepLoadsWrongFalsely : Prop := stepLoadsRow.holds Tryz.pinned (OpenSpec.ofChange stepLoadsWrong)

/-- 'chrysalislaw15.StepTraps': WHATEVER THE INPUT: true; the input reads as it did. -/
def stepTrapsSpec : ChangeSpec := { name := "stepTraps", fn := fun _ => fun
  | [d1, d2] => { results := [.lit (.bool true)], args := [d1, d2] }
  | _ => none }
def stepTrapsRow : OpenClaim := { program := "ytmceaeoeakkppaagreatdoor", sum := "637bb9d70e8f500012f42f6535ae041122580fdc4f2707d8dcb0b7ab81cef696", func := "chrysalis/chrysalislaw15.StepTraps", spec := "stepTraps", unfollowed := true, recurses := true, named := ["chrysalis/flow.use", "chrysalis/flow.number", "chrysalis/flow.words", "chrysalis/flow.octets", "chrysalis/flow.refs"], apart := false, laid := [("chrysalis/flow.number", laid_chrysalis_flow_number), ("chrysalis/flow.octets", laid_chrysalis_flow_octets), ("chrysalis/flow.words", laid_chrysalis_flow_words), ("chrysalis/flow.refs", laid_chrysalis_flow_refs), ("chrysalis/flow.use", laid_chrysalis_flow_use)] }
def StepTrapsSaid : Prop := stepTrapsRow.holds Tryz.pinned (OpenSpec.ofChange stepTrapsSpec)

/-- ITS FALSE NEIGHBOUR: 'it returns false'. Refute it at one input. -/
def stepTrapsWrong : ChangeSpec := { name := "stepTraps", fn := fun _ => fun
  | [d1, d2] => { results := [.lit (.bool false)], args := [d1, d2] }
  | _ => none }
def StepTrapsWrongFalsely : Prop := stepTrapsRow.holds Tryz.pinned (OpenSpec.ofChange stepTrapsWrong)

/-- 'chrysalislaw15.StepDepth': WHATEVER THE INPUT: true; the input reads as it did. -/
def stepDepthSpec : ChangeSpec := { name := "stepDepth", fn := fun _ => fun
  | [d] => { results := [.lit (.bool true)], args := [d] }
  | _ => none }
def stepDepthRow : OpenClaim := { program := "ytmceaeoeakkppaagreatdoor", sum := "637bb9d70e8f500012f42f6535ae041122580fdc4f2707d8dcb0b7ab81cef696", func := "chrysalis/chrysalislaw15.StepDepth", spec := "stepDepth", unfollowed := true, recurses := true, named := ["chrysalis/flow.use", "chrysalis/flow.number", "chrysalis/flow.words", "chrysalis/flow.octets", "chrysalis/flow.refs"], apart := false, laid := [("chrysalis/flow.number", laid_chrysalis_flow_number), ("chrysalis/flow.octets", laid_chrysalis_flow_octets), ("chrysalis/flow.words", laid_chrysalis_flow_words), ("chrysalis/flow.refs", laid_chrysalis_flow_refs), ("chrysalis/flow.use", laid_chrysalis_flow_use)] }
def StepDepthSaid : Prop := stepDepthRow.holds Tryz.pinned (OpenSpec.ofChange stepDepthSpec)

/-- ITS FALSE NEIGHBOUR: 'it returns false'. Refute it at one input. -/
def stepDepthWrong : ChangeSpec := { name := "stepDepth", fn := fun _ => fun
  | [d] => { results := [.lit (.bool false)], args := [d] }
  | _ => none }
def StepDepthWrongFalsely : Prop := stepDepthRow.holds Tryz.pinned (OpenSpec.ofChange stepDepthWrong)

/-- 'chrysalislaw18.ExecDeep': WHATEVER THE INPUT: true; the input reads as it did. -/
def execDeepSpec : ChangeSpec := { name := "execDeep", fn := fun _ => fun
  | [d1, d2, d3] => { results := [.lit (.bool true)], args := [d1, d2, d3] }
  | _ => none }
def execDeepRow : OpenClaim := { program := "ytmceaeoeakkppaagreatdoor", sum := "637bb9d70e8f500012f42f6535ae041122580fdc4f2707d8dcb0b7ab81cef696", func := "chrysalis/chrysalislaw18.ExecDeep", spec := "execDeep", unfollowed := true, recurses := true, named := ["chrysalis/flow.use", "chrysalis/flow.number", "chrysalis/flow.words", "chrysalis/flow.octets", "chrysalis/flow.refs"], apart := false, laid := [("chrysalis/flow.number", laid_chrysalis_flow_number), ("chrysalis/flow.octets", laid_chrysalis_flow_octets), ("chrysalis/flow.words", laid_chrysalis_flow_words), ("chrysalis/flow.refs", laid_chrysalis_flow_refs), ("chrysalis/flow.use", laid_chrysalis_flow_use)] }
def ExecDeepSaid : Prop := execDeepRow.holds Tryz.pinned (OpenSpec.ofChange execDeepSpec)

/-- ITS FALSE NEIGHBOUR: 'it returns false'. Refute it at one input. -/
def execDeepWrong : ChangeSpec := { name := "execDeep", fn := fun _ => fun
  | [d1, d2, d3] => { results := [.lit (.bool false)], args := [d1, d2, d3] }
  | _ => none }
def ExecDeepWrongFalsely : Prop := execDeepRow.holds Tryz.pinned (OpenSpec.ofChange execDeepWrong)

/-- 'chrysalislaw18.ExecFrom': WHATEVER THE INPUT: true; the input reads as it did. -/
def execFromSpec : ChangeSpec := { name := "execFrom", fn := fun _ => fun
  | [d1, d2, d3] => { results := [.lit (.bool true)], args := [d1, d2, d3] }
  | _ => none }
def execFromRow : OpenClaim := { program := "ytmceaeoeakkppaagreatdoor", sum := "637bb9d70e8f500012f42f6535ae041122580fdc4f2707d8dcb0b7ab81cef696", func := "chrysalis/chrysalislaw18.ExecFrom", spec := "execFrom", unfollowed := true, recurses := true, named := ["chrysalis/flow.use", "chrysalis/flow.number", "chrysalis/flow.words", "chrysalis/flow.octets", "chrysalis/flow.refs"], apart := false, laid := [("chrysalis/flow.number", laid_chrysalis_flow_number), ("chrysalis/flow.octets", laid_chrysalis_flow_octets), ("chrysalis/flow.words", laid_chrysalis_flow_words), ("chrysalis/flow.refs", laid_chrysalis_flow_refs), ("chrysalis/flow.use", laid_chrysalis_flow_use)] }
def ExecFromSaid : Prop := execFromRow.holds Tryz.pinned (OpenSpec.ofChange execFromSpec)

/-- ITS FALSE NEIGHBOUR: 'it returns false'. Refute it at one input. -/
def execFromWrong : ChangeSpec := { name := "execFrom", fn := fun _ => fun
  | [d1, d2, d3] => { results := [.lit (.bool false)], args := [d1, d2, d3] }
  | _ => none }
def ExecFromWrongFalsely : Prop := execFromRow.holds Tryz.pinned (OpenSpec.ofChange execFromWrong)

/-- 'chrysalislaw16.RunParts': WHATEVER THE INPUT: true; the input reads as it did. -/
def runPartsSpec : ChangeSpec := { name := "runParts", fn := fun _ => fun
  | [d1, d2, d3, d4] => { results := [.lit (.bool true)], args := [d1, d2, d3, d4] }
  | _ => none }
def runPartsRow : OpenClaim := { program := "ytmceaeoeakkppaagreatdoor", sum := "637bb9d70e8f500012f42f6535ae041122580fdc4f2707d8dcb0b7ab81cef696", func := "chrysalis/chrysalislaw16.RunParts", spec := "runParts", unfollowed := true, recurses := true, named := ["chrysalis/flow.use", "chrysalis/flow.number", "chrysalis/flow.words", "chrysalis/flow.octets", "chrysalis/flow.refs"], apart := false, laid := [("chrysalis/flow.number", laid_chrysalis_flow_number), ("chrysalis/flow.octets", laid_chrysalis_flow_octets), ("chrysalis/flow.words", laid_chrysalis_flow_words), ("chrysalis/flow.refs", laid_chrysalis_flow_refs), ("chrysalis/flow.use", laid_chrysalis_flow_use)] }
def RunPartsSaid : Prop := runPartsRow.holds Tryz.pinned (OpenSpec.ofChange runPartsSpec)

/-- ITS FALSE NEIGHBOUR: 'it returns false'. Refute it at one input. -/
def runPartsWrong : ChangeSpec := { name := "runParts", fn := fun _ => fun
  | [d1, d2, d3, d4] => { results := [.lit (.bool false)], args := [d1, d2, d3, d4] }
  | _ => none }
def RunPartsWrongFalsely : Prop := runPartsRow.holds Tryz.pinned (OpenSpec.ofChange runPartsWrong)

/-- 'chrysalislaw16.RunStops': WHATEVER THE INPUT: true; the input reads as it did. -/
def runStopsSpec : ChangeSpec := { name := "runStops", fn := fun _ => fun
  | [d1, d2] => { results := [.lit (.bool true)], args := [d1, d2] }
  | _ => none }
def runStopsRow : OpenClaim := { program := "ytmceaeoeakkppaagreatdoor", sum := "637bb9d70e8f500012f42f6535ae041122580fdc4f2707d8dcb0b7ab81cef696", func := "chrysalis/chrysalislaw16.RunStops", spec := "runStops", unfollowed := true, recurses := true, named := ["chrysalis/flow.use", "chrysalis/flow.number", "chrysalis/flow.words", "chrysalis/flow.octets", "chrysalis/flow.refs"], apart := false, laid := [("chrysalis/flow.number", laid_chrysalis_flow_number), ("chrysalis/flow.octets", laid_chrysalis_flow_octets), ("chrysalis/flow.words", laid_chrysalis_flow_words), ("chrysalis/flow.refs", laid_chrysalis_flow_refs), ("chrysalis/flow.use", laid_chrysalis_flow_use)] }
def RunStopsSaid : Prop := runStopsRow.holds Tryz.pinned (OpenSpec.ofChange runStopsSpec)

/-- ITS FALSE NEIGHBOUR: 'it returns false'. Refute it at one input. -/
def runStopsWrong : ChangeSpec := { name := "runStops", fn := fun _ => fun
  | [d1, d2] => { results := [.lit (.bool false)], args := [d1, d2] }
  | _ => none }
def RunStopsWrongFalsely : Prop := runStopsRow.holds Tryz.pinned (OpenSpec.ofChange runStopsWrong)

/-- 'chrysalislaw16.RunNever': WHATEVER THE INPUT: true; the input reads as it did. -/
def runNeverSpec : ChangeSpec := { name := "runNever", fn := fun _ => fun
  | [d1, d2, d3, d4] => { results := [.lit (.bool true)], args := [d1, d2, d3, d4] }
  | _ => none }
def runNeverRow : OpenClaim := { program := "ytmceaeoeakkppaagreatdoor", sum := "637bb9d70e8f500012f42f6535ae041122580fdc4f2707d8dcb0b7ab81cef696", func := "chrysalis/chrysalislaw16.RunNever", spec := "runNever", unfollowed := true, recurses := true, named := ["chrysalis/flow.use", "chrysalis/flow.number", "chrysalis/flow.words", "chrysalis/flow.octets", "chrysalis/flow.refs"], apart := false, laid := [("chrysalis/flow.number", laid_chrysalis_flow_number), ("chrysalis/flow.octets", laid_chrysalis_flow_octets), ("chrysalis/flow.words", laid_chrysalis_flow_words), ("chrysalis/flow.refs", laid_chrysalis_flow_refs), ("chrysalis/flow.use", laid_chrysalis_flow_use)] }
def RunNeverSaid : Prop := runNeverRow.holds Tryz.pinned (OpenSpec.ofChange runNeverSpec)

/-- ITS FALSE NEIGHBOUR: 'it returns false'. Refute it at one input. -/
def runNeverWrong : ChangeSpec := { name := "runNever", fn := fun _ => fun
  | [d1, d2, d3, d4] => { results := [.lit (.bool false)], args := [d1, d2, d3, d4] }
  | _ => none }
def RunNeverWrongFalsely : Prop := runNeverRow.holds Tryz.pinned (OpenSpec.ofChange runNeverWrong)

/-- 'chrysalislaw15.StepMoves': WHATEVER THE INPUT: true; the input reads as it did. -/
def stepMovesSpec : ChangeSpec := { name := "stepMoves", fn := fun _ => fun
  | [d1, d2, d3, d4] => { results := [.lit (.bool true)], args := [d1, d2, d3, d4] }
  | _ => none }
def stepMovesRow : OpenClaim := { program := "ytmceaeoeakkppaagreatdoor", sum := "637bb9d70e8f500012f42f6535ae041122580fdc4f2707d8dcb0b7ab81cef696", func := "chrysalis/chrysalislaw15.StepMoves", spec := "stepMoves", unfollowed := true, recurses := true, named := ["chrysalis/flow.use", "chrysalis/flow.number", "chrysalis/flow.words", "chrysalis/flow.octets", "chrysalis/flow.refs"], apart := false, laid := [("chrysalis/flow.number", laid_chrysalis_flow_number), ("chrysalis/flow.octets", laid_chrysalis_flow_octets), ("chrysalis/flow.words", laid_chrysalis_flow_words), ("chrysalis/flow.refs", laid_chrysalis_flow_refs), ("chrysalis/flow.use", laid_chrysalis_flow_use)] }
def StepMovesSaid : Prop := stepMovesRow.holds Tryz.pinned (OpenSpec.ofChange stepMovesSpec)

/-- ITS FALSE NEIGHBOUR: 'it returns false'. Refute it at one input. -/
def stepMovesWrong : ChangeSpec := { name := "stepMoves", fn := fun _ => fun
  | [d1, d2, d3, d4] => { results := [.lit (.bool false)], args := [d1, d2, d3, d4] }
  | _ => none }
def StepMovesWrongFalsely : Prop := stepMovesRow.holds Tryz.pinned (OpenSpec.ofChange stepMovesWrong)

/-- 'chrysalislaw18.ExecRuns': WHATEVER THE INPUT: true; the input reads as it did. -/
def execRunsSpec : ChangeSpec := { name := "execRuns", fn := fun _ => fun
  | [d1, d2, d3, d4] => { results := [.lit (.bool true)], args := [d1, d2, d3, d4] }
  | _ => none }
def execRunsRow : OpenClaim := { program := "ytmceaeoeakkppaagreatdoor", sum := "637bb9d70e8f500012f42f6535ae041122580fdc4f2707d8dcb0b7ab81cef696", func := "chrysalis/chrysalislaw18.ExecRuns", spec := "execRuns", unfollowed := true, recurses := true, named := ["chrysalis/flow.use", "chrysalis/flow.number", "chrysalis/flow.words", "chrysalis/flow.octets", "chrysalis/flow.refs"], apart := false, laid := [("chrysalis/flow.number", laid_chrysalis_flow_number), ("chrysalis/flow.octets", laid_chrysalis_flow_octets), ("chrysalis/flow.words", laid_chrysalis_flow_words), ("chrysalis/flow.refs", laid_chrysalis_flow_refs), ("chrysalis/flow.use", laid_chrysalis_flow_use)] }
def ExecRunsSaid : Prop := execRunsRow.holds Tryz.pinned (OpenSpec.ofChange execRunsSpec)

/-- ITS FALSE NEIGHBOUR: 'it returns false'. Refute it at one input. -/
def execRunsWrong : ChangeSpec := { name := "execRuns", fn := fun _ => fun
  | [d1, d2, d3, d4] => { results := [.lit (.bool false)], args := [d1, d2, d3, d4] }
  | _ => none }
def ExecRunsWrongFalsely : Prop := execRunsRow.holds Tryz.pinned (OpenSpec.ofChange execRunsWrong)

/-- 'chrysalislaw18.ExecLoads': WHATEVER THE INPUT: true; the input reads as it did. -/
def execLoadsSpec : ChangeSpec := { name := "execLoads", fn := fun _ => fun
  | [d1, d2] => { results := [.lit (.bool true)], args := [d1, d2] }
  | _ => none }
def execLoadsRow : OpenClaim := { program := "ytmceaeoeakkppaagreatdoor", sum := "637bb9d70e8f500012f42f6535ae041122580fdc4f2707d8dcb0b7ab81cef696", func := "chrysalis/chrysalislaw18.ExecLoads", spec := "execLoads", unfollowed := true, recurses := true, named := ["chrysalis/flow.use", "chrysalis/flow.number", "chrysalis/flow.words", "chrysalis/flow.octets", "chrysalis/flow.refs"], apart := false, laid := [("chrysalis/flow.number", laid_chrysalis_flow_number), ("chrysalis/flow.octets", laid_chrysalis_flow_octets), ("chrysalis/flow.words", laid_chrysalis_flow_words), ("chrysalis/flow.refs", laid_chrysalis_flow_refs), ("chrysalis/flow.use", laid_chrysalis_flow_use)] }
def ExecLoadsSaid : Prop := execLoadsRow.holds Tryz.pinned (OpenSpec.ofChange execLoadsSpec)

/-- ITS FALSE NEIGHBOUR: 'it returns false'. Refute it at one input. -/
def execLoadsWrong : ChangeSpec := { name := "execLoads", fn := fun _ => fun
  | [d1, d2] => { results := [.lit (.bool false)], args := [d1, d2] }
  | _ => none }
def ExecLoadsWrongFalsely : Prop := execLoadsRow.holds Tryz.pinned (OpenSpec.ofChange execLoadsWrong)

/-- 'chrysalislaw18.ExecTurns': WHATEVER THE INPUT: true; the input reads as it did. -/
def execTurnsSpec : ChangeSpec := { name := "execTurns", fn := fun _ => fun
  | [d1, d2, d3, d4] => { results := [.lit (.bool true)], args := [d1, d2, d3, d4] }
  | _ => none }
def execTurnsRow : OpenClaim := { program := "ytmceaeoeakkppaagreatdoor", sum := "637bb9d70e8f500012f42f6535ae041122580fdc4f2707d8dcb0b7ab81cef696", func := "chrysalis/chrysalislaw18.ExecTurns", spec := "execTurns", unfollowed := true, recurses := true, named := ["chrysalis/flow.use", "chrysalis/flow.number", "chrysalis/flow.words", "chrysalis/flow.octets", "chrysalis/flow.refs"], apart := false, laid := [("chrysalis/flow.number", laid_chrysalis_flow_number), ("chrysalis/flow.octets", laid_chrysalis_flow_octets), ("chrysalis/flow.words", laid_chrysalis_flow_words), ("chrysalis/flow.refs", laid_chrysalis_flow_refs), ("chrysalis/flow.use", laid_chrysalis_flow_use)] }
def ExecTurnsSaid : Prop := execTurnsRow.holds Tryz.pinned (OpenSpec.ofChange execTurnsSpec)

/-- ITS FALSE NEIGHBOUR: 'it returns false'. Refute it at one input. -/
def execTurnsWrong : ChangeSpec := { name := "execTurns", fn := fun _ => fun
  | [d1, d2, d3, d4] => { results := [.lit (.bool false)], args := [d1, d2, d3, d4] }
  | _ => none }
def ExecTurnsWrongFalsely : Prop := execTurnsRow.holds Tryz.pinned (OpenSpec.ofChange execTurnsWrong)

/- THE SECOND FORM. 'bulk': how many values and letters a reading holds, each counted each time it is reached (what is shared counts as often as it is met; a slice's spare places count too). A statement '..UptoSaid' is the law's where the arguments, and the package variables that the reading takes, are together of bulk at most 1048576: NARROWER than '..Said'. Prove '..Said' where nothing that the law and all that it calls make is longer than what came in: it says more and counts as full. Else prove '..UptoSaid'. A law counts once. -/
mutual
def uptoBulk {H : Type} : DataW H → Nat
  | .lit (.string bytes) => bytes.length + 1
  | .lit _ => 1
  | .nil => 1
  | .ptr d => uptoBulk d + 1
  | .slice elems spare => uptoBulkAll elems + uptoBulkAll spare + 1
  | .agg parts => uptoBulkAll parts + 1
  | .iface _ d => uptoBulk d + 1
  | .map entries => uptoBulkEntries entries + 1
  | .held _ => 1
def uptoBulkAll {H : Type} : List (DataW H) → Nat
  | [] => 0
  | d :: r => uptoBulk d + uptoBulkAll r
def uptoBulkEntries {H : Type} : List (Lit × DataW H) → Nat
  | [] => 0
  | x :: r => uptoBulkEntry x + uptoBulkEntries r
def uptoBulkEntry {H : Type} : Lit × DataW H → Nat
  | (.string bytes, d) => bytes.length + uptoBulk d + 1
  | (_, d) => uptoBulk d + 1
 end
def uptoSmall : (H : Type) → List (DataW H) → Bool := fun _ ds => decide (uptoBulkAll ds ≤ 1048576)
def OpenSpec.upto (s : _root_.Go.ChangeSpec) : _root_.Go.OpenSpec := { _root_.Go.OpenSpec.ofChange s with cond := some uptoSmall }

/-- 'chrysalislaw15.StepLoads', WHERE WHAT IT READS IS OF BULK AT MOST 1048576: true; the input reads as it did. -/
def stepLoadsUptoRow : OpenClaim := { program := "ytmceaeoeakkppaagreatdoor", sum := "637bb9d70e8f500012f42f6535ae041122580fdc4f2707d8dcb0b7ab81cef696", func := "chrysalis/chrysalislaw15.StepLoads", spec := "stepLoads", unfollowed := true, recurses := true, named := ["chrysalis/flow.use", "chrysalis/flow.number", "chrysalis/flow.words", "chrysalis/flow.octets", "chrysalis/flow.refs"], apart := false, laid := [("chrysalis/flow.number", laid_chrysalis_flow_number), ("chrysalis/flow.octets", laid_chrysalis_flow_octets), ("chrysalis/flow.words", laid_chrysalis_flow_words), ("chrysalis/flow.refs", laid_chrysalis_flow_refs), ("chrysalis/flow.use", laid_chrysalis_flow_use)], narrowed := true }
def StepLoadsUptoSaid : Prop := stepLoadsUptoRow.holds Tryz.pinned (OpenSpec.upto stepLoadsSpec)

/-- 'chrysalislaw15.StepTraps', WHERE WHAT IT READS IS OF BULK AT MOST 1048576: true; the input reads as it did. -/
def stepTrapsUptoRow : OpenClaim := { program := "ytmceaeoeakkppaagreatdoor", sum := "637bb9d70e8f500012f42f6535ae041122580fdc4f2707d8dcb0b7ab81cef696", func := "chrysalis/chrysalislaw15.StepTraps", spec := "stepTraps", unfollowed := true, recurses := true, named := ["chrysalis/flow.use", "chrysalis/flow.number", "chrysalis/flow.words", "chrysalis/flow.octets", "chrysalis/flow.refs"], apart := false, laid := [("chrysalis/flow.number", laid_chrysalis_flow_number), ("chrysalis/flow.octets", laid_chrysalis_flow_octets), ("chrysalis/flow.words", laid_chrysalis_flow_words), ("chrysalis/flow.refs", laid_chrysalis_flow_refs), ("chrysalis/flow.use", laid_chrysalis_flow_use)], narrowed := true }
def StepTrapsUptoSaid : Prop := stepTrapsUptoRow.holds Tryz.pinned (OpenSpec.upto stepTrapsSpec)

/-- 'chrysalislaw15.StepDepth', WHERE WHAT IT READS IS OF BULK AT MOST 1048576: true; the input reads as it did. -/
def stepDepthUptoRow : OpenClaim := { program := "ytmceaeoeakkppaagreatdoor", sum := "637bb9d70e8f500012f42f6535ae041122580fdc4f2707d8dcb0b7ab81cef696", func := "chrysalis/chrysalislaw15.StepDepth", spec := "stepDepth", unfollowed := true, recurses := true, named := ["chrysalis/flow.use", "chrysalis/flow.number", "chrysalis/flow.words", "chrysalis/flow.octets", "chrysalis/flow.refs"], apart := false, laid := [("chrysalis/flow.number", laid_chrysalis_flow_number), ("chrysalis/flow.octets", laid_chrysalis_flow_octets), ("chrysalis/flow.words", laid_chrysalis_flow_words), ("chrysalis/flow.refs", laid_chrysalis_flow_refs), ("chrysalis/flow.use", laid_chrysalis_flow_use)], narrowed := true }
def StepDepthUptoSaid : Prop := stepDepthUptoRow.holds Tryz.pinned (OpenSpec.upto stepDepthSpec)

/-- 'chrysalislaw18.ExecDeep', WHERE WHAT IT READS IS OF BULK AT MOST 1048576: true; the input reads as it did. -/
def execDeepUptoRow : OpenClaim := { program := "ytmceaeoeakkppaagreatdoor", sum := "637bb9d70e8f500012f42f6535ae041122580fdc4f2707d8dcb0b7ab81cef696", func := "chrysalis/chrysalislaw18.ExecDeep", spec := "execDeep", unfollowed := true, recurses := true, named := ["chrysalis/flow.use", "chrysalis/flow.number", "chrysalis/flow.words", "chrysalis/flow.octets", "chrysalis/flow.refs"], apart := false, laid := [("chrysalis/flow.number", laid_chrysalis_flow_number), ("chrysalis/flow.octets", laid_chrysalis_flow_octets), ("chrysalis/flow.words", laid_chrysalis_flow_words), ("chrysalis/flow.refs", laid_chrysalis_flow_refs), ("chrysalis/flow.use", laid_chrysalis_flow_use)], narrowed := true }
def ExecDeepUptoSaid : Prop := execDeepUptoRow.holds Tryz.pinned (OpenSpec.upto execDeepSpec)

/-- 'chrysalislaw18.ExecFrom', WHERE WHAT IT READS IS OF BULK AT MOST 1048576: true; the input reads as it did. -/
def execFromUptoRow : OpenClaim := { program := "ytmceaeoeakkppaagreatdoor", sum := "637bb9d70e8f500012f42f6535ae041122580fdc4f2707d8dcb0b7ab81cef696", func := "chrysalis/chrysalislaw18.ExecFrom", spec := "execFrom", unfollowed := true, recurses := true, named := ["chrysalis/flow.use", "chrysalis/flow.number", "chrysalis/flow.words", "chrysalis/flow.octets", "chrysalis/flow.refs"], apart := false, laid := [("chrysalis/flow.number", laid_chrysalis_flow_number), ("chrysalis/flow.octets", laid_chrysalis_flow_octets), ("chrysalis/flow.words", laid_chrysalis_flow_words), ("chrysalis/flow.refs", laid_chrysalis_flow_refs), ("chrysalis/flow.use", laid_chrysalis_flow_use)], narrowed := true }
def ExecFromUptoSaid : Prop := execFromUptoRow.holds Tryz.pinned (OpenSpec.upto execFromSpec)

/-- 'chrysalislaw16.RunParts', WHERE WHAT IT READS IS OF BULK AT MOST 1048576: true; the input reads as it did. -/
def runPartsUptoRow : OpenClaim := { program := "ytmceaeoeakkppaagreatdoor", sum := "637bb9d70e8f500012f42f6535ae041122580fdc4f2707d8dcb0b7ab81cef696", func := "chrysalis/chrysalislaw16.RunParts", spec := "runParts", unfollowed := true, recurses := true, named := ["chrysalis/flow.use", "chrysalis/flow.number", "chrysalis/flow.words", "chrysalis/flow.octets", "chrysalis/flow.refs"], apart := false, laid := [("chrysalis/flow.number", laid_chrysalis_flow_number), ("chrysalis/flow.octets", laid_chrysalis_flow_octets), ("chrysalis/flow.words", laid_chrysalis_flow_words), ("chrysalis/flow.refs", laid_chrysalis_flow_refs), ("chrysalis/flow.use", laid_chrysalis_flow_use)], narrowed := true }
def RunPartsUptoSaid : Prop := runPartsUptoRow.holds Tryz.pinned (OpenSpec.upto runPartsSpec)

/-- 'chrysalislaw16.RunStops', WHERE WHAT IT READS IS OF BULK AT MOST 1048576: true; the input reads as it did. -/
def runStopsUptoRow : OpenClaim := { program := "ytmceaeoeakkppaagreatdoor", sum := "637bb9d70e8f500012f42f6535ae041122580fdc4f2707d8dcb0b7ab81cef696", func := "chrysalis/chrysalislaw16.RunStops", spec := "runStops", unfollowed := true, recurses := true, named := ["chrysalis/flow.use", "chrysalis/flow.number", "chrysalis/flow.words", "chrysalis/flow.octets", "chrysalis/flow.refs"], apart := false, laid := [("chrysalis/flow.number", laid_chrysalis_flow_number), ("chrysalis/flow.octets", laid_chrysalis_flow_octets), ("chrysalis/flow.words", laid_chrysalis_flow_words), ("chrysalis/flow.refs", laid_chrysalis_flow_refs), ("chrysalis/flow.use", laid_chrysalis_flow_use)], narrowed := true }
def RunStopsUptoSaid : Prop := runStopsUptoRow.holds Tryz.pinned (OpenSpec.upto runStopsSpec)

/-- 'chrysalislaw16.RunNever', WHERE WHAT IT READS IS OF BULK AT MOST 1048576: true; the input reads as it did. -/
def runNeverUptoRow : OpenClaim := { program := "ytmceaeoeakkppaagreatdoor", sum := "637bb9d70e8f500012f42f6535ae041122580fdc4f2707d8dcb0b7ab81cef696", func := "chrysalis/chrysalislaw16.RunNever", spec := "runNever", unfollowed := true, recurses := true, named := ["chrysalis/flow.use", "chrysalis/flow.number", "chrysalis/flow.words", "chrysalis/flow.octets", "chrysalis/flow.refs"], apart := false, laid := [("chrysalis/flow.number", laid_chrysalis_flow_number), ("chrysalis/flow.octets", laid_chrysalis_flow_octets), ("chrysalis/flow.words", laid_chrysalis_flow_words), ("chrysalis/flow.refs", laid_chrysalis_flow_refs), ("chrysalis/flow.use", laid_chrysalis_flow_use)], narrowed := true }
def RunNeverUptoSaid : Prop := runNeverUptoRow.holds Tryz.pinned (OpenSpec.upto runNeverSpec)

/-- 'chrysalislaw15.StepMoves', WHERE WHAT IT READS IS OF BULK AT MOST 1048576: true; the input reads as it did. -/
def stepMovesUptoRow : OpenClaim := { program := "ytmceaeoeakkppaagreatdoor", sum := "637bb9d70e8f500012f42f6535ae041122580fdc4f2707d8dcb0b7ab81cef696", func := "chrysalis/chrysalislaw15.StepMoves", spec := "stepMoves", unfollowed := true, recurses := true, named := ["chrysalis/flow.use", "chrysalis/flow.number", "chrysalis/flow.words", "chrysalis/flow.octets", "chrysalis/flow.refs"], apart := false, laid := [("chrysalis/flow.number", laid_chrysalis_flow_number), ("chrysalis/flow.octets", laid_chrysalis_flow_octets), ("chrysalis/flow.words", laid_chrysalis_flow_words), ("chrysalis/flow.refs", laid_chrysalis_flow_refs), ("chrysalis/flow.use", laid_chrysalis_flow_use)], narrowed := true }
def StepMovesUptoSaid : Prop := stepMovesUptoRow.holds Tryz.pinned (OpenSpec.upto stepMovesSpec)

/-- 'chrysalislaw18.ExecRuns', WHERE WHAT IT READS IS OF BULK AT MOST 1048576: true; the input reads as it did. -/
def execRunsUptoRow : OpenClaim := { program := "ytmceaeoeakkppaagreatdoor", sum := "637bb9d70e8f500012f42f6535ae041122580fdc4f2707d8dcb0b7ab81cef696", func := "chrysalis/chrysalislaw18.ExecRuns", spec := "execRuns", unfollowed := true, recurses := true, named := ["chrysalis/flow.use", "chrysalis/flow.number", "chrysalis/flow.words", "chrysalis/flow.octets", "chrysalis/flow.refs"], apart := false, laid := [("chrysalis/flow.number", laid_chrysalis_flow_number), ("chrysalis/flow.octets", laid_chrysalis_flow_octets), ("chrysalis/flow.words", laid_chrysalis_flow_words), ("chrysalis/flow.refs", laid_chrysalis_flow_refs), ("chrysalis/flow.use", laid_chrysalis_flow_use)], narrowed := true }
def ExecRunsUptoSaid : Prop := execRunsUptoRow.holds Tryz.pinned (OpenSpec.upto execRunsSpec)

/-- 'chrysalislaw18.ExecLoads', WHERE WHAT IT READS IS OF BULK AT MOST 1048576: true; the input reads as it did. -/
def execLoadsUptoRow : OpenClaim := { program := "ytmceaeoeakkppaagreatdoor", sum := "637bb9d70e8f500012f42f6535ae041122580fdc4f2707d8dcb0b7ab81cef696", func := "chrysalis/chrysalislaw18.ExecLoads", spec := "execLoads", unfollowed := true, recurses := true, named := ["chrysalis/flow.use", "chrysalis/flow.number", "chrysalis/flow.words", "chrysalis/flow.octets", "chrysalis/flow.refs"], apart := false, laid := [("chrysalis/flow.number", laid_chrysalis_flow_number), ("chrysalis/flow.octets", laid_chrysalis_flow_octets), ("chrysalis/flow.words", laid_chrysalis_flow_words), ("chrysalis/flow.refs", laid_chrysalis_flow_refs), ("chrysalis/flow.use", laid_chrysalis_flow_use)], narrowed := true }
def ExecLoadsUptoSaid : Prop := execLoadsUptoRow.holds Tryz.pinned (OpenSpec.upto execLoadsSpec)

/-- 'chrysalislaw18.ExecTurns', WHERE WHAT IT READS IS OF BULK AT MOST 1048576: true; the input reads as it did. -/
def execTurnsUptoRow : OpenClaim := { program := "ytmceaeoeakkppaagreatdoor", sum := "637bb9d70e8f500012f42f6535ae041122580fdc4f2707d8dcb0b7ab81cef696", func := "chrysalis/chrysalislaw18.ExecTurns", spec := "execTurns", unfollowed := true, recurses := true, named := ["chrysalis/flow.use", "chrysalis/flow.number", "chrysalis/flow.words", "chrysalis/flow.octets", "chrysalis/flow.refs"], apart := false, laid := [("chrysalis/flow.number", laid_chrysalis_flow_number), ("chrysalis/flow.octets", laid_chrysalis_flow_octets), ("chrysalis/flow.words", laid_chrysalis_flow_words), ("chrysalis/flow.refs", laid_chrysalis_flow_refs), ("chrysalis/flow.use", laid_chrysalis_flow_use)], narrowed := true }
def ExecTurnsUptoSaid : Prop := execTurnsUptoRow.holds Tryz.pinned (OpenSpec.upto execTurnsSpec)

end Rows
end Go.Proofs.YtmceaeoeakkppaaGreatDoor
