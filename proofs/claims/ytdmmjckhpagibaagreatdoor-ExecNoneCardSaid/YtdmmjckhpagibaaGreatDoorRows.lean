/-
  NARROWER THAN 'FOR EVERY INPUT', by the rows' own cells (each row's printed sentence says how): StepTraps: laid · StepDepth: laid · StepNone: laid · ExecDeep: laid · RunNone: laid · RunStops: laid · ExecNone: laid.
  DERIVED. THE GIVEN ROWS OF THIS SEAT. 7 by the template 'for every input the law returns true; each argument reads behind the call as it read before'; 0 by the template 'total and deterministic' (their statements: YtdmmjckhpagibaaGreatDoorTotals.lean).
  GIVEN WITH THE SEED: the statements are not yours to turn. If you find one false, say at which input.
  Laid BY PROGRAM, IN A SANDBOX (cutbox-rows.mjs): the forced cells as the released guide's own fill.sh prints them over the translation 45affaf79e610608… (all of the seat's roots in one cut). By AI agents, Wed Nov 11 2026. No macro, syntax, notation, axiom, sorry.
-/
import Derived.Test.YtdmmjckhpagibaaGreatDoorChecked
import GoSem.Claim
import GoSem.ClaimJoined
import GoSem.ClaimMapViews
import Derived.JoinedTies
import Derived.KernelRfl
namespace Go.Proofs.YtdmmjckhpagibaaGreatDoor
/- THE CELL 'sum', in the pinned program and in every row, IS THE sha256 OF THE DUMP (.gsa) THAT YtdmmjckhpagibaaGreatDoorProg.lean LOADS. Nothing in Lean hashes anything: it is a label: what it is worth is what the hold of that sum in a sandbox is worth. -/
noncomputable def Tryz.pinned : Pinned := { name := "ytdmmjckhpagibaagreatdoor", sum := "45affaf79e6106083807f83ac9e333e110ae3abafdaf15270bad885ff8305c32", checked := Tryz.checked }
namespace Rows
def none {H : Type} : Left H := { results := [], args := [] }

/- WHAT THE LISTED PACKAGE-LEVEL VARIABLES READ AS WHEN THE CALL BEGINS. Each datum BY PROGRAM (the guide's laid-datum.mjs) off the statement by which the dump's own 'gosem.cut.vars' lays the variable. In a bare row this is a premise. The card (YtdmmjckhpagibaaGreatDoorCards.lean) ties it to the program's text. -/
def laid_chrysalis_flow_number {H : Type} : DataW H := .agg [.lit (.int .i64 1), .lit (.int .i64 0)]
def laid_chrysalis_flow_octets {H : Type} : DataW H := .agg [.lit (.int .i64 2), .lit (.int .i64 0)]
def laid_chrysalis_flow_words {H : Type} : DataW H := .agg [.lit (.int .i64 3), .lit (.int .i64 0)]
def laid_chrysalis_flow_refs {H : Type} : DataW H := .agg [.lit (.int .i64 7), .lit (.int .i64 0)]
def laid_chrysalis_flow_use {H : Type} : DataW H := .agg [.lit (.int .i64 8), .lit (.int .i64 0)]

/-- 'chrysalislaw15.StepTraps': WHATEVER THE INPUT: true; the input reads as it did. -/
def stepTrapsSpec : ChangeSpec := { name := "stepTraps", fn := fun _ => fun
  | [d1, d2] => { results := [.lit (.bool true)], args := [d1, d2] }
  | _ => none }
def stepTrapsRow : OpenClaim := { program := "ytdmmjckhpagibaagreatdoor", sum := "45affaf79e6106083807f83ac9e333e110ae3abafdaf15270bad885ff8305c32", func := "chrysalis/chrysalislaw15.StepTraps", spec := "stepTraps", unfollowed := true, recurses := true, named := ["chrysalis/flow.use", "chrysalis/flow.number", "chrysalis/flow.words", "chrysalis/flow.octets", "chrysalis/flow.refs"], apart := false, laid := [("chrysalis/flow.number", laid_chrysalis_flow_number), ("chrysalis/flow.octets", laid_chrysalis_flow_octets), ("chrysalis/flow.words", laid_chrysalis_flow_words), ("chrysalis/flow.refs", laid_chrysalis_flow_refs), ("chrysalis/flow.use", laid_chrysalis_flow_use)] }
def StepTrapsSaid : Prop := stepTrapsRow.holds Tryz.pinned (OpenSpec.ofChange stepTrapsSpec)

/-- ITS FALSE NEIGHBOUR: 'it returns false'. Refute it at one input. -/
def stepTrapsWrong : ChangeSpec := { name := "stepTraps", fn := fun _ => fun
  | [d1, d2] => { results := [.lit (.bool false)], args := [d1, d2] }
  | _ => none }
def StepTrapsWrongFalsely : Prop := stepTrapsRow.holds Tryz.pinned (OpenSpec.ofChange stepTrapsWrong)

/-- 'chrysalislaw15.StepDepth': WHATEVER THE INPUT: true; the input reads as it did. -/
def stepDepthSpec : ChangeSpec := { name := "stepDepth", fn := fun _ => fun
  | [d] => { results := [.lit (.bool true)], args := [d] }
  | _ => none }
def stepDepthRow : OpenClaim := { program := "ytdmmjckhpagibaagreatdoor", sum := "45affaf79e6106083807f83ac9e333e110ae3abafdaf15270bad885ff8305c32", func := "chrysalis/chrysalislaw15.StepDepth", spec := "stepDepth", unfollowed := true, recurses := true, named := ["chrysalis/flow.use", "chrysalis/flow.number", "chrysalis/flow.words", "chrysalis/flow.octets", "chrysalis/flow.refs"], apart := false, laid := [("chrysalis/flow.number", laid_chrysalis_flow_number), ("chrysalis/flow.octets", laid_chrysalis_flow_octets), ("chrysalis/flow.words", laid_chrysalis_flow_words), ("chrysalis/flow.refs", laid_chrysalis_flow_refs), ("chrysalis/flow.use", laid_chrysalis_flow_use)] }
def StepDepthSaid : Prop := stepDepthRow.holds Tryz.pinned (OpenSpec.ofChange stepDepthSpec)

/-- ITS FALSE NEIGHBOUR: 'it returns false'. Refute it at one input. -/
def stepDepthWrong : ChangeSpec := { name := "stepDepth", fn := fun _ => fun
  | [d] => { results := [.lit (.bool false)], args := [d] }
  | _ => none }
def StepDepthWrongFalsely : Prop := stepDepthRow.holds Tryz.pinned (OpenSpec.ofChange stepDepthWrong)

/-- 'chrysalislaw15.StepNone': WHATEVER THE INPUT: true; the input reads as it did. -/
def stepNoneSpec : ChangeSpec := { name := "stepNone", fn := fun _ => fun
  | [d] => { results := [.lit (.bool true)], args := [d] }
  | _ => none }
def stepNoneRow : OpenClaim := { program := "ytdmmjckhpagibaagreatdoor", sum := "45affaf79e6106083807f83ac9e333e110ae3abafdaf15270bad885ff8305c32", func := "chrysalis/chrysalislaw15.StepNone", spec := "stepNone", unfollowed := true, recurses := true, named := ["chrysalis/flow.use", "chrysalis/flow.number", "chrysalis/flow.words", "chrysalis/flow.octets", "chrysalis/flow.refs"], apart := false, laid := [("chrysalis/flow.number", laid_chrysalis_flow_number), ("chrysalis/flow.octets", laid_chrysalis_flow_octets), ("chrysalis/flow.words", laid_chrysalis_flow_words), ("chrysalis/flow.refs", laid_chrysalis_flow_refs), ("chrysalis/flow.use", laid_chrysalis_flow_use)] }
def StepNoneSaid : Prop := stepNoneRow.holds Tryz.pinned (OpenSpec.ofChange stepNoneSpec)

/-- ITS FALSE NEIGHBOUR: 'it returns false'. Refute it at one input. -/
def stepNoneWrong : ChangeSpec := { name := "stepNone", fn := fun _ => fun
  | [d] => { results := [.lit (.bool false)], args := [d] }
  | _ => none }
def StepNoneWrongFalsely : Prop := stepNoneRow.holds Tryz.pinned (OpenSpec.ofChange stepNoneWrong)

/-- 'chrysalislaw18.ExecDeep': WHATEVER THE INPUT: true; the input reads as it did. -/
def execDeepSpec : ChangeSpec := { name := "execDeep", fn := fun _ => fun
  | [d1, d2, d3] => { results := [.lit (.bool true)], args := [d1, d2, d3] }
  | _ => none }
def execDeepRow : OpenClaim := { program := "ytdmmjckhpagibaagreatdoor", sum := "45affaf79e6106083807f83ac9e333e110ae3abafdaf15270bad885ff8305c32", func := "chrysalis/chrysalislaw18.ExecDeep", spec := "execDeep", unfollowed := true, recurses := true, named := ["chrysalis/flow.use", "chrysalis/flow.number", "chrysalis/flow.words", "chrysalis/flow.octets", "chrysalis/flow.refs"], apart := false, laid := [("chrysalis/flow.number", laid_chrysalis_flow_number), ("chrysalis/flow.octets", laid_chrysalis_flow_octets), ("chrysalis/flow.words", laid_chrysalis_flow_words), ("chrysalis/flow.refs", laid_chrysalis_flow_refs), ("chrysalis/flow.use", laid_chrysalis_flow_use)] }
def ExecDeepSaid : Prop := execDeepRow.holds Tryz.pinned (OpenSpec.ofChange execDeepSpec)

/-- ITS FALSE NEIGHBOUR: 'it returns false'. Refute it at one input. -/
def execDeepWrong : ChangeSpec := { name := "execDeep", fn := fun _ => fun
  | [d1, d2, d3] => { results := [.lit (.bool false)], args := [d1, d2, d3] }
  | _ => none }
def ExecDeepWrongFalsely : Prop := execDeepRow.holds Tryz.pinned (OpenSpec.ofChange execDeepWrong)

/-- 'chrysalislaw16.RunNone': WHATEVER THE INPUT: true; the input reads as it did. -/
def runNoneSpec : ChangeSpec := { name := "runNone", fn := fun _ => fun
  | [d1, d2] => { results := [.lit (.bool true)], args := [d1, d2] }
  | _ => none }
def runNoneRow : OpenClaim := { program := "ytdmmjckhpagibaagreatdoor", sum := "45affaf79e6106083807f83ac9e333e110ae3abafdaf15270bad885ff8305c32", func := "chrysalis/chrysalislaw16.RunNone", spec := "runNone", unfollowed := true, recurses := true, named := ["chrysalis/flow.use", "chrysalis/flow.number", "chrysalis/flow.words", "chrysalis/flow.octets", "chrysalis/flow.refs"], apart := false, laid := [("chrysalis/flow.number", laid_chrysalis_flow_number), ("chrysalis/flow.octets", laid_chrysalis_flow_octets), ("chrysalis/flow.words", laid_chrysalis_flow_words), ("chrysalis/flow.refs", laid_chrysalis_flow_refs), ("chrysalis/flow.use", laid_chrysalis_flow_use)] }
def RunNoneSaid : Prop := runNoneRow.holds Tryz.pinned (OpenSpec.ofChange runNoneSpec)

/-- ITS FALSE NEIGHBOUR: 'it returns false'. Refute it at one input. -/
def runNoneWrong : ChangeSpec := { name := "runNone", fn := fun _ => fun
  | [d1, d2] => { results := [.lit (.bool false)], args := [d1, d2] }
  | _ => none }
def RunNoneWrongFalsely : Prop := runNoneRow.holds Tryz.pinned (OpenSpec.ofChange runNoneWrong)

/-- 'chrysalislaw16.RunStops': WHATEVER THE INPUT: true; the input reads as it did. -/
def runStopsSpec : ChangeSpec := { name := "runStops", fn := fun _ => fun
  | [d1, d2] => { results := [.lit (.bool true)], args := [d1, d2] }
  | _ => none }
def runStopsRow : OpenClaim := { program := "ytdmmjckhpagibaagreatdoor", sum := "45affaf79e6106083807f83ac9e333e110ae3abafdaf15270bad885ff8305c32", func := "chrysalis/chrysalislaw16.RunStops", spec := "runStops", unfollowed := true, recurses := true, named := ["chrysalis/flow.use", "chrysalis/flow.number", "chrysalis/flow.words", "chrysalis/flow.octets", "chrysalis/flow.refs"], apart := false, laid := [("chrysalis/flow.number", laid_chrysalis_flow_number), ("chrysalis/flow.octets", laid_chrysalis_flow_octets), ("chrysalis/flow.words", laid_chrysalis_flow_words), ("chrysalis/flow.refs", laid_chrysalis_flow_refs), ("chrysalis/flow.use", laid_chrysalis_flow_use)] }
def RunStopsSaid : Prop := runStopsRow.holds Tryz.pinned (OpenSpec.ofChange runStopsSpec)

/-- ITS FALSE NEIGHBOUR: 'it returns false'. Refute it at one input. -/
def runStopsWrong : ChangeSpec := { name := "runStops", fn := fun _ => fun
  | [d1, d2] => { results := [.lit (.bool false)], args := [d1, d2] }
  | _ => none }
def RunStopsWrongFalsely : Prop := runStopsRow.holds Tryz.pinned (OpenSpec.ofChange runStopsWrong)

/-- 'chrysalislaw18.ExecNone': WHATEVER THE INPUT: true; the input reads as it did. -/
def execNoneSpec : ChangeSpec := { name := "execNone", fn := fun _ => fun
  | [d] => { results := [.lit (.bool true)], args := [d] }
  | _ => none }
def execNoneRow : OpenClaim := { program := "ytdmmjckhpagibaagreatdoor", sum := "45affaf79e6106083807f83ac9e333e110ae3abafdaf15270bad885ff8305c32", func := "chrysalis/chrysalislaw18.ExecNone", spec := "execNone", unfollowed := true, recurses := true, named := ["chrysalis/flow.use", "chrysalis/flow.number", "chrysalis/flow.words", "chrysalis/flow.octets", "chrysalis/flow.refs"], apart := false, laid := [("chrysalis/flow.number", laid_chrysalis_flow_number), ("chrysalis/flow.octets", laid_chrysalis_flow_octets), ("chrysalis/flow.words", laid_chrysalis_flow_words), ("chrysalis/flow.refs", laid_chrysalis_flow_refs), ("chrysalis/flow.use", laid_chrysalis_flow_use)] }
def ExecNoneSaid : Prop := execNoneRow.holds Tryz.pinned (OpenSpec.ofChange execNoneSpec)

/-- ITS FALSE NEIGHBOUR: 'it returns false'. Refute it at one input. -/
def execNoneWrong : ChangeSpec := { name := "execNone", fn := fun _ => fun
  | [d] => { results := [.lit (.bool false)], args := [d] }
  | _ => none }
def ExecNoneWrongFalsely : Prop := execNoneRow.holds Tryz.pinned (OpenSpec.ofChange execNoneWrong)

/- THE SECOND FORM. 'bulk': how many values and letters a reading holds, each counted each time it is reached (what is shared counts as often as it is met; a slice's spare places count too). A statement '..UptoSaid' is the law's where the arguments, and the package variables that the reading takes, are together of bulk at most 1048576: NARROWER than '..Said'. Prove '..Said' where nothing that the law and all that it calls make is longer than what came in: it says more and counts as full. Else prove '..UptoSaid'. A law counts once. -/
mutual
def uptoBulk {H : Type} : DataW H → Nat
  | .lit (.string bytes) => bytes.length + 1
  | .lit _ => 1
  | .nil => 1
  | .ptr d => uptoBulk d + 1
  | .slice elems spare => uptoBulkAll elems + uptoBulkAll spare + 1
  | .agg parts => uptoBulkAll parts + 1
  | .iface _ d => uptoBulk d + 1
  | .map entries => uptoBulkEntries entries + 1
  | .held _ => 1
def uptoBulkAll {H : Type} : List (DataW H) → Nat
  | [] => 0
  | d :: r => uptoBulk d + uptoBulkAll r
def uptoBulkEntries {H : Type} : List (Lit × DataW H) → Nat
  | [] => 0
  | x :: r => uptoBulkEntry x + uptoBulkEntries r
def uptoBulkEntry {H : Type} : Lit × DataW H → Nat
  | (.string bytes, d) => bytes.length + uptoBulk d + 1
  | (_, d) => uptoBulk d + 1
 end
def uptoSmall : (H : Type) → List (DataW H) → Bool := fun _ ds => decide (uptoBulkAll ds ≤ 1048576)
def OpenSpec.upto (s : _root_.Go.ChangeSpec) : _root_.Go.OpenSpec := { _root_.Go.OpenSpec.ofChange s with cond := some uptoSmall }

/-- 'chrysalislaw15.StepTraps', WHERE WHAT IT READS IS OF BULK AT MOST 1048576: true; the input reads as it did. -/
def stepTrapsUptoRow : OpenClaim := { program := "ytdmmjckhpagibaagreatdoor", sum := "45affaf79e6106083807f83ac9e333e110ae3abafdaf15270bad885ff8305c32", func := "chrysalis/chrysalislaw15.StepTraps", spec := "stepTraps", unfollowed := true, recurses := true, named := ["chrysalis/flow.use", "chrysalis/flow.number", "chrysalis/flow.words", "chrysalis/flow.octets", "chrysalis/flow.refs"], apart := false, laid := [("chrysalis/flow.number", laid_chrysalis_flow_number), ("chrysalis/flow.octets", laid_chrysalis_flow_octets), ("chrysalis/flow.words", laid_chrysalis_flow_words), ("chrysalis/flow.refs", laid_chrysalis_flow_refs), ("chrysalis/flow.use", laid_chrysalis_flow_use)], narrowed := true }
def StepTrapsUptoSaid : Prop := stepTrapsUptoRow.holds Tryz.pinned (OpenSpec.upto stepTrapsSpec)

/-- 'chrysalislaw15.StepDepth', WHERE WHAT IT READS IS OF BULK AT MOST 1048576: true; the input reads as it did. -/
def stepDepthUptoRow : OpenClaim := { program := "ytdmmjckhpagibaagreatdoor", sum := "45affaf79e6106083807f83ac9e333e110ae3abafdaf15270bad885ff8305c32", func := "chrysalis/chrysalislaw15.StepDepth", spec := "stepDepth", unfollowed := true, recurses := true, named := ["chrysalis/flow.use", "chrysalis/flow.number", "chrysalis/flow.words", "chrysalis/flow.octets", "chrysalis/flow.refs"], apart := false, laid := [("chrysalis/flow.number", laid_chrysalis_flow_number), ("chrysalis/flow.octets", laid_chrysalis_flow_octets), ("chrysalis/flow.words", laid_chrysalis_flow_words), ("chrysalis/flow.refs", laid_chrysalis_flow_refs), ("chrysalis/flow.use", laid_chrysalis_flow_use)], narrowed := true }
def StepDepthUptoSaid : Prop := stepDepthUptoRow.holds Tryz.pinned (OpenSpec.upto stepDepthSpec)

/-- 'chrysalislaw15.StepNone', WHERE WHAT IT READS IS OF BULK AT MOST 1048576: true; the input reads as it did. -/
def stepNoneUptoRow : OpenClaim := { program := "ytdmmjckhpagibaagreatdoor", sum := "45affaf79e6106083807f83ac9e333e110ae3abafdaf15270bad885ff8305c32", func := "chrysalis/chrysalislaw15.StepNone", spec := "stepNone", unfollowed := true, recurses := true, named := ["chrysalis/flow.use", "chrysalis/flow.number", "chrysalis/flow.words", "chrysalis/flow.octets", "chrysalis/flow.refs"], apart := false, laid := [("chrysalis/flow.number", laid_chrysalis_flow_number), ("chrysalis/flow.octets", laid_chrysalis_flow_octets), ("chrysalis/flow.words", laid_chrysalis_flow_words), ("chrysalis/flow.refs", laid_chrysalis_flow_refs), ("chrysalis/flow.use", laid_chrysalis_flow_use)], narrowed := true }
def StepNoneUptoSaid : Prop := stepNoneUptoRow.holds Tryz.pinned (OpenSpec.upto stepNoneSpec)

/-- 'chrysalislaw18.ExecDeep', WHERE WHAT IT READS IS OF BULK AT MOST 1048576: true; the input reads as it did. -/
def execDeepUptoRow : OpenClaim := { program := "ytdmmjckhpagibaagreatdoor", sum := "45affaf79e6106083807f83ac9e333e110ae3abafdaf15270bad885ff8305c32", func := "chrysalis/chrysalislaw18.ExecDeep", spec := "execDeep", unfollowed := true, recurses := true, named := ["chrysalis/flow.use", "chrysalis/flow.number", "chrysalis/flow.words", "chrysalis/flow.octets", "chrysalis/flow.refs"], apart := false, laid := [("chrysalis/flow.number", laid_chrysalis_flow_number), ("chrysalis/flow.octets", laid_chrysalis_flow_octets), ("chrysalis/flow.words", laid_chrysalis_flow_words), ("chrysalis/flow.refs", laid_chrysalis_flow_refs), ("chrysalis/flow.use", laid_chrysalis_flow_use)], narrowed := true }
def ExecDeepUptoSaid : Prop := execDeepUptoRow.holds Tryz.pinned (OpenSpec.upto execDeepSpec)

/-- 'chrysalislaw16.RunNone', WHERE WHAT IT READS IS OF BULK AT MOST 1048576: true; the input reads as it did. -/
def runNoneUptoRow : OpenClaim := { program := "ytdmmjckhpagibaagreatdoor", sum := "45affaf79e6106083807f83ac9e333e110ae3abafdaf15270bad885ff8305c32", func := "chrysalis/chrysalislaw16.RunNone", spec := "runNone", unfollowed := true, recurses := true, named := ["chrysalis/flow.use", "chrysalis/flow.number", "chrysalis/flow.words", "chrysalis/flow.octets", "chrysalis/flow.refs"], apart := false, laid := [("chrysalis/flow.number", laid_chrysalis_flow_number), ("chrysalis/flow.octets", laid_chrysalis_flow_octets), ("chrysalis/flow.words", laid_chrysalis_flow_words), ("chrysalis/flow.refs", laid_chrysalis_flow_refs), ("chrysalis/flow.use", laid_chrysalis_flow_use)], narrowed := true }
def RunNoneUptoSaid : Prop := runNoneUptoRow.holds Tryz.pinned (OpenSpec.upto runNoneSpec)

/-- 'chrysalislaw16.RunStops', WHERE WHAT IT READS IS OF BULK AT MOST 1048576: true; the input reads as it did. -/
def runStopsUptoRow : OpenClaim := { program := "ytdmmjckhpagibaagreatdoor", sum := "45affaf79e6106083807f83ac9e333e110ae3abafdaf15270bad885ff8305c32", func := "chrysalis/chrysalislaw16.RunStops", spec := "runStops", unfollowed := true, recurses := true, named := ["chrysalis/flow.use", "chrysalis/flow.number", "chrysalis/flow.words", "chrysalis/flow.octets", "chrysalis/flow.refs"], apart := false, laid := [("chrysalis/flow.number", laid_chrysalis_flow_number), ("chrysalis/flow.octets", laid_chrysalis_flow_octets), ("chrysalis/flow.words", laid_chrysalis_flow_words), ("chrysalis/flow.refs", laid_chrysalis_flow_refs), ("chrysalis/flow.use", laid_chrysalis_flow_use)], narrowed := true }
def RunStopsUptoSaid : Prop := runStopsUptoRow.holds Tryz.pinned (OpenSpec.upto runStopsSpec)

/-- 'chrysalislaw18.ExecNone', WHERE WHAT IT READS IS OF BULK AT MOST 1048576: true; the input reads as it did. -/
def execNoneUptoRow : OpenClaim := { program := "ytdmmjckhpagibaagreatdoor", sum := "45affaf79e6106083807f83ac9e333e110ae3abafdaf15270bad885ff8305c32", func := "chrysalis/chrysalislaw18.ExecNone", spec := "execNone", unfollowed := true, recurses := true, named := ["chrysalis/flow.use", "chrysalis/flow.number", "chrysalis/flow.words", "chrysalis/flow.octets", "chrysalis/flow.refs"], apart := false, laid := [("chrysalis/flow.number", laid_chrysalis_flow_number), ("chrysalis/flow.octets", laid_chrysalis_flow_octets), ("chrysalis/flow.words", laid_chrysalis_flow_words), ("chrysalis/flow.refs", laid_chrysalis_flow_refs), ("chrysalis/flow.use", laid_chrysalis_flow_use)], narrowed := true }
def ExecNoneUptoSaid : Prop := execNoneUptoRow.holds Tryz.pinned (OpenSpec.upto execNoneSpec)

end Rows
end Go.Proofs.YtdmmjckhpagibaaGreatDoor
