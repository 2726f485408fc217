/-
  DERIVED. GIVEN WITH THE SEED: THE CARDS: each row of YtdmmjckhpagibaaGreatDoorRows.lean that lists a variable, with what it lists TIED to the program's text (the seventh form; the later family's looks); each row that meets fmt, with fmt's text TOLD by the authors' own Lean function (tested against real Go, not proved from fmt's source: count such statements apart). THE CARD IS WHAT COUNTS. Prove the row's statement (the work); the ties are given (YtdmmjckhpagibaaGreatDoorTie.lean); close each card by the builder's one call (the guide's Derived/Test/ToyasCard.lean, 'card_holds'). Laid BY PROGRAM, IN A SANDBOX (cutbox-door.mjs). By AI agents, Wed Nov 11 2026. No macro, syntax, notation, axiom, sorry.
-/
import Derived.Test.YtdmmjckhpagibaaGreatDoorRows
import GoSem.ClaimSeven
namespace Go.Proofs.YtdmmjckhpagibaaGreatDoor
namespace Rows

/-- THE TIED CARD OF 'chrysalislaw15.StepTraps'. -/
def stepTrapsCard : Claim7 := { stood := { row := stepTrapsRow, standIns := [], harness := (true, "ea739195d37b219de01cfa5661a47fad4f792f7e42720974328ff6eba958424d"), looks := false }, kinds := [], alts := [], laidByText := true, laidKinds := [.data, .data, .data, .data, .data], laidTests := true, laidLooks := .later }
def StepTrapsCardSaid : Prop := Claim7.holds Tryz.pinned (.plain (OpenSpec.ofChange stepTrapsSpec)) stepTrapsCard

/-- THE TIED CARD OF 'chrysalislaw15.StepDepth'. -/
def stepDepthCard : Claim7 := { stood := { row := stepDepthRow, standIns := [], harness := (true, "ea739195d37b219de01cfa5661a47fad4f792f7e42720974328ff6eba958424d"), looks := false }, kinds := [], alts := [], laidByText := true, laidKinds := [.data, .data, .data, .data, .data], laidTests := true, laidLooks := .later }
def StepDepthCardSaid : Prop := Claim7.holds Tryz.pinned (.plain (OpenSpec.ofChange stepDepthSpec)) stepDepthCard

/-- THE TIED CARD OF 'chrysalislaw15.StepNone'. -/
def stepNoneCard : Claim7 := { stood := { row := stepNoneRow, standIns := [], harness := (true, "ea739195d37b219de01cfa5661a47fad4f792f7e42720974328ff6eba958424d"), looks := false }, kinds := [], alts := [], laidByText := true, laidKinds := [.data, .data, .data, .data, .data], laidTests := true, laidLooks := .later }
def StepNoneCardSaid : Prop := Claim7.holds Tryz.pinned (.plain (OpenSpec.ofChange stepNoneSpec)) stepNoneCard

/-- THE TIED CARD OF 'chrysalislaw18.ExecDeep'. -/
def execDeepCard : Claim7 := { stood := { row := execDeepRow, standIns := [], harness := (true, "ea739195d37b219de01cfa5661a47fad4f792f7e42720974328ff6eba958424d"), looks := false }, kinds := [], alts := [], laidByText := true, laidKinds := [.data, .data, .data, .data, .data], laidTests := true, laidLooks := .later }
def ExecDeepCardSaid : Prop := Claim7.holds Tryz.pinned (.plain (OpenSpec.ofChange execDeepSpec)) execDeepCard

/-- THE TIED CARD OF 'chrysalislaw16.RunNone'. -/
def runNoneCard : Claim7 := { stood := { row := runNoneRow, standIns := [], harness := (true, "ea739195d37b219de01cfa5661a47fad4f792f7e42720974328ff6eba958424d"), looks := false }, kinds := [], alts := [], laidByText := true, laidKinds := [.data, .data, .data, .data, .data], laidTests := true, laidLooks := .later }
def RunNoneCardSaid : Prop := Claim7.holds Tryz.pinned (.plain (OpenSpec.ofChange runNoneSpec)) runNoneCard

/-- THE TIED CARD OF 'chrysalislaw16.RunStops'. -/
def runStopsCard : Claim7 := { stood := { row := runStopsRow, standIns := [], harness := (true, "ea739195d37b219de01cfa5661a47fad4f792f7e42720974328ff6eba958424d"), looks := false }, kinds := [], alts := [], laidByText := true, laidKinds := [.data, .data, .data, .data, .data], laidTests := true, laidLooks := .later }
def RunStopsCardSaid : Prop := Claim7.holds Tryz.pinned (.plain (OpenSpec.ofChange runStopsSpec)) runStopsCard

/-- THE TIED CARD OF 'chrysalislaw18.ExecNone'. -/
def execNoneCard : Claim7 := { stood := { row := execNoneRow, standIns := [], harness := (true, "ea739195d37b219de01cfa5661a47fad4f792f7e42720974328ff6eba958424d"), looks := false }, kinds := [], alts := [], laidByText := true, laidKinds := [.data, .data, .data, .data, .data], laidTests := true, laidLooks := .later }
def ExecNoneCardSaid : Prop := Claim7.holds Tryz.pinned (.plain (OpenSpec.ofChange execNoneSpec)) execNoneCard

/-- THE SECOND FORM's CARD OF 'chrysalislaw15.StepTraps'. -/
def stepTrapsUptoCard : Claim7 := { stood := { row := stepTrapsUptoRow, standIns := [], harness := (true, "ea739195d37b219de01cfa5661a47fad4f792f7e42720974328ff6eba958424d"), looks := false }, kinds := [], alts := [], laidByText := true, laidKinds := [.data, .data, .data, .data, .data], laidTests := true, laidLooks := .later }
def StepTrapsUptoCardSaid : Prop := Claim7.holds Tryz.pinned (.plain (OpenSpec.upto stepTrapsSpec)) stepTrapsUptoCard

/-- THE SECOND FORM's CARD OF 'chrysalislaw15.StepDepth'. -/
def stepDepthUptoCard : Claim7 := { stood := { row := stepDepthUptoRow, standIns := [], harness := (true, "ea739195d37b219de01cfa5661a47fad4f792f7e42720974328ff6eba958424d"), looks := false }, kinds := [], alts := [], laidByText := true, laidKinds := [.data, .data, .data, .data, .data], laidTests := true, laidLooks := .later }
def StepDepthUptoCardSaid : Prop := Claim7.holds Tryz.pinned (.plain (OpenSpec.upto stepDepthSpec)) stepDepthUptoCard

/-- THE SECOND FORM's CARD OF 'chrysalislaw15.StepNone'. -/
def stepNoneUptoCard : Claim7 := { stood := { row := stepNoneUptoRow, standIns := [], harness := (true, "ea739195d37b219de01cfa5661a47fad4f792f7e42720974328ff6eba958424d"), looks := false }, kinds := [], alts := [], laidByText := true, laidKinds := [.data, .data, .data, .data, .data], laidTests := true, laidLooks := .later }
def StepNoneUptoCardSaid : Prop := Claim7.holds Tryz.pinned (.plain (OpenSpec.upto stepNoneSpec)) stepNoneUptoCard

/-- THE SECOND FORM's CARD OF 'chrysalislaw18.ExecDeep'. -/
def execDeepUptoCard : Claim7 := { stood := { row := execDeepUptoRow, standIns := [], harness := (true, "ea739195d37b219de01cfa5661a47fad4f792f7e42720974328ff6eba958424d"), looks := false }, kinds := [], alts := [], laidByText := true, laidKinds := [.data, .data, .data, .data, .data], laidTests := true, laidLooks := .later }
def ExecDeepUptoCardSaid : Prop := Claim7.holds Tryz.pinned (.plain (OpenSpec.upto execDeepSpec)) execDeepUptoCard

/-- THE SECOND FORM's CARD OF 'chrysalislaw16.RunNone'. -/
def runNoneUptoCard : Claim7 := { stood := { row := runNoneUptoRow, standIns := [], harness := (true, "ea739195d37b219de01cfa5661a47fad4f792f7e42720974328ff6eba958424d"), looks := false }, kinds := [], alts := [], laidByText := true, laidKinds := [.data, .data, .data, .data, .data], laidTests := true, laidLooks := .later }
def RunNoneUptoCardSaid : Prop := Claim7.holds Tryz.pinned (.plain (OpenSpec.upto runNoneSpec)) runNoneUptoCard

/-- THE SECOND FORM's CARD OF 'chrysalislaw16.RunStops'. -/
def runStopsUptoCard : Claim7 := { stood := { row := runStopsUptoRow, standIns := [], harness := (true, "ea739195d37b219de01cfa5661a47fad4f792f7e42720974328ff6eba958424d"), looks := false }, kinds := [], alts := [], laidByText := true, laidKinds := [.data, .data, .data, .data, .data], laidTests := true, laidLooks := .later }
def RunStopsUptoCardSaid : Prop := Claim7.holds Tryz.pinned (.plain (OpenSpec.upto runStopsSpec)) runStopsUptoCard

/-- THE SECOND FORM's CARD OF 'chrysalislaw18.ExecNone'. -/
def execNoneUptoCard : Claim7 := { stood := { row := execNoneUptoRow, standIns := [], harness := (true, "ea739195d37b219de01cfa5661a47fad4f792f7e42720974328ff6eba958424d"), looks := false }, kinds := [], alts := [], laidByText := true, laidKinds := [.data, .data, .data, .data, .data], laidTests := true, laidLooks := .later }
def ExecNoneUptoCardSaid : Prop := Claim7.holds Tryz.pinned (.plain (OpenSpec.upto execNoneSpec)) execNoneUptoCard
end Rows
end Go.Proofs.YtdmmjckhpagibaaGreatDoor
