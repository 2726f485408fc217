/-
  DERIVED. GIVEN WITH THE SEED: THE CARDS: each row of YtmceaeoeakkppaaGreatDoorRows.lean that lists a variable, with what it lists TIED to the program's text (the seventh form; the later family's looks); each row that meets fmt, with fmt's text TOLD by the authors' own Lean function (tested against real Go, not proved from fmt's source: count such statements apart). THE CARD IS WHAT COUNTS. Prove the row's statement (the work); the ties are given (YtmceaeoeakkppaaGreatDoorTie.lean); close each card by the builder's one call (the guide's Derived/Test/ToyasCard.lean, 'card_holds'). Laid BY PROGRAM, IN A SANDBOX (cutbox-door.mjs). By AI agents, Wed Nov 11 2026. No macro, syntax, notation, axiom, sorry.
-/
import Derived.Test.YtmceaeoeakkppaaGreatDoorRows
import GoSem.ClaimSeven
namespace Go.Proofs.YtmceaeoeakkppaaGreatDoor
namespace Rows

/-- THE TIED CARD OF 'chrysalislaw15.StepLoads'. -/
def stepLoadsCard : Claim7 := { stood := { row := stepLoadsRow, standIns := [], harness := (true, "bea76e00d41cdffc6fbd4213822e8048600f6997f337f4b2c6def891d614e790"), looks := false }, kinds := [], alts := [], laidByText := true, laidKinds := [.data, .data, .data, .data, .data], laidTests := true, laidLooks := .later }
def StepLoadsCardSaid : Prop := Claim7.holds Tryz.pinned (.plain (OpenSpec.ofChange stepLoadsSpec)) stepLoadsCard

/-- THE TIED CARD OF 'chrysalislaw15.StepTraps'. -/
def stepTrapsCard : Claim7 := { stood := { row := stepTrapsRow, standIns := [], harness := (true, "bea76e00d41cdffc6fbd4213822e8048600f6997f337f4b2c6def891d614e790"), looks := false }, kinds := [], alts := [], laidByText := true, laidKinds := [.data, .data, .data, .data, .data], laidTests := true, laidLooks := .later }
def StepTrapsCardSaid : Prop := Claim7.holds Tryz.pinned (.plain (OpenSpec.ofChange stepTrapsSpec)) stepTrapsCard

/-- THE TIED CARD OF 'chrysalislaw15.StepDepth'. -/
def stepDepthCard : Claim7 := { stood := { row := stepDepthRow, standIns := [], harness := (true, "bea76e00d41cdffc6fbd4213822e8048600f6997f337f4b2c6def891d614e790"), looks := false }, kinds := [], alts := [], laidByText := true, laidKinds := [.data, .data, .data, .data, .data], laidTests := true, laidLooks := .later }
def StepDepthCardSaid : Prop := Claim7.holds Tryz.pinned (.plain (OpenSpec.ofChange stepDepthSpec)) stepDepthCard

/-- THE TIED CARD OF 'chrysalislaw18.ExecDeep'. -/
def execDeepCard : Claim7 := { stood := { row := execDeepRow, standIns := [], harness := (true, "bea76e00d41cdffc6fbd4213822e8048600f6997f337f4b2c6def891d614e790"), looks := false }, kinds := [], alts := [], laidByText := true, laidKinds := [.data, .data, .data, .data, .data], laidTests := true, laidLooks := .later }
def ExecDeepCardSaid : Prop := Claim7.holds Tryz.pinned (.plain (OpenSpec.ofChange execDeepSpec)) execDeepCard

/-- THE TIED CARD OF 'chrysalislaw18.ExecFrom'. -/
def execFromCard : Claim7 := { stood := { row := execFromRow, standIns := [], harness := (true, "bea76e00d41cdffc6fbd4213822e8048600f6997f337f4b2c6def891d614e790"), looks := false }, kinds := [], alts := [], laidByText := true, laidKinds := [.data, .data, .data, .data, .data], laidTests := true, laidLooks := .later }
def ExecFromCardSaid : Prop := Claim7.holds Tryz.pinned (.plain (OpenSpec.ofChange execFromSpec)) execFromCard

/-- THE TIED CARD OF 'chrysalislaw16.RunParts'. -/
def runPartsCard : Claim7 := { stood := { row := runPartsRow, standIns := [], harness := (true, "bea76e00d41cdffc6fbd4213822e8048600f6997f337f4b2c6def891d614e790"), looks := false }, kinds := [], alts := [], laidByText := true, laidKinds := [.data, .data, .data, .data, .data], laidTests := true, laidLooks := .later }
def RunPartsCardSaid : Prop := Claim7.holds Tryz.pinned (.plain (OpenSpec.ofChange runPartsSpec)) runPartsCard

/-- THE TIED CARD OF 'chrysalislaw16.RunStops'. -/
def runStopsCard : Claim7 := { stood := { row := runStopsRow, standIns := [], harness := (true, "bea76e00d41cdffc6fbd4213822e8048600f6997f337f4b2c6def891d614e790"), looks := false }, kinds := [], alts := [], laidByText := true, laidKinds := [.data, .data, .data, .data, .data], laidTests := true, laidLooks := .later }
def RunStopsCardSaid : Prop := Claim7.holds Tryz.pinned (.plain (OpenSpec.ofChange runStopsSpec)) runStopsCard

/-- THE TIED CARD OF 'chrysalislaw16.RunNever'. -/
def runNeverCard : Claim7 := { stood := { row := runNeverRow, standIns := [], harness := (true, "bea76e00d41cdffc6fbd4213822e8048600f6997f337f4b2c6def891d614e790"), looks := false }, kinds := [], alts := [], laidByText := true, laidKinds := [.data, .data, .data, .data, .data], laidTests := true, laidLooks := .later }
def RunNeverCardSaid : Prop := Claim7.holds Tryz.pinned (.plain (OpenSpec.ofChange runNeverSpec)) runNeverCard

/-- THE TIED CARD OF 'chrysalislaw15.StepMoves'. -/
def stepMovesCard : Claim7 := { stood := { row := stepMovesRow, standIns := [], harness := (true, "bea76e00d41cdffc6fbd4213822e8048600f6997f337f4b2c6def891d614e790"), looks := false }, kinds := [], alts := [], laidByText := true, laidKinds := [.data, .data, .data, .data, .data], laidTests := true, laidLooks := .later }
def StepMovesCardSaid : Prop := Claim7.holds Tryz.pinned (.plain (OpenSpec.ofChange stepMovesSpec)) stepMovesCard

/-- THE TIED CARD OF 'chrysalislaw18.ExecRuns'. -/
def execRunsCard : Claim7 := { stood := { row := execRunsRow, standIns := [], harness := (true, "bea76e00d41cdffc6fbd4213822e8048600f6997f337f4b2c6def891d614e790"), looks := false }, kinds := [], alts := [], laidByText := true, laidKinds := [.data, .data, .data, .data, .data], laidTests := true, laidLooks := .later }
def ExecRunsCardSaid : Prop := Claim7.holds Tryz.pinned (.plain (OpenSpec.ofChange execRunsSpec)) execRunsCard

/-- THE TIED CARD OF 'chrysalislaw18.ExecLoads'. -/
def execLoadsCard : Claim7 := { stood := { row := execLoadsRow, standIns := [], harness := (true, "bea76e00d41cdffc6fbd4213822e8048600f6997f337f4b2c6def891d614e790"), looks := false }, kinds := [], alts := [], laidByText := true, laidKinds := [.data, .data, .data, .data, .data], laidTests := true, laidLooks := .later }
def ExecLoadsCardSaid : Prop := Claim7.holds Tryz.pinned (.plain (OpenSpec.ofChange execLoadsSpec)) execLoadsCard

/-- THE TIED CARD OF 'chrysalislaw18.ExecTurns'. -/
def execTurnsCard : Claim7 := { stood := { row := execTurnsRow, standIns := [], harness := (true, "bea76e00d41cdffc6fbd4213822e8048600f6997f337f4b2c6def891d614e790"), looks := false }, kinds := [], alts := [], laidByText := true, laidKinds := [.data, .data, .data, .data, .data], laidTests := true, laidLooks := .later }
def ExecTurnsCardSaid : Prop := Claim7.holds Tryz.pinned (.plain (OpenSpec.ofChange execTurnsSpec)) execTurnsCard

/-- THE SECOND FORM's CARD OF 'chrysalislaw15.StepLoads'. -/
def stepLoadsUptoCard : Claim7 := { stood := { row := stepLoadsUptoRow, standIns := [], harness := (true, "bea76e00d41cdffc6fbd4213822e8048600f6997f337f4b2c6def891d614e790"), looks := false }, kinds := [], alts := [], laidByText := true, laidKinds := [.data, .data, .data, .data, .data], laidTests := true, laidLooks := .later }
def StepLoadsUptoCardSaid : Prop := Claim7.holds Tryz.pinned (.plain (OpenSpec.upto stepLoadsSpec)) stepLoadsUptoCard

/-- THE SECOND FORM's CARD OF 'chrysalislaw15.StepTraps'. -/
def stepTrapsUptoCard : Claim7 := { stood := { row := stepTrapsUptoRow, standIns := [], harness := (true, "bea76e00d41cdffc6fbd4213822e8048600f6997f337f4b2c6def891d614e790"), looks := false }, kinds := [], alts := [], laidByText := true, laidKinds := [.data, .data, .data, .data, .data], laidTests := true, laidLooks := .later }
def StepTrapsUptoCardSaid : Prop := Claim7.holds Tryz.pinned (.plain (OpenSpec.upto stepTrapsSpec)) stepTrapsUptoCard

/-- THE SECOND FORM's CARD OF 'chrysalislaw15.StepDepth'. -/
def stepDepthUptoCard : Claim7 := { stood := { row := stepDepthUptoRow, standIns := [], harness := (true, "bea76e00d41cdffc6fbd4213822e8048600f6997f337f4b2c6def891d614e790"), looks := false }, kinds := [], alts := [], laidByText := true, laidKinds := [.data, .data, .data, .data, .data], laidTests := true, laidLooks := .later }
def StepDepthUptoCardSaid : Prop := Claim7.holds Tryz.pinned (.plain (OpenSpec.upto stepDepthSpec)) stepDepthUptoCard

/-- THE SECOND FORM's CARD OF 'chrysalislaw18.ExecDeep'. -/
def execDeepUptoCard : Claim7 := { stood := { row := execDeepUptoRow, standIns := [], harness := (true, "bea76e00d41cdffc6fbd4213822e8048600f6997f337f4b2c6def891d614e790"), looks := false }, kinds := [], alts := [], laidByText := true, laidKinds := [.data, .data, .data, .data, .data], laidTests := true, laidLooks := .later }
def ExecDeepUptoCardSaid : Prop := Claim7.holds Tryz.pinned (.plain (OpenSpec.upto execDeepSpec)) execDeepUptoCard

/-- THE SECOND FORM's CARD OF 'chrysalislaw18.ExecFrom'. -/
def execFromUptoCard : Claim7 := { stood := { row := execFromUptoRow, standIns := [], harness := (true, "bea76e00d41cdffc6fbd4213822e8048600f6997f337f4b2c6def891d614e790"), looks := false }, kinds := [], alts := [], laidByText := true, laidKinds := [.data, .data, .data, .data, .data], laidTests := true, laidLooks := .later }
def ExecFromUptoCardSaid : Prop := Claim7.holds Tryz.pinned (.plain (OpenSpec.upto execFromSpec)) execFromUptoCard

/-- THE SECOND FORM's CARD OF 'chrysalislaw16.RunParts'. -/
def runPartsUptoCard : Claim7 := { stood := { row := runPartsUptoRow, standIns := [], harness := (true, "bea76e00d41cdffc6fbd4213822e8048600f6997f337f4b2c6def891d614e790"), looks := false }, kinds := [], alts := [], laidByText := true, laidKinds := [.data, .data, .data, .data, .data], laidTests := true, laidLooks := .later }
def RunPartsUptoCardSaid : Prop := Claim7.holds Tryz.pinned (.plain (OpenSpec.upto runPartsSpec)) runPartsUptoCard

/-- THE SECOND FORM's CARD OF 'chrysalislaw16.RunStops'. -/
def runStopsUptoCard : Claim7 := { stood := { row := runStopsUptoRow, standIns := [], harness := (true, "bea76e00d41cdffc6fbd4213822e8048600f6997f337f4b2c6def891d614e790"), looks := false }, kinds := [], alts := [], laidByText := true, laidKinds := [.data, .data, .data, .data, .data], laidTests := true, laidLooks := .later }
def RunStopsUptoCardSaid : Prop := Claim7.holds Tryz.pinned (.plain (OpenSpec.upto runStopsSpec)) runStopsUptoCard

/-- THE SECOND FORM's CARD OF 'chrysalislaw16.RunNever'. -/
def runNeverUptoCard : Claim7 := { stood := { row := runNeverUptoRow, standIns := [], harness := (true, "bea76e00d41cdffc6fbd4213822e8048600f6997f337f4b2c6def891d614e790"), looks := false }, kinds := [], alts := [], laidByText := true, laidKinds := [.data, .data, .data, .data, .data], laidTests := true, laidLooks := .later }
def RunNeverUptoCardSaid : Prop := Claim7.holds Tryz.pinned (.plain (OpenSpec.upto runNeverSpec)) runNeverUptoCard

/-- THE SECOND FORM's CARD OF 'chrysalislaw15.StepMoves'. -/
def stepMovesUptoCard : Claim7 := { stood := { row := stepMovesUptoRow, standIns := [], harness := (true, "bea76e00d41cdffc6fbd4213822e8048600f6997f337f4b2c6def891d614e790"), looks := false }, kinds := [], alts := [], laidByText := true, laidKinds := [.data, .data, .data, .data, .data], laidTests := true, laidLooks := .later }
def StepMovesUptoCardSaid : Prop := Claim7.holds Tryz.pinned (.plain (OpenSpec.upto stepMovesSpec)) stepMovesUptoCard

/-- THE SECOND FORM's CARD OF 'chrysalislaw18.ExecRuns'. -/
def execRunsUptoCard : Claim7 := { stood := { row := execRunsUptoRow, standIns := [], harness := (true, "bea76e00d41cdffc6fbd4213822e8048600f6997f337f4b2c6def891d614e790"), looks := false }, kinds := [], alts := [], laidByText := true, laidKinds := [.data, .data, .data, .data, .data], laidTests := true, laidLooks := .later }
def ExecRunsUptoCardSaid : Prop := Claim7.holds Tryz.pinned (.plain (OpenSpec.upto execRunsSpec)) execRunsUptoCard

/-- THE SECOND FORM's CARD OF 'chrysalislaw18.ExecLoads'. -/
def execLoadsUptoCard : Claim7 := { stood := { row := execLoadsUptoRow, standIns := [], harness := (true, "bea76e00d41cdffc6fbd4213822e8048600f6997f337f4b2c6def891d614e790"), looks := false }, kinds := [], alts := [], laidByText := true, laidKinds := [.data, .data, .data, .data, .data], laidTests := true, laidLooks := .later }
def ExecLoadsUptoCardSaid : Prop := Claim7.holds Tryz.pinned (.plain (OpenSpec.upto execLoadsSpec)) execLoadsUptoCard

/-- THE SECOND FORM's CARD OF 'chrysalislaw18.ExecTurns'. -/
def execTurnsUptoCard : Claim7 := { stood := { row := execTurnsUptoRow, standIns := [], harness := (true, "bea76e00d41cdffc6fbd4213822e8048600f6997f337f4b2c6def891d614e790"), looks := false }, kinds := [], alts := [], laidByText := true, laidKinds := [.data, .data, .data, .data, .data], laidTests := true, laidLooks := .later }
def ExecTurnsUptoCardSaid : Prop := Claim7.holds Tryz.pinned (.plain (OpenSpec.upto execTurnsSpec)) execTurnsUptoCard
end Rows
end Go.Proofs.YtmceaeoeakkppaaGreatDoor
