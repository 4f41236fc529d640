/-
  DERIVED. GIVEN WITH THE SEED: THE CARDS: each row of YtiinmhfolfgobaaGreatDoorRows.lean that lists a variable, with what it lists TIED to the program's text (the seventh form; the later family's looks); each row that meets fmt, with fmt's text TOLD by the authors' own Lean function (tested against real Go, not proved from fmt's source: count such statements apart). THE CARD IS WHAT COUNTS. Prove the row's statement (the work); the ties are given (YtiinmhfolfgobaaGreatDoorTie.lean); close each card by the builder's one call (the guide's Derived/Test/ToyasCard.lean, 'card_holds'). Laid BY PROGRAM, IN A SANDBOX (cutbox-door.mjs). By AI agents, Wed Nov 11 2026. No macro, syntax, notation, axiom, sorry.
-/
import Derived.Test.YtiinmhfolfgobaaGreatDoorRows
import GoSem.ClaimSeven
namespace Go.Proofs.YtiinmhfolfgobaaGreatDoor
namespace Rows

/-- THE TIED CARD OF 'sectimelaw43.WorkbenchRuns'. -/
def workbenchRunsCard : Claim7 := { stood := { row := workbenchRunsRow, standIns := [], harness := (true, "3db958dd505ffd500094b94b06f542d5427e178513d09a26ba3b57f0496aa4fb"), looks := true }, kinds := [], alts := [], laidByText := true, laidKinds := [.data, .data, .data, .data, .sentinel, .sentinel, .pinned], laidTests := true, laidLooks := .later }
def WorkbenchRunsCardSaid : Prop := Claim7.holds Tryz.pinned (.plain (OpenSpec.ofChange workbenchRunsSpec)) workbenchRunsCard

/-- THE TIED CARD OF 'sectimelaw43.WorkbenchHasLimits'. -/
def workbenchHasLimitsCard : Claim7 := { stood := { row := workbenchHasLimitsRow, standIns := [], harness := (true, "3db958dd505ffd500094b94b06f542d5427e178513d09a26ba3b57f0496aa4fb"), looks := true }, kinds := [], alts := [], laidByText := true, laidKinds := [.data, .data, .data, .data, .sentinel, .sentinel, .pinned], laidTests := true, laidLooks := .later }
def WorkbenchHasLimitsCardSaid : Prop := Claim7.holds Tryz.pinned (.plain (OpenSpec.ofChange workbenchHasLimitsSpec)) workbenchHasLimitsCard

/-- THE TIED CARD OF 'sectimelaw43.WorkbenchTellsWhatIsKnown'. -/
def workbenchTellsWhatIsKnownCard : Claim7 := { stood := { row := workbenchTellsWhatIsKnownRow, standIns := [], harness := (true, "3db958dd505ffd500094b94b06f542d5427e178513d09a26ba3b57f0496aa4fb"), looks := true }, kinds := [], alts := [], laidByText := true, laidKinds := [.data, .data, .data, .data, .sentinel, .sentinel, .pinned], laidTests := true, laidLooks := .later }
def WorkbenchTellsWhatIsKnownCardSaid : Prop := Claim7.holds Tryz.pinned (.plain (OpenSpec.ofChange workbenchTellsWhatIsKnownSpec)) workbenchTellsWhatIsKnownCard

/-- THE TIED CARD OF 'sectimelaw43.WorkbenchRepeats'. -/
def workbenchRepeatsCard : Claim7 := { stood := { row := workbenchRepeatsRow, standIns := [], harness := (true, "3db958dd505ffd500094b94b06f542d5427e178513d09a26ba3b57f0496aa4fb"), looks := true }, kinds := [], alts := [], laidByText := true, laidKinds := [.data, .data, .data, .data, .sentinel, .sentinel, .pinned], laidTests := true, laidLooks := .later }
def WorkbenchRepeatsCardSaid : Prop := Claim7.holds Tryz.pinned (.plain (OpenSpec.ofChange workbenchRepeatsSpec)) workbenchRepeatsCard

/-- THE TIED CARD OF 'sectimetop.TopScripts'. -/
def topScriptsCard : Claim7 := { stood := { row := topScriptsRow, standIns := [], harness := (true, "3db958dd505ffd500094b94b06f542d5427e178513d09a26ba3b57f0496aa4fb"), looks := true }, kinds := [], alts := [], laidByText := true, laidKinds := [.data, .data, .data, .data, .sentinel, .sentinel, .pinned], laidTests := true, laidLooks := .later }
def TopScriptsCardSaid : Prop := Claim7.holds Tryz.pinned (.plain (OpenSpec.ofChange topScriptsSpec)) topScriptsCard

/-- THE SECOND FORM's CARD OF 'sectimelaw43.WorkbenchRuns'. -/
def workbenchRunsUptoCard : Claim7 := { stood := { row := workbenchRunsUptoRow, standIns := [], harness := (true, "3db958dd505ffd500094b94b06f542d5427e178513d09a26ba3b57f0496aa4fb"), looks := true }, kinds := [], alts := [], laidByText := true, laidKinds := [.data, .data, .data, .data, .sentinel, .sentinel, .pinned], laidTests := true, laidLooks := .later }
def WorkbenchRunsUptoCardSaid : Prop := Claim7.holds Tryz.pinned (.plain (OpenSpec.upto workbenchRunsSpec)) workbenchRunsUptoCard

/-- THE SECOND FORM's CARD OF 'sectimelaw43.WorkbenchHasLimits'. -/
def workbenchHasLimitsUptoCard : Claim7 := { stood := { row := workbenchHasLimitsUptoRow, standIns := [], harness := (true, "3db958dd505ffd500094b94b06f542d5427e178513d09a26ba3b57f0496aa4fb"), looks := true }, kinds := [], alts := [], laidByText := true, laidKinds := [.data, .data, .data, .data, .sentinel, .sentinel, .pinned], laidTests := true, laidLooks := .later }
def WorkbenchHasLimitsUptoCardSaid : Prop := Claim7.holds Tryz.pinned (.plain (OpenSpec.upto workbenchHasLimitsSpec)) workbenchHasLimitsUptoCard

/-- THE SECOND FORM's CARD OF 'sectimelaw43.WorkbenchTellsWhatIsKnown'. -/
def workbenchTellsWhatIsKnownUptoCard : Claim7 := { stood := { row := workbenchTellsWhatIsKnownUptoRow, standIns := [], harness := (true, "3db958dd505ffd500094b94b06f542d5427e178513d09a26ba3b57f0496aa4fb"), looks := true }, kinds := [], alts := [], laidByText := true, laidKinds := [.data, .data, .data, .data, .sentinel, .sentinel, .pinned], laidTests := true, laidLooks := .later }
def WorkbenchTellsWhatIsKnownUptoCardSaid : Prop := Claim7.holds Tryz.pinned (.plain (OpenSpec.upto workbenchTellsWhatIsKnownSpec)) workbenchTellsWhatIsKnownUptoCard

/-- THE SECOND FORM's CARD OF 'sectimelaw43.WorkbenchRepeats'. -/
def workbenchRepeatsUptoCard : Claim7 := { stood := { row := workbenchRepeatsUptoRow, standIns := [], harness := (true, "3db958dd505ffd500094b94b06f542d5427e178513d09a26ba3b57f0496aa4fb"), looks := true }, kinds := [], alts := [], laidByText := true, laidKinds := [.data, .data, .data, .data, .sentinel, .sentinel, .pinned], laidTests := true, laidLooks := .later }
def WorkbenchRepeatsUptoCardSaid : Prop := Claim7.holds Tryz.pinned (.plain (OpenSpec.upto workbenchRepeatsSpec)) workbenchRepeatsUptoCard

/-- THE SECOND FORM's CARD OF 'sectimetop.TopScripts'. -/
def topScriptsUptoCard : Claim7 := { stood := { row := topScriptsUptoRow, standIns := [], harness := (true, "3db958dd505ffd500094b94b06f542d5427e178513d09a26ba3b57f0496aa4fb"), looks := true }, kinds := [], alts := [], laidByText := true, laidKinds := [.data, .data, .data, .data, .sentinel, .sentinel, .pinned], laidTests := true, laidLooks := .later }
def TopScriptsUptoCardSaid : Prop := Claim7.holds Tryz.pinned (.plain (OpenSpec.upto topScriptsSpec)) topScriptsUptoCard
end Rows
end Go.Proofs.YtiinmhfolfgobaaGreatDoor
