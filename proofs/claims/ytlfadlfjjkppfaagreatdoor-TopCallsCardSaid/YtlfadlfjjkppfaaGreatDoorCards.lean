/-
  DERIVED. GIVEN WITH THE SEED: THE CARDS: each row of YtlfadlfjjkppfaaGreatDoorRows.lean that lists a variable, with what it lists TIED to the program's text (the seventh form; the later family's looks); each row that meets fmt, with fmt's text TOLD by the authors' own Lean function (tested against real Go, not proved from fmt's source: count such statements apart). THE CARD IS WHAT COUNTS. Prove the row's statement (the work); the ties are given (YtlfadlfjjkppfaaGreatDoorTie.lean); close each card by the builder's one call (the guide's Derived/Test/ToyasCard.lean, 'card_holds'). Laid BY PROGRAM, IN A SANDBOX (cutbox-door.mjs). By AI agents, Wed Nov 11 2026. No macro, syntax, notation, axiom, sorry.
-/
import Derived.Test.YtlfadlfjjkppfaaGreatDoorRows
import GoSem.ClaimSeven
namespace Go.Proofs.YtlfadlfjjkppfaaGreatDoor
namespace Rows

/-- THE TIED CARD OF 'avouchtop.TopBound'. -/
def topBoundCard : Claim7 := { stood := { row := topBoundRow, standIns := [], harness := (true, "82c02f82b4990c3db1ed24a0f9f4d09a382b77918d60862eb3d7e0481a061f73"), looks := true }, kinds := [], alts := [], laidByText := true, laidKinds := [.data], laidTests := true, laidLooks := .later }
def TopBoundCardSaid : Prop := Claim7.holds Tryz.pinned (.plain (OpenSpec.ofChange topBoundSpec)) topBoundCard

/-- THE TIED CARD OF 'avouchtop.TopCanon'. -/
def topCanonCard : Claim7 := { stood := { row := topCanonRow, standIns := [], harness := (true, "82c02f82b4990c3db1ed24a0f9f4d09a382b77918d60862eb3d7e0481a061f73"), looks := true }, kinds := [], alts := [], laidByText := true, laidKinds := [.data], laidTests := true, laidLooks := .later }
def TopCanonCardSaid : Prop := Claim7.holds Tryz.pinned (.plain (OpenSpec.ofChange topCanonSpec)) topCanonCard

/-- THE TIED CARD OF 'avouchtop.TopLabels'. -/
def topLabelsCard : Claim7 := { stood := { row := topLabelsRow, standIns := [], harness := (true, "82c02f82b4990c3db1ed24a0f9f4d09a382b77918d60862eb3d7e0481a061f73"), looks := true }, kinds := [], alts := [], laidByText := true, laidKinds := [.data], laidTests := true, laidLooks := .later }
def TopLabelsCardSaid : Prop := Claim7.holds Tryz.pinned (.plain (OpenSpec.ofChange topLabelsSpec)) topLabelsCard

/-- THE TIED CARD OF 'avouchtop.TopBoth'. -/
def topBothCard : Claim7 := { stood := { row := topBothRow, standIns := [], harness := (true, "82c02f82b4990c3db1ed24a0f9f4d09a382b77918d60862eb3d7e0481a061f73"), looks := true }, kinds := [], alts := [], laidByText := true, laidKinds := [.data], laidTests := true, laidLooks := .later }
def TopBothCardSaid : Prop := Claim7.holds Tryz.pinned (.plain (OpenSpec.ofChange topBothSpec)) topBothCard

/-- THE TIED CARD OF 'avouchtop.TopEmpty'. -/
def topEmptyCard : Claim7 := { stood := { row := topEmptyRow, standIns := [], harness := (true, "82c02f82b4990c3db1ed24a0f9f4d09a382b77918d60862eb3d7e0481a061f73"), looks := true }, kinds := [], alts := [], laidByText := true, laidKinds := [.data], laidTests := true, laidLooks := .later }
def TopEmptyCardSaid : Prop := Claim7.holds Tryz.pinned (.plain (OpenSpec.ofChange topEmptySpec)) topEmptyCard

/-- THE TIED CARD OF 'avouchtop.TopCalls'. -/
def topCallsCard : Claim7 := { stood := { row := topCallsRow, standIns := [], harness := (true, "82c02f82b4990c3db1ed24a0f9f4d09a382b77918d60862eb3d7e0481a061f73"), looks := true }, kinds := [], alts := [], laidByText := true, laidKinds := [.data], laidTests := true, laidLooks := .later }
def TopCallsCardSaid : Prop := Claim7.holds Tryz.pinned (.plain (OpenSpec.ofChange topCallsSpec)) topCallsCard

/-- THE TIED CARD OF 'avouchtop.TopEquation'. -/
def topEquationCard : Claim7 := { stood := { row := topEquationRow, standIns := [], harness := (true, "82c02f82b4990c3db1ed24a0f9f4d09a382b77918d60862eb3d7e0481a061f73"), looks := true }, kinds := [], alts := [], laidByText := true, laidKinds := [.data], laidTests := true, laidLooks := .later }
def TopEquationCardSaid : Prop := Claim7.holds Tryz.pinned (.plain (OpenSpec.ofChange topEquationSpec)) topEquationCard

/-- THE SECOND FORM's CARD OF 'avouchtop.TopBound'. -/
def topBoundUptoCard : Claim7 := { stood := { row := topBoundUptoRow, standIns := [], harness := (true, "82c02f82b4990c3db1ed24a0f9f4d09a382b77918d60862eb3d7e0481a061f73"), looks := true }, kinds := [], alts := [], laidByText := true, laidKinds := [.data], laidTests := true, laidLooks := .later }
def TopBoundUptoCardSaid : Prop := Claim7.holds Tryz.pinned (.plain (OpenSpec.upto topBoundSpec)) topBoundUptoCard

/-- THE SECOND FORM's CARD OF 'avouchtop.TopCanon'. -/
def topCanonUptoCard : Claim7 := { stood := { row := topCanonUptoRow, standIns := [], harness := (true, "82c02f82b4990c3db1ed24a0f9f4d09a382b77918d60862eb3d7e0481a061f73"), looks := true }, kinds := [], alts := [], laidByText := true, laidKinds := [.data], laidTests := true, laidLooks := .later }
def TopCanonUptoCardSaid : Prop := Claim7.holds Tryz.pinned (.plain (OpenSpec.upto topCanonSpec)) topCanonUptoCard

/-- THE SECOND FORM's CARD OF 'avouchtop.TopLabels'. -/
def topLabelsUptoCard : Claim7 := { stood := { row := topLabelsUptoRow, standIns := [], harness := (true, "82c02f82b4990c3db1ed24a0f9f4d09a382b77918d60862eb3d7e0481a061f73"), looks := true }, kinds := [], alts := [], laidByText := true, laidKinds := [.data], laidTests := true, laidLooks := .later }
def TopLabelsUptoCardSaid : Prop := Claim7.holds Tryz.pinned (.plain (OpenSpec.upto topLabelsSpec)) topLabelsUptoCard

/-- THE SECOND FORM's CARD OF 'avouchtop.TopBoth'. -/
def topBothUptoCard : Claim7 := { stood := { row := topBothUptoRow, standIns := [], harness := (true, "82c02f82b4990c3db1ed24a0f9f4d09a382b77918d60862eb3d7e0481a061f73"), looks := true }, kinds := [], alts := [], laidByText := true, laidKinds := [.data], laidTests := true, laidLooks := .later }
def TopBothUptoCardSaid : Prop := Claim7.holds Tryz.pinned (.plain (OpenSpec.upto topBothSpec)) topBothUptoCard

/-- THE SECOND FORM's CARD OF 'avouchtop.TopEmpty'. -/
def topEmptyUptoCard : Claim7 := { stood := { row := topEmptyUptoRow, standIns := [], harness := (true, "82c02f82b4990c3db1ed24a0f9f4d09a382b77918d60862eb3d7e0481a061f73"), looks := true }, kinds := [], alts := [], laidByText := true, laidKinds := [.data], laidTests := true, laidLooks := .later }
def TopEmptyUptoCardSaid : Prop := Claim7.holds Tryz.pinned (.plain (OpenSpec.upto topEmptySpec)) topEmptyUptoCard

/-- THE SECOND FORM's CARD OF 'avouchtop.TopCalls'. -/
def topCallsUptoCard : Claim7 := { stood := { row := topCallsUptoRow, standIns := [], harness := (true, "82c02f82b4990c3db1ed24a0f9f4d09a382b77918d60862eb3d7e0481a061f73"), looks := true }, kinds := [], alts := [], laidByText := true, laidKinds := [.data], laidTests := true, laidLooks := .later }
def TopCallsUptoCardSaid : Prop := Claim7.holds Tryz.pinned (.plain (OpenSpec.upto topCallsSpec)) topCallsUptoCard

/-- THE SECOND FORM's CARD OF 'avouchtop.TopEquation'. -/
def topEquationUptoCard : Claim7 := { stood := { row := topEquationUptoRow, standIns := [], harness := (true, "82c02f82b4990c3db1ed24a0f9f4d09a382b77918d60862eb3d7e0481a061f73"), looks := true }, kinds := [], alts := [], laidByText := true, laidKinds := [.data], laidTests := true, laidLooks := .later }
def TopEquationUptoCardSaid : Prop := Claim7.holds Tryz.pinned (.plain (OpenSpec.upto topEquationSpec)) topEquationUptoCard
end Rows
end Go.Proofs.YtlfadlfjjkppfaaGreatDoor
