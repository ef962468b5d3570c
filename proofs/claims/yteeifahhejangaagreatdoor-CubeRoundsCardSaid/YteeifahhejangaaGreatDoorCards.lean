/-
  DERIVED. GIVEN WITH THE SEED: THE CARDS: each row of YteeifahhejangaaGreatDoorRows.lean that lists a variable, with what it lists TIED to the program's text (the seventh form; the later family's looks); each row that meets fmt, with fmt's text TOLD by the authors' own Lean function (tested against real Go, not proved from fmt's source: count such statements apart). THE CARD IS WHAT COUNTS. Prove the row's statement (the work); the ties are given (YteeifahhejangaaGreatDoorTie.lean); close each card by the builder's one call (the guide's Derived/Test/ToyasCard.lean, 'card_holds'). Laid BY PROGRAM, IN A SANDBOX (cutbox-door.mjs). By AI agents, Wed Nov 11 2026. No macro, syntax, notation, axiom, sorry.
-/
import Derived.Test.YteeifahhejangaaGreatDoorRows
import GoSem.ClaimSeven
namespace Go.Proofs.YteeifahhejangaaGreatDoor
namespace Rows

/-- THE TIED CARD OF 'avouchlaw23.CubeRounds'. -/
def cubeRoundsCard : Claim7 := { stood := { row := cubeRoundsRow, standIns := [], harness := (true, "08c3a9cff9e45de4fbb71b77f8fb9d300b25a894a208d55bd4a04830def52201"), looks := false }, kinds := [], alts := [], laidByText := true, laidKinds := [.data, .data], laidTests := true, laidLooks := .later }
def CubeRoundsCardSaid : Prop := Claim7.holds Tryz.pinned (.plain (OpenSpec.ofChange cubeRoundsSpec)) cubeRoundsCard

/-- THE SECOND FORM's CARD OF 'avouchlaw23.CubeRounds'. -/
def cubeRoundsUptoCard : Claim7 := { stood := { row := cubeRoundsUptoRow, standIns := [], harness := (true, "08c3a9cff9e45de4fbb71b77f8fb9d300b25a894a208d55bd4a04830def52201"), looks := false }, kinds := [], alts := [], laidByText := true, laidKinds := [.data, .data], laidTests := true, laidLooks := .later }
def CubeRoundsUptoCardSaid : Prop := Claim7.holds Tryz.pinned (.plain (OpenSpec.upto cubeRoundsSpec)) cubeRoundsUptoCard
end Rows
end Go.Proofs.YteeifahhejangaaGreatDoor
