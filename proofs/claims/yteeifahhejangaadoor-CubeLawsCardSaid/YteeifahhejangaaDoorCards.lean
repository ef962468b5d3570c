/-
  DERIVED. GIVEN WITH THE SEED: THE CARDS: each row of YteeifahhejangaaDoorRows.lean that lists a variable, with what it lists TIED to the program's text (the seventh form; the later family's looks); each row that meets fmt, with fmt's text TOLD by the authors' own Lean function (tested against real Go, not proved from fmt's source: count such statements apart). THE CARD IS WHAT COUNTS. Prove the row's statement (the work); the ties are given (YteeifahhejangaaDoorTie.lean); close each card by the builder's one call (the guide's Derived/Test/ToyasCard.lean, 'card_holds'). Laid BY PROGRAM, IN A SANDBOX (cutbox-door.mjs). By AI agents, Wed Nov 11 2026. No macro, syntax, notation, axiom, sorry.
-/
import Derived.Test.YteeifahhejangaaDoorRows
import GoSem.ClaimSeven
namespace Go.Proofs.YteeifahhejangaaDoor
namespace Rows

/-- THE TIED CARD OF 'avouchlaw23.CubeTells'. -/
def cubeTellsCard : Claim7 := { stood := { row := cubeTellsRow, standIns := [], harness := (true, "b8c990d39a5368e1fcc6a859e2deeb83d7c9ee1be9502835ef1b0f6cd51d0613"), looks := false }, kinds := [], alts := [], laidByText := true, laidKinds := [.data, .data], laidTests := true, laidLooks := .later }
def CubeTellsCardSaid : Prop := Claim7.holds Tryd.pinned (.plain (OpenSpec.ofChange cubeTellsSpec)) cubeTellsCard

/-- THE TIED CARD OF 'avouchlaw23.CubeHalves'. -/
def cubeHalvesCard : Claim7 := { stood := { row := cubeHalvesRow, standIns := [], harness := (true, "b8c990d39a5368e1fcc6a859e2deeb83d7c9ee1be9502835ef1b0f6cd51d0613"), looks := false }, kinds := [], alts := [], laidByText := true, laidKinds := [.data, .data], laidTests := true, laidLooks := .later }
def CubeHalvesCardSaid : Prop := Claim7.holds Tryd.pinned (.plain (OpenSpec.ofChange cubeHalvesSpec)) cubeHalvesCard

/-- THE TIED CARD OF 'avouchlaw23.CubeCorners'. -/
def cubeCornersCard : Claim7 := { stood := { row := cubeCornersRow, standIns := [], harness := (true, "b8c990d39a5368e1fcc6a859e2deeb83d7c9ee1be9502835ef1b0f6cd51d0613"), looks := false }, kinds := [], alts := [], laidByText := true, laidKinds := [.data, .data], laidTests := true, laidLooks := .later }
def CubeCornersCardSaid : Prop := Claim7.holds Tryd.pinned (.plain (OpenSpec.ofChange cubeCornersSpec)) cubeCornersCard

/-- THE TIED CARD OF 'avouchlaw23.CubeLaws'. -/
def cubeLawsCard : Claim7 := { stood := { row := cubeLawsRow, standIns := [], harness := (true, "b8c990d39a5368e1fcc6a859e2deeb83d7c9ee1be9502835ef1b0f6cd51d0613"), looks := false }, kinds := [], alts := [], laidByText := true, laidKinds := [.data, .data], laidTests := true, laidLooks := .later }
def CubeLawsCardSaid : Prop := Claim7.holds Tryd.pinned (.plain (OpenSpec.ofChange cubeLawsSpec)) cubeLawsCard

/-- THE SECOND FORM's CARD OF 'avouchlaw23.CubeTells'. -/
def cubeTellsUptoCard : Claim7 := { stood := { row := cubeTellsUptoRow, standIns := [], harness := (true, "b8c990d39a5368e1fcc6a859e2deeb83d7c9ee1be9502835ef1b0f6cd51d0613"), looks := false }, kinds := [], alts := [], laidByText := true, laidKinds := [.data, .data], laidTests := true, laidLooks := .later }
def CubeTellsUptoCardSaid : Prop := Claim7.holds Tryd.pinned (.plain (OpenSpec.upto cubeTellsSpec)) cubeTellsUptoCard

/-- THE SECOND FORM's CARD OF 'avouchlaw23.CubeHalves'. -/
def cubeHalvesUptoCard : Claim7 := { stood := { row := cubeHalvesUptoRow, standIns := [], harness := (true, "b8c990d39a5368e1fcc6a859e2deeb83d7c9ee1be9502835ef1b0f6cd51d0613"), looks := false }, kinds := [], alts := [], laidByText := true, laidKinds := [.data, .data], laidTests := true, laidLooks := .later }
def CubeHalvesUptoCardSaid : Prop := Claim7.holds Tryd.pinned (.plain (OpenSpec.upto cubeHalvesSpec)) cubeHalvesUptoCard

/-- THE SECOND FORM's CARD OF 'avouchlaw23.CubeCorners'. -/
def cubeCornersUptoCard : Claim7 := { stood := { row := cubeCornersUptoRow, standIns := [], harness := (true, "b8c990d39a5368e1fcc6a859e2deeb83d7c9ee1be9502835ef1b0f6cd51d0613"), looks := false }, kinds := [], alts := [], laidByText := true, laidKinds := [.data, .data], laidTests := true, laidLooks := .later }
def CubeCornersUptoCardSaid : Prop := Claim7.holds Tryd.pinned (.plain (OpenSpec.upto cubeCornersSpec)) cubeCornersUptoCard

/-- THE SECOND FORM's CARD OF 'avouchlaw23.CubeLaws'. -/
def cubeLawsUptoCard : Claim7 := { stood := { row := cubeLawsUptoRow, standIns := [], harness := (true, "b8c990d39a5368e1fcc6a859e2deeb83d7c9ee1be9502835ef1b0f6cd51d0613"), looks := false }, kinds := [], alts := [], laidByText := true, laidKinds := [.data, .data], laidTests := true, laidLooks := .later }
def CubeLawsUptoCardSaid : Prop := Claim7.holds Tryd.pinned (.plain (OpenSpec.upto cubeLawsSpec)) cubeLawsUptoCard
end Rows
end Go.Proofs.YteeifahhejangaaDoor
