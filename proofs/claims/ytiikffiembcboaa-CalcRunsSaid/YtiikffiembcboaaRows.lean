/-
  No cell of these rows narrows 'for every input' (looked for: loops, veiled, ifaces, maps, wideKeys, modest, calm, conditions, laid).
  DERIVED. THE GIVEN ROWS OF THIS SEAT. 24 by the template 'for every input the law returns true; each argument reads behind the call as it read before'; 0 by the template 'total and deterministic' (their statements: YtiikffiembcboaaTotals.lean).
  GIVEN WITH THE SEED: the statements are not yours to turn. If you find one false, say at which input.
  Laid BY PROGRAM, IN A SANDBOX (cutbox-rows.mjs): the forced cells as the released guide's own fill.sh prints them over the translation ea15c2a6125c736c… (all of the seat's roots in one cut). By AI agents, Wed Nov 11 2026. No macro, syntax, notation, axiom, sorry.
-/
import Derived.Test.YtiikffiembcboaaChecked
import GoSem.Claim
import GoSem.ClaimJoined
import GoSem.ClaimMapViews
import Derived.JoinedTies
import Derived.KernelRfl
namespace Go.Proofs.Ytiikffiembcboaa
/- THE CELL 'sum', in the pinned program and in every row, IS THE sha256 OF THE DUMP (.gsa) THAT YtiikffiembcboaaProg.lean LOADS. Nothing in Lean hashes anything: it is a label: what it is worth is what the hold of that sum in a sandbox is worth. -/
noncomputable def Try.pinned : Pinned := { name := "ytiikffiembcboaa", sum := "ea15c2a6125c736cdb0c2c3107a210eee1a6535107c93390f10c3e7a3f8dcd01", checked := Try.checked }
namespace Rows
def none {H : Type} : Left H := { results := [], args := [] }

/-- 'avouchlaw08.GrainBits': WHATEVER THE INPUT: true; the input reads as it did. -/
def grainBitsSpec : ChangeSpec := { name := "grainBits", fn := fun _ => fun
  | [d1, d2] => { results := [.lit (.bool true)], args := [d1, d2] }
  | _ => none }
def grainBitsRow : OpenClaim := { program := "ytiikffiembcboaa", sum := "ea15c2a6125c736cdb0c2c3107a210eee1a6535107c93390f10c3e7a3f8dcd01", func := "avouch/avouchlaw08.GrainBits", spec := "grainBits", unfollowed := true, recurses := true, apart := false }
def GrainBitsSaid : Prop := grainBitsRow.holds Try.pinned (OpenSpec.ofChange grainBitsSpec)

/-- ITS FALSE NEIGHBOUR: 'it returns false'. Refute it at one input. -/
def grainBitsWrong : ChangeSpec := { name := "grainBits", fn := fun _ => fun
  | [d1, d2] => { results := [.lit (.bool false)], args := [d1, d2] }
  | _ => none }
def GrainBitsWrongFalsely : Prop := grainBitsRow.holds Try.pinned (OpenSpec.ofChange grainBitsWrong)

/-- 'avouchlaw08.GrainPieces': WHATEVER THE INPUT: true; the input reads as it did. -/
def grainPiecesSpec : ChangeSpec := { name := "grainPieces", fn := fun _ => fun
  | [d1, d2, d3] => { results := [.lit (.bool true)], args := [d1, d2, d3] }
  | _ => none }
def grainPiecesRow : OpenClaim := { program := "ytiikffiembcboaa", sum := "ea15c2a6125c736cdb0c2c3107a210eee1a6535107c93390f10c3e7a3f8dcd01", func := "avouch/avouchlaw08.GrainPieces", spec := "grainPieces", unfollowed := true, recurses := true, apart := false }
def GrainPiecesSaid : Prop := grainPiecesRow.holds Try.pinned (OpenSpec.ofChange grainPiecesSpec)

/-- ITS FALSE NEIGHBOUR: 'it returns false'. Refute it at one input. -/
def grainPiecesWrong : ChangeSpec := { name := "grainPieces", fn := fun _ => fun
  | [d1, d2, d3] => { results := [.lit (.bool false)], args := [d1, d2, d3] }
  | _ => none }
def GrainPiecesWrongFalsely : Prop := grainPiecesRow.holds Try.pinned (OpenSpec.ofChange grainPiecesWrong)

/-- 'avouchlaw16.SampleFirst': WHATEVER THE INPUT: true; the input reads as it did. -/
def sampleFirstSpec : ChangeSpec := { name := "sampleFirst", fn := fun _ => fun
  | [d1, d2, d3] => { results := [.lit (.bool true)], args := [d1, d2, d3] }
  | _ => none }
def sampleFirstRow : OpenClaim := { program := "ytiikffiembcboaa", sum := "ea15c2a6125c736cdb0c2c3107a210eee1a6535107c93390f10c3e7a3f8dcd01", func := "avouch/avouchlaw16.SampleFirst", spec := "sampleFirst", inPlace := ["math/bits.Sub64", "math/bits.Add64"], unfollowed := true, recurses := true, apart := false }
def SampleFirstSaid : Prop := sampleFirstRow.holds Try.pinned (OpenSpec.ofChange sampleFirstSpec)

/-- ITS FALSE NEIGHBOUR: 'it returns false'. Refute it at one input. -/
def sampleFirstWrong : ChangeSpec := { name := "sampleFirst", fn := fun _ => fun
  | [d1, d2, d3] => { results := [.lit (.bool false)], args := [d1, d2, d3] }
  | _ => none }
def SampleFirstWrongFalsely : Prop := sampleFirstRow.holds Try.pinned (OpenSpec.ofChange sampleFirstWrong)

/-- 'avouchlaw16.SampleMany': WHATEVER THE INPUT: true; the input reads as it did. -/
def sampleManySpec : ChangeSpec := { name := "sampleMany", fn := fun _ => fun
  | [d1, d2] => { results := [.lit (.bool true)], args := [d1, d2] }
  | _ => none }
def sampleManyRow : OpenClaim := { program := "ytiikffiembcboaa", sum := "ea15c2a6125c736cdb0c2c3107a210eee1a6535107c93390f10c3e7a3f8dcd01", func := "avouch/avouchlaw16.SampleMany", spec := "sampleMany", inPlace := ["math/bits.Sub64", "math/bits.Add64"], unfollowed := true, recurses := true, apart := false }
def SampleManySaid : Prop := sampleManyRow.holds Try.pinned (OpenSpec.ofChange sampleManySpec)

/-- ITS FALSE NEIGHBOUR: 'it returns false'. Refute it at one input. -/
def sampleManyWrong : ChangeSpec := { name := "sampleMany", fn := fun _ => fun
  | [d1, d2] => { results := [.lit (.bool false)], args := [d1, d2] }
  | _ => none }
def SampleManyWrongFalsely : Prop := sampleManyRow.holds Try.pinned (OpenSpec.ofChange sampleManyWrong)

/-- 'avouchlaw16.SampleMasks': WHATEVER THE INPUT: true; the input reads as it did. -/
def sampleMasksSpec : ChangeSpec := { name := "sampleMasks", fn := fun _ => fun
  | [d] => { results := [.lit (.bool true)], args := [d] }
  | _ => none }
def sampleMasksRow : OpenClaim := { program := "ytiikffiembcboaa", sum := "ea15c2a6125c736cdb0c2c3107a210eee1a6535107c93390f10c3e7a3f8dcd01", func := "avouch/avouchlaw16.SampleMasks", spec := "sampleMasks", inPlace := ["math/bits.Sub64", "math/bits.Add64"], unfollowed := true, recurses := true, apart := false }
def SampleMasksSaid : Prop := sampleMasksRow.holds Try.pinned (OpenSpec.ofChange sampleMasksSpec)

/-- ITS FALSE NEIGHBOUR: 'it returns false'. Refute it at one input. -/
def sampleMasksWrong : ChangeSpec := { name := "sampleMasks", fn := fun _ => fun
  | [d] => { results := [.lit (.bool false)], args := [d] }
  | _ => none }
def SampleMasksWrongFalsely : Prop := sampleMasksRow.holds Try.pinned (OpenSpec.ofChange sampleMasksWrong)

/-- 'avouchlaw16.SampleFields': WHATEVER THE INPUT: true; the input reads as it did. -/
def sampleFieldsSpec : ChangeSpec := { name := "sampleFields", fn := fun _ => fun
  | [d1, d2] => { results := [.lit (.bool true)], args := [d1, d2] }
  | _ => none }
def sampleFieldsRow : OpenClaim := { program := "ytiikffiembcboaa", sum := "ea15c2a6125c736cdb0c2c3107a210eee1a6535107c93390f10c3e7a3f8dcd01", func := "avouch/avouchlaw16.SampleFields", spec := "sampleFields", inPlace := ["math/bits.Sub64", "math/bits.Add64"], unfollowed := true, recurses := true, apart := false }
def SampleFieldsSaid : Prop := sampleFieldsRow.holds Try.pinned (OpenSpec.ofChange sampleFieldsSpec)

/-- ITS FALSE NEIGHBOUR: 'it returns false'. Refute it at one input. -/
def sampleFieldsWrong : ChangeSpec := { name := "sampleFields", fn := fun _ => fun
  | [d1, d2] => { results := [.lit (.bool false)], args := [d1, d2] }
  | _ => none }
def SampleFieldsWrongFalsely : Prop := sampleFieldsRow.holds Try.pinned (OpenSpec.ofChange sampleFieldsWrong)

/-- 'avouchlaw08.GrainSkips': WHATEVER THE INPUT: true; the input reads as it did. -/
def grainSkipsSpec : ChangeSpec := { name := "grainSkips", fn := fun _ => fun
  | [d1, d2, d3] => { results := [.lit (.bool true)], args := [d1, d2, d3] }
  | _ => none }
def grainSkipsRow : OpenClaim := { program := "ytiikffiembcboaa", sum := "ea15c2a6125c736cdb0c2c3107a210eee1a6535107c93390f10c3e7a3f8dcd01", func := "avouch/avouchlaw08.GrainSkips", spec := "grainSkips", inPlace := ["math/bits.Sub64", "math/bits.Add64"], unfollowed := true, recurses := true, apart := false }
def GrainSkipsSaid : Prop := grainSkipsRow.holds Try.pinned (OpenSpec.ofChange grainSkipsSpec)

/-- ITS FALSE NEIGHBOUR: 'it returns false'. Refute it at one input. -/
def grainSkipsWrong : ChangeSpec := { name := "grainSkips", fn := fun _ => fun
  | [d1, d2, d3] => { results := [.lit (.bool false)], args := [d1, d2, d3] }
  | _ => none }
def GrainSkipsWrongFalsely : Prop := grainSkipsRow.holds Try.pinned (OpenSpec.ofChange grainSkipsWrong)

/-- 'avouchlaw08.GrainElements': WHATEVER THE INPUT: true; the input reads as it did. -/
def grainElementsSpec : ChangeSpec := { name := "grainElements", fn := fun _ => fun
  | [d1, d2] => { results := [.lit (.bool true)], args := [d1, d2] }
  | _ => none }
def grainElementsRow : OpenClaim := { program := "ytiikffiembcboaa", sum := "ea15c2a6125c736cdb0c2c3107a210eee1a6535107c93390f10c3e7a3f8dcd01", func := "avouch/avouchlaw08.GrainElements", spec := "grainElements", inPlace := ["math/bits.Sub64", "math/bits.Add64"], unfollowed := true, recurses := true, apart := false }
def GrainElementsSaid : Prop := grainElementsRow.holds Try.pinned (OpenSpec.ofChange grainElementsSpec)

/-- ITS FALSE NEIGHBOUR: 'it returns false'. Refute it at one input. -/
def grainElementsWrong : ChangeSpec := { name := "grainElements", fn := fun _ => fun
  | [d1, d2] => { results := [.lit (.bool false)], args := [d1, d2] }
  | _ => none }
def GrainElementsWrongFalsely : Prop := grainElementsRow.holds Try.pinned (OpenSpec.ofChange grainElementsWrong)

/-- 'avouchlaw01.LimbPowers': WHATEVER THE INPUT: true; the input reads as it did. -/
def limbPowersSpec : ChangeSpec := { name := "limbPowers", fn := fun _ => fun
  | [d1, d2, d3] => { results := [.lit (.bool true)], args := [d1, d2, d3] }
  | _ => none }
def limbPowersRow : OpenClaim := { program := "ytiikffiembcboaa", sum := "ea15c2a6125c736cdb0c2c3107a210eee1a6535107c93390f10c3e7a3f8dcd01", func := "avouch/avouchlaw01.LimbPowers", spec := "limbPowers", inPlace := ["math/bits.Add64", "math/bits.Sub64"], unfollowed := true, recurses := true, apart := false }
def LimbPowersSaid : Prop := limbPowersRow.holds Try.pinned (OpenSpec.ofChange limbPowersSpec)

/-- ITS FALSE NEIGHBOUR: 'it returns false'. Refute it at one input. -/
def limbPowersWrong : ChangeSpec := { name := "limbPowers", fn := fun _ => fun
  | [d1, d2, d3] => { results := [.lit (.bool false)], args := [d1, d2, d3] }
  | _ => none }
def LimbPowersWrongFalsely : Prop := limbPowersRow.holds Try.pinned (OpenSpec.ofChange limbPowersWrong)

/-- 'avouchlaw01.LimbRings': WHATEVER THE INPUT: true; the input reads as it did. -/
def limbRingsSpec : ChangeSpec := { name := "limbRings", fn := fun _ => fun
  | [d1, d2, d3, d4] => { results := [.lit (.bool true)], args := [d1, d2, d3, d4] }
  | _ => none }
def limbRingsRow : OpenClaim := { program := "ytiikffiembcboaa", sum := "ea15c2a6125c736cdb0c2c3107a210eee1a6535107c93390f10c3e7a3f8dcd01", func := "avouch/avouchlaw01.LimbRings", spec := "limbRings", inPlace := ["math/bits.Add64", "math/bits.Sub64"], unfollowed := true, recurses := true, apart := false }
def LimbRingsSaid : Prop := limbRingsRow.holds Try.pinned (OpenSpec.ofChange limbRingsSpec)

/-- ITS FALSE NEIGHBOUR: 'it returns false'. Refute it at one input. -/
def limbRingsWrong : ChangeSpec := { name := "limbRings", fn := fun _ => fun
  | [d1, d2, d3, d4] => { results := [.lit (.bool false)], args := [d1, d2, d3, d4] }
  | _ => none }
def LimbRingsWrongFalsely : Prop := limbRingsRow.holds Try.pinned (OpenSpec.ofChange limbRingsWrong)

/-- 'avouchlaw01.LimbMultiples': WHATEVER THE INPUT: true; the input reads as it did. -/
def limbMultiplesSpec : ChangeSpec := { name := "limbMultiples", fn := fun _ => fun
  | [d1, d2, d3] => { results := [.lit (.bool true)], args := [d1, d2, d3] }
  | _ => none }
def limbMultiplesRow : OpenClaim := { program := "ytiikffiembcboaa", sum := "ea15c2a6125c736cdb0c2c3107a210eee1a6535107c93390f10c3e7a3f8dcd01", func := "avouch/avouchlaw01.LimbMultiples", spec := "limbMultiples", inPlace := ["math/bits.Add64", "math/bits.Sub64"], unfollowed := true, recurses := true, apart := false }
def LimbMultiplesSaid : Prop := limbMultiplesRow.holds Try.pinned (OpenSpec.ofChange limbMultiplesSpec)

/-- ITS FALSE NEIGHBOUR: 'it returns false'. Refute it at one input. -/
def limbMultiplesWrong : ChangeSpec := { name := "limbMultiples", fn := fun _ => fun
  | [d1, d2, d3] => { results := [.lit (.bool false)], args := [d1, d2, d3] }
  | _ => none }
def LimbMultiplesWrongFalsely : Prop := limbMultiplesRow.holds Try.pinned (OpenSpec.ofChange limbMultiplesWrong)

/-- 'avouchlaw01.LimbModulo': WHATEVER THE INPUT: true; the input reads as it did. -/
def limbModuloSpec : ChangeSpec := { name := "limbModulo", fn := fun _ => fun
  | [d1, d2, d3] => { results := [.lit (.bool true)], args := [d1, d2, d3] }
  | _ => none }
def limbModuloRow : OpenClaim := { program := "ytiikffiembcboaa", sum := "ea15c2a6125c736cdb0c2c3107a210eee1a6535107c93390f10c3e7a3f8dcd01", func := "avouch/avouchlaw01.LimbModulo", spec := "limbModulo", inPlace := ["math/bits.Add64", "math/bits.Sub64"], unfollowed := true, recurses := true, apart := false }
def LimbModuloSaid : Prop := limbModuloRow.holds Try.pinned (OpenSpec.ofChange limbModuloSpec)

/-- ITS FALSE NEIGHBOUR: 'it returns false'. Refute it at one input. -/
def limbModuloWrong : ChangeSpec := { name := "limbModulo", fn := fun _ => fun
  | [d1, d2, d3] => { results := [.lit (.bool false)], args := [d1, d2, d3] }
  | _ => none }
def LimbModuloWrongFalsely : Prop := limbModuloRow.holds Try.pinned (OpenSpec.ofChange limbModuloWrong)

/-- 'avouchlaw01.LimbReads': WHATEVER THE INPUT: true; the input reads as it did. -/
def limbReadsSpec : ChangeSpec := { name := "limbReads", fn := fun _ => fun
  | [d] => { results := [.lit (.bool true)], args := [d] }
  | _ => none }
def limbReadsRow : OpenClaim := { program := "ytiikffiembcboaa", sum := "ea15c2a6125c736cdb0c2c3107a210eee1a6535107c93390f10c3e7a3f8dcd01", func := "avouch/avouchlaw01.LimbReads", spec := "limbReads", inPlace := ["math/bits.Add64", "math/bits.Sub64"], unfollowed := true, recurses := true, apart := false }
def LimbReadsSaid : Prop := limbReadsRow.holds Try.pinned (OpenSpec.ofChange limbReadsSpec)

/-- ITS FALSE NEIGHBOUR: 'it returns false'. Refute it at one input. -/
def limbReadsWrong : ChangeSpec := { name := "limbReads", fn := fun _ => fun
  | [d] => { results := [.lit (.bool false)], args := [d] }
  | _ => none }
def LimbReadsWrongFalsely : Prop := limbReadsRow.holds Try.pinned (OpenSpec.ofChange limbReadsWrong)

/-- 'avouchlaw01.LimbReckons': WHATEVER THE INPUT: true; the input reads as it did. -/
def limbReckonsSpec : ChangeSpec := { name := "limbReckons", fn := fun _ => fun
  | [d1, d2] => { results := [.lit (.bool true)], args := [d1, d2] }
  | _ => none }
def limbReckonsRow : OpenClaim := { program := "ytiikffiembcboaa", sum := "ea15c2a6125c736cdb0c2c3107a210eee1a6535107c93390f10c3e7a3f8dcd01", func := "avouch/avouchlaw01.LimbReckons", spec := "limbReckons", inPlace := ["math/bits.Add64", "math/bits.Sub64"], unfollowed := true, recurses := true, apart := false }
def LimbReckonsSaid : Prop := limbReckonsRow.holds Try.pinned (OpenSpec.ofChange limbReckonsSpec)

/-- ITS FALSE NEIGHBOUR: 'it returns false'. Refute it at one input. -/
def limbReckonsWrong : ChangeSpec := { name := "limbReckons", fn := fun _ => fun
  | [d1, d2] => { results := [.lit (.bool false)], args := [d1, d2] }
  | _ => none }
def LimbReckonsWrongFalsely : Prop := limbReckonsRow.holds Try.pinned (OpenSpec.ofChange limbReckonsWrong)

/-- 'avouchlaw03.CalcPieces': WHATEVER THE INPUT: true; the input reads as it did. -/
def calcPiecesSpec : ChangeSpec := { name := "calcPieces", fn := fun _ => fun
  | [d1, d2, d3] => { results := [.lit (.bool true)], args := [d1, d2, d3] }
  | _ => none }
def calcPiecesRow : OpenClaim := { program := "ytiikffiembcboaa", sum := "ea15c2a6125c736cdb0c2c3107a210eee1a6535107c93390f10c3e7a3f8dcd01", func := "avouch/avouchlaw03.CalcPieces", spec := "calcPieces", inPlace := ["math/bits.Sub64", "math/bits.Add64"], unfollowed := true, recurses := true, apart := false }
def CalcPiecesSaid : Prop := calcPiecesRow.holds Try.pinned (OpenSpec.ofChange calcPiecesSpec)

/-- ITS FALSE NEIGHBOUR: 'it returns false'. Refute it at one input. -/
def calcPiecesWrong : ChangeSpec := { name := "calcPieces", fn := fun _ => fun
  | [d1, d2, d3] => { results := [.lit (.bool false)], args := [d1, d2, d3] }
  | _ => none }
def CalcPiecesWrongFalsely : Prop := calcPiecesRow.holds Try.pinned (OpenSpec.ofChange calcPiecesWrong)

/-- 'avouchlaw03.CalcUndoes': WHATEVER THE INPUT: true; the input reads as it did. -/
def calcUndoesSpec : ChangeSpec := { name := "calcUndoes", fn := fun _ => fun
  | [d1, d2] => { results := [.lit (.bool true)], args := [d1, d2] }
  | _ => none }
def calcUndoesRow : OpenClaim := { program := "ytiikffiembcboaa", sum := "ea15c2a6125c736cdb0c2c3107a210eee1a6535107c93390f10c3e7a3f8dcd01", func := "avouch/avouchlaw03.CalcUndoes", spec := "calcUndoes", inPlace := ["math/bits.Sub64", "math/bits.Add64"], unfollowed := true, recurses := true, apart := false }
def CalcUndoesSaid : Prop := calcUndoesRow.holds Try.pinned (OpenSpec.ofChange calcUndoesSpec)

/-- ITS FALSE NEIGHBOUR: 'it returns false'. Refute it at one input. -/
def calcUndoesWrong : ChangeSpec := { name := "calcUndoes", fn := fun _ => fun
  | [d1, d2] => { results := [.lit (.bool false)], args := [d1, d2] }
  | _ => none }
def CalcUndoesWrongFalsely : Prop := calcUndoesRow.holds Try.pinned (OpenSpec.ofChange calcUndoesWrong)

/-- 'avouchlaw03.CalcDepth': WHATEVER THE INPUT: true; the input reads as it did. -/
def calcDepthSpec : ChangeSpec := { name := "calcDepth", fn := fun _ => fun
  | [d1, d2] => { results := [.lit (.bool true)], args := [d1, d2] }
  | _ => none }
def calcDepthRow : OpenClaim := { program := "ytiikffiembcboaa", sum := "ea15c2a6125c736cdb0c2c3107a210eee1a6535107c93390f10c3e7a3f8dcd01", func := "avouch/avouchlaw03.CalcDepth", spec := "calcDepth", inPlace := ["math/bits.Sub64", "math/bits.Add64"], unfollowed := true, recurses := true, apart := false }
def CalcDepthSaid : Prop := calcDepthRow.holds Try.pinned (OpenSpec.ofChange calcDepthSpec)

/-- ITS FALSE NEIGHBOUR: 'it returns false'. Refute it at one input. -/
def calcDepthWrong : ChangeSpec := { name := "calcDepth", fn := fun _ => fun
  | [d1, d2] => { results := [.lit (.bool false)], args := [d1, d2] }
  | _ => none }
def CalcDepthWrongFalsely : Prop := calcDepthRow.holds Try.pinned (OpenSpec.ofChange calcDepthWrong)

/-- 'avouchlaw03.CalcRuns': WHATEVER THE INPUT: true; the input reads as it did. -/
def calcRunsSpec : ChangeSpec := { name := "calcRuns", fn := fun _ => fun
  | [d1, d2] => { results := [.lit (.bool true)], args := [d1, d2] }
  | _ => none }
def calcRunsRow : OpenClaim := { program := "ytiikffiembcboaa", sum := "ea15c2a6125c736cdb0c2c3107a210eee1a6535107c93390f10c3e7a3f8dcd01", func := "avouch/avouchlaw03.CalcRuns", spec := "calcRuns", inPlace := ["math/bits.Sub64", "math/bits.Add64"], unfollowed := true, recurses := true, apart := false }
def CalcRunsSaid : Prop := calcRunsRow.holds Try.pinned (OpenSpec.ofChange calcRunsSpec)

/-- ITS FALSE NEIGHBOUR: 'it returns false'. Refute it at one input. -/
def calcRunsWrong : ChangeSpec := { name := "calcRuns", fn := fun _ => fun
  | [d1, d2] => { results := [.lit (.bool false)], args := [d1, d2] }
  | _ => none }
def CalcRunsWrongFalsely : Prop := calcRunsRow.holds Try.pinned (OpenSpec.ofChange calcRunsWrong)

/-- 'avouchlaw02.FieldPowers': WHATEVER THE INPUT: true; the input reads as it did. -/
def fieldPowersSpec : ChangeSpec := { name := "fieldPowers", fn := fun _ => fun
  | [d1, d2] => { results := [.lit (.bool true)], args := [d1, d2] }
  | _ => none }
def fieldPowersRow : OpenClaim := { program := "ytiikffiembcboaa", sum := "ea15c2a6125c736cdb0c2c3107a210eee1a6535107c93390f10c3e7a3f8dcd01", func := "avouch/avouchlaw02.FieldPowers", spec := "fieldPowers", inPlace := ["math/bits.Add64", "math/bits.Sub64"], unfollowed := true, recurses := true, apart := false }
def FieldPowersSaid : Prop := fieldPowersRow.holds Try.pinned (OpenSpec.ofChange fieldPowersSpec)

/-- ITS FALSE NEIGHBOUR: 'it returns false'. Refute it at one input. -/
def fieldPowersWrong : ChangeSpec := { name := "fieldPowers", fn := fun _ => fun
  | [d1, d2] => { results := [.lit (.bool false)], args := [d1, d2] }
  | _ => none }
def FieldPowersWrongFalsely : Prop := fieldPowersRow.holds Try.pinned (OpenSpec.ofChange fieldPowersWrong)

/-- 'avouchlaw02.FieldSums': WHATEVER THE INPUT: true; the input reads as it did. -/
def fieldSumsSpec : ChangeSpec := { name := "fieldSums", fn := fun _ => fun
  | [d1, d2] => { results := [.lit (.bool true)], args := [d1, d2] }
  | _ => none }
def fieldSumsRow : OpenClaim := { program := "ytiikffiembcboaa", sum := "ea15c2a6125c736cdb0c2c3107a210eee1a6535107c93390f10c3e7a3f8dcd01", func := "avouch/avouchlaw02.FieldSums", spec := "fieldSums", inPlace := ["math/bits.Add64", "math/bits.Sub64"], unfollowed := true, recurses := true, apart := false }
def FieldSumsSaid : Prop := fieldSumsRow.holds Try.pinned (OpenSpec.ofChange fieldSumsSpec)

/-- ITS FALSE NEIGHBOUR: 'it returns false'. Refute it at one input. -/
def fieldSumsWrong : ChangeSpec := { name := "fieldSums", fn := fun _ => fun
  | [d1, d2] => { results := [.lit (.bool false)], args := [d1, d2] }
  | _ => none }
def FieldSumsWrongFalsely : Prop := fieldSumsRow.holds Try.pinned (OpenSpec.ofChange fieldSumsWrong)

/-- 'avouchlaw02.FieldLaws': WHATEVER THE INPUT: true; the input reads as it did. -/
def fieldLawsSpec : ChangeSpec := { name := "fieldLaws", fn := fun _ => fun
  | [d1, d2, d3] => { results := [.lit (.bool true)], args := [d1, d2, d3] }
  | _ => none }
def fieldLawsRow : OpenClaim := { program := "ytiikffiembcboaa", sum := "ea15c2a6125c736cdb0c2c3107a210eee1a6535107c93390f10c3e7a3f8dcd01", func := "avouch/avouchlaw02.FieldLaws", spec := "fieldLaws", inPlace := ["math/bits.Add64", "math/bits.Sub64"], unfollowed := true, recurses := true, apart := false }
def FieldLawsSaid : Prop := fieldLawsRow.holds Try.pinned (OpenSpec.ofChange fieldLawsSpec)

/-- ITS FALSE NEIGHBOUR: 'it returns false'. Refute it at one input. -/
def fieldLawsWrong : ChangeSpec := { name := "fieldLaws", fn := fun _ => fun
  | [d1, d2, d3] => { results := [.lit (.bool false)], args := [d1, d2, d3] }
  | _ => none }
def FieldLawsWrongFalsely : Prop := fieldLawsRow.holds Try.pinned (OpenSpec.ofChange fieldLawsWrong)

/-- 'avouchlaw02.FieldReads': WHATEVER THE INPUT: true; the input reads as it did. -/
def fieldReadsSpec : ChangeSpec := { name := "fieldReads", fn := fun _ => fun
  | [d1, d2] => { results := [.lit (.bool true)], args := [d1, d2] }
  | _ => none }
def fieldReadsRow : OpenClaim := { program := "ytiikffiembcboaa", sum := "ea15c2a6125c736cdb0c2c3107a210eee1a6535107c93390f10c3e7a3f8dcd01", func := "avouch/avouchlaw02.FieldReads", spec := "fieldReads", inPlace := ["math/bits.Add64", "math/bits.Sub64"], unfollowed := true, recurses := true, apart := false }
def FieldReadsSaid : Prop := fieldReadsRow.holds Try.pinned (OpenSpec.ofChange fieldReadsSpec)

/-- ITS FALSE NEIGHBOUR: 'it returns false'. Refute it at one input. -/
def fieldReadsWrong : ChangeSpec := { name := "fieldReads", fn := fun _ => fun
  | [d1, d2] => { results := [.lit (.bool false)], args := [d1, d2] }
  | _ => none }
def FieldReadsWrongFalsely : Prop := fieldReadsRow.holds Try.pinned (OpenSpec.ofChange fieldReadsWrong)

/-- 'avouchlaw16.SampleBytes': WHATEVER THE INPUT: true; the input reads as it did. -/
def sampleBytesSpec : ChangeSpec := { name := "sampleBytes", fn := fun _ => fun
  | [d1, d2] => { results := [.lit (.bool true)], args := [d1, d2] }
  | _ => none }
def sampleBytesRow : OpenClaim := { program := "ytiikffiembcboaa", sum := "ea15c2a6125c736cdb0c2c3107a210eee1a6535107c93390f10c3e7a3f8dcd01", func := "avouch/avouchlaw16.SampleBytes", spec := "sampleBytes", inPlace := ["math/bits.Sub64", "math/bits.Add64"], unfollowed := true, recurses := true, apart := false }
def SampleBytesSaid : Prop := sampleBytesRow.holds Try.pinned (OpenSpec.ofChange sampleBytesSpec)

/-- ITS FALSE NEIGHBOUR: 'it returns false'. Refute it at one input. -/
def sampleBytesWrong : ChangeSpec := { name := "sampleBytes", fn := fun _ => fun
  | [d1, d2] => { results := [.lit (.bool false)], args := [d1, d2] }
  | _ => none }
def SampleBytesWrongFalsely : Prop := sampleBytesRow.holds Try.pinned (OpenSpec.ofChange sampleBytesWrong)

/-- 'avouchlaw02.FieldReckons': WHATEVER THE INPUT: true; the input reads as it did. -/
def fieldReckonsSpec : ChangeSpec := { name := "fieldReckons", fn := fun _ => fun
  | [d1, d2] => { results := [.lit (.bool true)], args := [d1, d2] }
  | _ => none }
def fieldReckonsRow : OpenClaim := { program := "ytiikffiembcboaa", sum := "ea15c2a6125c736cdb0c2c3107a210eee1a6535107c93390f10c3e7a3f8dcd01", func := "avouch/avouchlaw02.FieldReckons", spec := "fieldReckons", inPlace := ["math/bits.Add64", "math/bits.Sub64"], unfollowed := true, recurses := true, apart := false }
def FieldReckonsSaid : Prop := fieldReckonsRow.holds Try.pinned (OpenSpec.ofChange fieldReckonsSpec)

/-- ITS FALSE NEIGHBOUR: 'it returns false'. Refute it at one input. -/
def fieldReckonsWrong : ChangeSpec := { name := "fieldReckons", fn := fun _ => fun
  | [d1, d2] => { results := [.lit (.bool false)], args := [d1, d2] }
  | _ => none }
def FieldReckonsWrongFalsely : Prop := fieldReckonsRow.holds Try.pinned (OpenSpec.ofChange fieldReckonsWrong)

/- THE SECOND FORM. 'bulk': how many values and letters a reading holds, each counted each time it is reached (what is shared counts as often as it is met; a slice's spare places count too). A statement '..UptoSaid' is the law's where the arguments, and the package variables that the reading takes, are together of bulk at most 1048576: NARROWER than '..Said'. Prove '..Said' where nothing that the law and all that it calls make is longer than what came in: it says more and counts as full. Else prove '..UptoSaid'. A law counts once. -/
mutual
def uptoBulk {H : Type} : DataW H → Nat
  | .lit (.string bytes) => bytes.length + 1
  | .lit _ => 1
  | .nil => 1
  | .ptr d => uptoBulk d + 1
  | .slice elems spare => uptoBulkAll elems + uptoBulkAll spare + 1
  | .agg parts => uptoBulkAll parts + 1
  | .iface _ d => uptoBulk d + 1
  | .map entries => uptoBulkEntries entries + 1
  | .held _ => 1
def uptoBulkAll {H : Type} : List (DataW H) → Nat
  | [] => 0
  | d :: r => uptoBulk d + uptoBulkAll r
def uptoBulkEntries {H : Type} : List (Lit × DataW H) → Nat
  | [] => 0
  | x :: r => uptoBulkEntry x + uptoBulkEntries r
def uptoBulkEntry {H : Type} : Lit × DataW H → Nat
  | (.string bytes, d) => bytes.length + uptoBulk d + 1
  | (_, d) => uptoBulk d + 1
 end
def uptoSmall : (H : Type) → List (DataW H) → Bool := fun _ ds => decide (uptoBulkAll ds ≤ 1048576)
def OpenSpec.upto (s : _root_.Go.ChangeSpec) : _root_.Go.OpenSpec := { _root_.Go.OpenSpec.ofChange s with cond := some uptoSmall }

/-- 'avouchlaw08.GrainBits', WHERE WHAT IT READS IS OF BULK AT MOST 1048576: true; the input reads as it did. -/
def grainBitsUptoRow : OpenClaim := { program := "ytiikffiembcboaa", sum := "ea15c2a6125c736cdb0c2c3107a210eee1a6535107c93390f10c3e7a3f8dcd01", func := "avouch/avouchlaw08.GrainBits", spec := "grainBits", unfollowed := true, recurses := true, apart := false, narrowed := true }
def GrainBitsUptoSaid : Prop := grainBitsUptoRow.holds Try.pinned (OpenSpec.upto grainBitsSpec)

/-- 'avouchlaw08.GrainPieces', WHERE WHAT IT READS IS OF BULK AT MOST 1048576: true; the input reads as it did. -/
def grainPiecesUptoRow : OpenClaim := { program := "ytiikffiembcboaa", sum := "ea15c2a6125c736cdb0c2c3107a210eee1a6535107c93390f10c3e7a3f8dcd01", func := "avouch/avouchlaw08.GrainPieces", spec := "grainPieces", unfollowed := true, recurses := true, apart := false, narrowed := true }
def GrainPiecesUptoSaid : Prop := grainPiecesUptoRow.holds Try.pinned (OpenSpec.upto grainPiecesSpec)

/-- 'avouchlaw16.SampleFirst', WHERE WHAT IT READS IS OF BULK AT MOST 1048576: true; the input reads as it did. -/
def sampleFirstUptoRow : OpenClaim := { program := "ytiikffiembcboaa", sum := "ea15c2a6125c736cdb0c2c3107a210eee1a6535107c93390f10c3e7a3f8dcd01", func := "avouch/avouchlaw16.SampleFirst", spec := "sampleFirst", inPlace := ["math/bits.Sub64", "math/bits.Add64"], unfollowed := true, recurses := true, apart := false, narrowed := true }
def SampleFirstUptoSaid : Prop := sampleFirstUptoRow.holds Try.pinned (OpenSpec.upto sampleFirstSpec)

/-- 'avouchlaw16.SampleMany', WHERE WHAT IT READS IS OF BULK AT MOST 1048576: true; the input reads as it did. -/
def sampleManyUptoRow : OpenClaim := { program := "ytiikffiembcboaa", sum := "ea15c2a6125c736cdb0c2c3107a210eee1a6535107c93390f10c3e7a3f8dcd01", func := "avouch/avouchlaw16.SampleMany", spec := "sampleMany", inPlace := ["math/bits.Sub64", "math/bits.Add64"], unfollowed := true, recurses := true, apart := false, narrowed := true }
def SampleManyUptoSaid : Prop := sampleManyUptoRow.holds Try.pinned (OpenSpec.upto sampleManySpec)

/-- 'avouchlaw16.SampleMasks', WHERE WHAT IT READS IS OF BULK AT MOST 1048576: true; the input reads as it did. -/
def sampleMasksUptoRow : OpenClaim := { program := "ytiikffiembcboaa", sum := "ea15c2a6125c736cdb0c2c3107a210eee1a6535107c93390f10c3e7a3f8dcd01", func := "avouch/avouchlaw16.SampleMasks", spec := "sampleMasks", inPlace := ["math/bits.Sub64", "math/bits.Add64"], unfollowed := true, recurses := true, apart := false, narrowed := true }
def SampleMasksUptoSaid : Prop := sampleMasksUptoRow.holds Try.pinned (OpenSpec.upto sampleMasksSpec)

/-- 'avouchlaw16.SampleFields', WHERE WHAT IT READS IS OF BULK AT MOST 1048576: true; the input reads as it did. -/
def sampleFieldsUptoRow : OpenClaim := { program := "ytiikffiembcboaa", sum := "ea15c2a6125c736cdb0c2c3107a210eee1a6535107c93390f10c3e7a3f8dcd01", func := "avouch/avouchlaw16.SampleFields", spec := "sampleFields", inPlace := ["math/bits.Sub64", "math/bits.Add64"], unfollowed := true, recurses := true, apart := false, narrowed := true }
def SampleFieldsUptoSaid : Prop := sampleFieldsUptoRow.holds Try.pinned (OpenSpec.upto sampleFieldsSpec)

/-- 'avouchlaw08.GrainSkips', WHERE WHAT IT READS IS OF BULK AT MOST 1048576: true; the input reads as it did. -/
def grainSkipsUptoRow : OpenClaim := { program := "ytiikffiembcboaa", sum := "ea15c2a6125c736cdb0c2c3107a210eee1a6535107c93390f10c3e7a3f8dcd01", func := "avouch/avouchlaw08.GrainSkips", spec := "grainSkips", inPlace := ["math/bits.Sub64", "math/bits.Add64"], unfollowed := true, recurses := true, apart := false, narrowed := true }
def GrainSkipsUptoSaid : Prop := grainSkipsUptoRow.holds Try.pinned (OpenSpec.upto grainSkipsSpec)

/-- 'avouchlaw08.GrainElements', WHERE WHAT IT READS IS OF BULK AT MOST 1048576: true; the input reads as it did. -/
def grainElementsUptoRow : OpenClaim := { program := "ytiikffiembcboaa", sum := "ea15c2a6125c736cdb0c2c3107a210eee1a6535107c93390f10c3e7a3f8dcd01", func := "avouch/avouchlaw08.GrainElements", spec := "grainElements", inPlace := ["math/bits.Sub64", "math/bits.Add64"], unfollowed := true, recurses := true, apart := false, narrowed := true }
def GrainElementsUptoSaid : Prop := grainElementsUptoRow.holds Try.pinned (OpenSpec.upto grainElementsSpec)

/-- 'avouchlaw01.LimbPowers', WHERE WHAT IT READS IS OF BULK AT MOST 1048576: true; the input reads as it did. -/
def limbPowersUptoRow : OpenClaim := { program := "ytiikffiembcboaa", sum := "ea15c2a6125c736cdb0c2c3107a210eee1a6535107c93390f10c3e7a3f8dcd01", func := "avouch/avouchlaw01.LimbPowers", spec := "limbPowers", inPlace := ["math/bits.Add64", "math/bits.Sub64"], unfollowed := true, recurses := true, apart := false, narrowed := true }
def LimbPowersUptoSaid : Prop := limbPowersUptoRow.holds Try.pinned (OpenSpec.upto limbPowersSpec)

/-- 'avouchlaw01.LimbRings', WHERE WHAT IT READS IS OF BULK AT MOST 1048576: true; the input reads as it did. -/
def limbRingsUptoRow : OpenClaim := { program := "ytiikffiembcboaa", sum := "ea15c2a6125c736cdb0c2c3107a210eee1a6535107c93390f10c3e7a3f8dcd01", func := "avouch/avouchlaw01.LimbRings", spec := "limbRings", inPlace := ["math/bits.Add64", "math/bits.Sub64"], unfollowed := true, recurses := true, apart := false, narrowed := true }
def LimbRingsUptoSaid : Prop := limbRingsUptoRow.holds Try.pinned (OpenSpec.upto limbRingsSpec)

/-- 'avouchlaw01.LimbMultiples', WHERE WHAT IT READS IS OF BULK AT MOST 1048576: true; the input reads as it did. -/
def limbMultiplesUptoRow : OpenClaim := { program := "ytiikffiembcboaa", sum := "ea15c2a6125c736cdb0c2c3107a210eee1a6535107c93390f10c3e7a3f8dcd01", func := "avouch/avouchlaw01.LimbMultiples", spec := "limbMultiples", inPlace := ["math/bits.Add64", "math/bits.Sub64"], unfollowed := true, recurses := true, apart := false, narrowed := true }
def LimbMultiplesUptoSaid : Prop := limbMultiplesUptoRow.holds Try.pinned (OpenSpec.upto limbMultiplesSpec)

/-- 'avouchlaw01.LimbModulo', WHERE WHAT IT READS IS OF BULK AT MOST 1048576: true; the input reads as it did. -/
def limbModuloUptoRow : OpenClaim := { program := "ytiikffiembcboaa", sum := "ea15c2a6125c736cdb0c2c3107a210eee1a6535107c93390f10c3e7a3f8dcd01", func := "avouch/avouchlaw01.LimbModulo", spec := "limbModulo", inPlace := ["math/bits.Add64", "math/bits.Sub64"], unfollowed := true, recurses := true, apart := false, narrowed := true }
def LimbModuloUptoSaid : Prop := limbModuloUptoRow.holds Try.pinned (OpenSpec.upto limbModuloSpec)

/-- 'avouchlaw01.LimbReads', WHERE WHAT IT READS IS OF BULK AT MOST 1048576: true; the input reads as it did. -/
def limbReadsUptoRow : OpenClaim := { program := "ytiikffiembcboaa", sum := "ea15c2a6125c736cdb0c2c3107a210eee1a6535107c93390f10c3e7a3f8dcd01", func := "avouch/avouchlaw01.LimbReads", spec := "limbReads", inPlace := ["math/bits.Add64", "math/bits.Sub64"], unfollowed := true, recurses := true, apart := false, narrowed := true }
def LimbReadsUptoSaid : Prop := limbReadsUptoRow.holds Try.pinned (OpenSpec.upto limbReadsSpec)

/-- 'avouchlaw01.LimbReckons', WHERE WHAT IT READS IS OF BULK AT MOST 1048576: true; the input reads as it did. -/
def limbReckonsUptoRow : OpenClaim := { program := "ytiikffiembcboaa", sum := "ea15c2a6125c736cdb0c2c3107a210eee1a6535107c93390f10c3e7a3f8dcd01", func := "avouch/avouchlaw01.LimbReckons", spec := "limbReckons", inPlace := ["math/bits.Add64", "math/bits.Sub64"], unfollowed := true, recurses := true, apart := false, narrowed := true }
def LimbReckonsUptoSaid : Prop := limbReckonsUptoRow.holds Try.pinned (OpenSpec.upto limbReckonsSpec)

/-- 'avouchlaw03.CalcPieces', WHERE WHAT IT READS IS OF BULK AT MOST 1048576: true; the input reads as it did. -/
def calcPiecesUptoRow : OpenClaim := { program := "ytiikffiembcboaa", sum := "ea15c2a6125c736cdb0c2c3107a210eee1a6535107c93390f10c3e7a3f8dcd01", func := "avouch/avouchlaw03.CalcPieces", spec := "calcPieces", inPlace := ["math/bits.Sub64", "math/bits.Add64"], unfollowed := true, recurses := true, apart := false, narrowed := true }
def CalcPiecesUptoSaid : Prop := calcPiecesUptoRow.holds Try.pinned (OpenSpec.upto calcPiecesSpec)

/-- 'avouchlaw03.CalcUndoes', WHERE WHAT IT READS IS OF BULK AT MOST 1048576: true; the input reads as it did. -/
def calcUndoesUptoRow : OpenClaim := { program := "ytiikffiembcboaa", sum := "ea15c2a6125c736cdb0c2c3107a210eee1a6535107c93390f10c3e7a3f8dcd01", func := "avouch/avouchlaw03.CalcUndoes", spec := "calcUndoes", inPlace := ["math/bits.Sub64", "math/bits.Add64"], unfollowed := true, recurses := true, apart := false, narrowed := true }
def CalcUndoesUptoSaid : Prop := calcUndoesUptoRow.holds Try.pinned (OpenSpec.upto calcUndoesSpec)

/-- 'avouchlaw03.CalcDepth', WHERE WHAT IT READS IS OF BULK AT MOST 1048576: true; the input reads as it did. -/
def calcDepthUptoRow : OpenClaim := { program := "ytiikffiembcboaa", sum := "ea15c2a6125c736cdb0c2c3107a210eee1a6535107c93390f10c3e7a3f8dcd01", func := "avouch/avouchlaw03.CalcDepth", spec := "calcDepth", inPlace := ["math/bits.Sub64", "math/bits.Add64"], unfollowed := true, recurses := true, apart := false, narrowed := true }
def CalcDepthUptoSaid : Prop := calcDepthUptoRow.holds Try.pinned (OpenSpec.upto calcDepthSpec)

/-- 'avouchlaw03.CalcRuns', WHERE WHAT IT READS IS OF BULK AT MOST 1048576: true; the input reads as it did. -/
def calcRunsUptoRow : OpenClaim := { program := "ytiikffiembcboaa", sum := "ea15c2a6125c736cdb0c2c3107a210eee1a6535107c93390f10c3e7a3f8dcd01", func := "avouch/avouchlaw03.CalcRuns", spec := "calcRuns", inPlace := ["math/bits.Sub64", "math/bits.Add64"], unfollowed := true, recurses := true, apart := false, narrowed := true }
def CalcRunsUptoSaid : Prop := calcRunsUptoRow.holds Try.pinned (OpenSpec.upto calcRunsSpec)

/-- 'avouchlaw02.FieldPowers', WHERE WHAT IT READS IS OF BULK AT MOST 1048576: true; the input reads as it did. -/
def fieldPowersUptoRow : OpenClaim := { program := "ytiikffiembcboaa", sum := "ea15c2a6125c736cdb0c2c3107a210eee1a6535107c93390f10c3e7a3f8dcd01", func := "avouch/avouchlaw02.FieldPowers", spec := "fieldPowers", inPlace := ["math/bits.Add64", "math/bits.Sub64"], unfollowed := true, recurses := true, apart := false, narrowed := true }
def FieldPowersUptoSaid : Prop := fieldPowersUptoRow.holds Try.pinned (OpenSpec.upto fieldPowersSpec)

/-- 'avouchlaw02.FieldSums', WHERE WHAT IT READS IS OF BULK AT MOST 1048576: true; the input reads as it did. -/
def fieldSumsUptoRow : OpenClaim := { program := "ytiikffiembcboaa", sum := "ea15c2a6125c736cdb0c2c3107a210eee1a6535107c93390f10c3e7a3f8dcd01", func := "avouch/avouchlaw02.FieldSums", spec := "fieldSums", inPlace := ["math/bits.Add64", "math/bits.Sub64"], unfollowed := true, recurses := true, apart := false, narrowed := true }
def FieldSumsUptoSaid : Prop := fieldSumsUptoRow.holds Try.pinned (OpenSpec.upto fieldSumsSpec)

/-- 'avouchlaw02.FieldLaws', WHERE WHAT IT READS IS OF BULK AT MOST 1048576: true; the input reads as it did. -/
def fieldLawsUptoRow : OpenClaim := { program := "ytiikffiembcboaa", sum := "ea15c2a6125c736cdb0c2c3107a210eee1a6535107c93390f10c3e7a3f8dcd01", func := "avouch/avouchlaw02.FieldLaws", spec := "fieldLaws", inPlace := ["math/bits.Add64", "math/bits.Sub64"], unfollowed := true, recurses := true, apart := false, narrowed := true }
def FieldLawsUptoSaid : Prop := fieldLawsUptoRow.holds Try.pinned (OpenSpec.upto fieldLawsSpec)

/-- 'avouchlaw02.FieldReads', WHERE WHAT IT READS IS OF BULK AT MOST 1048576: true; the input reads as it did. -/
def fieldReadsUptoRow : OpenClaim := { program := "ytiikffiembcboaa", sum := "ea15c2a6125c736cdb0c2c3107a210eee1a6535107c93390f10c3e7a3f8dcd01", func := "avouch/avouchlaw02.FieldReads", spec := "fieldReads", inPlace := ["math/bits.Add64", "math/bits.Sub64"], unfollowed := true, recurses := true, apart := false, narrowed := true }
def FieldReadsUptoSaid : Prop := fieldReadsUptoRow.holds Try.pinned (OpenSpec.upto fieldReadsSpec)

/-- 'avouchlaw16.SampleBytes', WHERE WHAT IT READS IS OF BULK AT MOST 1048576: true; the input reads as it did. -/
def sampleBytesUptoRow : OpenClaim := { program := "ytiikffiembcboaa", sum := "ea15c2a6125c736cdb0c2c3107a210eee1a6535107c93390f10c3e7a3f8dcd01", func := "avouch/avouchlaw16.SampleBytes", spec := "sampleBytes", inPlace := ["math/bits.Sub64", "math/bits.Add64"], unfollowed := true, recurses := true, apart := false, narrowed := true }
def SampleBytesUptoSaid : Prop := sampleBytesUptoRow.holds Try.pinned (OpenSpec.upto sampleBytesSpec)

/-- 'avouchlaw02.FieldReckons', WHERE WHAT IT READS IS OF BULK AT MOST 1048576: true; the input reads as it did. -/
def fieldReckonsUptoRow : OpenClaim := { program := "ytiikffiembcboaa", sum := "ea15c2a6125c736cdb0c2c3107a210eee1a6535107c93390f10c3e7a3f8dcd01", func := "avouch/avouchlaw02.FieldReckons", spec := "fieldReckons", inPlace := ["math/bits.Add64", "math/bits.Sub64"], unfollowed := true, recurses := true, apart := false, narrowed := true }
def FieldReckonsUptoSaid : Prop := fieldReckonsUptoRow.holds Try.pinned (OpenSpec.upto fieldReckonsSpec)

end Rows
end Go.Proofs.Ytiikffiembcboaa
