/-
  No cell of these rows narrows 'for every input' (looked for: loops, veiled, ifaces, maps, wideKeys, modest, calm, conditions, laid).
  DERIVED. THE GIVEN ROWS OF THIS SEAT. 12 by the template 'for every input the law returns true; each argument reads behind the call as it read before'; 0 by the template 'total and deterministic' (their statements: YteeifahhejangaaTotals.lean).
  GIVEN WITH THE SEED: the statements are not yours to turn. If you find one false, say at which input.
  Laid BY PROGRAM, IN A SANDBOX (cutbox-rows.mjs): the forced cells as the released guide's own fill.sh prints them over the translation f526ddd2cc6dda61… (all of the seat's roots in one cut). By AI agents, Wed Nov 11 2026. No macro, syntax, notation, axiom, sorry.
-/
import Derived.Test.YteeifahhejangaaChecked
import GoSem.Claim
import GoSem.ClaimJoined
import GoSem.ClaimMapViews
import Derived.JoinedTies
import Derived.KernelRfl
namespace Go.Proofs.Yteeifahhejangaa
/- THE CELL 'sum', in the pinned program and in every row, IS THE sha256 OF THE DUMP (.gsa) THAT YteeifahhejangaaProg.lean LOADS. Nothing in Lean hashes anything: it is a label: what it is worth is what the hold of that sum in a sandbox is worth. -/
noncomputable def Try.pinned : Pinned := { name := "yteeifahhejangaa", sum := "f526ddd2cc6dda618a5a193119db8397bc88e837c8952ea1a6375e634bf6a3d7", checked := Try.checked }
namespace Rows
def none {H : Type} : Left H := { results := [], args := [] }

/-- 'avouchlaw08.GrainSkips': WHATEVER THE INPUT: true; the input reads as it did. -/
def grainSkipsSpec : ChangeSpec := { name := "grainSkips", fn := fun _ => fun
  | [d1, d2, d3] => { results := [.lit (.bool true)], args := [d1, d2, d3] }
  | _ => none }
def grainSkipsRow : OpenClaim := { program := "yteeifahhejangaa", sum := "f526ddd2cc6dda618a5a193119db8397bc88e837c8952ea1a6375e634bf6a3d7", func := "avouch/avouchlaw08.GrainSkips", spec := "grainSkips", inPlace := ["math/bits.Sub64", "math/bits.Add64"], unfollowed := true, recurses := true, apart := false }
def GrainSkipsSaid : Prop := grainSkipsRow.holds Try.pinned (OpenSpec.ofChange grainSkipsSpec)

/-- ITS FALSE NEIGHBOUR: 'it returns false'. Refute it at one input. -/
def grainSkipsWrong : ChangeSpec := { name := "grainSkips", fn := fun _ => fun
  | [d1, d2, d3] => { results := [.lit (.bool false)], args := [d1, d2, d3] }
  | _ => none }
def GrainSkipsWrongFalsely : Prop := grainSkipsRow.holds Try.pinned (OpenSpec.ofChange grainSkipsWrong)

/-- 'avouchlaw08.GrainElements': WHATEVER THE INPUT: true; the input reads as it did. -/
def grainElementsSpec : ChangeSpec := { name := "grainElements", fn := fun _ => fun
  | [d1, d2] => { results := [.lit (.bool true)], args := [d1, d2] }
  | _ => none }
def grainElementsRow : OpenClaim := { program := "yteeifahhejangaa", sum := "f526ddd2cc6dda618a5a193119db8397bc88e837c8952ea1a6375e634bf6a3d7", func := "avouch/avouchlaw08.GrainElements", spec := "grainElements", inPlace := ["math/bits.Sub64", "math/bits.Add64"], unfollowed := true, recurses := true, apart := false }
def GrainElementsSaid : Prop := grainElementsRow.holds Try.pinned (OpenSpec.ofChange grainElementsSpec)

/-- ITS FALSE NEIGHBOUR: 'it returns false'. Refute it at one input. -/
def grainElementsWrong : ChangeSpec := { name := "grainElements", fn := fun _ => fun
  | [d1, d2] => { results := [.lit (.bool false)], args := [d1, d2] }
  | _ => none }
def GrainElementsWrongFalsely : Prop := grainElementsRow.holds Try.pinned (OpenSpec.ofChange grainElementsWrong)

/-- 'avouchlaw22.PolyReads': WHATEVER THE INPUT: true; the input reads as it did. -/
def polyReadsSpec : ChangeSpec := { name := "polyReads", fn := fun _ => fun
  | [d] => { results := [.lit (.bool true)], args := [d] }
  | _ => none }
def polyReadsRow : OpenClaim := { program := "yteeifahhejangaa", sum := "f526ddd2cc6dda618a5a193119db8397bc88e837c8952ea1a6375e634bf6a3d7", func := "avouch/avouchlaw22.PolyReads", spec := "polyReads", inPlace := ["math/bits.Add64", "math/bits.Sub64"], unfollowed := true, recurses := true, apart := false }
def PolyReadsSaid : Prop := polyReadsRow.holds Try.pinned (OpenSpec.ofChange polyReadsSpec)

/-- ITS FALSE NEIGHBOUR: 'it returns false'. Refute it at one input. -/
def polyReadsWrong : ChangeSpec := { name := "polyReads", fn := fun _ => fun
  | [d] => { results := [.lit (.bool false)], args := [d] }
  | _ => none }
def PolyReadsWrongFalsely : Prop := polyReadsRow.holds Try.pinned (OpenSpec.ofChange polyReadsWrong)

/-- 'avouchlaw22.PolyLaws': WHATEVER THE INPUT: true; the input reads as it did. -/
def polyLawsSpec : ChangeSpec := { name := "polyLaws", fn := fun _ => fun
  | [d1, d2, d3] => { results := [.lit (.bool true)], args := [d1, d2, d3] }
  | _ => none }
def polyLawsRow : OpenClaim := { program := "yteeifahhejangaa", sum := "f526ddd2cc6dda618a5a193119db8397bc88e837c8952ea1a6375e634bf6a3d7", func := "avouch/avouchlaw22.PolyLaws", spec := "polyLaws", inPlace := ["math/bits.Add64", "math/bits.Sub64"], unfollowed := true, recurses := true, apart := false }
def PolyLawsSaid : Prop := polyLawsRow.holds Try.pinned (OpenSpec.ofChange polyLawsSpec)

/-- ITS FALSE NEIGHBOUR: 'it returns false'. Refute it at one input. -/
def polyLawsWrong : ChangeSpec := { name := "polyLaws", fn := fun _ => fun
  | [d1, d2, d3] => { results := [.lit (.bool false)], args := [d1, d2, d3] }
  | _ => none }
def PolyLawsWrongFalsely : Prop := polyLawsRow.holds Try.pinned (OpenSpec.ofChange polyLawsWrong)

/-- 'avouchlaw09.MatrixRows': WHATEVER THE INPUT: true; the input reads as it did. -/
def matrixRowsSpec : ChangeSpec := { name := "matrixRows", fn := fun _ => fun
  | [d1, d2, d3, d4] => { results := [.lit (.bool true)], args := [d1, d2, d3, d4] }
  | _ => none }
def matrixRowsRow : OpenClaim := { program := "yteeifahhejangaa", sum := "f526ddd2cc6dda618a5a193119db8397bc88e837c8952ea1a6375e634bf6a3d7", func := "avouch/avouchlaw09.MatrixRows", spec := "matrixRows", inPlace := ["math/bits.Add64", "math/bits.Sub64"], unfollowed := true, recurses := true, apart := false }
def MatrixRowsSaid : Prop := matrixRowsRow.holds Try.pinned (OpenSpec.ofChange matrixRowsSpec)

/-- ITS FALSE NEIGHBOUR: 'it returns false'. Refute it at one input. -/
def matrixRowsWrong : ChangeSpec := { name := "matrixRows", fn := fun _ => fun
  | [d1, d2, d3, d4] => { results := [.lit (.bool false)], args := [d1, d2, d3, d4] }
  | _ => none }
def MatrixRowsWrongFalsely : Prop := matrixRowsRow.holds Try.pinned (OpenSpec.ofChange matrixRowsWrong)

/-- 'avouchlaw09.MatrixLaws': WHATEVER THE INPUT: true; the input reads as it did. -/
def matrixLawsSpec : ChangeSpec := { name := "matrixLaws", fn := fun _ => fun
  | [d1, d2, d3] => { results := [.lit (.bool true)], args := [d1, d2, d3] }
  | _ => none }
def matrixLawsRow : OpenClaim := { program := "yteeifahhejangaa", sum := "f526ddd2cc6dda618a5a193119db8397bc88e837c8952ea1a6375e634bf6a3d7", func := "avouch/avouchlaw09.MatrixLaws", spec := "matrixLaws", inPlace := ["math/bits.Add64", "math/bits.Sub64"], unfollowed := true, recurses := true, apart := false }
def MatrixLawsSaid : Prop := matrixLawsRow.holds Try.pinned (OpenSpec.ofChange matrixLawsSpec)

/-- ITS FALSE NEIGHBOUR: 'it returns false'. Refute it at one input. -/
def matrixLawsWrong : ChangeSpec := { name := "matrixLaws", fn := fun _ => fun
  | [d1, d2, d3] => { results := [.lit (.bool false)], args := [d1, d2, d3] }
  | _ => none }
def MatrixLawsWrongFalsely : Prop := matrixLawsRow.holds Try.pinned (OpenSpec.ofChange matrixLawsWrong)

/-- 'avouchlaw22.PolyReckons': WHATEVER THE INPUT: true; the input reads as it did. -/
def polyReckonsSpec : ChangeSpec := { name := "polyReckons", fn := fun _ => fun
  | [d1, d2, d3] => { results := [.lit (.bool true)], args := [d1, d2, d3] }
  | _ => none }
def polyReckonsRow : OpenClaim := { program := "yteeifahhejangaa", sum := "f526ddd2cc6dda618a5a193119db8397bc88e837c8952ea1a6375e634bf6a3d7", func := "avouch/avouchlaw22.PolyReckons", spec := "polyReckons", inPlace := ["math/bits.Add64", "math/bits.Sub64"], unfollowed := true, recurses := true, apart := false }
def PolyReckonsSaid : Prop := polyReckonsRow.holds Try.pinned (OpenSpec.ofChange polyReckonsSpec)

/-- ITS FALSE NEIGHBOUR: 'it returns false'. Refute it at one input. -/
def polyReckonsWrong : ChangeSpec := { name := "polyReckons", fn := fun _ => fun
  | [d1, d2, d3] => { results := [.lit (.bool false)], args := [d1, d2, d3] }
  | _ => none }
def PolyReckonsWrongFalsely : Prop := polyReckonsRow.holds Try.pinned (OpenSpec.ofChange polyReckonsWrong)

/-- 'avouchlaw22.PolyThrough': WHATEVER THE INPUT: true; the input reads as it did. -/
def polyThroughSpec : ChangeSpec := { name := "polyThrough", fn := fun _ => fun
  | [d] => { results := [.lit (.bool true)], args := [d] }
  | _ => none }
def polyThroughRow : OpenClaim := { program := "yteeifahhejangaa", sum := "f526ddd2cc6dda618a5a193119db8397bc88e837c8952ea1a6375e634bf6a3d7", func := "avouch/avouchlaw22.PolyThrough", spec := "polyThrough", inPlace := ["math/bits.Add64", "math/bits.Sub64"], unfollowed := true, recurses := true, apart := false }
def PolyThroughSaid : Prop := polyThroughRow.holds Try.pinned (OpenSpec.ofChange polyThroughSpec)

/-- ITS FALSE NEIGHBOUR: 'it returns false'. Refute it at one input. -/
def polyThroughWrong : ChangeSpec := { name := "polyThrough", fn := fun _ => fun
  | [d] => { results := [.lit (.bool false)], args := [d] }
  | _ => none }
def PolyThroughWrongFalsely : Prop := polyThroughRow.holds Try.pinned (OpenSpec.ofChange polyThroughWrong)

/-- 'avouchlaw22.PolyShifts': WHATEVER THE INPUT: true; the input reads as it did. -/
def polyShiftsSpec : ChangeSpec := { name := "polyShifts", fn := fun _ => fun
  | [d1, d2, d3] => { results := [.lit (.bool true)], args := [d1, d2, d3] }
  | _ => none }
def polyShiftsRow : OpenClaim := { program := "yteeifahhejangaa", sum := "f526ddd2cc6dda618a5a193119db8397bc88e837c8952ea1a6375e634bf6a3d7", func := "avouch/avouchlaw22.PolyShifts", spec := "polyShifts", inPlace := ["math/bits.Add64", "math/bits.Sub64"], unfollowed := true, recurses := true, apart := false }
def PolyShiftsSaid : Prop := polyShiftsRow.holds Try.pinned (OpenSpec.ofChange polyShiftsSpec)

/-- ITS FALSE NEIGHBOUR: 'it returns false'. Refute it at one input. -/
def polyShiftsWrong : ChangeSpec := { name := "polyShifts", fn := fun _ => fun
  | [d1, d2, d3] => { results := [.lit (.bool false)], args := [d1, d2, d3] }
  | _ => none }
def PolyShiftsWrongFalsely : Prop := polyShiftsRow.holds Try.pinned (OpenSpec.ofChange polyShiftsWrong)

/-- 'avouchlaw09.MatrixMinors': WHATEVER THE INPUT: true; the input reads as it did. -/
def matrixMinorsSpec : ChangeSpec := { name := "matrixMinors", fn := fun _ => fun
  | [d] => { results := [.lit (.bool true)], args := [d] }
  | _ => none }
def matrixMinorsRow : OpenClaim := { program := "yteeifahhejangaa", sum := "f526ddd2cc6dda618a5a193119db8397bc88e837c8952ea1a6375e634bf6a3d7", func := "avouch/avouchlaw09.MatrixMinors", spec := "matrixMinors", inPlace := ["math/bits.Add64", "math/bits.Sub64"], unfollowed := true, recurses := true, apart := false }
def MatrixMinorsSaid : Prop := matrixMinorsRow.holds Try.pinned (OpenSpec.ofChange matrixMinorsSpec)

/-- ITS FALSE NEIGHBOUR: 'it returns false'. Refute it at one input. -/
def matrixMinorsWrong : ChangeSpec := { name := "matrixMinors", fn := fun _ => fun
  | [d] => { results := [.lit (.bool false)], args := [d] }
  | _ => none }
def MatrixMinorsWrongFalsely : Prop := matrixMinorsRow.holds Try.pinned (OpenSpec.ofChange matrixMinorsWrong)

/-- 'avouchlaw09.MatrixReckons': WHATEVER THE INPUT: true; the input reads as it did. -/
def matrixReckonsSpec : ChangeSpec := { name := "matrixReckons", fn := fun _ => fun
  | [d1, d2] => { results := [.lit (.bool true)], args := [d1, d2] }
  | _ => none }
def matrixReckonsRow : OpenClaim := { program := "yteeifahhejangaa", sum := "f526ddd2cc6dda618a5a193119db8397bc88e837c8952ea1a6375e634bf6a3d7", func := "avouch/avouchlaw09.MatrixReckons", spec := "matrixReckons", inPlace := ["math/bits.Add64", "math/bits.Sub64"], unfollowed := true, recurses := true, apart := false }
def MatrixReckonsSaid : Prop := matrixReckonsRow.holds Try.pinned (OpenSpec.ofChange matrixReckonsSpec)

/-- ITS FALSE NEIGHBOUR: 'it returns false'. Refute it at one input. -/
def matrixReckonsWrong : ChangeSpec := { name := "matrixReckons", fn := fun _ => fun
  | [d1, d2] => { results := [.lit (.bool false)], args := [d1, d2] }
  | _ => none }
def MatrixReckonsWrongFalsely : Prop := matrixReckonsRow.holds Try.pinned (OpenSpec.ofChange matrixReckonsWrong)

/-- 'avouchlaw22.PolyTells': WHATEVER THE INPUT: true; the input reads as it did. -/
def polyTellsSpec : ChangeSpec := { name := "polyTells", fn := fun _ => fun
  | [d1, d2] => { results := [.lit (.bool true)], args := [d1, d2] }
  | _ => none }
def polyTellsRow : OpenClaim := { program := "yteeifahhejangaa", sum := "f526ddd2cc6dda618a5a193119db8397bc88e837c8952ea1a6375e634bf6a3d7", func := "avouch/avouchlaw22.PolyTells", spec := "polyTells", inPlace := ["math/bits.Add64", "math/bits.Sub64"], unfollowed := true, recurses := true, apart := false }
def PolyTellsSaid : Prop := polyTellsRow.holds Try.pinned (OpenSpec.ofChange polyTellsSpec)

/-- ITS FALSE NEIGHBOUR: 'it returns false'. Refute it at one input. -/
def polyTellsWrong : ChangeSpec := { name := "polyTells", fn := fun _ => fun
  | [d1, d2] => { results := [.lit (.bool false)], args := [d1, d2] }
  | _ => none }
def PolyTellsWrongFalsely : Prop := polyTellsRow.holds Try.pinned (OpenSpec.ofChange polyTellsWrong)

/- THE SECOND FORM. 'bulk': how many values and letters a reading holds, each counted each time it is reached (what is shared counts as often as it is met; a slice's spare places count too). A statement '..UptoSaid' is the law's where the arguments, and the package variables that the reading takes, are together of bulk at most 1048576: NARROWER than '..Said'. Prove '..Said' where nothing that the law and all that it calls make is longer than what came in: it says more and counts as full. Else prove '..UptoSaid'. A law counts once. -/
mutual
def uptoBulk {H : Type} : DataW H → Nat
  | .lit (.string bytes) => bytes.length + 1
  | .lit _ => 1
  | .nil => 1
  | .ptr d => uptoBulk d + 1
  | .slice elems spare => uptoBulkAll elems + uptoBulkAll spare + 1
  | .agg parts => uptoBulkAll parts + 1
  | .iface _ d => uptoBulk d + 1
  | .map entries => uptoBulkEntries entries + 1
  | .held _ => 1
def uptoBulkAll {H : Type} : List (DataW H) → Nat
  | [] => 0
  | d :: r => uptoBulk d + uptoBulkAll r
def uptoBulkEntries {H : Type} : List (Lit × DataW H) → Nat
  | [] => 0
  | x :: r => uptoBulkEntry x + uptoBulkEntries r
def uptoBulkEntry {H : Type} : Lit × DataW H → Nat
  | (.string bytes, d) => bytes.length + uptoBulk d + 1
  | (_, d) => uptoBulk d + 1
 end
def uptoSmall : (H : Type) → List (DataW H) → Bool := fun _ ds => decide (uptoBulkAll ds ≤ 1048576)
def OpenSpec.upto (s : _root_.Go.ChangeSpec) : _root_.Go.OpenSpec := { _root_.Go.OpenSpec.ofChange s with cond := some uptoSmall }

/-- 'avouchlaw08.GrainSkips', WHERE WHAT IT READS IS OF BULK AT MOST 1048576: true; the input reads as it did. -/
def grainSkipsUptoRow : OpenClaim := { program := "yteeifahhejangaa", sum := "f526ddd2cc6dda618a5a193119db8397bc88e837c8952ea1a6375e634bf6a3d7", func := "avouch/avouchlaw08.GrainSkips", spec := "grainSkips", inPlace := ["math/bits.Sub64", "math/bits.Add64"], unfollowed := true, recurses := true, apart := false, narrowed := true }
def GrainSkipsUptoSaid : Prop := grainSkipsUptoRow.holds Try.pinned (OpenSpec.upto grainSkipsSpec)

/-- 'avouchlaw08.GrainElements', WHERE WHAT IT READS IS OF BULK AT MOST 1048576: true; the input reads as it did. -/
def grainElementsUptoRow : OpenClaim := { program := "yteeifahhejangaa", sum := "f526ddd2cc6dda618a5a193119db8397bc88e837c8952ea1a6375e634bf6a3d7", func := "avouch/avouchlaw08.GrainElements", spec := "grainElements", inPlace := ["math/bits.Sub64", "math/bits.Add64"], unfollowed := true, recurses := true, apart := false, narrowed := true }
def GrainElementsUptoSaid : Prop := grainElementsUptoRow.holds Try.pinned (OpenSpec.upto grainElementsSpec)

/-- 'avouchlaw22.PolyReads', WHERE WHAT IT READS IS OF BULK AT MOST 1048576: true; the input reads as it did. -/
def polyReadsUptoRow : OpenClaim := { program := "yteeifahhejangaa", sum := "f526ddd2cc6dda618a5a193119db8397bc88e837c8952ea1a6375e634bf6a3d7", func := "avouch/avouchlaw22.PolyReads", spec := "polyReads", inPlace := ["math/bits.Add64", "math/bits.Sub64"], unfollowed := true, recurses := true, apart := false, narrowed := true }
def PolyReadsUptoSaid : Prop := polyReadsUptoRow.holds Try.pinned (OpenSpec.upto polyReadsSpec)

/-- 'avouchlaw22.PolyLaws', WHERE WHAT IT READS IS OF BULK AT MOST 1048576: true; the input reads as it did. -/
def polyLawsUptoRow : OpenClaim := { program := "yteeifahhejangaa", sum := "f526ddd2cc6dda618a5a193119db8397bc88e837c8952ea1a6375e634bf6a3d7", func := "avouch/avouchlaw22.PolyLaws", spec := "polyLaws", inPlace := ["math/bits.Add64", "math/bits.Sub64"], unfollowed := true, recurses := true, apart := false, narrowed := true }
def PolyLawsUptoSaid : Prop := polyLawsUptoRow.holds Try.pinned (OpenSpec.upto polyLawsSpec)

/-- 'avouchlaw09.MatrixRows', WHERE WHAT IT READS IS OF BULK AT MOST 1048576: true; the input reads as it did. -/
def matrixRowsUptoRow : OpenClaim := { program := "yteeifahhejangaa", sum := "f526ddd2cc6dda618a5a193119db8397bc88e837c8952ea1a6375e634bf6a3d7", func := "avouch/avouchlaw09.MatrixRows", spec := "matrixRows", inPlace := ["math/bits.Add64", "math/bits.Sub64"], unfollowed := true, recurses := true, apart := false, narrowed := true }
def MatrixRowsUptoSaid : Prop := matrixRowsUptoRow.holds Try.pinned (OpenSpec.upto matrixRowsSpec)

/-- 'avouchlaw09.MatrixLaws', WHERE WHAT IT READS IS OF BULK AT MOST 1048576: true; the input reads as it did. -/
def matrixLawsUptoRow : OpenClaim := { program := "yteeifahhejangaa", sum := "f526ddd2cc6dda618a5a193119db8397bc88e837c8952ea1a6375e634bf6a3d7", func := "avouch/avouchlaw09.MatrixLaws", spec := "matrixLaws", inPlace := ["math/bits.Add64", "math/bits.Sub64"], unfollowed := true, recurses := true, apart := false, narrowed := true }
def MatrixLawsUptoSaid : Prop := matrixLawsUptoRow.holds Try.pinned (OpenSpec.upto matrixLawsSpec)

/-- 'avouchlaw22.PolyReckons', WHERE WHAT IT READS IS OF BULK AT MOST 1048576: true; the input reads as it did. -/
def polyReckonsUptoRow : OpenClaim := { program := "yteeifahhejangaa", sum := "f526ddd2cc6dda618a5a193119db8397bc88e837c8952ea1a6375e634bf6a3d7", func := "avouch/avouchlaw22.PolyReckons", spec := "polyReckons", inPlace := ["math/bits.Add64", "math/bits.Sub64"], unfollowed := true, recurses := true, apart := false, narrowed := true }
def PolyReckonsUptoSaid : Prop := polyReckonsUptoRow.holds Try.pinned (OpenSpec.upto polyReckonsSpec)

/-- 'avouchlaw22.PolyThrough', WHERE WHAT IT READS IS OF BULK AT MOST 1048576: true; the input reads as it did. -/
def polyThroughUptoRow : OpenClaim := { program := "yteeifahhejangaa", sum := "f526ddd2cc6dda618a5a193119db8397bc88e837c8952ea1a6375e634bf6a3d7", func := "avouch/avouchlaw22.PolyThrough", spec := "polyThrough", inPlace := ["math/bits.Add64", "math/bits.Sub64"], unfollowed := true, recurses := true, apart := false, narrowed := true }
def PolyThroughUptoSaid : Prop := polyThroughUptoRow.holds Try.pinned (OpenSpec.upto polyThroughSpec)

/-- 'avouchlaw22.PolyShifts', WHERE WHAT IT READS IS OF BULK AT MOST 1048576: true; the input reads as it did. -/
def polyShiftsUptoRow : OpenClaim := { program := "yteeifahhejangaa", sum := "f526ddd2cc6dda618a5a193119db8397bc88e837c8952ea1a6375e634bf6a3d7", func := "avouch/avouchlaw22.PolyShifts", spec := "polyShifts", inPlace := ["math/bits.Add64", "math/bits.Sub64"], unfollowed := true, recurses := true, apart := false, narrowed := true }
def PolyShiftsUptoSaid : Prop := polyShiftsUptoRow.holds Try.pinned (OpenSpec.upto polyShiftsSpec)

/-- 'avouchlaw09.MatrixMinors', WHERE WHAT IT READS IS OF BULK AT MOST 1048576: true; the input reads as it did. -/
def matrixMinorsUptoRow : OpenClaim := { program := "yteeifahhejangaa", sum := "f526ddd2cc6dda618a5a193119db8397bc88e837c8952ea1a6375e634bf6a3d7", func := "avouch/avouchlaw09.MatrixMinors", spec := "matrixMinors", inPlace := ["math/bits.Add64", "math/bits.Sub64"], unfollowed := true, recurses := true, apart := false, narrowed := true }
def MatrixMinorsUptoSaid : Prop := matrixMinorsUptoRow.holds Try.pinned (OpenSpec.upto matrixMinorsSpec)

/-- 'avouchlaw09.MatrixReckons', WHERE WHAT IT READS IS OF BULK AT MOST 1048576: true; the input reads as it did. -/
def matrixReckonsUptoRow : OpenClaim := { program := "yteeifahhejangaa", sum := "f526ddd2cc6dda618a5a193119db8397bc88e837c8952ea1a6375e634bf6a3d7", func := "avouch/avouchlaw09.MatrixReckons", spec := "matrixReckons", inPlace := ["math/bits.Add64", "math/bits.Sub64"], unfollowed := true, recurses := true, apart := false, narrowed := true }
def MatrixReckonsUptoSaid : Prop := matrixReckonsUptoRow.holds Try.pinned (OpenSpec.upto matrixReckonsSpec)

/-- 'avouchlaw22.PolyTells', WHERE WHAT IT READS IS OF BULK AT MOST 1048576: true; the input reads as it did. -/
def polyTellsUptoRow : OpenClaim := { program := "yteeifahhejangaa", sum := "f526ddd2cc6dda618a5a193119db8397bc88e837c8952ea1a6375e634bf6a3d7", func := "avouch/avouchlaw22.PolyTells", spec := "polyTells", inPlace := ["math/bits.Add64", "math/bits.Sub64"], unfollowed := true, recurses := true, apart := false, narrowed := true }
def PolyTellsUptoSaid : Prop := polyTellsUptoRow.holds Try.pinned (OpenSpec.upto polyTellsSpec)

end Rows
end Go.Proofs.Yteeifahhejangaa
