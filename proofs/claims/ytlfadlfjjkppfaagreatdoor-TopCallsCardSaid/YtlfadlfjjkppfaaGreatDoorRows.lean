/-
  NARROWER THAN 'FOR EVERY INPUT', by the rows' own cells (each row's printed sentence says how): TopBound: laid · TopCanon: laid · TopLabels: laid · TopBoth: laid · TopEmpty: laid · TopCalls: laid · TopEquation: laid.
  DERIVED. THE GIVEN ROWS OF THIS SEAT. 7 by the template 'for every input the law returns true; each argument reads behind the call as it read before'; 0 by the template 'total and deterministic' (their statements: YtlfadlfjjkppfaaGreatDoorTotals.lean).
  GIVEN WITH THE SEED: the statements are not yours to turn. If you find one false, say at which input.
  Laid BY PROGRAM, IN A SANDBOX (cutbox-rows.mjs): the forced cells as the released guide's own fill.sh prints them over the translation 895ee47ce9a0d3f1… (all of the seat's roots in one cut). By AI agents, Wed Nov 11 2026. No macro, syntax, notation, axiom, sorry.
-/
import Derived.Test.YtlfadlfjjkppfaaGreatDoorChecked
import GoSem.Claim
import GoSem.ClaimJoined
import GoSem.ClaimMapViews
import Derived.JoinedTies
import Derived.KernelRfl
namespace Go.Proofs.YtlfadlfjjkppfaaGreatDoor
/- THE CELL 'sum', in the pinned program and in every row, IS THE sha256 OF THE DUMP (.gsa) THAT YtlfadlfjjkppfaaGreatDoorProg.lean LOADS. Nothing in Lean hashes anything: it is a label: what it is worth is what the hold of that sum in a sandbox is worth. -/
noncomputable def Tryz.pinned : Pinned := { name := "ytlfadlfjjkppfaagreatdoor", sum := "895ee47ce9a0d3f135337e3a9f22229c6780cd4482133dee1bb4853f63928965", checked := Tryz.checked }
namespace Rows
def none {H : Type} : Left H := { results := [], args := [] }

/- WHAT THE LISTED PACKAGE-LEVEL VARIABLES READ AS WHEN THE CALL BEGINS. Each datum BY PROGRAM (the guide's laid-datum.mjs) off the statement by which the dump's own 'gosem.cut.vars' lays the variable. In a bare row this is a premise. The card (YtlfadlfjjkppfaaGreatDoorCards.lean) ties it to the program's text. -/
def laid_avouch_keccak_constants {H : Type} : DataW H := .agg [.lit (.int .u64 1), .lit (.int .u64 32898), .lit (.int .u64 9223372036854808714), .lit (.int .u64 9223372039002292224), .lit (.int .u64 32907), .lit (.int .u64 2147483649), .lit (.int .u64 9223372039002292353), .lit (.int .u64 9223372036854808585), .lit (.int .u64 138), .lit (.int .u64 136), .lit (.int .u64 2147516425), .lit (.int .u64 2147483658), .lit (.int .u64 2147516555), .lit (.int .u64 9223372036854775947), .lit (.int .u64 9223372036854808713), .lit (.int .u64 9223372036854808579), .lit (.int .u64 9223372036854808578), .lit (.int .u64 9223372036854775936), .lit (.int .u64 32778), .lit (.int .u64 9223372039002259466), .lit (.int .u64 9223372039002292353), .lit (.int .u64 9223372036854808704), .lit (.int .u64 2147483649), .lit (.int .u64 9223372039002292232)]

/-- 'avouchtop.TopBound': WHATEVER THE INPUT: true; the input reads as it did. -/
def topBoundSpec : ChangeSpec := { name := "topBound", fn := fun _ => fun
  | [d1, d2, d3] => { results := [.lit (.bool true)], args := [d1, d2, d3] }
  | _ => none }
def topBoundRow : OpenClaim := { program := "ytlfadlfjjkppfaagreatdoor", sum := "895ee47ce9a0d3f135337e3a9f22229c6780cd4482133dee1bb4853f63928965", func := "avouch/avouchtop.TopBound", spec := "topBound", inPlace := ["math/bits.Sub64", "math/bits.Add64"], unfollowed := true, recurses := true, named := ["avouch/keccak.constants"], apart := false, laid := [("avouch/keccak.constants", laid_avouch_keccak_constants)] }
def TopBoundSaid : Prop := topBoundRow.holds Tryz.pinned (OpenSpec.ofChange topBoundSpec)

/-- ITS FALSE NEIGHBOUR: 'it returns false'. Refute it at one input. -/
def topBoundWrong : ChangeSpec := { name := "topBound", fn := fun _ => fun
  | [d1, d2, d3] => { results := [.lit (.bool false)], args := [d1, d2, d3] }
  | _ => none }
def TopBoundWrongFalsely : Prop := topBoundRow.holds Tryz.pinned (OpenSpec.ofChange topBoundWrong)

/-- 'avouchtop.TopCanon': WHATEVER THE INPUT: true; the input reads as it did. -/
def topCanonSpec : ChangeSpec := { name := "topCanon", fn := fun _ => fun
  | [d1, d2, d3] => { results := [.lit (.bool true)], args := [d1, d2, d3] }
  | _ => none }
def topCanonRow : OpenClaim := { program := "ytlfadlfjjkppfaagreatdoor", sum := "895ee47ce9a0d3f135337e3a9f22229c6780cd4482133dee1bb4853f63928965", func := "avouch/avouchtop.TopCanon", spec := "topCanon", inPlace := ["math/bits.Sub64", "math/bits.Add64"], unfollowed := true, recurses := true, named := ["avouch/keccak.constants"], apart := false, laid := [("avouch/keccak.constants", laid_avouch_keccak_constants)] }
def TopCanonSaid : Prop := topCanonRow.holds Tryz.pinned (OpenSpec.ofChange topCanonSpec)

/-- ITS FALSE NEIGHBOUR: 'it returns false'. Refute it at one input. -/
def topCanonWrong : ChangeSpec := { name := "topCanon", fn := fun _ => fun
  | [d1, d2, d3] => { results := [.lit (.bool false)], args := [d1, d2, d3] }
  | _ => none }
def TopCanonWrongFalsely : Prop := topCanonRow.holds Tryz.pinned (OpenSpec.ofChange topCanonWrong)

/-- 'avouchtop.TopLabels': WHATEVER THE INPUT: true; the input reads as it did. -/
def topLabelsSpec : ChangeSpec := { name := "topLabels", fn := fun _ => fun
  | [d1, d2, d3] => { results := [.lit (.bool true)], args := [d1, d2, d3] }
  | _ => none }
def topLabelsRow : OpenClaim := { program := "ytlfadlfjjkppfaagreatdoor", sum := "895ee47ce9a0d3f135337e3a9f22229c6780cd4482133dee1bb4853f63928965", func := "avouch/avouchtop.TopLabels", spec := "topLabels", inPlace := ["math/bits.Sub64", "math/bits.Add64"], unfollowed := true, recurses := true, named := ["avouch/keccak.constants"], apart := false, laid := [("avouch/keccak.constants", laid_avouch_keccak_constants)] }
def TopLabelsSaid : Prop := topLabelsRow.holds Tryz.pinned (OpenSpec.ofChange topLabelsSpec)

/-- ITS FALSE NEIGHBOUR: 'it returns false'. Refute it at one input. -/
def topLabelsWrong : ChangeSpec := { name := "topLabels", fn := fun _ => fun
  | [d1, d2, d3] => { results := [.lit (.bool false)], args := [d1, d2, d3] }
  | _ => none }
def TopLabelsWrongFalsely : Prop := topLabelsRow.holds Tryz.pinned (OpenSpec.ofChange topLabelsWrong)

/-- 'avouchtop.TopBoth': WHATEVER THE INPUT: true; the input reads as it did. -/
def topBothSpec : ChangeSpec := { name := "topBoth", fn := fun _ => fun
  | [d1, d2] => { results := [.lit (.bool true)], args := [d1, d2] }
  | _ => none }
def topBothRow : OpenClaim := { program := "ytlfadlfjjkppfaagreatdoor", sum := "895ee47ce9a0d3f135337e3a9f22229c6780cd4482133dee1bb4853f63928965", func := "avouch/avouchtop.TopBoth", spec := "topBoth", inPlace := ["math/bits.Sub64", "math/bits.Add64"], unfollowed := true, recurses := true, named := ["avouch/keccak.constants"], apart := false, laid := [("avouch/keccak.constants", laid_avouch_keccak_constants)] }
def TopBothSaid : Prop := topBothRow.holds Tryz.pinned (OpenSpec.ofChange topBothSpec)

/-- ITS FALSE NEIGHBOUR: 'it returns false'. Refute it at one input. -/
def topBothWrong : ChangeSpec := { name := "topBoth", fn := fun _ => fun
  | [d1, d2] => { results := [.lit (.bool false)], args := [d1, d2] }
  | _ => none }
def TopBothWrongFalsely : Prop := topBothRow.holds Tryz.pinned (OpenSpec.ofChange topBothWrong)

/-- 'avouchtop.TopEmpty': WHATEVER THE INPUT: true; the input reads as it did. -/
def topEmptySpec : ChangeSpec := { name := "topEmpty", fn := fun _ => fun
  | [d1, d2] => { results := [.lit (.bool true)], args := [d1, d2] }
  | _ => none }
def topEmptyRow : OpenClaim := { program := "ytlfadlfjjkppfaagreatdoor", sum := "895ee47ce9a0d3f135337e3a9f22229c6780cd4482133dee1bb4853f63928965", func := "avouch/avouchtop.TopEmpty", spec := "topEmpty", inPlace := ["math/bits.Sub64", "math/bits.Add64"], unfollowed := true, recurses := true, named := ["avouch/keccak.constants"], apart := false, laid := [("avouch/keccak.constants", laid_avouch_keccak_constants)] }
def TopEmptySaid : Prop := topEmptyRow.holds Tryz.pinned (OpenSpec.ofChange topEmptySpec)

/-- ITS FALSE NEIGHBOUR: 'it returns false'. Refute it at one input. -/
def topEmptyWrong : ChangeSpec := { name := "topEmpty", fn := fun _ => fun
  | [d1, d2] => { results := [.lit (.bool false)], args := [d1, d2] }
  | _ => none }
def TopEmptyWrongFalsely : Prop := topEmptyRow.holds Tryz.pinned (OpenSpec.ofChange topEmptyWrong)

/-- 'avouchtop.TopCalls': WHATEVER THE INPUT: true; the input reads as it did. -/
def topCallsSpec : ChangeSpec := { name := "topCalls", fn := fun _ => fun
  | [d1, d2] => { results := [.lit (.bool true)], args := [d1, d2] }
  | _ => none }
def topCallsRow : OpenClaim := { program := "ytlfadlfjjkppfaagreatdoor", sum := "895ee47ce9a0d3f135337e3a9f22229c6780cd4482133dee1bb4853f63928965", func := "avouch/avouchtop.TopCalls", spec := "topCalls", inPlace := ["math/bits.Sub64", "math/bits.Add64"], unfollowed := true, recurses := true, named := ["avouch/keccak.constants"], apart := false, laid := [("avouch/keccak.constants", laid_avouch_keccak_constants)] }
def TopCallsSaid : Prop := topCallsRow.holds Tryz.pinned (OpenSpec.ofChange topCallsSpec)

/-- ITS FALSE NEIGHBOUR: 'it returns false'. Refute it at one input. -/
def topCallsWrong : ChangeSpec := { name := "topCalls", fn := fun _ => fun
  | [d1, d2] => { results := [.lit (.bool false)], args := [d1, d2] }
  | _ => none }
def TopCallsWrongFalsely : Prop := topCallsRow.holds Tryz.pinned (OpenSpec.ofChange topCallsWrong)

/-- 'avouchtop.TopEquation': WHATEVER THE INPUT: true; the input reads as it did. -/
def topEquationSpec : ChangeSpec := { name := "topEquation", fn := fun _ => fun
  | [d1, d2, d3, d4] => { results := [.lit (.bool true)], args := [d1, d2, d3, d4] }
  | _ => none }
def topEquationRow : OpenClaim := { program := "ytlfadlfjjkppfaagreatdoor", sum := "895ee47ce9a0d3f135337e3a9f22229c6780cd4482133dee1bb4853f63928965", func := "avouch/avouchtop.TopEquation", spec := "topEquation", inPlace := ["math/bits.Sub64", "math/bits.Add64"], unfollowed := true, recurses := true, named := ["avouch/keccak.constants"], apart := false, laid := [("avouch/keccak.constants", laid_avouch_keccak_constants)] }
def TopEquationSaid : Prop := topEquationRow.holds Tryz.pinned (OpenSpec.ofChange topEquationSpec)

/-- ITS FALSE NEIGHBOUR: 'it returns false'. Refute it at one input. -/
def topEquationWrong : ChangeSpec := { name := "topEquation", fn := fun _ => fun
  | [d1, d2, d3, d4] => { results := [.lit (.bool false)], args := [d1, d2, d3, d4] }
  | _ => none }
def TopEquationWrongFalsely : Prop := topEquationRow.holds Tryz.pinned (OpenSpec.ofChange topEquationWrong)

/- THE SECOND FORM. 'bulk': how many values and letters a reading holds, each counted each time it is reached (what is shared counts as often as it is met; a slice's spare places count too). A statement '..UptoSaid' is the law's where the arguments, and the package variables that the reading takes, are together of bulk at most 1048576: NARROWER than '..Said'. Prove '..Said' where nothing that the law and all that it calls make is longer than what came in: it says more and counts as full. Else prove '..UptoSaid'. A law counts once. -/
mutual
def uptoBulk {H : Type} : DataW H → Nat
  | .lit (.string bytes) => bytes.length + 1
  | .lit _ => 1
  | .nil => 1
  | .ptr d => uptoBulk d + 1
  | .slice elems spare => uptoBulkAll elems + uptoBulkAll spare + 1
  | .agg parts => uptoBulkAll parts + 1
  | .iface _ d => uptoBulk d + 1
  | .map entries => uptoBulkEntries entries + 1
  | .held _ => 1
def uptoBulkAll {H : Type} : List (DataW H) → Nat
  | [] => 0
  | d :: r => uptoBulk d + uptoBulkAll r
def uptoBulkEntries {H : Type} : List (Lit × DataW H) → Nat
  | [] => 0
  | x :: r => uptoBulkEntry x + uptoBulkEntries r
def uptoBulkEntry {H : Type} : Lit × DataW H → Nat
  | (.string bytes, d) => bytes.length + uptoBulk d + 1
  | (_, d) => uptoBulk d + 1
 end
def uptoSmall : (H : Type) → List (DataW H) → Bool := fun _ ds => decide (uptoBulkAll ds ≤ 1048576)
def OpenSpec.upto (s : _root_.Go.ChangeSpec) : _root_.Go.OpenSpec := { _root_.Go.OpenSpec.ofChange s with cond := some uptoSmall }

/-- 'avouchtop.TopBound', WHERE WHAT IT READS IS OF BULK AT MOST 1048576: true; the input reads as it did. -/
def topBoundUptoRow : OpenClaim := { program := "ytlfadlfjjkppfaagreatdoor", sum := "895ee47ce9a0d3f135337e3a9f22229c6780cd4482133dee1bb4853f63928965", func := "avouch/avouchtop.TopBound", spec := "topBound", inPlace := ["math/bits.Sub64", "math/bits.Add64"], unfollowed := true, recurses := true, named := ["avouch/keccak.constants"], apart := false, laid := [("avouch/keccak.constants", laid_avouch_keccak_constants)], narrowed := true }
def TopBoundUptoSaid : Prop := topBoundUptoRow.holds Tryz.pinned (OpenSpec.upto topBoundSpec)

/-- 'avouchtop.TopCanon', WHERE WHAT IT READS IS OF BULK AT MOST 1048576: true; the input reads as it did. -/
def topCanonUptoRow : OpenClaim := { program := "ytlfadlfjjkppfaagreatdoor", sum := "895ee47ce9a0d3f135337e3a9f22229c6780cd4482133dee1bb4853f63928965", func := "avouch/avouchtop.TopCanon", spec := "topCanon", inPlace := ["math/bits.Sub64", "math/bits.Add64"], unfollowed := true, recurses := true, named := ["avouch/keccak.constants"], apart := false, laid := [("avouch/keccak.constants", laid_avouch_keccak_constants)], narrowed := true }
def TopCanonUptoSaid : Prop := topCanonUptoRow.holds Tryz.pinned (OpenSpec.upto topCanonSpec)

/-- 'avouchtop.TopLabels', WHERE WHAT IT READS IS OF BULK AT MOST 1048576: true; the input reads as it did. -/
def topLabelsUptoRow : OpenClaim := { program := "ytlfadlfjjkppfaagreatdoor", sum := "895ee47ce9a0d3f135337e3a9f22229c6780cd4482133dee1bb4853f63928965", func := "avouch/avouchtop.TopLabels", spec := "topLabels", inPlace := ["math/bits.Sub64", "math/bits.Add64"], unfollowed := true, recurses := true, named := ["avouch/keccak.constants"], apart := false, laid := [("avouch/keccak.constants", laid_avouch_keccak_constants)], narrowed := true }
def TopLabelsUptoSaid : Prop := topLabelsUptoRow.holds Tryz.pinned (OpenSpec.upto topLabelsSpec)

/-- 'avouchtop.TopBoth', WHERE WHAT IT READS IS OF BULK AT MOST 1048576: true; the input reads as it did. -/
def topBothUptoRow : OpenClaim := { program := "ytlfadlfjjkppfaagreatdoor", sum := "895ee47ce9a0d3f135337e3a9f22229c6780cd4482133dee1bb4853f63928965", func := "avouch/avouchtop.TopBoth", spec := "topBoth", inPlace := ["math/bits.Sub64", "math/bits.Add64"], unfollowed := true, recurses := true, named := ["avouch/keccak.constants"], apart := false, laid := [("avouch/keccak.constants", laid_avouch_keccak_constants)], narrowed := true }
def TopBothUptoSaid : Prop := topBothUptoRow.holds Tryz.pinned (OpenSpec.upto topBothSpec)

/-- 'avouchtop.TopEmpty', WHERE WHAT IT READS IS OF BULK AT MOST 1048576: true; the input reads as it did. -/
def topEmptyUptoRow : OpenClaim := { program := "ytlfadlfjjkppfaagreatdoor", sum := "895ee47ce9a0d3f135337e3a9f22229c6780cd4482133dee1bb4853f63928965", func := "avouch/avouchtop.TopEmpty", spec := "topEmpty", inPlace := ["math/bits.Sub64", "math/bits.Add64"], unfollowed := true, recurses := true, named := ["avouch/keccak.constants"], apart := false, laid := [("avouch/keccak.constants", laid_avouch_keccak_constants)], narrowed := true }
def TopEmptyUptoSaid : Prop := topEmptyUptoRow.holds Tryz.pinned (OpenSpec.upto topEmptySpec)

/-- 'avouchtop.TopCalls', WHERE WHAT IT READS IS OF BULK AT MOST 1048576: true; the input reads as it did. -/
def topCallsUptoRow : OpenClaim := { program := "ytlfadlfjjkppfaagreatdoor", sum := "895ee47ce9a0d3f135337e3a9f22229c6780cd4482133dee1bb4853f63928965", func := "avouch/avouchtop.TopCalls", spec := "topCalls", inPlace := ["math/bits.Sub64", "math/bits.Add64"], unfollowed := true, recurses := true, named := ["avouch/keccak.constants"], apart := false, laid := [("avouch/keccak.constants", laid_avouch_keccak_constants)], narrowed := true }
def TopCallsUptoSaid : Prop := topCallsUptoRow.holds Tryz.pinned (OpenSpec.upto topCallsSpec)

/-- 'avouchtop.TopEquation', WHERE WHAT IT READS IS OF BULK AT MOST 1048576: true; the input reads as it did. -/
def topEquationUptoRow : OpenClaim := { program := "ytlfadlfjjkppfaagreatdoor", sum := "895ee47ce9a0d3f135337e3a9f22229c6780cd4482133dee1bb4853f63928965", func := "avouch/avouchtop.TopEquation", spec := "topEquation", inPlace := ["math/bits.Sub64", "math/bits.Add64"], unfollowed := true, recurses := true, named := ["avouch/keccak.constants"], apart := false, laid := [("avouch/keccak.constants", laid_avouch_keccak_constants)], narrowed := true }
def TopEquationUptoSaid : Prop := topEquationUptoRow.holds Tryz.pinned (OpenSpec.upto topEquationSpec)

end Rows
end Go.Proofs.YtlfadlfjjkppfaaGreatDoor
