/-
  No cell of these rows narrows 'for every input' (looked for: loops, veiled, ifaces, maps, wideKeys, modest, calm, conditions, laid).
  DERIVED. THE GIVEN ROWS OF THIS SEAT. 14 by the template 'for every input the law returns true; each argument reads behind the call as it read before'; 0 by the template 'total and deterministic' (their statements: YtpahdiljpnfkdaaTotals.lean).
  GIVEN WITH THE SEED: the statements are not yours to turn. If you find one false, say at which input.
  Laid BY PROGRAM, IN A SANDBOX (cutbox-rows.mjs): the forced cells as the released guide's own fill.sh prints them over the translation 0cd27cd334d8ae61… (all of the seat's roots in one cut). By AI agents, Wed Nov 11 2026. No macro, syntax, notation, axiom, sorry.
-/
import Derived.Test.YtpahdiljpnfkdaaChecked
import GoSem.Claim
import GoSem.ClaimJoined
import GoSem.ClaimMapViews
import Derived.JoinedTies
import Derived.KernelRfl
namespace Go.Proofs.Ytpahdiljpnfkdaa
/- THE CELL 'sum', in the pinned program and in every row, IS THE sha256 OF THE DUMP (.gsa) THAT YtpahdiljpnfkdaaProg.lean LOADS. Nothing in Lean hashes anything: it is a label: what it is worth is what the hold of that sum in a sandbox is worth. -/
noncomputable def Try.pinned : Pinned := { name := "ytpahdiljpnfkdaa", sum := "0cd27cd334d8ae61d15a128a594fa138614e8ab93a89516a2ca3f4a1e69038b1", checked := Try.checked }
namespace Rows
def none {H : Type} : Left H := { results := [], args := [] }

/-- 'avouchlaw04.WidePowers': WHATEVER THE INPUT: true; the input reads as it did. -/
def widePowersSpec : ChangeSpec := { name := "widePowers", fn := fun _ => fun
  | [d1, d2, d3] => { results := [.lit (.bool true)], args := [d1, d2, d3] }
  | _ => none }
def widePowersRow : OpenClaim := { program := "ytpahdiljpnfkdaa", sum := "0cd27cd334d8ae61d15a128a594fa138614e8ab93a89516a2ca3f4a1e69038b1", func := "avouch/avouchlaw04.WidePowers", spec := "widePowers", inPlace := ["math/bits.Sub64", "math/bits.Add64"], unfollowed := true, recurses := true, apart := false }
def WidePowersSaid : Prop := widePowersRow.holds Try.pinned (OpenSpec.ofChange widePowersSpec)

/-- ITS FALSE NEIGHBOUR: 'it returns false'. Refute it at one input. -/
def widePowersWrong : ChangeSpec := { name := "widePowers", fn := fun _ => fun
  | [d1, d2, d3] => { results := [.lit (.bool false)], args := [d1, d2, d3] }
  | _ => none }
def WidePowersWrongFalsely : Prop := widePowersRow.holds Try.pinned (OpenSpec.ofChange widePowersWrong)

/-- 'avouchlaw04.WideReckons': WHATEVER THE INPUT: true; the input reads as it did. -/
def wideReckonsSpec : ChangeSpec := { name := "wideReckons", fn := fun _ => fun
  | [d1, d2, d3] => { results := [.lit (.bool true)], args := [d1, d2, d3] }
  | _ => none }
def wideReckonsRow : OpenClaim := { program := "ytpahdiljpnfkdaa", sum := "0cd27cd334d8ae61d15a128a594fa138614e8ab93a89516a2ca3f4a1e69038b1", func := "avouch/avouchlaw04.WideReckons", spec := "wideReckons", inPlace := ["math/bits.Sub64", "math/bits.Add64"], unfollowed := true, recurses := true, apart := false }
def WideReckonsSaid : Prop := wideReckonsRow.holds Try.pinned (OpenSpec.ofChange wideReckonsSpec)

/-- ITS FALSE NEIGHBOUR: 'it returns false'. Refute it at one input. -/
def wideReckonsWrong : ChangeSpec := { name := "wideReckons", fn := fun _ => fun
  | [d1, d2, d3] => { results := [.lit (.bool false)], args := [d1, d2, d3] }
  | _ => none }
def WideReckonsWrongFalsely : Prop := wideReckonsRow.holds Try.pinned (OpenSpec.ofChange wideReckonsWrong)

/-- 'avouchlaw04.WideFermat': WHATEVER THE INPUT: true; the input reads as it did. -/
def wideFermatSpec : ChangeSpec := { name := "wideFermat", fn := fun _ => fun
  | [d1, d2, d3, d4] => { results := [.lit (.bool true)], args := [d1, d2, d3, d4] }
  | _ => none }
def wideFermatRow : OpenClaim := { program := "ytpahdiljpnfkdaa", sum := "0cd27cd334d8ae61d15a128a594fa138614e8ab93a89516a2ca3f4a1e69038b1", func := "avouch/avouchlaw04.WideFermat", spec := "wideFermat", inPlace := ["math/bits.Sub64", "math/bits.Add64"], unfollowed := true, recurses := true, apart := false }
def WideFermatSaid : Prop := wideFermatRow.holds Try.pinned (OpenSpec.ofChange wideFermatSpec)

/-- ITS FALSE NEIGHBOUR: 'it returns false'. Refute it at one input. -/
def wideFermatWrong : ChangeSpec := { name := "wideFermat", fn := fun _ => fun
  | [d1, d2, d3, d4] => { results := [.lit (.bool false)], args := [d1, d2, d3, d4] }
  | _ => none }
def WideFermatWrongFalsely : Prop := wideFermatRow.holds Try.pinned (OpenSpec.ofChange wideFermatWrong)

/-- 'avouchlaw04.WideReads': WHATEVER THE INPUT: true; the input reads as it did. -/
def wideReadsSpec : ChangeSpec := { name := "wideReads", fn := fun _ => fun
  | [d1, d2] => { results := [.lit (.bool true)], args := [d1, d2] }
  | _ => none }
def wideReadsRow : OpenClaim := { program := "ytpahdiljpnfkdaa", sum := "0cd27cd334d8ae61d15a128a594fa138614e8ab93a89516a2ca3f4a1e69038b1", func := "avouch/avouchlaw04.WideReads", spec := "wideReads", inPlace := ["math/bits.Sub64", "math/bits.Add64"], unfollowed := true, recurses := true, apart := false }
def WideReadsSaid : Prop := wideReadsRow.holds Try.pinned (OpenSpec.ofChange wideReadsSpec)

/-- ITS FALSE NEIGHBOUR: 'it returns false'. Refute it at one input. -/
def wideReadsWrong : ChangeSpec := { name := "wideReads", fn := fun _ => fun
  | [d1, d2] => { results := [.lit (.bool false)], args := [d1, d2] }
  | _ => none }
def WideReadsWrongFalsely : Prop := wideReadsRow.holds Try.pinned (OpenSpec.ofChange wideReadsWrong)

/-- 'avouchlaw04.WideHalves': WHATEVER THE INPUT: true; the input reads as it did. -/
def wideHalvesSpec : ChangeSpec := { name := "wideHalves", fn := fun _ => fun
  | [d1, d2, d3, d4] => { results := [.lit (.bool true)], args := [d1, d2, d3, d4] }
  | _ => none }
def wideHalvesRow : OpenClaim := { program := "ytpahdiljpnfkdaa", sum := "0cd27cd334d8ae61d15a128a594fa138614e8ab93a89516a2ca3f4a1e69038b1", func := "avouch/avouchlaw04.WideHalves", spec := "wideHalves", inPlace := ["math/bits.Sub64", "math/bits.Add64"], unfollowed := true, recurses := true, apart := false }
def WideHalvesSaid : Prop := wideHalvesRow.holds Try.pinned (OpenSpec.ofChange wideHalvesSpec)

/-- ITS FALSE NEIGHBOUR: 'it returns false'. Refute it at one input. -/
def wideHalvesWrong : ChangeSpec := { name := "wideHalves", fn := fun _ => fun
  | [d1, d2, d3, d4] => { results := [.lit (.bool false)], args := [d1, d2, d3, d4] }
  | _ => none }
def WideHalvesWrongFalsely : Prop := wideHalvesRow.holds Try.pinned (OpenSpec.ofChange wideHalvesWrong)

/-- 'avouchlaw05.GroupReads': WHATEVER THE INPUT: true; the input reads as it did. -/
def groupReadsSpec : ChangeSpec := { name := "groupReads", fn := fun _ => fun
  | [d] => { results := [.lit (.bool true)], args := [d] }
  | _ => none }
def groupReadsRow : OpenClaim := { program := "ytpahdiljpnfkdaa", sum := "0cd27cd334d8ae61d15a128a594fa138614e8ab93a89516a2ca3f4a1e69038b1", func := "avouch/avouchlaw05.GroupReads", spec := "groupReads", inPlace := ["math/bits.Sub64", "math/bits.Add64"], unfollowed := true, recurses := true, apart := false }
def GroupReadsSaid : Prop := groupReadsRow.holds Try.pinned (OpenSpec.ofChange groupReadsSpec)

/-- ITS FALSE NEIGHBOUR: 'it returns false'. Refute it at one input. -/
def groupReadsWrong : ChangeSpec := { name := "groupReads", fn := fun _ => fun
  | [d] => { results := [.lit (.bool false)], args := [d] }
  | _ => none }
def GroupReadsWrongFalsely : Prop := groupReadsRow.holds Try.pinned (OpenSpec.ofChange groupReadsWrong)

/-- 'avouchlaw05.GroupPowers': WHATEVER THE INPUT: true; the input reads as it did. -/
def groupPowersSpec : ChangeSpec := { name := "groupPowers", fn := fun _ => fun
  | [d1, d2, d3] => { results := [.lit (.bool true)], args := [d1, d2, d3] }
  | _ => none }
def groupPowersRow : OpenClaim := { program := "ytpahdiljpnfkdaa", sum := "0cd27cd334d8ae61d15a128a594fa138614e8ab93a89516a2ca3f4a1e69038b1", func := "avouch/avouchlaw05.GroupPowers", spec := "groupPowers", inPlace := ["math/bits.Sub64", "math/bits.Add64"], unfollowed := true, recurses := true, apart := false }
def GroupPowersSaid : Prop := groupPowersRow.holds Try.pinned (OpenSpec.ofChange groupPowersSpec)

/-- ITS FALSE NEIGHBOUR: 'it returns false'. Refute it at one input. -/
def groupPowersWrong : ChangeSpec := { name := "groupPowers", fn := fun _ => fun
  | [d1, d2, d3] => { results := [.lit (.bool false)], args := [d1, d2, d3] }
  | _ => none }
def GroupPowersWrongFalsely : Prop := groupPowersRow.holds Try.pinned (OpenSpec.ofChange groupPowersWrong)

/-- 'avouchlaw05.GroupCloses': WHATEVER THE INPUT: true; the input reads as it did. -/
def groupClosesSpec : ChangeSpec := { name := "groupCloses", fn := fun _ => fun
  | [d1, d2] => { results := [.lit (.bool true)], args := [d1, d2] }
  | _ => none }
def groupClosesRow : OpenClaim := { program := "ytpahdiljpnfkdaa", sum := "0cd27cd334d8ae61d15a128a594fa138614e8ab93a89516a2ca3f4a1e69038b1", func := "avouch/avouchlaw05.GroupCloses", spec := "groupCloses", inPlace := ["math/bits.Sub64", "math/bits.Add64"], unfollowed := true, recurses := true, apart := false }
def GroupClosesSaid : Prop := groupClosesRow.holds Try.pinned (OpenSpec.ofChange groupClosesSpec)

/-- ITS FALSE NEIGHBOUR: 'it returns false'. Refute it at one input. -/
def groupClosesWrong : ChangeSpec := { name := "groupCloses", fn := fun _ => fun
  | [d1, d2] => { results := [.lit (.bool false)], args := [d1, d2] }
  | _ => none }
def GroupClosesWrongFalsely : Prop := groupClosesRow.holds Try.pinned (OpenSpec.ofChange groupClosesWrong)

/-- 'avouchlaw05.GroupLaws': WHATEVER THE INPUT: true; the input reads as it did. -/
def groupLawsSpec : ChangeSpec := { name := "groupLaws", fn := fun _ => fun
  | [d1, d2] => { results := [.lit (.bool true)], args := [d1, d2] }
  | _ => none }
def groupLawsRow : OpenClaim := { program := "ytpahdiljpnfkdaa", sum := "0cd27cd334d8ae61d15a128a594fa138614e8ab93a89516a2ca3f4a1e69038b1", func := "avouch/avouchlaw05.GroupLaws", spec := "groupLaws", inPlace := ["math/bits.Sub64", "math/bits.Add64"], unfollowed := true, recurses := true, apart := false }
def GroupLawsSaid : Prop := groupLawsRow.holds Try.pinned (OpenSpec.ofChange groupLawsSpec)

/-- ITS FALSE NEIGHBOUR: 'it returns false'. Refute it at one input. -/
def groupLawsWrong : ChangeSpec := { name := "groupLaws", fn := fun _ => fun
  | [d1, d2] => { results := [.lit (.bool false)], args := [d1, d2] }
  | _ => none }
def GroupLawsWrongFalsely : Prop := groupLawsRow.holds Try.pinned (OpenSpec.ofChange groupLawsWrong)

/-- 'avouchlaw05.GroupScalars': WHATEVER THE INPUT: true; the input reads as it did. -/
def groupScalarsSpec : ChangeSpec := { name := "groupScalars", fn := fun _ => fun
  | [d1, d2, d3] => { results := [.lit (.bool true)], args := [d1, d2, d3] }
  | _ => none }
def groupScalarsRow : OpenClaim := { program := "ytpahdiljpnfkdaa", sum := "0cd27cd334d8ae61d15a128a594fa138614e8ab93a89516a2ca3f4a1e69038b1", func := "avouch/avouchlaw05.GroupScalars", spec := "groupScalars", inPlace := ["math/bits.Sub64", "math/bits.Add64"], unfollowed := true, recurses := true, apart := false }
def GroupScalarsSaid : Prop := groupScalarsRow.holds Try.pinned (OpenSpec.ofChange groupScalarsSpec)

/-- ITS FALSE NEIGHBOUR: 'it returns false'. Refute it at one input. -/
def groupScalarsWrong : ChangeSpec := { name := "groupScalars", fn := fun _ => fun
  | [d1, d2, d3] => { results := [.lit (.bool false)], args := [d1, d2, d3] }
  | _ => none }
def GroupScalarsWrongFalsely : Prop := groupScalarsRow.holds Try.pinned (OpenSpec.ofChange groupScalarsWrong)

/-- 'avouchlaw15.EncodeChecks': WHATEVER THE INPUT: true; the input reads as it did. -/
def encodeChecksSpec : ChangeSpec := { name := "encodeChecks", fn := fun _ => fun
  | [d1, d2] => { results := [.lit (.bool true)], args := [d1, d2] }
  | _ => none }
def encodeChecksRow : OpenClaim := { program := "ytpahdiljpnfkdaa", sum := "0cd27cd334d8ae61d15a128a594fa138614e8ab93a89516a2ca3f4a1e69038b1", func := "avouch/avouchlaw15.EncodeChecks", spec := "encodeChecks", inPlace := ["math/bits.Sub64", "math/bits.Add64"], unfollowed := true, recurses := true, apart := false }
def EncodeChecksSaid : Prop := encodeChecksRow.holds Try.pinned (OpenSpec.ofChange encodeChecksSpec)

/-- ITS FALSE NEIGHBOUR: 'it returns false'. Refute it at one input. -/
def encodeChecksWrong : ChangeSpec := { name := "encodeChecks", fn := fun _ => fun
  | [d1, d2] => { results := [.lit (.bool false)], args := [d1, d2] }
  | _ => none }
def EncodeChecksWrongFalsely : Prop := encodeChecksRow.holds Try.pinned (OpenSpec.ofChange encodeChecksWrong)

/-- 'avouchlaw15.EncodeSizes': WHATEVER THE INPUT: true; the input reads as it did. -/
def encodeSizesSpec : ChangeSpec := { name := "encodeSizes", fn := fun _ => fun
  | [d] => { results := [.lit (.bool true)], args := [d] }
  | _ => none }
def encodeSizesRow : OpenClaim := { program := "ytpahdiljpnfkdaa", sum := "0cd27cd334d8ae61d15a128a594fa138614e8ab93a89516a2ca3f4a1e69038b1", func := "avouch/avouchlaw15.EncodeSizes", spec := "encodeSizes", inPlace := ["math/bits.Sub64", "math/bits.Add64"], unfollowed := true, recurses := true, apart := false }
def EncodeSizesSaid : Prop := encodeSizesRow.holds Try.pinned (OpenSpec.ofChange encodeSizesSpec)

/-- ITS FALSE NEIGHBOUR: 'it returns false'. Refute it at one input. -/
def encodeSizesWrong : ChangeSpec := { name := "encodeSizes", fn := fun _ => fun
  | [d] => { results := [.lit (.bool false)], args := [d] }
  | _ => none }
def EncodeSizesWrongFalsely : Prop := encodeSizesRow.holds Try.pinned (OpenSpec.ofChange encodeSizesWrong)

/-- 'avouchlaw15.EncodeUnlike': WHATEVER THE INPUT: true; the input reads as it did. -/
def encodeUnlikeSpec : ChangeSpec := { name := "encodeUnlike", fn := fun _ => fun
  | [d1, d2] => { results := [.lit (.bool true)], args := [d1, d2] }
  | _ => none }
def encodeUnlikeRow : OpenClaim := { program := "ytpahdiljpnfkdaa", sum := "0cd27cd334d8ae61d15a128a594fa138614e8ab93a89516a2ca3f4a1e69038b1", func := "avouch/avouchlaw15.EncodeUnlike", spec := "encodeUnlike", inPlace := ["math/bits.Sub64", "math/bits.Add64"], unfollowed := true, recurses := true, apart := false }
def EncodeUnlikeSaid : Prop := encodeUnlikeRow.holds Try.pinned (OpenSpec.ofChange encodeUnlikeSpec)

/-- ITS FALSE NEIGHBOUR: 'it returns false'. Refute it at one input. -/
def encodeUnlikeWrong : ChangeSpec := { name := "encodeUnlike", fn := fun _ => fun
  | [d1, d2] => { results := [.lit (.bool false)], args := [d1, d2] }
  | _ => none }
def EncodeUnlikeWrongFalsely : Prop := encodeUnlikeRow.holds Try.pinned (OpenSpec.ofChange encodeUnlikeWrong)

/-- 'avouchlaw15.EncodeLists': WHATEVER THE INPUT: true; the input reads as it did. -/
def encodeListsSpec : ChangeSpec := { name := "encodeLists", fn := fun _ => fun
  | [d] => { results := [.lit (.bool true)], args := [d] }
  | _ => none }
def encodeListsRow : OpenClaim := { program := "ytpahdiljpnfkdaa", sum := "0cd27cd334d8ae61d15a128a594fa138614e8ab93a89516a2ca3f4a1e69038b1", func := "avouch/avouchlaw15.EncodeLists", spec := "encodeLists", inPlace := ["math/bits.Sub64", "math/bits.Add64"], unfollowed := true, recurses := true, apart := false }
def EncodeListsSaid : Prop := encodeListsRow.holds Try.pinned (OpenSpec.ofChange encodeListsSpec)

/-- ITS FALSE NEIGHBOUR: 'it returns false'. Refute it at one input. -/
def encodeListsWrong : ChangeSpec := { name := "encodeLists", fn := fun _ => fun
  | [d] => { results := [.lit (.bool false)], args := [d] }
  | _ => none }
def EncodeListsWrongFalsely : Prop := encodeListsRow.holds Try.pinned (OpenSpec.ofChange encodeListsWrong)

/- THE SECOND FORM. 'bulk': how many values and letters a reading holds, each counted each time it is reached (what is shared counts as often as it is met; a slice's spare places count too). A statement '..UptoSaid' is the law's where the arguments, and the package variables that the reading takes, are together of bulk at most 1048576: NARROWER than '..Said'. Prove '..Said' where nothing that the law and all that it calls make is longer than what came in: it says more and counts as full. Else prove '..UptoSaid'. A law counts once. -/
mutual
def uptoBulk {H : Type} : DataW H → Nat
  | .lit (.string bytes) => bytes.length + 1
  | .lit _ => 1
  | .nil => 1
  | .ptr d => uptoBulk d + 1
  | .slice elems spare => uptoBulkAll elems + uptoBulkAll spare + 1
  | .agg parts => uptoBulkAll parts + 1
  | .iface _ d => uptoBulk d + 1
  | .map entries => uptoBulkEntries entries + 1
  | .held _ => 1
def uptoBulkAll {H : Type} : List (DataW H) → Nat
  | [] => 0
  | d :: r => uptoBulk d + uptoBulkAll r
def uptoBulkEntries {H : Type} : List (Lit × DataW H) → Nat
  | [] => 0
  | x :: r => uptoBulkEntry x + uptoBulkEntries r
def uptoBulkEntry {H : Type} : Lit × DataW H → Nat
  | (.string bytes, d) => bytes.length + uptoBulk d + 1
  | (_, d) => uptoBulk d + 1
 end
def uptoSmall : (H : Type) → List (DataW H) → Bool := fun _ ds => decide (uptoBulkAll ds ≤ 1048576)
def OpenSpec.upto (s : _root_.Go.ChangeSpec) : _root_.Go.OpenSpec := { _root_.Go.OpenSpec.ofChange s with cond := some uptoSmall }

/-- 'avouchlaw04.WidePowers', WHERE WHAT IT READS IS OF BULK AT MOST 1048576: true; the input reads as it did. -/
def widePowersUptoRow : OpenClaim := { program := "ytpahdiljpnfkdaa", sum := "0cd27cd334d8ae61d15a128a594fa138614e8ab93a89516a2ca3f4a1e69038b1", func := "avouch/avouchlaw04.WidePowers", spec := "widePowers", inPlace := ["math/bits.Sub64", "math/bits.Add64"], unfollowed := true, recurses := true, apart := false, narrowed := true }
def WidePowersUptoSaid : Prop := widePowersUptoRow.holds Try.pinned (OpenSpec.upto widePowersSpec)

/-- 'avouchlaw04.WideReckons', WHERE WHAT IT READS IS OF BULK AT MOST 1048576: true; the input reads as it did. -/
def wideReckonsUptoRow : OpenClaim := { program := "ytpahdiljpnfkdaa", sum := "0cd27cd334d8ae61d15a128a594fa138614e8ab93a89516a2ca3f4a1e69038b1", func := "avouch/avouchlaw04.WideReckons", spec := "wideReckons", inPlace := ["math/bits.Sub64", "math/bits.Add64"], unfollowed := true, recurses := true, apart := false, narrowed := true }
def WideReckonsUptoSaid : Prop := wideReckonsUptoRow.holds Try.pinned (OpenSpec.upto wideReckonsSpec)

/-- 'avouchlaw04.WideFermat', WHERE WHAT IT READS IS OF BULK AT MOST 1048576: true; the input reads as it did. -/
def wideFermatUptoRow : OpenClaim := { program := "ytpahdiljpnfkdaa", sum := "0cd27cd334d8ae61d15a128a594fa138614e8ab93a89516a2ca3f4a1e69038b1", func := "avouch/avouchlaw04.WideFermat", spec := "wideFermat", inPlace := ["math/bits.Sub64", "math/bits.Add64"], unfollowed := true, recurses := true, apart := false, narrowed := true }
def WideFermatUptoSaid : Prop := wideFermatUptoRow.holds Try.pinned (OpenSpec.upto wideFermatSpec)

/-- 'avouchlaw04.WideReads', WHERE WHAT IT READS IS OF BULK AT MOST 1048576: true; the input reads as it did. -/
def wideReadsUptoRow : OpenClaim := { program := "ytpahdiljpnfkdaa", sum := "0cd27cd334d8ae61d15a128a594fa138614e8ab93a89516a2ca3f4a1e69038b1", func := "avouch/avouchlaw04.WideReads", spec := "wideReads", inPlace := ["math/bits.Sub64", "math/bits.Add64"], unfollowed := true, recurses := true, apart := false, narrowed := true }
def WideReadsUptoSaid : Prop := wideReadsUptoRow.holds Try.pinned (OpenSpec.upto wideReadsSpec)

/-- 'avouchlaw04.WideHalves', WHERE WHAT IT READS IS OF BULK AT MOST 1048576: true; the input reads as it did. -/
def wideHalvesUptoRow : OpenClaim := { program := "ytpahdiljpnfkdaa", sum := "0cd27cd334d8ae61d15a128a594fa138614e8ab93a89516a2ca3f4a1e69038b1", func := "avouch/avouchlaw04.WideHalves", spec := "wideHalves", inPlace := ["math/bits.Sub64", "math/bits.Add64"], unfollowed := true, recurses := true, apart := false, narrowed := true }
def WideHalvesUptoSaid : Prop := wideHalvesUptoRow.holds Try.pinned (OpenSpec.upto wideHalvesSpec)

/-- 'avouchlaw05.GroupReads', WHERE WHAT IT READS IS OF BULK AT MOST 1048576: true; the input reads as it did. -/
def groupReadsUptoRow : OpenClaim := { program := "ytpahdiljpnfkdaa", sum := "0cd27cd334d8ae61d15a128a594fa138614e8ab93a89516a2ca3f4a1e69038b1", func := "avouch/avouchlaw05.GroupReads", spec := "groupReads", inPlace := ["math/bits.Sub64", "math/bits.Add64"], unfollowed := true, recurses := true, apart := false, narrowed := true }
def GroupReadsUptoSaid : Prop := groupReadsUptoRow.holds Try.pinned (OpenSpec.upto groupReadsSpec)

/-- 'avouchlaw05.GroupPowers', WHERE WHAT IT READS IS OF BULK AT MOST 1048576: true; the input reads as it did. -/
def groupPowersUptoRow : OpenClaim := { program := "ytpahdiljpnfkdaa", sum := "0cd27cd334d8ae61d15a128a594fa138614e8ab93a89516a2ca3f4a1e69038b1", func := "avouch/avouchlaw05.GroupPowers", spec := "groupPowers", inPlace := ["math/bits.Sub64", "math/bits.Add64"], unfollowed := true, recurses := true, apart := false, narrowed := true }
def GroupPowersUptoSaid : Prop := groupPowersUptoRow.holds Try.pinned (OpenSpec.upto groupPowersSpec)

/-- 'avouchlaw05.GroupCloses', WHERE WHAT IT READS IS OF BULK AT MOST 1048576: true; the input reads as it did. -/
def groupClosesUptoRow : OpenClaim := { program := "ytpahdiljpnfkdaa", sum := "0cd27cd334d8ae61d15a128a594fa138614e8ab93a89516a2ca3f4a1e69038b1", func := "avouch/avouchlaw05.GroupCloses", spec := "groupCloses", inPlace := ["math/bits.Sub64", "math/bits.Add64"], unfollowed := true, recurses := true, apart := false, narrowed := true }
def GroupClosesUptoSaid : Prop := groupClosesUptoRow.holds Try.pinned (OpenSpec.upto groupClosesSpec)

/-- 'avouchlaw05.GroupLaws', WHERE WHAT IT READS IS OF BULK AT MOST 1048576: true; the input reads as it did. -/
def groupLawsUptoRow : OpenClaim := { program := "ytpahdiljpnfkdaa", sum := "0cd27cd334d8ae61d15a128a594fa138614e8ab93a89516a2ca3f4a1e69038b1", func := "avouch/avouchlaw05.GroupLaws", spec := "groupLaws", inPlace := ["math/bits.Sub64", "math/bits.Add64"], unfollowed := true, recurses := true, apart := false, narrowed := true }
def GroupLawsUptoSaid : Prop := groupLawsUptoRow.holds Try.pinned (OpenSpec.upto groupLawsSpec)

/-- 'avouchlaw05.GroupScalars', WHERE WHAT IT READS IS OF BULK AT MOST 1048576: true; the input reads as it did. -/
def groupScalarsUptoRow : OpenClaim := { program := "ytpahdiljpnfkdaa", sum := "0cd27cd334d8ae61d15a128a594fa138614e8ab93a89516a2ca3f4a1e69038b1", func := "avouch/avouchlaw05.GroupScalars", spec := "groupScalars", inPlace := ["math/bits.Sub64", "math/bits.Add64"], unfollowed := true, recurses := true, apart := false, narrowed := true }
def GroupScalarsUptoSaid : Prop := groupScalarsUptoRow.holds Try.pinned (OpenSpec.upto groupScalarsSpec)

/-- 'avouchlaw15.EncodeChecks', WHERE WHAT IT READS IS OF BULK AT MOST 1048576: true; the input reads as it did. -/
def encodeChecksUptoRow : OpenClaim := { program := "ytpahdiljpnfkdaa", sum := "0cd27cd334d8ae61d15a128a594fa138614e8ab93a89516a2ca3f4a1e69038b1", func := "avouch/avouchlaw15.EncodeChecks", spec := "encodeChecks", inPlace := ["math/bits.Sub64", "math/bits.Add64"], unfollowed := true, recurses := true, apart := false, narrowed := true }
def EncodeChecksUptoSaid : Prop := encodeChecksUptoRow.holds Try.pinned (OpenSpec.upto encodeChecksSpec)

/-- 'avouchlaw15.EncodeSizes', WHERE WHAT IT READS IS OF BULK AT MOST 1048576: true; the input reads as it did. -/
def encodeSizesUptoRow : OpenClaim := { program := "ytpahdiljpnfkdaa", sum := "0cd27cd334d8ae61d15a128a594fa138614e8ab93a89516a2ca3f4a1e69038b1", func := "avouch/avouchlaw15.EncodeSizes", spec := "encodeSizes", inPlace := ["math/bits.Sub64", "math/bits.Add64"], unfollowed := true, recurses := true, apart := false, narrowed := true }
def EncodeSizesUptoSaid : Prop := encodeSizesUptoRow.holds Try.pinned (OpenSpec.upto encodeSizesSpec)

/-- 'avouchlaw15.EncodeUnlike', WHERE WHAT IT READS IS OF BULK AT MOST 1048576: true; the input reads as it did. -/
def encodeUnlikeUptoRow : OpenClaim := { program := "ytpahdiljpnfkdaa", sum := "0cd27cd334d8ae61d15a128a594fa138614e8ab93a89516a2ca3f4a1e69038b1", func := "avouch/avouchlaw15.EncodeUnlike", spec := "encodeUnlike", inPlace := ["math/bits.Sub64", "math/bits.Add64"], unfollowed := true, recurses := true, apart := false, narrowed := true }
def EncodeUnlikeUptoSaid : Prop := encodeUnlikeUptoRow.holds Try.pinned (OpenSpec.upto encodeUnlikeSpec)

/-- 'avouchlaw15.EncodeLists', WHERE WHAT IT READS IS OF BULK AT MOST 1048576: true; the input reads as it did. -/
def encodeListsUptoRow : OpenClaim := { program := "ytpahdiljpnfkdaa", sum := "0cd27cd334d8ae61d15a128a594fa138614e8ab93a89516a2ca3f4a1e69038b1", func := "avouch/avouchlaw15.EncodeLists", spec := "encodeLists", inPlace := ["math/bits.Sub64", "math/bits.Add64"], unfollowed := true, recurses := true, apart := false, narrowed := true }
def EncodeListsUptoSaid : Prop := encodeListsUptoRow.holds Try.pinned (OpenSpec.upto encodeListsSpec)

end Rows
end Go.Proofs.Ytpahdiljpnfkdaa
