/-
  No cell of these rows narrows 'for every input' (looked for: loops, veiled, ifaces, maps, wideKeys, modest, calm, conditions, laid).
  DERIVED. THE GIVEN ROWS OF THIS SEAT. 19 by the template 'for every input the law returns true; each argument reads behind the call as it read before'; 0 by the template 'total and deterministic' (their statements: YtkjnheikimpliaaTotals.lean).
  GIVEN WITH THE SEED: the statements are not yours to turn. If you find one false, say at which input.
  Laid BY PROGRAM, IN A SANDBOX (cutbox-rows.mjs): the forced cells as the released guide's own fill.sh prints them over the translation 7847a7b9eae498fd… (all of the seat's roots in one cut). By AI agents, Wed Nov 11 2026. No macro, syntax, notation, axiom, sorry.
-/
import Derived.Test.YtkjnheikimpliaaChecked
import GoSem.Claim
import GoSem.ClaimJoined
import GoSem.ClaimMapViews
import Derived.JoinedTies
import Derived.KernelRfl
namespace Go.Proofs.Ytkjnheikimpliaa
/- THE CELL 'sum', in the pinned program and in every row, IS THE sha256 OF THE DUMP (.gsa) THAT YtkjnheikimpliaaProg.lean LOADS. Nothing in Lean hashes anything: it is a label: what it is worth is what the hold of that sum in a sandbox is worth. -/
noncomputable def Try.pinned : Pinned := { name := "ytkjnheikimpliaa", sum := "7847a7b9eae498fda5affe88bf3e0855f87288caca562a13ded6c031f87469f2", checked := Try.checked }
namespace Rows
def none {H : Type} : Left H := { results := [], args := [] }

/-- 'tintypelaw01.NumStrides': WHATEVER THE INPUT: true; the input reads as it did. -/
def numStridesSpec : ChangeSpec := { name := "numStrides", fn := fun _ => fun
  | [d1, d2, d3] => { results := [.lit (.bool true)], args := [d1, d2, d3] }
  | _ => none }
def numStridesRow : OpenClaim := { program := "ytkjnheikimpliaa", sum := "7847a7b9eae498fda5affe88bf3e0855f87288caca562a13ded6c031f87469f2", func := "tintype/tintypelaw01.NumStrides", spec := "numStrides", plainKeys := false, apart := false }
def NumStridesSaid : Prop := numStridesRow.holds Try.pinned (OpenSpec.ofChange numStridesSpec)

/-- ITS FALSE NEIGHBOUR: 'it returns false'. Refute it at one input. -/
def numStridesWrong : ChangeSpec := { name := "numStrides", fn := fun _ => fun
  | [d1, d2, d3] => { results := [.lit (.bool false)], args := [d1, d2, d3] }
  | _ => none }
def NumStridesWrongFalsely : Prop := numStridesRow.holds Try.pinned (OpenSpec.ofChange numStridesWrong)

/-- 'tintypelaw01.NumSums': WHATEVER THE INPUT: true; the input reads as it did. -/
def numSumsSpec : ChangeSpec := { name := "numSums", fn := fun _ => fun
  | [d1, d2] => { results := [.lit (.bool true)], args := [d1, d2] }
  | _ => none }
def numSumsRow : OpenClaim := { program := "ytkjnheikimpliaa", sum := "7847a7b9eae498fda5affe88bf3e0855f87288caca562a13ded6c031f87469f2", func := "tintype/tintypelaw01.NumSums", spec := "numSums", plainKeys := false, apart := false }
def NumSumsSaid : Prop := numSumsRow.holds Try.pinned (OpenSpec.ofChange numSumsSpec)

/-- ITS FALSE NEIGHBOUR: 'it returns false'. Refute it at one input. -/
def numSumsWrong : ChangeSpec := { name := "numSums", fn := fun _ => fun
  | [d1, d2] => { results := [.lit (.bool false)], args := [d1, d2] }
  | _ => none }
def NumSumsWrongFalsely : Prop := numSumsRow.holds Try.pinned (OpenSpec.ofChange numSumsWrong)

/-- 'tintypelaw01.NumClamps': WHATEVER THE INPUT: true; the input reads as it did. -/
def numClampsSpec : ChangeSpec := { name := "numClamps", fn := fun _ => fun
  | [d1, d2, d3] => { results := [.lit (.bool true)], args := [d1, d2, d3] }
  | _ => none }
def numClampsRow : OpenClaim := { program := "ytkjnheikimpliaa", sum := "7847a7b9eae498fda5affe88bf3e0855f87288caca562a13ded6c031f87469f2", func := "tintype/tintypelaw01.NumClamps", spec := "numClamps", plainKeys := false, apart := false }
def NumClampsSaid : Prop := numClampsRow.holds Try.pinned (OpenSpec.ofChange numClampsSpec)

/-- ITS FALSE NEIGHBOUR: 'it returns false'. Refute it at one input. -/
def numClampsWrong : ChangeSpec := { name := "numClamps", fn := fun _ => fun
  | [d1, d2, d3] => { results := [.lit (.bool false)], args := [d1, d2, d3] }
  | _ => none }
def NumClampsWrongFalsely : Prop := numClampsRow.holds Try.pinned (OpenSpec.ofChange numClampsWrong)

/-- 'tintypelaw01.NumRows': WHATEVER THE INPUT: true; the input reads as it did. -/
def numRowsSpec : ChangeSpec := { name := "numRows", fn := fun _ => fun
  | [d] => { results := [.lit (.bool true)], args := [d] }
  | _ => none }
def numRowsRow : OpenClaim := { program := "ytkjnheikimpliaa", sum := "7847a7b9eae498fda5affe88bf3e0855f87288caca562a13ded6c031f87469f2", func := "tintype/tintypelaw01.NumRows", spec := "numRows", unfollowed := true, recurses := true, plainKeys := false, apart := false }
def NumRowsSaid : Prop := numRowsRow.holds Try.pinned (OpenSpec.ofChange numRowsSpec)

/-- ITS FALSE NEIGHBOUR: 'it returns false'. Refute it at one input. -/
def numRowsWrong : ChangeSpec := { name := "numRows", fn := fun _ => fun
  | [d] => { results := [.lit (.bool false)], args := [d] }
  | _ => none }
def NumRowsWrongFalsely : Prop := numRowsRow.holds Try.pinned (OpenSpec.ofChange numRowsWrong)

/-- 'tintypelaw35.CmpCounts': WHATEVER THE INPUT: true; the input reads as it did. -/
def cmpCountsSpec : ChangeSpec := { name := "cmpCounts", fn := fun _ => fun
  | [d1, d2, d3] => { results := [.lit (.bool true)], args := [d1, d2, d3] }
  | _ => none }
def cmpCountsRow : OpenClaim := { program := "ytkjnheikimpliaa", sum := "7847a7b9eae498fda5affe88bf3e0855f87288caca562a13ded6c031f87469f2", func := "tintype/tintypelaw35.CmpCounts", spec := "cmpCounts", unfollowed := true, recurses := true, plainKeys := false, apart := false }
def CmpCountsSaid : Prop := cmpCountsRow.holds Try.pinned (OpenSpec.ofChange cmpCountsSpec)

/-- ITS FALSE NEIGHBOUR: 'it returns false'. Refute it at one input. -/
def cmpCountsWrong : ChangeSpec := { name := "cmpCounts", fn := fun _ => fun
  | [d1, d2, d3] => { results := [.lit (.bool false)], args := [d1, d2, d3] }
  | _ => none }
def CmpCountsWrongFalsely : Prop := cmpCountsRow.holds Try.pinned (OpenSpec.ofChange cmpCountsWrong)

/-- 'tintypelaw35.CmpDigests': WHATEVER THE INPUT: true; the input reads as it did. -/
def cmpDigestsSpec : ChangeSpec := { name := "cmpDigests", fn := fun _ => fun
  | [d1, d2] => { results := [.lit (.bool true)], args := [d1, d2] }
  | _ => none }
def cmpDigestsRow : OpenClaim := { program := "ytkjnheikimpliaa", sum := "7847a7b9eae498fda5affe88bf3e0855f87288caca562a13ded6c031f87469f2", func := "tintype/tintypelaw35.CmpDigests", spec := "cmpDigests", unfollowed := true, recurses := true, plainKeys := false, apart := false }
def CmpDigestsSaid : Prop := cmpDigestsRow.holds Try.pinned (OpenSpec.ofChange cmpDigestsSpec)

/-- ITS FALSE NEIGHBOUR: 'it returns false'. Refute it at one input. -/
def cmpDigestsWrong : ChangeSpec := { name := "cmpDigests", fn := fun _ => fun
  | [d1, d2] => { results := [.lit (.bool false)], args := [d1, d2] }
  | _ => none }
def CmpDigestsWrongFalsely : Prop := cmpDigestsRow.holds Try.pinned (OpenSpec.ofChange cmpDigestsWrong)

/-- 'tintypelaw36.QuantDithers': WHATEVER THE INPUT: true; the input reads as it did. -/
def quantDithersSpec : ChangeSpec := { name := "quantDithers", fn := fun _ => fun
  | [d] => { results := [.lit (.bool true)], args := [d] }
  | _ => none }
def quantDithersRow : OpenClaim := { program := "ytkjnheikimpliaa", sum := "7847a7b9eae498fda5affe88bf3e0855f87288caca562a13ded6c031f87469f2", func := "tintype/tintypelaw36.QuantDithers", spec := "quantDithers", unfollowed := true, recurses := true, plainKeys := false, apart := false }
def QuantDithersSaid : Prop := quantDithersRow.holds Try.pinned (OpenSpec.ofChange quantDithersSpec)

/-- ITS FALSE NEIGHBOUR: 'it returns false'. Refute it at one input. -/
def quantDithersWrong : ChangeSpec := { name := "quantDithers", fn := fun _ => fun
  | [d] => { results := [.lit (.bool false)], args := [d] }
  | _ => none }
def QuantDithersWrongFalsely : Prop := quantDithersRow.holds Try.pinned (OpenSpec.ofChange quantDithersWrong)

/-- 'tintypelaw34.OpsSizes': WHATEVER THE INPUT: true; the input reads as it did. -/
def opsSizesSpec : ChangeSpec := { name := "opsSizes", fn := fun _ => fun
  | [d1, d2, d3] => { results := [.lit (.bool true)], args := [d1, d2, d3] }
  | _ => none }
def opsSizesRow : OpenClaim := { program := "ytkjnheikimpliaa", sum := "7847a7b9eae498fda5affe88bf3e0855f87288caca562a13ded6c031f87469f2", func := "tintype/tintypelaw34.OpsSizes", spec := "opsSizes", unfollowed := true, recurses := true, plainKeys := false, apart := false }
def OpsSizesSaid : Prop := opsSizesRow.holds Try.pinned (OpenSpec.ofChange opsSizesSpec)

/-- ITS FALSE NEIGHBOUR: 'it returns false'. Refute it at one input. -/
def opsSizesWrong : ChangeSpec := { name := "opsSizes", fn := fun _ => fun
  | [d1, d2, d3] => { results := [.lit (.bool false)], args := [d1, d2, d3] }
  | _ => none }
def OpsSizesWrongFalsely : Prop := opsSizesRow.holds Try.pinned (OpenSpec.ofChange opsSizesWrong)

/-- 'tintypelaw34.OpsMaps': WHATEVER THE INPUT: true; the input reads as it did. -/
def opsMapsSpec : ChangeSpec := { name := "opsMaps", fn := fun _ => fun
  | [d1, d2, d3, d4] => { results := [.lit (.bool true)], args := [d1, d2, d3, d4] }
  | _ => none }
def opsMapsRow : OpenClaim := { program := "ytkjnheikimpliaa", sum := "7847a7b9eae498fda5affe88bf3e0855f87288caca562a13ded6c031f87469f2", func := "tintype/tintypelaw34.OpsMaps", spec := "opsMaps", unfollowed := true, recurses := true, plainKeys := false, apart := false }
def OpsMapsSaid : Prop := opsMapsRow.holds Try.pinned (OpenSpec.ofChange opsMapsSpec)

/-- ITS FALSE NEIGHBOUR: 'it returns false'. Refute it at one input. -/
def opsMapsWrong : ChangeSpec := { name := "opsMaps", fn := fun _ => fun
  | [d1, d2, d3, d4] => { results := [.lit (.bool false)], args := [d1, d2, d3, d4] }
  | _ => none }
def OpsMapsWrongFalsely : Prop := opsMapsRow.holds Try.pinned (OpenSpec.ofChange opsMapsWrong)

/-- 'tintypelaw34.OpsCrops': WHATEVER THE INPUT: true; the input reads as it did. -/
def opsCropsSpec : ChangeSpec := { name := "opsCrops", fn := fun _ => fun
  | [d1, d2, d3, d4, d5] => { results := [.lit (.bool true)], args := [d1, d2, d3, d4, d5] }
  | _ => none }
def opsCropsRow : OpenClaim := { program := "ytkjnheikimpliaa", sum := "7847a7b9eae498fda5affe88bf3e0855f87288caca562a13ded6c031f87469f2", func := "tintype/tintypelaw34.OpsCrops", spec := "opsCrops", unfollowed := true, recurses := true, plainKeys := false, apart := false }
def OpsCropsSaid : Prop := opsCropsRow.holds Try.pinned (OpenSpec.ofChange opsCropsSpec)

/-- ITS FALSE NEIGHBOUR: 'it returns false'. Refute it at one input. -/
def opsCropsWrong : ChangeSpec := { name := "opsCrops", fn := fun _ => fun
  | [d1, d2, d3, d4, d5] => { results := [.lit (.bool false)], args := [d1, d2, d3, d4, d5] }
  | _ => none }
def OpsCropsWrongFalsely : Prop := opsCropsRow.holds Try.pinned (OpenSpec.ofChange opsCropsWrong)

/-- 'tintypelaw34.OpsTurns': WHATEVER THE INPUT: true; the input reads as it did. -/
def opsTurnsSpec : ChangeSpec := { name := "opsTurns", fn := fun _ => fun
  | [d1, d2] => { results := [.lit (.bool true)], args := [d1, d2] }
  | _ => none }
def opsTurnsRow : OpenClaim := { program := "ytkjnheikimpliaa", sum := "7847a7b9eae498fda5affe88bf3e0855f87288caca562a13ded6c031f87469f2", func := "tintype/tintypelaw34.OpsTurns", spec := "opsTurns", unfollowed := true, recurses := true, plainKeys := false, apart := false }
def OpsTurnsSaid : Prop := opsTurnsRow.holds Try.pinned (OpenSpec.ofChange opsTurnsSpec)

/-- ITS FALSE NEIGHBOUR: 'it returns false'. Refute it at one input. -/
def opsTurnsWrong : ChangeSpec := { name := "opsTurns", fn := fun _ => fun
  | [d1, d2] => { results := [.lit (.bool false)], args := [d1, d2] }
  | _ => none }
def OpsTurnsWrongFalsely : Prop := opsTurnsRow.holds Try.pinned (OpenSpec.ofChange opsTurnsWrong)

/-- 'tintypelaw36.QuantLevels': WHATEVER THE INPUT: true; the input reads as it did. -/
def quantLevelsSpec : ChangeSpec := { name := "quantLevels", fn := fun _ => fun
  | [d1, d2] => { results := [.lit (.bool true)], args := [d1, d2] }
  | _ => none }
def quantLevelsRow : OpenClaim := { program := "ytkjnheikimpliaa", sum := "7847a7b9eae498fda5affe88bf3e0855f87288caca562a13ded6c031f87469f2", func := "tintype/tintypelaw36.QuantLevels", spec := "quantLevels", unfollowed := true, recurses := true, plainKeys := false, apart := false }
def QuantLevelsSaid : Prop := quantLevelsRow.holds Try.pinned (OpenSpec.ofChange quantLevelsSpec)

/-- ITS FALSE NEIGHBOUR: 'it returns false'. Refute it at one input. -/
def quantLevelsWrong : ChangeSpec := { name := "quantLevels", fn := fun _ => fun
  | [d1, d2] => { results := [.lit (.bool false)], args := [d1, d2] }
  | _ => none }
def QuantLevelsWrongFalsely : Prop := quantLevelsRow.holds Try.pinned (OpenSpec.ofChange quantLevelsWrong)

/-- 'tintypelaw34.OpsColors': WHATEVER THE INPUT: true; the input reads as it did. -/
def opsColorsSpec : ChangeSpec := { name := "opsColors", fn := fun _ => fun
  | [d1, d2] => { results := [.lit (.bool true)], args := [d1, d2] }
  | _ => none }
def opsColorsRow : OpenClaim := { program := "ytkjnheikimpliaa", sum := "7847a7b9eae498fda5affe88bf3e0855f87288caca562a13ded6c031f87469f2", func := "tintype/tintypelaw34.OpsColors", spec := "opsColors", unfollowed := true, recurses := true, plainKeys := false, apart := false }
def OpsColorsSaid : Prop := opsColorsRow.holds Try.pinned (OpenSpec.ofChange opsColorsSpec)

/-- ITS FALSE NEIGHBOUR: 'it returns false'. Refute it at one input. -/
def opsColorsWrong : ChangeSpec := { name := "opsColors", fn := fun _ => fun
  | [d1, d2] => { results := [.lit (.bool false)], args := [d1, d2] }
  | _ => none }
def OpsColorsWrongFalsely : Prop := opsColorsRow.holds Try.pinned (OpenSpec.ofChange opsColorsWrong)

/-- 'tintypelaw34.OpsFrames': WHATEVER THE INPUT: true; the input reads as it did. -/
def opsFramesSpec : ChangeSpec := { name := "opsFrames", fn := fun _ => fun
  | [d1, d2, d3, d4, d5, d6] => { results := [.lit (.bool true)], args := [d1, d2, d3, d4, d5, d6] }
  | _ => none }
def opsFramesRow : OpenClaim := { program := "ytkjnheikimpliaa", sum := "7847a7b9eae498fda5affe88bf3e0855f87288caca562a13ded6c031f87469f2", func := "tintype/tintypelaw34.OpsFrames", spec := "opsFrames", unfollowed := true, recurses := true, plainKeys := false, apart := false }
def OpsFramesSaid : Prop := opsFramesRow.holds Try.pinned (OpenSpec.ofChange opsFramesSpec)

/-- ITS FALSE NEIGHBOUR: 'it returns false'. Refute it at one input. -/
def opsFramesWrong : ChangeSpec := { name := "opsFrames", fn := fun _ => fun
  | [d1, d2, d3, d4, d5, d6] => { results := [.lit (.bool false)], args := [d1, d2, d3, d4, d5, d6] }
  | _ => none }
def OpsFramesWrongFalsely : Prop := opsFramesRow.holds Try.pinned (OpenSpec.ofChange opsFramesWrong)

/-- 'tintypelaw34.OpsLays': WHATEVER THE INPUT: true; the input reads as it did. -/
def opsLaysSpec : ChangeSpec := { name := "opsLays", fn := fun _ => fun
  | [d1, d2, d3, d4] => { results := [.lit (.bool true)], args := [d1, d2, d3, d4] }
  | _ => none }
def opsLaysRow : OpenClaim := { program := "ytkjnheikimpliaa", sum := "7847a7b9eae498fda5affe88bf3e0855f87288caca562a13ded6c031f87469f2", func := "tintype/tintypelaw34.OpsLays", spec := "opsLays", unfollowed := true, recurses := true, plainKeys := false, apart := false }
def OpsLaysSaid : Prop := opsLaysRow.holds Try.pinned (OpenSpec.ofChange opsLaysSpec)

/-- ITS FALSE NEIGHBOUR: 'it returns false'. Refute it at one input. -/
def opsLaysWrong : ChangeSpec := { name := "opsLays", fn := fun _ => fun
  | [d1, d2, d3, d4] => { results := [.lit (.bool false)], args := [d1, d2, d3, d4] }
  | _ => none }
def OpsLaysWrongFalsely : Prop := opsLaysRow.holds Try.pinned (OpenSpec.ofChange opsLaysWrong)

/-- 'tintypelaw35.CmpDiffs': WHATEVER THE INPUT: true; the input reads as it did. -/
def cmpDiffsSpec : ChangeSpec := { name := "cmpDiffs", fn := fun _ => fun
  | [d1, d2] => { results := [.lit (.bool true)], args := [d1, d2] }
  | _ => none }
def cmpDiffsRow : OpenClaim := { program := "ytkjnheikimpliaa", sum := "7847a7b9eae498fda5affe88bf3e0855f87288caca562a13ded6c031f87469f2", func := "tintype/tintypelaw35.CmpDiffs", spec := "cmpDiffs", unfollowed := true, recurses := true, plainKeys := false, apart := false }
def CmpDiffsSaid : Prop := cmpDiffsRow.holds Try.pinned (OpenSpec.ofChange cmpDiffsSpec)

/-- ITS FALSE NEIGHBOUR: 'it returns false'. Refute it at one input. -/
def cmpDiffsWrong : ChangeSpec := { name := "cmpDiffs", fn := fun _ => fun
  | [d1, d2] => { results := [.lit (.bool false)], args := [d1, d2] }
  | _ => none }
def CmpDiffsWrongFalsely : Prop := cmpDiffsRow.holds Try.pinned (OpenSpec.ofChange cmpDiffsWrong)

/-- 'tintypelaw36.QuantNumbers': WHATEVER THE INPUT: true; the input reads as it did. -/
def quantNumbersSpec : ChangeSpec := { name := "quantNumbers", fn := fun _ => fun
  | [d1, d2, d3, d4] => { results := [.lit (.bool true)], args := [d1, d2, d3, d4] }
  | _ => none }
def quantNumbersRow : OpenClaim := { program := "ytkjnheikimpliaa", sum := "7847a7b9eae498fda5affe88bf3e0855f87288caca562a13ded6c031f87469f2", func := "tintype/tintypelaw36.QuantNumbers", spec := "quantNumbers", unfollowed := true, recurses := true, plainKeys := false, apart := false }
def QuantNumbersSaid : Prop := quantNumbersRow.holds Try.pinned (OpenSpec.ofChange quantNumbersSpec)

/-- ITS FALSE NEIGHBOUR: 'it returns false'. Refute it at one input. -/
def quantNumbersWrong : ChangeSpec := { name := "quantNumbers", fn := fun _ => fun
  | [d1, d2, d3, d4] => { results := [.lit (.bool false)], args := [d1, d2, d3, d4] }
  | _ => none }
def QuantNumbersWrongFalsely : Prop := quantNumbersRow.holds Try.pinned (OpenSpec.ofChange quantNumbersWrong)

/-- 'tintypelaw35.CmpBoxes': WHATEVER THE INPUT: true; the input reads as it did. -/
def cmpBoxesSpec : ChangeSpec := { name := "cmpBoxes", fn := fun _ => fun
  | [d1, d2] => { results := [.lit (.bool true)], args := [d1, d2] }
  | _ => none }
def cmpBoxesRow : OpenClaim := { program := "ytkjnheikimpliaa", sum := "7847a7b9eae498fda5affe88bf3e0855f87288caca562a13ded6c031f87469f2", func := "tintype/tintypelaw35.CmpBoxes", spec := "cmpBoxes", unfollowed := true, recurses := true, plainKeys := false, apart := false }
def CmpBoxesSaid : Prop := cmpBoxesRow.holds Try.pinned (OpenSpec.ofChange cmpBoxesSpec)

/-- ITS FALSE NEIGHBOUR: 'it returns false'. Refute it at one input. -/
def cmpBoxesWrong : ChangeSpec := { name := "cmpBoxes", fn := fun _ => fun
  | [d1, d2] => { results := [.lit (.bool false)], args := [d1, d2] }
  | _ => none }
def CmpBoxesWrongFalsely : Prop := cmpBoxesRow.holds Try.pinned (OpenSpec.ofChange cmpBoxesWrong)

/-- 'tintypelaw36.QuantPopular': WHATEVER THE INPUT: true; the input reads as it did. -/
def quantPopularSpec : ChangeSpec := { name := "quantPopular", fn := fun _ => fun
  | [d1, d2] => { results := [.lit (.bool true)], args := [d1, d2] }
  | _ => none }
def quantPopularRow : OpenClaim := { program := "ytkjnheikimpliaa", sum := "7847a7b9eae498fda5affe88bf3e0855f87288caca562a13ded6c031f87469f2", func := "tintype/tintypelaw36.QuantPopular", spec := "quantPopular", unfollowed := true, recurses := true, plainKeys := false, apart := false }
def QuantPopularSaid : Prop := quantPopularRow.holds Try.pinned (OpenSpec.ofChange quantPopularSpec)

/-- ITS FALSE NEIGHBOUR: 'it returns false'. Refute it at one input. -/
def quantPopularWrong : ChangeSpec := { name := "quantPopular", fn := fun _ => fun
  | [d1, d2] => { results := [.lit (.bool false)], args := [d1, d2] }
  | _ => none }
def QuantPopularWrongFalsely : Prop := quantPopularRow.holds Try.pinned (OpenSpec.ofChange quantPopularWrong)

/- THE SECOND FORM. 'bulk': how many values and letters a reading holds, each counted each time it is reached (what is shared counts as often as it is met; a slice's spare places count too). A statement '..UptoSaid' is the law's where the arguments, and the package variables that the reading takes, are together of bulk at most 1048576: NARROWER than '..Said'. Prove '..Said' where nothing that the law and all that it calls make is longer than what came in: it says more and counts as full. Else prove '..UptoSaid'. A law counts once. -/
mutual
def uptoBulk {H : Type} : DataW H → Nat
  | .lit (.string bytes) => bytes.length + 1
  | .lit _ => 1
  | .nil => 1
  | .ptr d => uptoBulk d + 1
  | .slice elems spare => uptoBulkAll elems + uptoBulkAll spare + 1
  | .agg parts => uptoBulkAll parts + 1
  | .iface _ d => uptoBulk d + 1
  | .map entries => uptoBulkEntries entries + 1
  | .held _ => 1
def uptoBulkAll {H : Type} : List (DataW H) → Nat
  | [] => 0
  | d :: r => uptoBulk d + uptoBulkAll r
def uptoBulkEntries {H : Type} : List (Lit × DataW H) → Nat
  | [] => 0
  | x :: r => uptoBulkEntry x + uptoBulkEntries r
def uptoBulkEntry {H : Type} : Lit × DataW H → Nat
  | (.string bytes, d) => bytes.length + uptoBulk d + 1
  | (_, d) => uptoBulk d + 1
 end
def uptoSmall : (H : Type) → List (DataW H) → Bool := fun _ ds => decide (uptoBulkAll ds ≤ 1048576)
def OpenSpec.upto (s : _root_.Go.ChangeSpec) : _root_.Go.OpenSpec := { _root_.Go.OpenSpec.ofChange s with cond := some uptoSmall }

/-- 'tintypelaw01.NumStrides', WHERE WHAT IT READS IS OF BULK AT MOST 1048576: true; the input reads as it did. -/
def numStridesUptoRow : OpenClaim := { program := "ytkjnheikimpliaa", sum := "7847a7b9eae498fda5affe88bf3e0855f87288caca562a13ded6c031f87469f2", func := "tintype/tintypelaw01.NumStrides", spec := "numStrides", plainKeys := false, apart := false, narrowed := true }
def NumStridesUptoSaid : Prop := numStridesUptoRow.holds Try.pinned (OpenSpec.upto numStridesSpec)

/-- 'tintypelaw01.NumSums', WHERE WHAT IT READS IS OF BULK AT MOST 1048576: true; the input reads as it did. -/
def numSumsUptoRow : OpenClaim := { program := "ytkjnheikimpliaa", sum := "7847a7b9eae498fda5affe88bf3e0855f87288caca562a13ded6c031f87469f2", func := "tintype/tintypelaw01.NumSums", spec := "numSums", plainKeys := false, apart := false, narrowed := true }
def NumSumsUptoSaid : Prop := numSumsUptoRow.holds Try.pinned (OpenSpec.upto numSumsSpec)

/-- 'tintypelaw01.NumClamps', WHERE WHAT IT READS IS OF BULK AT MOST 1048576: true; the input reads as it did. -/
def numClampsUptoRow : OpenClaim := { program := "ytkjnheikimpliaa", sum := "7847a7b9eae498fda5affe88bf3e0855f87288caca562a13ded6c031f87469f2", func := "tintype/tintypelaw01.NumClamps", spec := "numClamps", plainKeys := false, apart := false, narrowed := true }
def NumClampsUptoSaid : Prop := numClampsUptoRow.holds Try.pinned (OpenSpec.upto numClampsSpec)

/-- 'tintypelaw01.NumRows', WHERE WHAT IT READS IS OF BULK AT MOST 1048576: true; the input reads as it did. -/
def numRowsUptoRow : OpenClaim := { program := "ytkjnheikimpliaa", sum := "7847a7b9eae498fda5affe88bf3e0855f87288caca562a13ded6c031f87469f2", func := "tintype/tintypelaw01.NumRows", spec := "numRows", unfollowed := true, recurses := true, plainKeys := false, apart := false, narrowed := true }
def NumRowsUptoSaid : Prop := numRowsUptoRow.holds Try.pinned (OpenSpec.upto numRowsSpec)

/-- 'tintypelaw35.CmpCounts', WHERE WHAT IT READS IS OF BULK AT MOST 1048576: true; the input reads as it did. -/
def cmpCountsUptoRow : OpenClaim := { program := "ytkjnheikimpliaa", sum := "7847a7b9eae498fda5affe88bf3e0855f87288caca562a13ded6c031f87469f2", func := "tintype/tintypelaw35.CmpCounts", spec := "cmpCounts", unfollowed := true, recurses := true, plainKeys := false, apart := false, narrowed := true }
def CmpCountsUptoSaid : Prop := cmpCountsUptoRow.holds Try.pinned (OpenSpec.upto cmpCountsSpec)

/-- 'tintypelaw35.CmpDigests', WHERE WHAT IT READS IS OF BULK AT MOST 1048576: true; the input reads as it did. -/
def cmpDigestsUptoRow : OpenClaim := { program := "ytkjnheikimpliaa", sum := "7847a7b9eae498fda5affe88bf3e0855f87288caca562a13ded6c031f87469f2", func := "tintype/tintypelaw35.CmpDigests", spec := "cmpDigests", unfollowed := true, recurses := true, plainKeys := false, apart := false, narrowed := true }
def CmpDigestsUptoSaid : Prop := cmpDigestsUptoRow.holds Try.pinned (OpenSpec.upto cmpDigestsSpec)

/-- 'tintypelaw36.QuantDithers', WHERE WHAT IT READS IS OF BULK AT MOST 1048576: true; the input reads as it did. -/
def quantDithersUptoRow : OpenClaim := { program := "ytkjnheikimpliaa", sum := "7847a7b9eae498fda5affe88bf3e0855f87288caca562a13ded6c031f87469f2", func := "tintype/tintypelaw36.QuantDithers", spec := "quantDithers", unfollowed := true, recurses := true, plainKeys := false, apart := false, narrowed := true }
def QuantDithersUptoSaid : Prop := quantDithersUptoRow.holds Try.pinned (OpenSpec.upto quantDithersSpec)

/-- 'tintypelaw34.OpsSizes', WHERE WHAT IT READS IS OF BULK AT MOST 1048576: true; the input reads as it did. -/
def opsSizesUptoRow : OpenClaim := { program := "ytkjnheikimpliaa", sum := "7847a7b9eae498fda5affe88bf3e0855f87288caca562a13ded6c031f87469f2", func := "tintype/tintypelaw34.OpsSizes", spec := "opsSizes", unfollowed := true, recurses := true, plainKeys := false, apart := false, narrowed := true }
def OpsSizesUptoSaid : Prop := opsSizesUptoRow.holds Try.pinned (OpenSpec.upto opsSizesSpec)

/-- 'tintypelaw34.OpsMaps', WHERE WHAT IT READS IS OF BULK AT MOST 1048576: true; the input reads as it did. -/
def opsMapsUptoRow : OpenClaim := { program := "ytkjnheikimpliaa", sum := "7847a7b9eae498fda5affe88bf3e0855f87288caca562a13ded6c031f87469f2", func := "tintype/tintypelaw34.OpsMaps", spec := "opsMaps", unfollowed := true, recurses := true, plainKeys := false, apart := false, narrowed := true }
def OpsMapsUptoSaid : Prop := opsMapsUptoRow.holds Try.pinned (OpenSpec.upto opsMapsSpec)

/-- 'tintypelaw34.OpsCrops', WHERE WHAT IT READS IS OF BULK AT MOST 1048576: true; the input reads as it did. -/
def opsCropsUptoRow : OpenClaim := { program := "ytkjnheikimpliaa", sum := "7847a7b9eae498fda5affe88bf3e0855f87288caca562a13ded6c031f87469f2", func := "tintype/tintypelaw34.OpsCrops", spec := "opsCrops", unfollowed := true, recurses := true, plainKeys := false, apart := false, narrowed := true }
def OpsCropsUptoSaid : Prop := opsCropsUptoRow.holds Try.pinned (OpenSpec.upto opsCropsSpec)

/-- 'tintypelaw34.OpsTurns', WHERE WHAT IT READS IS OF BULK AT MOST 1048576: true; the input reads as it did. -/
def opsTurnsUptoRow : OpenClaim := { program := "ytkjnheikimpliaa", sum := "7847a7b9eae498fda5affe88bf3e0855f87288caca562a13ded6c031f87469f2", func := "tintype/tintypelaw34.OpsTurns", spec := "opsTurns", unfollowed := true, recurses := true, plainKeys := false, apart := false, narrowed := true }
def OpsTurnsUptoSaid : Prop := opsTurnsUptoRow.holds Try.pinned (OpenSpec.upto opsTurnsSpec)

/-- 'tintypelaw36.QuantLevels', WHERE WHAT IT READS IS OF BULK AT MOST 1048576: true; the input reads as it did. -/
def quantLevelsUptoRow : OpenClaim := { program := "ytkjnheikimpliaa", sum := "7847a7b9eae498fda5affe88bf3e0855f87288caca562a13ded6c031f87469f2", func := "tintype/tintypelaw36.QuantLevels", spec := "quantLevels", unfollowed := true, recurses := true, plainKeys := false, apart := false, narrowed := true }
def QuantLevelsUptoSaid : Prop := quantLevelsUptoRow.holds Try.pinned (OpenSpec.upto quantLevelsSpec)

/-- 'tintypelaw34.OpsColors', WHERE WHAT IT READS IS OF BULK AT MOST 1048576: true; the input reads as it did. -/
def opsColorsUptoRow : OpenClaim := { program := "ytkjnheikimpliaa", sum := "7847a7b9eae498fda5affe88bf3e0855f87288caca562a13ded6c031f87469f2", func := "tintype/tintypelaw34.OpsColors", spec := "opsColors", unfollowed := true, recurses := true, plainKeys := false, apart := false, narrowed := true }
def OpsColorsUptoSaid : Prop := opsColorsUptoRow.holds Try.pinned (OpenSpec.upto opsColorsSpec)

/-- 'tintypelaw34.OpsFrames', WHERE WHAT IT READS IS OF BULK AT MOST 1048576: true; the input reads as it did. -/
def opsFramesUptoRow : OpenClaim := { program := "ytkjnheikimpliaa", sum := "7847a7b9eae498fda5affe88bf3e0855f87288caca562a13ded6c031f87469f2", func := "tintype/tintypelaw34.OpsFrames", spec := "opsFrames", unfollowed := true, recurses := true, plainKeys := false, apart := false, narrowed := true }
def OpsFramesUptoSaid : Prop := opsFramesUptoRow.holds Try.pinned (OpenSpec.upto opsFramesSpec)

/-- 'tintypelaw34.OpsLays', WHERE WHAT IT READS IS OF BULK AT MOST 1048576: true; the input reads as it did. -/
def opsLaysUptoRow : OpenClaim := { program := "ytkjnheikimpliaa", sum := "7847a7b9eae498fda5affe88bf3e0855f87288caca562a13ded6c031f87469f2", func := "tintype/tintypelaw34.OpsLays", spec := "opsLays", unfollowed := true, recurses := true, plainKeys := false, apart := false, narrowed := true }
def OpsLaysUptoSaid : Prop := opsLaysUptoRow.holds Try.pinned (OpenSpec.upto opsLaysSpec)

/-- 'tintypelaw35.CmpDiffs', WHERE WHAT IT READS IS OF BULK AT MOST 1048576: true; the input reads as it did. -/
def cmpDiffsUptoRow : OpenClaim := { program := "ytkjnheikimpliaa", sum := "7847a7b9eae498fda5affe88bf3e0855f87288caca562a13ded6c031f87469f2", func := "tintype/tintypelaw35.CmpDiffs", spec := "cmpDiffs", unfollowed := true, recurses := true, plainKeys := false, apart := false, narrowed := true }
def CmpDiffsUptoSaid : Prop := cmpDiffsUptoRow.holds Try.pinned (OpenSpec.upto cmpDiffsSpec)

/-- 'tintypelaw36.QuantNumbers', WHERE WHAT IT READS IS OF BULK AT MOST 1048576: true; the input reads as it did. -/
def quantNumbersUptoRow : OpenClaim := { program := "ytkjnheikimpliaa", sum := "7847a7b9eae498fda5affe88bf3e0855f87288caca562a13ded6c031f87469f2", func := "tintype/tintypelaw36.QuantNumbers", spec := "quantNumbers", unfollowed := true, recurses := true, plainKeys := false, apart := false, narrowed := true }
def QuantNumbersUptoSaid : Prop := quantNumbersUptoRow.holds Try.pinned (OpenSpec.upto quantNumbersSpec)

/-- 'tintypelaw35.CmpBoxes', WHERE WHAT IT READS IS OF BULK AT MOST 1048576: true; the input reads as it did. -/
def cmpBoxesUptoRow : OpenClaim := { program := "ytkjnheikimpliaa", sum := "7847a7b9eae498fda5affe88bf3e0855f87288caca562a13ded6c031f87469f2", func := "tintype/tintypelaw35.CmpBoxes", spec := "cmpBoxes", unfollowed := true, recurses := true, plainKeys := false, apart := false, narrowed := true }
def CmpBoxesUptoSaid : Prop := cmpBoxesUptoRow.holds Try.pinned (OpenSpec.upto cmpBoxesSpec)

/-- 'tintypelaw36.QuantPopular', WHERE WHAT IT READS IS OF BULK AT MOST 1048576: true; the input reads as it did. -/
def quantPopularUptoRow : OpenClaim := { program := "ytkjnheikimpliaa", sum := "7847a7b9eae498fda5affe88bf3e0855f87288caca562a13ded6c031f87469f2", func := "tintype/tintypelaw36.QuantPopular", spec := "quantPopular", unfollowed := true, recurses := true, plainKeys := false, apart := false, narrowed := true }
def QuantPopularUptoSaid : Prop := quantPopularUptoRow.holds Try.pinned (OpenSpec.upto quantPopularSpec)

end Rows
end Go.Proofs.Ytkjnheikimpliaa
