/-
  No cell of these rows narrows 'for every input' (looked for: loops, veiled, ifaces, maps, wideKeys, modest, calm, conditions, laid).
  DERIVED. THE GIVEN ROWS OF THIS SEAT. 12 by the template 'for every input the law returns true; each argument reads behind the call as it read before'; 0 by the template 'total and deterministic' (their statements: YtmnmidclaaiffaaTotals.lean).
  GIVEN WITH THE SEED: the statements are not yours to turn. If you find one false, say at which input.
  Laid BY PROGRAM, IN A SANDBOX (cutbox-rows.mjs): the forced cells as the released guide's own fill.sh prints them over the translation 09aaa26b976e52a1… (all of the seat's roots in one cut). By AI agents, Wed Nov 11 2026. No macro, syntax, notation, axiom, sorry.
-/
import Derived.Test.YtmnmidclaaiffaaChecked
import GoSem.Claim
import GoSem.ClaimJoined
import GoSem.ClaimMapViews
import Derived.JoinedTies
import Derived.KernelRfl
namespace Go.Proofs.Ytmnmidclaaiffaa
/- THE CELL 'sum', in the pinned program and in every row, IS THE sha256 OF THE DUMP (.gsa) THAT YtmnmidclaaiffaaProg.lean LOADS. Nothing in Lean hashes anything: it is a label: what it is worth is what the hold of that sum in a sandbox is worth. -/
noncomputable def Try.pinned : Pinned := { name := "ytmnmidclaaiffaa", sum := "09aaa26b976e52a1f088ab4a4a7c06a471130eb297db7bf89f32b712cf2f3c0b", checked := Try.checked }
namespace Rows
def none {H : Type} : Left H := { results := [], args := [] }

/-- 'platformfwlaw11.FieldMoves': WHATEVER THE INPUT: true; the input reads as it did. -/
def fieldMovesSpec : ChangeSpec := { name := "fieldMoves", fn := fun _ => fun
  | [d1, d2, d3, d4] => { results := [.lit (.bool true)], args := [d1, d2, d3, d4] }
  | _ => none }
def fieldMovesRow : OpenClaim := { program := "ytmnmidclaaiffaa", sum := "09aaa26b976e52a1f088ab4a4a7c06a471130eb297db7bf89f32b712cf2f3c0b", func := "platformfw/platformfwlaw11.FieldMoves", spec := "fieldMoves", apart := false }
def FieldMovesSaid : Prop := fieldMovesRow.holds Try.pinned (OpenSpec.ofChange fieldMovesSpec)

/-- ITS FALSE NEIGHBOUR: 'it returns false'. Refute it at one input. -/
def fieldMovesWrong : ChangeSpec := { name := "fieldMoves", fn := fun _ => fun
  | [d1, d2, d3, d4] => { results := [.lit (.bool false)], args := [d1, d2, d3, d4] }
  | _ => none }
def FieldMovesWrongFalsely : Prop := fieldMovesRow.holds Try.pinned (OpenSpec.ofChange fieldMovesWrong)

/-- 'platformfwlaw11.FieldRoundTrip': WHATEVER THE INPUT: true; the input reads as it did. -/
def fieldRoundTripSpec : ChangeSpec := { name := "fieldRoundTrip", fn := fun _ => fun
  | [d1, d2, d3] => { results := [.lit (.bool true)], args := [d1, d2, d3] }
  | _ => none }
def fieldRoundTripRow : OpenClaim := { program := "ytmnmidclaaiffaa", sum := "09aaa26b976e52a1f088ab4a4a7c06a471130eb297db7bf89f32b712cf2f3c0b", func := "platformfw/platformfwlaw11.FieldRoundTrip", spec := "fieldRoundTrip", apart := false }
def FieldRoundTripSaid : Prop := fieldRoundTripRow.holds Try.pinned (OpenSpec.ofChange fieldRoundTripSpec)

/-- ITS FALSE NEIGHBOUR: 'it returns false'. Refute it at one input. -/
def fieldRoundTripWrong : ChangeSpec := { name := "fieldRoundTrip", fn := fun _ => fun
  | [d1, d2, d3] => { results := [.lit (.bool false)], args := [d1, d2, d3] }
  | _ => none }
def FieldRoundTripWrongFalsely : Prop := fieldRoundTripRow.holds Try.pinned (OpenSpec.ofChange fieldRoundTripWrong)

/-- 'platformfwlaw11.FieldNeighbors': WHATEVER THE INPUT: true; the input reads as it did. -/
def fieldNeighborsSpec : ChangeSpec := { name := "fieldNeighbors", fn := fun _ => fun
  | [d1, d2, d3, d4, d5] => { results := [.lit (.bool true)], args := [d1, d2, d3, d4, d5] }
  | _ => none }
def fieldNeighborsRow : OpenClaim := { program := "ytmnmidclaaiffaa", sum := "09aaa26b976e52a1f088ab4a4a7c06a471130eb297db7bf89f32b712cf2f3c0b", func := "platformfw/platformfwlaw11.FieldNeighbors", spec := "fieldNeighbors", apart := false }
def FieldNeighborsSaid : Prop := fieldNeighborsRow.holds Try.pinned (OpenSpec.ofChange fieldNeighborsSpec)

/-- ITS FALSE NEIGHBOUR: 'it returns false'. Refute it at one input. -/
def fieldNeighborsWrong : ChangeSpec := { name := "fieldNeighbors", fn := fun _ => fun
  | [d1, d2, d3, d4, d5] => { results := [.lit (.bool false)], args := [d1, d2, d3, d4, d5] }
  | _ => none }
def FieldNeighborsWrongFalsely : Prop := fieldNeighborsRow.holds Try.pinned (OpenSpec.ofChange fieldNeighborsWrong)

/-- 'platformfwlaw05.BytecodeIntegers': WHATEVER THE INPUT: true; the input reads as it did. -/
def bytecodeIntegersSpec : ChangeSpec := { name := "bytecodeIntegers", fn := fun _ => fun
  | [d1, d2, d3, d4] => { results := [.lit (.bool true)], args := [d1, d2, d3, d4] }
  | _ => none }
def bytecodeIntegersRow : OpenClaim := { program := "ytmnmidclaaiffaa", sum := "09aaa26b976e52a1f088ab4a4a7c06a471130eb297db7bf89f32b712cf2f3c0b", func := "platformfw/platformfwlaw05.BytecodeIntegers", spec := "bytecodeIntegers", apart := false }
def BytecodeIntegersSaid : Prop := bytecodeIntegersRow.holds Try.pinned (OpenSpec.ofChange bytecodeIntegersSpec)

/-- ITS FALSE NEIGHBOUR: 'it returns false'. Refute it at one input. -/
def bytecodeIntegersWrong : ChangeSpec := { name := "bytecodeIntegers", fn := fun _ => fun
  | [d1, d2, d3, d4] => { results := [.lit (.bool false)], args := [d1, d2, d3, d4] }
  | _ => none }
def BytecodeIntegersWrongFalsely : Prop := bytecodeIntegersRow.holds Try.pinned (OpenSpec.ofChange bytecodeIntegersWrong)

/-- 'platformfwlaw05.BytecodeDecodesIntegers': WHATEVER THE INPUT: true; the input reads as it did. -/
def bytecodeDecodesIntegersSpec : ChangeSpec := { name := "bytecodeDecodesIntegers", fn := fun _ => fun
  | [d1, d2] => { results := [.lit (.bool true)], args := [d1, d2] }
  | _ => none }
def bytecodeDecodesIntegersRow : OpenClaim := { program := "ytmnmidclaaiffaa", sum := "09aaa26b976e52a1f088ab4a4a7c06a471130eb297db7bf89f32b712cf2f3c0b", func := "platformfw/platformfwlaw05.BytecodeDecodesIntegers", spec := "bytecodeDecodesIntegers", apart := false }
def BytecodeDecodesIntegersSaid : Prop := bytecodeDecodesIntegersRow.holds Try.pinned (OpenSpec.ofChange bytecodeDecodesIntegersSpec)

/-- ITS FALSE NEIGHBOUR: 'it returns false'. Refute it at one input. -/
def bytecodeDecodesIntegersWrong : ChangeSpec := { name := "bytecodeDecodesIntegers", fn := fun _ => fun
  | [d1, d2] => { results := [.lit (.bool false)], args := [d1, d2] }
  | _ => none }
def BytecodeDecodesIntegersWrongFalsely : Prop := bytecodeDecodesIntegersRow.holds Try.pinned (OpenSpec.ofChange bytecodeDecodesIntegersWrong)

/-- 'platformfwlaw11.FieldUnitsCover': WHATEVER THE INPUT: true; the input reads as it did. -/
def fieldUnitsCoverSpec : ChangeSpec := { name := "fieldUnitsCover", fn := fun _ => fun
  | [d] => { results := [.lit (.bool true)], args := [d] }
  | _ => none }
def fieldUnitsCoverRow : OpenClaim := { program := "ytmnmidclaaiffaa", sum := "09aaa26b976e52a1f088ab4a4a7c06a471130eb297db7bf89f32b712cf2f3c0b", func := "platformfw/platformfwlaw11.FieldUnitsCover", spec := "fieldUnitsCover", apart := false }
def FieldUnitsCoverSaid : Prop := fieldUnitsCoverRow.holds Try.pinned (OpenSpec.ofChange fieldUnitsCoverSpec)

/-- ITS FALSE NEIGHBOUR: 'it returns false'. Refute it at one input. -/
def fieldUnitsCoverWrong : ChangeSpec := { name := "fieldUnitsCover", fn := fun _ => fun
  | [d] => { results := [.lit (.bool false)], args := [d] }
  | _ => none }
def FieldUnitsCoverWrongFalsely : Prop := fieldUnitsCoverRow.holds Try.pinned (OpenSpec.ofChange fieldUnitsCoverWrong)

/-- 'platformfwlaw11.FieldPlans': WHATEVER THE INPUT: true; the input reads as it did. -/
def fieldPlansSpec : ChangeSpec := { name := "fieldPlans", fn := fun _ => fun
  | [d] => { results := [.lit (.bool true)], args := [d] }
  | _ => none }
def fieldPlansRow : OpenClaim := { program := "ytmnmidclaaiffaa", sum := "09aaa26b976e52a1f088ab4a4a7c06a471130eb297db7bf89f32b712cf2f3c0b", func := "platformfw/platformfwlaw11.FieldPlans", spec := "fieldPlans", apart := false }
def FieldPlansSaid : Prop := fieldPlansRow.holds Try.pinned (OpenSpec.ofChange fieldPlansSpec)

/-- ITS FALSE NEIGHBOUR: 'it returns false'. Refute it at one input. -/
def fieldPlansWrong : ChangeSpec := { name := "fieldPlans", fn := fun _ => fun
  | [d] => { results := [.lit (.bool false)], args := [d] }
  | _ => none }
def FieldPlansWrongFalsely : Prop := fieldPlansRow.holds Try.pinned (OpenSpec.ofChange fieldPlansWrong)

/-- 'platformfwlaw05.BytecodeStrings': WHATEVER THE INPUT: true; the input reads as it did. -/
def bytecodeStringsSpec : ChangeSpec := { name := "bytecodeStrings", fn := fun _ => fun
  | [d1, d2, d3, d4] => { results := [.lit (.bool true)], args := [d1, d2, d3, d4] }
  | _ => none }
def bytecodeStringsRow : OpenClaim := { program := "ytmnmidclaaiffaa", sum := "09aaa26b976e52a1f088ab4a4a7c06a471130eb297db7bf89f32b712cf2f3c0b", func := "platformfw/platformfwlaw05.BytecodeStrings", spec := "bytecodeStrings", apart := false }
def BytecodeStringsSaid : Prop := bytecodeStringsRow.holds Try.pinned (OpenSpec.ofChange bytecodeStringsSpec)

/-- ITS FALSE NEIGHBOUR: 'it returns false'. Refute it at one input. -/
def bytecodeStringsWrong : ChangeSpec := { name := "bytecodeStrings", fn := fun _ => fun
  | [d1, d2, d3, d4] => { results := [.lit (.bool false)], args := [d1, d2, d3, d4] }
  | _ => none }
def BytecodeStringsWrongFalsely : Prop := bytecodeStringsRow.holds Try.pinned (OpenSpec.ofChange bytecodeStringsWrong)

/-- 'platformfwlaw05.BytecodeLengths': WHATEVER THE INPUT: true; the input reads as it did. -/
def bytecodeLengthsSpec : ChangeSpec := { name := "bytecodeLengths", fn := fun _ => fun
  | [d1, d2, d3, d4] => { results := [.lit (.bool true)], args := [d1, d2, d3, d4] }
  | _ => none }
def bytecodeLengthsRow : OpenClaim := { program := "ytmnmidclaaiffaa", sum := "09aaa26b976e52a1f088ab4a4a7c06a471130eb297db7bf89f32b712cf2f3c0b", func := "platformfw/platformfwlaw05.BytecodeLengths", spec := "bytecodeLengths", apart := false }
def BytecodeLengthsSaid : Prop := bytecodeLengthsRow.holds Try.pinned (OpenSpec.ofChange bytecodeLengthsSpec)

/-- ITS FALSE NEIGHBOUR: 'it returns false'. Refute it at one input. -/
def bytecodeLengthsWrong : ChangeSpec := { name := "bytecodeLengths", fn := fun _ => fun
  | [d1, d2, d3, d4] => { results := [.lit (.bool false)], args := [d1, d2, d3, d4] }
  | _ => none }
def BytecodeLengthsWrongFalsely : Prop := bytecodeLengthsRow.holds Try.pinned (OpenSpec.ofChange bytecodeLengthsWrong)

/-- 'platformfwlaw05.BytecodeDecodesPaths': WHATEVER THE INPUT: true; the input reads as it did. -/
def bytecodeDecodesPathsSpec : ChangeSpec := { name := "bytecodeDecodesPaths", fn := fun _ => fun
  | [d1, d2, d3, d4, d5] => { results := [.lit (.bool true)], args := [d1, d2, d3, d4, d5] }
  | _ => none }
def bytecodeDecodesPathsRow : OpenClaim := { program := "ytmnmidclaaiffaa", sum := "09aaa26b976e52a1f088ab4a4a7c06a471130eb297db7bf89f32b712cf2f3c0b", func := "platformfw/platformfwlaw05.BytecodeDecodesPaths", spec := "bytecodeDecodesPaths", unfollowed := true, recurses := true, apart := false }
def BytecodeDecodesPathsSaid : Prop := bytecodeDecodesPathsRow.holds Try.pinned (OpenSpec.ofChange bytecodeDecodesPathsSpec)

/-- ITS FALSE NEIGHBOUR: 'it returns false'. Refute it at one input. -/
def bytecodeDecodesPathsWrong : ChangeSpec := { name := "bytecodeDecodesPaths", fn := fun _ => fun
  | [d1, d2, d3, d4, d5] => { results := [.lit (.bool false)], args := [d1, d2, d3, d4, d5] }
  | _ => none }
def BytecodeDecodesPathsWrongFalsely : Prop := bytecodeDecodesPathsRow.holds Try.pinned (OpenSpec.ofChange bytecodeDecodesPathsWrong)

/-- 'platformfwlaw11.FieldConverts': WHATEVER THE INPUT: true; the input reads as it did. -/
def fieldConvertsSpec : ChangeSpec := { name := "fieldConverts", fn := fun _ => fun
  | [d1, d2, d3] => { results := [.lit (.bool true)], args := [d1, d2, d3] }
  | _ => none }
def fieldConvertsRow : OpenClaim := { program := "ytmnmidclaaiffaa", sum := "09aaa26b976e52a1f088ab4a4a7c06a471130eb297db7bf89f32b712cf2f3c0b", func := "platformfw/platformfwlaw11.FieldConverts", spec := "fieldConverts", inPlace := ["internal/bytealg.IndexByteString"], apart := false }
def FieldConvertsSaid : Prop := fieldConvertsRow.holds Try.pinned (OpenSpec.ofChange fieldConvertsSpec)

/-- ITS FALSE NEIGHBOUR: 'it returns false'. Refute it at one input. -/
def fieldConvertsWrong : ChangeSpec := { name := "fieldConverts", fn := fun _ => fun
  | [d1, d2, d3] => { results := [.lit (.bool false)], args := [d1, d2, d3] }
  | _ => none }
def FieldConvertsWrongFalsely : Prop := fieldConvertsRow.holds Try.pinned (OpenSpec.ofChange fieldConvertsWrong)

/-- 'platformfwlaw05.BytecodeIncremental': WHATEVER THE INPUT: true; the input reads as it did. -/
def bytecodeIncrementalSpec : ChangeSpec := { name := "bytecodeIncremental", fn := fun _ => fun
  | [d1, d2] => { results := [.lit (.bool true)], args := [d1, d2] }
  | _ => none }
def bytecodeIncrementalRow : OpenClaim := { program := "ytmnmidclaaiffaa", sum := "09aaa26b976e52a1f088ab4a4a7c06a471130eb297db7bf89f32b712cf2f3c0b", func := "platformfw/platformfwlaw05.BytecodeIncremental", spec := "bytecodeIncremental", unfollowed := true, recurses := true, apart := false }
def BytecodeIncrementalSaid : Prop := bytecodeIncrementalRow.holds Try.pinned (OpenSpec.ofChange bytecodeIncrementalSpec)

/-- ITS FALSE NEIGHBOUR: 'it returns false'. Refute it at one input. -/
def bytecodeIncrementalWrong : ChangeSpec := { name := "bytecodeIncremental", fn := fun _ => fun
  | [d1, d2] => { results := [.lit (.bool false)], args := [d1, d2] }
  | _ => none }
def BytecodeIncrementalWrongFalsely : Prop := bytecodeIncrementalRow.holds Try.pinned (OpenSpec.ofChange bytecodeIncrementalWrong)

/- THE SECOND FORM. 'bulk': how many values and letters a reading holds, each counted each time it is reached (what is shared counts as often as it is met; a slice's spare places count too). A statement '..UptoSaid' is the law's where the arguments, and the package variables that the reading takes, are together of bulk at most 1048576: NARROWER than '..Said'. Prove '..Said' where nothing that the law and all that it calls make is longer than what came in: it says more and counts as full. Else prove '..UptoSaid'. A law counts once. -/
mutual
def uptoBulk {H : Type} : DataW H → Nat
  | .lit (.string bytes) => bytes.length + 1
  | .lit _ => 1
  | .nil => 1
  | .ptr d => uptoBulk d + 1
  | .slice elems spare => uptoBulkAll elems + uptoBulkAll spare + 1
  | .agg parts => uptoBulkAll parts + 1
  | .iface _ d => uptoBulk d + 1
  | .map entries => uptoBulkEntries entries + 1
  | .held _ => 1
def uptoBulkAll {H : Type} : List (DataW H) → Nat
  | [] => 0
  | d :: r => uptoBulk d + uptoBulkAll r
def uptoBulkEntries {H : Type} : List (Lit × DataW H) → Nat
  | [] => 0
  | x :: r => uptoBulkEntry x + uptoBulkEntries r
def uptoBulkEntry {H : Type} : Lit × DataW H → Nat
  | (.string bytes, d) => bytes.length + uptoBulk d + 1
  | (_, d) => uptoBulk d + 1
 end
def uptoSmall : (H : Type) → List (DataW H) → Bool := fun _ ds => decide (uptoBulkAll ds ≤ 1048576)
def OpenSpec.upto (s : _root_.Go.ChangeSpec) : _root_.Go.OpenSpec := { _root_.Go.OpenSpec.ofChange s with cond := some uptoSmall }

/-- 'platformfwlaw11.FieldMoves', WHERE WHAT IT READS IS OF BULK AT MOST 1048576: true; the input reads as it did. -/
def fieldMovesUptoRow : OpenClaim := { program := "ytmnmidclaaiffaa", sum := "09aaa26b976e52a1f088ab4a4a7c06a471130eb297db7bf89f32b712cf2f3c0b", func := "platformfw/platformfwlaw11.FieldMoves", spec := "fieldMoves", apart := false, narrowed := true }
def FieldMovesUptoSaid : Prop := fieldMovesUptoRow.holds Try.pinned (OpenSpec.upto fieldMovesSpec)

/-- 'platformfwlaw11.FieldRoundTrip', WHERE WHAT IT READS IS OF BULK AT MOST 1048576: true; the input reads as it did. -/
def fieldRoundTripUptoRow : OpenClaim := { program := "ytmnmidclaaiffaa", sum := "09aaa26b976e52a1f088ab4a4a7c06a471130eb297db7bf89f32b712cf2f3c0b", func := "platformfw/platformfwlaw11.FieldRoundTrip", spec := "fieldRoundTrip", apart := false, narrowed := true }
def FieldRoundTripUptoSaid : Prop := fieldRoundTripUptoRow.holds Try.pinned (OpenSpec.upto fieldRoundTripSpec)

/-- 'platformfwlaw11.FieldNeighbors', WHERE WHAT IT READS IS OF BULK AT MOST 1048576: true; the input reads as it did. -/
def fieldNeighborsUptoRow : OpenClaim := { program := "ytmnmidclaaiffaa", sum := "09aaa26b976e52a1f088ab4a4a7c06a471130eb297db7bf89f32b712cf2f3c0b", func := "platformfw/platformfwlaw11.FieldNeighbors", spec := "fieldNeighbors", apart := false, narrowed := true }
def FieldNeighborsUptoSaid : Prop := fieldNeighborsUptoRow.holds Try.pinned (OpenSpec.upto fieldNeighborsSpec)

/-- 'platformfwlaw05.BytecodeIntegers', WHERE WHAT IT READS IS OF BULK AT MOST 1048576: true; the input reads as it did. -/
def bytecodeIntegersUptoRow : OpenClaim := { program := "ytmnmidclaaiffaa", sum := "09aaa26b976e52a1f088ab4a4a7c06a471130eb297db7bf89f32b712cf2f3c0b", func := "platformfw/platformfwlaw05.BytecodeIntegers", spec := "bytecodeIntegers", apart := false, narrowed := true }
def BytecodeIntegersUptoSaid : Prop := bytecodeIntegersUptoRow.holds Try.pinned (OpenSpec.upto bytecodeIntegersSpec)

/-- 'platformfwlaw05.BytecodeDecodesIntegers', WHERE WHAT IT READS IS OF BULK AT MOST 1048576: true; the input reads as it did. -/
def bytecodeDecodesIntegersUptoRow : OpenClaim := { program := "ytmnmidclaaiffaa", sum := "09aaa26b976e52a1f088ab4a4a7c06a471130eb297db7bf89f32b712cf2f3c0b", func := "platformfw/platformfwlaw05.BytecodeDecodesIntegers", spec := "bytecodeDecodesIntegers", apart := false, narrowed := true }
def BytecodeDecodesIntegersUptoSaid : Prop := bytecodeDecodesIntegersUptoRow.holds Try.pinned (OpenSpec.upto bytecodeDecodesIntegersSpec)

/-- 'platformfwlaw11.FieldUnitsCover', WHERE WHAT IT READS IS OF BULK AT MOST 1048576: true; the input reads as it did. -/
def fieldUnitsCoverUptoRow : OpenClaim := { program := "ytmnmidclaaiffaa", sum := "09aaa26b976e52a1f088ab4a4a7c06a471130eb297db7bf89f32b712cf2f3c0b", func := "platformfw/platformfwlaw11.FieldUnitsCover", spec := "fieldUnitsCover", apart := false, narrowed := true }
def FieldUnitsCoverUptoSaid : Prop := fieldUnitsCoverUptoRow.holds Try.pinned (OpenSpec.upto fieldUnitsCoverSpec)

/-- 'platformfwlaw11.FieldPlans', WHERE WHAT IT READS IS OF BULK AT MOST 1048576: true; the input reads as it did. -/
def fieldPlansUptoRow : OpenClaim := { program := "ytmnmidclaaiffaa", sum := "09aaa26b976e52a1f088ab4a4a7c06a471130eb297db7bf89f32b712cf2f3c0b", func := "platformfw/platformfwlaw11.FieldPlans", spec := "fieldPlans", apart := false, narrowed := true }
def FieldPlansUptoSaid : Prop := fieldPlansUptoRow.holds Try.pinned (OpenSpec.upto fieldPlansSpec)

/-- 'platformfwlaw05.BytecodeStrings', WHERE WHAT IT READS IS OF BULK AT MOST 1048576: true; the input reads as it did. -/
def bytecodeStringsUptoRow : OpenClaim := { program := "ytmnmidclaaiffaa", sum := "09aaa26b976e52a1f088ab4a4a7c06a471130eb297db7bf89f32b712cf2f3c0b", func := "platformfw/platformfwlaw05.BytecodeStrings", spec := "bytecodeStrings", apart := false, narrowed := true }
def BytecodeStringsUptoSaid : Prop := bytecodeStringsUptoRow.holds Try.pinned (OpenSpec.upto bytecodeStringsSpec)

/-- 'platformfwlaw05.BytecodeLengths', WHERE WHAT IT READS IS OF BULK AT MOST 1048576: true; the input reads as it did. -/
def bytecodeLengthsUptoRow : OpenClaim := { program := "ytmnmidclaaiffaa", sum := "09aaa26b976e52a1f088ab4a4a7c06a471130eb297db7bf89f32b712cf2f3c0b", func := "platformfw/platformfwlaw05.BytecodeLengths", spec := "bytecodeLengths", apart := false, narrowed := true }
def BytecodeLengthsUptoSaid : Prop := bytecodeLengthsUptoRow.holds Try.pinned (OpenSpec.upto bytecodeLengthsSpec)

/-- 'platformfwlaw05.BytecodeDecodesPaths', WHERE WHAT IT READS IS OF BULK AT MOST 1048576: true; the input reads as it did. -/
def bytecodeDecodesPathsUptoRow : OpenClaim := { program := "ytmnmidclaaiffaa", sum := "09aaa26b976e52a1f088ab4a4a7c06a471130eb297db7bf89f32b712cf2f3c0b", func := "platformfw/platformfwlaw05.BytecodeDecodesPaths", spec := "bytecodeDecodesPaths", unfollowed := true, recurses := true, apart := false, narrowed := true }
def BytecodeDecodesPathsUptoSaid : Prop := bytecodeDecodesPathsUptoRow.holds Try.pinned (OpenSpec.upto bytecodeDecodesPathsSpec)

/-- 'platformfwlaw11.FieldConverts', WHERE WHAT IT READS IS OF BULK AT MOST 1048576: true; the input reads as it did. -/
def fieldConvertsUptoRow : OpenClaim := { program := "ytmnmidclaaiffaa", sum := "09aaa26b976e52a1f088ab4a4a7c06a471130eb297db7bf89f32b712cf2f3c0b", func := "platformfw/platformfwlaw11.FieldConverts", spec := "fieldConverts", inPlace := ["internal/bytealg.IndexByteString"], apart := false, narrowed := true }
def FieldConvertsUptoSaid : Prop := fieldConvertsUptoRow.holds Try.pinned (OpenSpec.upto fieldConvertsSpec)

/-- 'platformfwlaw05.BytecodeIncremental', WHERE WHAT IT READS IS OF BULK AT MOST 1048576: true; the input reads as it did. -/
def bytecodeIncrementalUptoRow : OpenClaim := { program := "ytmnmidclaaiffaa", sum := "09aaa26b976e52a1f088ab4a4a7c06a471130eb297db7bf89f32b712cf2f3c0b", func := "platformfw/platformfwlaw05.BytecodeIncremental", spec := "bytecodeIncremental", unfollowed := true, recurses := true, apart := false, narrowed := true }
def BytecodeIncrementalUptoSaid : Prop := bytecodeIncrementalUptoRow.holds Try.pinned (OpenSpec.upto bytecodeIncrementalSpec)

end Rows
end Go.Proofs.Ytmnmidclaaiffaa
