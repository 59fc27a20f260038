/-
  DERIVED. GIVEN WITH THE SEED: THE CARDS: each row of YtdmeglmmihaonaaGreatDoorRows.lean that lists a variable, with what it lists TIED to the program's text (the seventh form; the later family's looks); each row that meets fmt, with fmt's text TOLD by the authors' own Lean function (tested against real Go, not proved from fmt's source: count such statements apart). THE CARD IS WHAT COUNTS. Prove the row's statement (the work); the ties are given (YtdmeglmmihaonaaGreatDoorTie.lean); close each card by the builder's one call (the guide's Derived/Test/ToyasCard.lean, 'card_holds'). Laid BY PROGRAM, IN A SANDBOX (cutbox-door.mjs). By AI agents, Wed Nov 11 2026. No macro, syntax, notation, axiom, sorry.
-/
import Derived.Test.YtdmeglmmihaonaaGreatDoorRows
import GoSem.ClaimSeven
namespace Go.Proofs.YtdmeglmmihaonaaGreatDoor
namespace Rows

/-- THE TIED CARD OF 'platformfwlaw08.ValueUnary'. -/
def valueUnaryCard : Claim7 := { stood := { row := valueUnaryRow, standIns := [], harness := (true, "68f76b99ef9ad6e024f2f0760c229b95d2b52a64f6efda05e7c1c0492bfc9a2c"), looks := false }, kinds := [], alts := [], laidByText := true, laidKinds := [.data, .data, .data, .data, .pinned, .pinned], laidTests := true, laidLooks := .later }
def ValueUnaryCardSaid : Prop := Claim7.holds Tryz.pinned (.plain (OpenSpec.ofChange valueUnarySpec)) valueUnaryCard

/-- THE SECOND FORM's CARD OF 'platformfwlaw08.ValueUnary'. -/
def valueUnaryUptoCard : Claim7 := { stood := { row := valueUnaryUptoRow, standIns := [], harness := (true, "68f76b99ef9ad6e024f2f0760c229b95d2b52a64f6efda05e7c1c0492bfc9a2c"), looks := false }, kinds := [], alts := [], laidByText := true, laidKinds := [.data, .data, .data, .data, .pinned, .pinned], laidTests := true, laidLooks := .later }
def ValueUnaryUptoCardSaid : Prop := Claim7.holds Tryz.pinned (.plain (OpenSpec.upto valueUnarySpec)) valueUnaryUptoCard
end Rows
end Go.Proofs.YtdmeglmmihaonaaGreatDoor
