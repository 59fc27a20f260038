/-
  DERIVED. GIVEN WITH THE SEED: THE CARDS: each row of YtdmeglmmihaonaaDoorRows.lean that lists a variable, with what it lists TIED to the program's text (the seventh form; the later family's looks); each row that meets fmt, with fmt's text TOLD by the authors' own Lean function (tested against real Go, not proved from fmt's source: count such statements apart). THE CARD IS WHAT COUNTS. Prove the row's statement (the work); the ties are given (YtdmeglmmihaonaaDoorTie.lean); close each card by the builder's one call (the guide's Derived/Test/ToyasCard.lean, 'card_holds'). Laid BY PROGRAM, IN A SANDBOX (cutbox-door.mjs). By AI agents, Wed Nov 11 2026. No macro, syntax, notation, axiom, sorry.
-/
import Derived.Test.YtdmeglmmihaonaaDoorRows
import GoSem.ClaimSeven
namespace Go.Proofs.YtdmeglmmihaonaaDoor
namespace Rows

/-- THE TIED CARD OF 'platformfwlaw08.ValueBinary'. -/
def valueBinaryCard : Claim7 := { stood := { row := valueBinaryRow, standIns := [], harness := (true, "a488aaeb8f6db4aa7de1415280f76a04e648b251c78e5b22a678a861d005ba54"), looks := false }, kinds := [], alts := [], laidByText := true, laidKinds := [.data, .data, .data, .data, .pinned, .pinned], laidTests := true, laidLooks := .later }
def ValueBinaryCardSaid : Prop := Claim7.holds Tryd.pinned (.plain (OpenSpec.ofChange valueBinarySpec)) valueBinaryCard

/-- THE TIED CARD OF 'platformfwlaw08.ValueComparison'. -/
def valueComparisonCard : Claim7 := { stood := { row := valueComparisonRow, standIns := [], harness := (true, "a488aaeb8f6db4aa7de1415280f76a04e648b251c78e5b22a678a861d005ba54"), looks := false }, kinds := [], alts := [], laidByText := true, laidKinds := [.data, .data, .data, .data, .pinned, .pinned], laidTests := true, laidLooks := .later }
def ValueComparisonCardSaid : Prop := Claim7.holds Tryd.pinned (.plain (OpenSpec.ofChange valueComparisonSpec)) valueComparisonCard

/-- THE TIED CARD OF 'platformfwlaw08.ValueMid'. -/
def valueMidCard : Claim7 := { stood := { row := valueMidRow, standIns := [], harness := (true, "a488aaeb8f6db4aa7de1415280f76a04e648b251c78e5b22a678a861d005ba54"), looks := false }, kinds := [], alts := [], laidByText := true, laidKinds := [.data, .data, .data, .data, .pinned, .pinned], laidTests := true, laidLooks := .later }
def ValueMidCardSaid : Prop := Claim7.holds Tryd.pinned (.plain (OpenSpec.ofChange valueMidSpec)) valueMidCard

/-- THE TIED CARD OF 'platformfwlaw08.ValueRoundTrip'. -/
def valueRoundTripCard : Claim7 := { stood := { row := valueRoundTripRow, standIns := [], harness := (true, "a488aaeb8f6db4aa7de1415280f76a04e648b251c78e5b22a678a861d005ba54"), looks := false }, kinds := [], alts := [], laidByText := true, laidKinds := [.data, .data, .data, .data, .pinned, .pinned], laidTests := true, laidLooks := .later }
def ValueRoundTripCardSaid : Prop := Claim7.holds Tryd.pinned (.plain (OpenSpec.ofChange valueRoundTripSpec)) valueRoundTripCard

/-- THE TIED CARD OF 'platformfwlaw08.ValueArithmetic'. -/
def valueArithmeticCard : Claim7 := { stood := { row := valueArithmeticRow, standIns := [], harness := (true, "a488aaeb8f6db4aa7de1415280f76a04e648b251c78e5b22a678a861d005ba54"), looks := false }, kinds := [], alts := [], laidByText := true, laidKinds := [.data, .data, .data, .data, .pinned, .pinned], laidTests := true, laidLooks := .later }
def ValueArithmeticCardSaid : Prop := Claim7.holds Tryd.pinned (.plain (OpenSpec.ofChange valueArithmeticSpec)) valueArithmeticCard

/-- THE SECOND FORM's CARD OF 'platformfwlaw08.ValueBinary'. -/
def valueBinaryUptoCard : Claim7 := { stood := { row := valueBinaryUptoRow, standIns := [], harness := (true, "a488aaeb8f6db4aa7de1415280f76a04e648b251c78e5b22a678a861d005ba54"), looks := false }, kinds := [], alts := [], laidByText := true, laidKinds := [.data, .data, .data, .data, .pinned, .pinned], laidTests := true, laidLooks := .later }
def ValueBinaryUptoCardSaid : Prop := Claim7.holds Tryd.pinned (.plain (OpenSpec.upto valueBinarySpec)) valueBinaryUptoCard

/-- THE SECOND FORM's CARD OF 'platformfwlaw08.ValueComparison'. -/
def valueComparisonUptoCard : Claim7 := { stood := { row := valueComparisonUptoRow, standIns := [], harness := (true, "a488aaeb8f6db4aa7de1415280f76a04e648b251c78e5b22a678a861d005ba54"), looks := false }, kinds := [], alts := [], laidByText := true, laidKinds := [.data, .data, .data, .data, .pinned, .pinned], laidTests := true, laidLooks := .later }
def ValueComparisonUptoCardSaid : Prop := Claim7.holds Tryd.pinned (.plain (OpenSpec.upto valueComparisonSpec)) valueComparisonUptoCard

/-- THE SECOND FORM's CARD OF 'platformfwlaw08.ValueMid'. -/
def valueMidUptoCard : Claim7 := { stood := { row := valueMidUptoRow, standIns := [], harness := (true, "a488aaeb8f6db4aa7de1415280f76a04e648b251c78e5b22a678a861d005ba54"), looks := false }, kinds := [], alts := [], laidByText := true, laidKinds := [.data, .data, .data, .data, .pinned, .pinned], laidTests := true, laidLooks := .later }
def ValueMidUptoCardSaid : Prop := Claim7.holds Tryd.pinned (.plain (OpenSpec.upto valueMidSpec)) valueMidUptoCard

/-- THE SECOND FORM's CARD OF 'platformfwlaw08.ValueRoundTrip'. -/
def valueRoundTripUptoCard : Claim7 := { stood := { row := valueRoundTripUptoRow, standIns := [], harness := (true, "a488aaeb8f6db4aa7de1415280f76a04e648b251c78e5b22a678a861d005ba54"), looks := false }, kinds := [], alts := [], laidByText := true, laidKinds := [.data, .data, .data, .data, .pinned, .pinned], laidTests := true, laidLooks := .later }
def ValueRoundTripUptoCardSaid : Prop := Claim7.holds Tryd.pinned (.plain (OpenSpec.upto valueRoundTripSpec)) valueRoundTripUptoCard

/-- THE SECOND FORM's CARD OF 'platformfwlaw08.ValueArithmetic'. -/
def valueArithmeticUptoCard : Claim7 := { stood := { row := valueArithmeticUptoRow, standIns := [], harness := (true, "a488aaeb8f6db4aa7de1415280f76a04e648b251c78e5b22a678a861d005ba54"), looks := false }, kinds := [], alts := [], laidByText := true, laidKinds := [.data, .data, .data, .data, .pinned, .pinned], laidTests := true, laidLooks := .later }
def ValueArithmeticUptoCardSaid : Prop := Claim7.holds Tryd.pinned (.plain (OpenSpec.upto valueArithmeticSpec)) valueArithmeticUptoCard
end Rows
end Go.Proofs.YtdmeglmmihaonaaDoor
