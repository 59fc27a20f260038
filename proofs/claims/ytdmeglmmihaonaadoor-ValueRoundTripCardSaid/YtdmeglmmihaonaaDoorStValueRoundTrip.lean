/- The plain statement of the law ValueRoundTrip: the printed function of the law answers true at all arguments within the bounds. -/
import Derived.Test.YtdmeglmmihaonaaDoorPValueRoundTripx6
namespace Go.Proofs.YtdmeglmmihaonaaDoor.St
open Go.RowKit Go.Proofs.YtdmeglmmihaonaaDoor.PValueRoundTrip Go.Proofs.YtdmeglmmihaonaaDoorW.PrintWords Go.Proofs.YtdmeglmmihaonaaDoorW.PrintLast Go.Proofs.YtdmeglmmihaonaaDoorW.PrintMore
def ValueRoundTrip : Prop := ∀ (a0 : Int), ((Lit.int .u64 a0).wf = true) → ∃ k, platformfwlaw08_ValueRoundTrip.f k a0 = some true
end Go.Proofs.YtdmeglmmihaonaaDoor.St
