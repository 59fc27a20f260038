/- The plain statement of the law ValueArithmetic: the printed function of the law answers true at all arguments within the bounds. -/
import Derived.Test.YtdmeglmmihaonaaDoorPValueArithmeticx8
namespace Go.Proofs.YtdmeglmmihaonaaDoor.St
open Go.RowKit Go.Proofs.YtdmeglmmihaonaaDoor.PValueArithmetic Go.Proofs.YtdmeglmmihaonaaDoorW.PrintWords Go.Proofs.YtdmeglmmihaonaaDoorW.PrintLast Go.Proofs.YtdmeglmmihaonaaDoorW.PrintMore
def ValueArithmetic : Prop := ∀ (a0 : Int) (a1 : Int) (a2 : Int), ((Lit.int .u64 a0).wf = true) → ((Lit.int .u64 a1).wf = true) → ((Lit.int .u8 a2).wf = true) → ∃ k, platformfwlaw08_ValueArithmetic.f k a0 a1 a2 = some true
end Go.Proofs.YtdmeglmmihaonaaDoor.St
