/- The plain statement of the law ValueComparison: the printed function of the law answers true at all arguments within the bounds. -/
import Derived.Test.YtdmeglmmihaonaaDoorPValueComparisonx8
namespace Go.Proofs.YtdmeglmmihaonaaDoor.St
open Go.RowKit Go.Proofs.YtdmeglmmihaonaaDoor.PValueComparison Go.Proofs.YtdmeglmmihaonaaDoorW.PrintWords Go.Proofs.YtdmeglmmihaonaaDoorW.PrintLast Go.Proofs.YtdmeglmmihaonaaDoorW.PrintMore
def ValueComparison : Prop := ∀ (a0_0 : Int) (a0_1 : Int) (a0_2 : ByteArray) (a0_3 : Int) (a1_0 : Int) (a1_1 : Int) (a1_2 : ByteArray) (a1_3 : Int) (a2 : Int), ((Lit.int .i64 a0_0).wf = true) → ((Lit.int .u64 a0_1).wf = true) → (a0_2.size ≤ 140737488351232) → ((Lit.int .i64 a0_3).wf = true) → ((Lit.int .i64 a1_0).wf = true) → ((Lit.int .u64 a1_1).wf = true) → (a1_2.size ≤ 140737488351232) → ((Lit.int .i64 a1_3).wf = true) → ((Lit.int .u8 a2).wf = true) → ∃ k, platformfwlaw08_ValueComparison.f k a0_0 a0_1 a0_2 a0_3 a1_0 a1_1 a1_2 a1_3 a2 = some true
end Go.Proofs.YtdmeglmmihaonaaDoor.St
