/- The plain statement of the law ValueMid: the printed function of the law answers true at all arguments within the bounds. -/
import Derived.Test.YtdmeglmmihaonaaDoorPValueMidx11
namespace Go.Proofs.YtdmeglmmihaonaaDoor.St
open Go.RowKit Go.Proofs.YtdmeglmmihaonaaDoor.PValueMid Go.Proofs.YtdmeglmmihaonaaDoorW.PrintWords Go.Proofs.YtdmeglmmihaonaaDoorW.PrintLast Go.Proofs.YtdmeglmmihaonaaDoorW.PrintMore
def ValueMid : Prop := ∀ (a0_0 : Int) (a0_1 : Int) (a0_2 : ByteArray) (a0_3 : Int) (a1_0 : Int) (a1_1 : Int) (a1_2 : ByteArray) (a1_3 : Int) (a2 : Int) (a3 : Int) (a4 : Bool), ((Lit.int .i64 a0_0).wf = true) → ((Lit.int .u64 a0_1).wf = true) → (a0_2.size ≤ 140737488351232) → ((Lit.int .i64 a0_3).wf = true) → ((Lit.int .i64 a1_0).wf = true) → ((Lit.int .u64 a1_1).wf = true) → (a1_2.size ≤ 140737488351232) → ((Lit.int .i64 a1_3).wf = true) → ((Lit.int .u64 a2).wf = true) → ((Lit.int .u64 a3).wf = true) → ∃ k, platformfwlaw08_ValueMid.f k a0_0 a0_1 a0_2 a0_3 a1_0 a1_1 a1_2 a1_3 a2 a3 a4 = some true
end Go.Proofs.YtdmeglmmihaonaaDoor.St
