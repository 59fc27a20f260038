/- The plain statement of the law ValueBinary: the printed function of the law answers true at all arguments within the bounds. -/
import Derived.Test.YtdmeglmmihaonaaDoorPValueBinaryx12
namespace Go.Proofs.YtdmeglmmihaonaaDoor.St
open Go.RowKit Go.Proofs.YtdmeglmmihaonaaDoor.PValueBinary Go.Proofs.YtdmeglmmihaonaaDoorW.PrintWords Go.Proofs.YtdmeglmmihaonaaDoorW.PrintLast Go.Proofs.YtdmeglmmihaonaaDoorW.PrintMore
def ValueBinary : Prop := ∀ (a0 : Int) (a1_0 : Int) (a1_1 : Int) (a1_2 : ByteArray) (a1_3 : Int) (a2_0 : Int) (a2_1 : Int) (a2_2 : ByteArray) (a2_3 : Int), ((Lit.int .i64 a0).wf = true) → ((Lit.int .i64 a1_0).wf = true) → ((Lit.int .u64 a1_1).wf = true) → (a1_2.size ≤ 140737488351232) → ((Lit.int .i64 a1_3).wf = true) → ((Lit.int .i64 a2_0).wf = true) → ((Lit.int .u64 a2_1).wf = true) → (a2_2.size ≤ 140737488351232) → ((Lit.int .i64 a2_3).wf = true) → ∃ k, platformfwlaw08_ValueBinary.f k a0 a1_0 a1_1 a1_2 a1_3 a2_0 a2_1 a2_2 a2_3 = some true
end Go.Proofs.YtdmeglmmihaonaaDoor.St
