/- The plain statement of the law ValueUnary: the printed function of the law answers true at all arguments within the bounds. -/
import Derived.Test.YtdmeglmmihaonaaGreatDoorPValueUnaryx12
namespace Go.Proofs.YtdmeglmmihaonaaGreatDoor.St
open Go.RowKit Go.Proofs.YtdmeglmmihaonaaGreatDoor.PValueUnary Go.Proofs.YtdmeglmmihaonaaGreatDoorW.PrintWords Go.Proofs.YtdmeglmmihaonaaGreatDoorW.PrintLast Go.Proofs.YtdmeglmmihaonaaGreatDoorW.PrintMore
def ValueUnary : Prop := ∀ (a0 : Int) (a1_0 : Int) (a1_1 : Int) (a1_2 : ByteArray) (a1_3 : Int), ((Lit.int .i64 a0).wf = true) → ((Lit.int .i64 a1_0).wf = true) → ((Lit.int .u64 a1_1).wf = true) → (a1_2.size ≤ 140737488351232) → ((Lit.int .i64 a1_3).wf = true) → ∃ k, platformfwlaw08_ValueUnary.f k a0 a1_0 a1_1 a1_2 a1_3 = some true
end Go.Proofs.YtdmeglmmihaonaaGreatDoor.St
