/- The plain statement of the law NspathSearchOrder: the printed function of the law answers true at all arguments within the bounds. -/
import Derived.Test.YtpjajjmipbjliaaDoorPNspathSearchOrderx4
namespace Go.Proofs.YtpjajjmipbjliaaDoor.St
open Go.RowKit Go.Proofs.YtpjajjmipbjliaaDoor.PNspathSearchOrder Go.Proofs.YtpjajjmipbjliaaDoorW.PrintWords Go.Proofs.YtpjajjmipbjliaaDoorW.PrintLast Go.Proofs.YtpjajjmipbjliaaDoorW.PrintMore
def NspathSearchOrder : Prop := ∀ (a0_0 : Bool) (a0_1 : Int) (l0_2 : List ByteArray) (a1 : ByteArray), ((Lit.int .i64 a0_1).wf = true) → (l0_2.length * 16 ≤ 140737488351232 ∧ (∀ z_ ∈ l0_2, z_.size ≤ 140737488351232)) → (a1.size ≤ 140737488351232) → ∃ k, platformfwlaw02_NspathSearchOrder.f k a0_0 a0_1 l0_2 a1 = some true
end Go.Proofs.YtpjajjmipbjliaaDoor.St
