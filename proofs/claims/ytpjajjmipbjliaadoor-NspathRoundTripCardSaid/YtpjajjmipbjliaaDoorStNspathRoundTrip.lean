/- The plain statement of the law NspathRoundTrip: the printed function of the law answers true at all arguments within the bounds. -/
import Derived.Test.YtpjajjmipbjliaaDoorPNspathRoundTripx5
namespace Go.Proofs.YtpjajjmipbjliaaDoor.St
open Go.RowKit Go.Proofs.YtpjajjmipbjliaaDoor.PNspathRoundTrip Go.Proofs.YtpjajjmipbjliaaDoorW.PrintWords Go.Proofs.YtpjajjmipbjliaaDoorW.PrintLast Go.Proofs.YtpjajjmipbjliaaDoorW.PrintMore
def NspathRoundTrip : Prop := ∀ (a0_0 : Bool) (a0_1 : Int) (l0_2 : List ByteArray), ((Lit.int .i64 a0_1).wf = true) → (l0_2.length * 16 ≤ 140737488351232 ∧ (∀ z_ ∈ l0_2, z_.size ≤ 140737488351232)) → ∃ k, platformfwlaw02_NspathRoundTrip.f k a0_0 a0_1 l0_2 = some true
end Go.Proofs.YtpjajjmipbjliaaDoor.St
