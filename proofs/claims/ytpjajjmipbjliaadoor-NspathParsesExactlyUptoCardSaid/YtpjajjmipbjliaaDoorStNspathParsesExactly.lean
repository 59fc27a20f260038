/- The plain statement of the law NspathParsesExactly: the printed function of the law answers true at all arguments within the bounds. -/
import Derived.Test.YtpjajjmipbjliaaDoorPNspathParsesExactlyx6
namespace Go.Proofs.YtpjajjmipbjliaaDoor.St
open Go.RowKit Go.Proofs.YtpjajjmipbjliaaDoor.PNspathParsesExactly Go.Proofs.YtpjajjmipbjliaaDoorW.PrintWords Go.Proofs.YtpjajjmipbjliaaDoorW.PrintLast Go.Proofs.YtpjajjmipbjliaaDoorW.PrintMore
def NspathParsesExactly : Prop := ∀ (a0 : ByteArray) (l1 : List Int), (a0.size ≤ 140737488351232) → (l1.length * 1 ≤ 140737488351232 ∧ (∀ z_ ∈ l1, (Lit.int .u8 z_).wf = true)) → (a0.size ≤ 1048576) → ∃ k, platformfwlaw02_NspathParsesExactly.f k a0 l1 = some true
end Go.Proofs.YtpjajjmipbjliaaDoor.St
