/- The plain statement of the law NspathOrder: the printed function of the law answers true at all arguments within the bounds. -/
import Derived.Test.YtpjajjmipbjliaaDoorPNspathOrderx5
namespace Go.Proofs.YtpjajjmipbjliaaDoor.St
open Go.RowKit Go.Proofs.YtpjajjmipbjliaaDoor.PNspathOrder Go.Proofs.YtpjajjmipbjliaaDoorW.PrintWords Go.Proofs.YtpjajjmipbjliaaDoorW.PrintLast Go.Proofs.YtpjajjmipbjliaaDoorW.PrintMore
def NspathOrder : Prop := ∀ (a0_0 : Bool) (a0_1 : Int) (l0_2 : List ByteArray) (a1_0 : Bool) (a1_1 : Int) (l1_2 : List ByteArray) (a2_0 : Bool) (a2_1 : Int) (l2_2 : List ByteArray), ((Lit.int .i64 a0_1).wf = true) → (l0_2.length * 16 ≤ 140737488351232 ∧ (∀ z_ ∈ l0_2, z_.size ≤ 140737488351232)) → ((Lit.int .i64 a1_1).wf = true) → (l1_2.length * 16 ≤ 140737488351232 ∧ (∀ z_ ∈ l1_2, z_.size ≤ 140737488351232)) → ((Lit.int .i64 a2_1).wf = true) → (l2_2.length * 16 ≤ 140737488351232 ∧ (∀ z_ ∈ l2_2, z_.size ≤ 140737488351232)) → ∃ k, platformfwlaw02_NspathOrder.f k a0_0 a0_1 l0_2 a1_0 a1_1 l1_2 a2_0 a2_1 l2_2 = some true
end Go.Proofs.YtpjajjmipbjliaaDoor.St
