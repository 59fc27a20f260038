/- The plain statement of the law BytecodePaths: the printed function of the law answers true at all arguments within the bounds. -/
import Derived.Test.YtmnmidclaaiffabPBytecodePathsx11
namespace Go.Proofs.Ytmnmidclaaiffab.St
open Go.RowKit Go.Proofs.Ytmnmidclaaiffab.PBytecodePaths Go.Proofs.YtmnmidclaaiffabW.PrintWords Go.Proofs.YtmnmidclaaiffabW.PrintLast Go.Proofs.YtmnmidclaaiffabW.PrintMore
def BytecodePaths : Prop := ∀ (a0 : ByteArray) (a1_0 : Bool) (a1_1 : Int) (l1_2 : List ByteArray) (a2 : ByteArray), (a0.size ≤ 140737488351232) → ((Lit.int .i64 a1_1).wf = true) → (l1_2.length * 16 ≤ 140737488351232 ∧ (∀ z_ ∈ l1_2, z_.size ≤ 140737488351232)) → (a2.size ≤ 140737488351232) → ∃ k, platformfwlaw05_BytecodePaths.f k a0 a1_0 a1_1 l1_2 a2 = some true
end Go.Proofs.Ytmnmidclaaiffab.St
