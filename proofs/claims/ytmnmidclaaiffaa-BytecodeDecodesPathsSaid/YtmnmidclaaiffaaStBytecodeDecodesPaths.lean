/- The plain statement of the law BytecodeDecodesPaths: the printed function of the law answers true at all arguments within the bounds. -/
import Derived.Test.YtmnmidclaaiffaaPBytecodeDecodesPathsx11
namespace Go.Proofs.Ytmnmidclaaiffaa.St
open Go.RowKit Go.Proofs.Ytmnmidclaaiffaa.PBytecodeDecodesPaths Go.Proofs.YtmnmidclaaiffaaW.PrintWords Go.Proofs.YtmnmidclaaiffaaW.PrintLast Go.Proofs.YtmnmidclaaiffaaW.PrintMore
def BytecodeDecodesPaths : Prop := ∀ (a0 : ByteArray) (l1 : List Int) (a2_0 : Bool) (a2_1 : Int) (l2_2 : List ByteArray) (a3 : Int) (a4 : Int), (a0.size ≤ 140737488351232) → (l1.length * 1 ≤ 140737488351232 ∧ (∀ z_ ∈ l1, (Lit.int .u8 z_).wf = true)) → ((Lit.int .i64 a2_1).wf = true) → (l2_2.length * 16 ≤ 140737488351232 ∧ (∀ z_ ∈ l2_2, z_.size ≤ 140737488351232)) → ((Lit.int .i64 a3).wf = true) → ((Lit.int .u8 a4).wf = true) → ∃ k, platformfwlaw05_BytecodeDecodesPaths.f k a0 l1 a2_0 a2_1 l2_2 a3 a4 = some true
end Go.Proofs.Ytmnmidclaaiffaa.St
