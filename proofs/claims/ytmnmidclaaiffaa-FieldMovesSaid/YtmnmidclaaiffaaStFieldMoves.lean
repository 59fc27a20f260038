/- The plain statement of the law FieldMoves: the printed function of the law answers true at all arguments within the bounds. -/
import Derived.Test.YtmnmidclaaiffaaPFieldMovesx12
namespace Go.Proofs.Ytmnmidclaaiffaa.St
open Go.RowKit Go.Proofs.Ytmnmidclaaiffaa.PFieldMoves Go.Proofs.YtmnmidclaaiffaaW.PrintWords Go.Proofs.YtmnmidclaaiffaaW.PrintLast Go.Proofs.YtmnmidclaaiffaaW.PrintMore
def FieldMoves : Prop := ∀ (a0_0 : Int) (a0_1 : Int) (a0_2 : Int) (a0_3 : Int) (a0_4 : Int) (a0_5 : Int) (a0_6 : Int) (a0_7 : Int) (a0_8 : Int) (a1 : ByteArray) (l2 : List Int) (a3 : Bool), ((Lit.int .i64 a0_0).wf = true) → ((Lit.int .u64 a0_1).wf = true) → ((Lit.int .u64 a0_2).wf = true) → ((Lit.int .i64 a0_3).wf = true) → ((Lit.int .i64 a0_4).wf = true) → ((Lit.int .i64 a0_5).wf = true) → ((Lit.int .i64 a0_6).wf = true) → ((Lit.int .i64 a0_7).wf = true) → ((Lit.int .i64 a0_8).wf = true) → (a1.size ≤ 140737488351232) → (l2.length * 8 ≤ 140737488351232 ∧ (∀ z_ ∈ l2, (Lit.int .u64 z_).wf = true)) → ∃ k, platformfwlaw11_FieldMoves.f k a0_0 a0_1 a0_2 a0_3 a0_4 a0_5 a0_6 a0_7 a0_8 a1 l2 a3 = some true
end Go.Proofs.Ytmnmidclaaiffaa.St
