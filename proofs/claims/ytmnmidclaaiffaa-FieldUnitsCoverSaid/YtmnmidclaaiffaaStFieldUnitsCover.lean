/- The plain statement of the law FieldUnitsCover: the printed function of the law answers true at all arguments within the bounds. -/
import Derived.Test.YtmnmidclaaiffaaPFieldUnitsCoverx10
namespace Go.Proofs.Ytmnmidclaaiffaa.St
open Go.RowKit Go.Proofs.Ytmnmidclaaiffaa.PFieldUnitsCover Go.Proofs.YtmnmidclaaiffaaW.PrintWords Go.Proofs.YtmnmidclaaiffaaW.PrintLast Go.Proofs.YtmnmidclaaiffaaW.PrintMore
def FieldUnitsCover : Prop := ∀ (a0_0 : Int) (a0_1 : Int) (a0_2 : Int) (a0_3 : Int) (a0_4 : Int) (a0_5 : Int) (a0_6 : Int) (a0_7 : Int) (a0_8 : Int), ((Lit.int .i64 a0_0).wf = true) → ((Lit.int .u64 a0_1).wf = true) → ((Lit.int .u64 a0_2).wf = true) → ((Lit.int .i64 a0_3).wf = true) → ((Lit.int .i64 a0_4).wf = true) → ((Lit.int .i64 a0_5).wf = true) → ((Lit.int .i64 a0_6).wf = true) → ((Lit.int .i64 a0_7).wf = true) → ((Lit.int .i64 a0_8).wf = true) → ∃ k, platformfwlaw11_FieldUnitsCover.f k a0_0 a0_1 a0_2 a0_3 a0_4 a0_5 a0_6 a0_7 a0_8 = some true
end Go.Proofs.Ytmnmidclaaiffaa.St
