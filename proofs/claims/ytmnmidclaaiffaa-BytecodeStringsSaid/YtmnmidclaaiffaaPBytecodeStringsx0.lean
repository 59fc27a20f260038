-- Written by a program of this session's (wip/print_patch.py over the kit's print) out of the translation; Lean checks it.
import Derived.Test.YtmnmidclaaiffaaProg
import Derived.Below
import Derived.Deep.Draws
import Derived.Deep.AppendLies
import Derived.Maps.AppendAt
import Derived.OwnWalk
import Derived.Laws.BytesArg
import Derived.Laws.MakeOwn
import Derived.Laws.OwnMore
import Derived.Deep.OwnRows
import Derived.Tactics
import Derived.Lib.ConvBytes
import Derived.Laws.Slices
import Derived.WalkKit
import Derived.KernelRfl
import Derived.RowKit3
import Derived.Deep.LoopGhost
import Derived.Deep.QuietTactic
import Derived.BigQuiet
import Derived.WideLaws
import Derived.Deep.DeepCutAuto
import Derived.Deep.CutBlock
import Derived.Deep.RegionHeld3
import Derived.Laws.Rows
import Derived.Lib.AppendStr
import Derived.ArgAppend
import Derived.Laws.IdiomCopy
import Derived.OrdersHeld
import Derived.Laws.BitsLemmas
import Derived.RowKit
import Derived.Test.YtmnmidclaaiffaaWWords
import Derived.Test.YtmnmidclaaiffaaWLast
import Derived.Test.YtmnmidclaaiffaaWTab
import Derived.Test.YtmnmidclaaiffaaWFour
import Derived.Test.YtmnmidclaaiffaaWQPut
import Derived.Test.YtmnmidclaaiffaaWApart
import Derived.Test.YtmnmidclaaiffaaWArr
import Derived.Test.YtmnmidclaaiffaaWZeros
import Derived.Test.YtmnmidclaaiffaaWFoot
import Derived.Test.YtmnmidclaaiffaaWKept
import Derived.Test.YtmnmidclaaiffaaWShare
import Derived.Test.YtmnmidclaaiffaaWN
import Derived.Test.YtmnmidclaaiffaaWFootNe
import Derived.Test.YtmnmidclaaiffaaWAt
import Derived.Test.YtmnmidclaaiffaaWEqStruct
import Derived.Test.YtmnmidclaaiffaaWRepsOne
import Derived.Test.YtmnmidclaaiffaaWInv
import Derived.Test.YtmnmidclaaiffaaWInvWords
import Derived.Test.YtmnmidclaaiffaaWGuard
import Derived.Test.YtmnmidclaaiffaaWNEv
import Derived.Test.YtmnmidclaaiffaaWMore
namespace Go.Proofs.Ytmnmidclaaiffaa.PBytecodeStrings
open Go.RowKit Go.Proofs.YtmnmidclaaiffaaW.PrintWords Go.Proofs.YtmnmidclaaiffaaW.PrintLast Go.Proofs.YtmnmidclaaiffaaW.PrintMore
attribute [local go_sem] max2_int min2_int max_two min_two max_three min_three max_four min_four   -- for this text's walks alone
set_option linter.unusedVariables false
set_option linter.unusedSimpArgs false



def errW : Option Int → Value
  | none => .nilIface
  | some c => .iface 0 (.int .i64 c)
theorem errW_none : errW none = .nilIface := rfl
theorem errW_some (c : Int) : errW (some c) = .iface 0 (.int .i64 c) := rfl

theorem info5 : (Try.prog.info? 5).map (fun i => (i.zero, i.size, i.bytes)) = some (some (.int .u8 0), 1, 1) := by kernel_rfl
-- the values' own types

end Go.Proofs.Ytmnmidclaaiffaa.PBytecodeStrings
