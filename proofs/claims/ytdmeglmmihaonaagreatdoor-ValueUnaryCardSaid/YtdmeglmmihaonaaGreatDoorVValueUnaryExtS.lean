/- Contracts of functions that the print does not take, walked by hand: what the call comes to, in plain lists and numbers. -/
import Derived.Test.YtdmeglmmihaonaaGreatDoorProg
import Derived.Deep.Draws
import Derived.Deep.AppendLies
import Derived.OwnWalk
import Derived.Laws.BytesArg
import Derived.Laws.MakeOwn
import Derived.Tactics
import Derived.WalkKit
import Derived.KernelRfl
import Derived.RowKit3
import Derived.Deep.LoopGhost
import Derived.Deep.QuietTactic
import Derived.BigQuiet
import Derived.WideLaws
import Derived.Deep.DeepCutAuto
import Derived.Test.YtdmeglmmihaonaaGreatDoorVValueUnaryExtR
import Derived.Test.YtdmeglmmihaonaaGreatDoorVValueUnaryPtextHx
import Derived.Test.YtdmeglmmihaonaaGreatDoorVValueUnaryPtextDx
namespace Go.Proofs.YtdmeglmmihaonaaGreatDoor.Ext
open Go.RowKit Go.Proofs.YtdmeglmmihaonaaGreatDoorW.PrintWords Go.Proofs.YtdmeglmmihaonaaGreatDoorW.PrintLast Go.Proofs.YtdmeglmmihaonaaGreatDoorW.PrintMore
set_option linter.unusedVariables false
set_option linter.unusedSimpArgs false
/-! ### value.text at its two pairs of functions: function 16 -/
def value_text.f (a b : Int) (c : ByteArray) (d : Int) (n1 n2 : Nat) : Option (Int × Int × ByteArray × Int × Int) :=
  if n1 = 17 ∧ n2 = 20 then YtdmeglmmihaonaaGreatDoor.PtextH.value_text.f a b c d else if n1 = 22 ∧ n2 = 23 then YtdmeglmmihaonaaGreatDoor.PtextD.value_text.f a b c d else none
theorem value_text.calls (a b : Int) (c : ByteArray) (d : Int) (n1 n2 : Nat) (r1 r2 : Int) (r3 : ByteArray) (r4 r5 : Int) (w : World) (hT : Tb w) (h : value_text.f a b c d n1 n2 = some (r1, r2, r3, r4, r5)) :
    Calls Tryz.prog 16 #[.agg #[.int .i64 a, .int .u64 b, .string c, .int .i64 d], .func (.func n1) #[] #[], .func (.func n2) #[] #[]] w fun e w' => e = .returned (.tuple #[.agg #[.int .i64 r1, .int .u64 r2, .string r3, .int .i64 r4], .int .i64 r5]) ∧ Below w.heap.size w w' := by
  unfold value_text.f at h
  by_cases h1 : n1 = 17 ∧ n2 = 20
  · rw [if_pos h1] at h
    obtain ⟨rfl, rfl⟩ := h1
    exact YtdmeglmmihaonaaGreatDoor.PtextH.value_text.calls a b c d r1 r2 r3 r4 r5 w hT h
  · rw [if_neg h1] at h
    by_cases h2 : n1 = 22 ∧ n2 = 23
    case neg => rw [if_neg h2] at h; cases h
    rw [if_pos h2] at h
    obtain ⟨rfl, rfl⟩ := h2
    exact YtdmeglmmihaonaaGreatDoor.PtextD.value_text.calls a b c d r1 r2 r3 r4 r5 w hT h

end Go.Proofs.YtdmeglmmihaonaaGreatDoor.Ext
