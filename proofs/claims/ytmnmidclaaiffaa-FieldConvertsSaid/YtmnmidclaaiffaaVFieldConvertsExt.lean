/- Contracts of functions that the print does not take, walked by hand: what the call comes to, in plain lists and numbers. -/
import Derived.Test.YtmnmidclaaiffaaProg
import Derived.Test.YtmnmidclaaiffaaVFieldConvertsCopy
import Derived.Deep.Draws
import Derived.Deep.AppendLies
import Derived.OwnWalk
import Derived.Laws.BytesArg
import Derived.Laws.MakeOwn
import Derived.Tactics
import Derived.WalkKit
import Derived.KernelRfl
import Derived.RowKit3
import Derived.Deep.LoopGhost
import Derived.Deep.QuietTactic
import Derived.BigQuiet
import Derived.WideLaws
import Derived.Deep.DeepCutAuto
namespace Go.Proofs.Ytmnmidclaaiffaa.Ext
open Go.RowKit Go.Proofs.YtmnmidclaaiffaaW.PrintWords Go.Proofs.YtmnmidclaaiffaaW.PrintLast Go.Proofs.YtmnmidclaaiffaaW.PrintMore
set_option linter.unusedVariables false
set_option linter.unusedSimpArgs false
/-! ### platformfwlaw11_fit: function 17 -/
def platformfwlaw11_fit.f (l : List Int) (n : Int) : Option (List Int) := if 0 ≤ n then (if n.toNat ≤ 35184372088832 then some (l.take n.toNat ++ List.replicate (n.toNat - l.length) 0) else none) else none
theorem fit_info : (Try.prog.info? 22).map (fun i => (i.zero, i.size, i.bytes)) = some (some (.int .u64 0), 1, 8) := by kernel_rfl
theorem fit_size : (Try.prog.info? 22).map (·.size) = some 1 := by kernel_rfl
set_option maxHeartbeats 2000000 in
set_option maxRecDepth 100000 in
theorem platformfwlaw11_fit.calls (A0 : Option Addr) (c0 : Nat) (l0 : List Int) (a1 : Int) (r : List Int) (w : World) (hr0 : Kd.C (Kd.int .u64) w A0 l0.length l0) (hc0 : l0.length ≤ c0) (h : platformfwlaw11_fit.f l0 a1 = some r) :
    Calls Try.prog 17 #[.slice A0 l0.length c0, .int .i64 a1] w fun e w' => ∃ v0_ : Value, e = .returned (v0_) ∧ Kd.R (Kd.int .u64) 22 w' w.heap.size (fun _ => True) v0_ r ∧ Below w.heap.size w w' := by
  unfold platformfwlaw11_fit.f at h
  have HR := Aside0.mk hr0
  clear hr0
  by_cases c1 : 0 ≤ a1
  case neg => rw [if_neg c1] at h; cases h
  rw [if_pos c1] at h
  by_cases c2 : a1.toNat ≤ 35184372088832
  case neg => rw [if_neg c2] at h; cases h
  rw [if_pos c2] at h
  have hR := Aside0.mk (Option.some.inj h)
  clear h
  have c1b := eq_true c1
  have c1c : decide (0 ≤ a1) = true := decide_eq_true c1
  have c2c := Aside0.mk c2
  clear c1 c2
  go_enter Try.func17, Try.ntmps17
  go_wp2_with (first
    | ((with_reducible refine gate_dst (N := 7) rfl ?_); refine Kd.R_make (Kd.int .u64) _ 22 rfl (N := 7) rfl 27 _ _ rfl a1 rfl rfl Try.underlying27 (.int .u64 0) 8 fit_info rfl (by decide) (by omega) 0 (ok := fun _ => True) (okp := fun _ => True) rfl (fun _ hk => hk) trivial (of_decide_eq_true (by first | (with_reducible assumption) | assumption)) (Nat.le_trans (Nat.mul_le_mul_right _ c2c.out) (by omega)) (Below.refl _ _) (Nat.le_refl _) ?_; intro v215 w9 ho10 hb hg_ hnew_; clear hg_ hnew_; have HO := Aside0.mk ho10; have HB := Aside0.mk hb; clear ho10 hb)
    | ((with_reducible refine gate_builtin (b := .copy) (xs := #[.tmp 8, .tmp 9]) rfl ?_); refine Plain.R_copy (Value.int .u64) 0 (w0 := w) w.heap.size rfl (.tmp 8) (.tmp 9) 27 22 rfl Try.underlying27 fit_size v215 (List.replicate a1.toNat 0) l0 A0 c0 (fun _ => True) rfl rfl HO.out (Kd.C_below HR.out HB.out) HB.out ?_; intro w11 ho12 hb12 hg12; clear HO HB; have HO := Aside0.mk ho12; have HB := Aside0.mk hb12; clear ho12 hb12 hg12))
  go_ret
  refine ⟨_, rfl, ?_, HB.out⟩
  have := HO.out
  rw [List.length_replicate, List.drop_replicate, hR.out] at this
  exact this

/-! ### value_leading: function 89 (on no road of these laws: nothing is said of it) -/
def value_leading.f (_ : ByteArray) : Option Int := none
theorem value_leading.calls (a0 : ByteArray) (r : Int) (w : World) (h : value_leading.f a0 = some r) :
    Calls Try.prog 89 #[.string a0] w fun e w' => e = .returned (.int .u64 r) ∧ Drawn0 w w' := by cases h

end Go.Proofs.Ytmnmidclaaiffaa.Ext
