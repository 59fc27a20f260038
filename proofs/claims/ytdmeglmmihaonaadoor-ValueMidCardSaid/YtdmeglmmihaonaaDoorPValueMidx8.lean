-- Written by a program of this session's (wip/print_patch.py over the kit's print) out of the translation; Lean checks it.
import Derived.Test.YtdmeglmmihaonaaDoorPValueMidx0
import Derived.Test.YtdmeglmmihaonaaDoorPValueMidx2
import Derived.Test.YtdmeglmmihaonaaDoorVValueMidExtP
namespace Go.Proofs.YtdmeglmmihaonaaDoor.PValueMid
open Go.RowKit Go.Proofs.YtdmeglmmihaonaaDoor.Ext Go.Proofs.YtdmeglmmihaonaaDoorW.PrintWords Go.Proofs.YtdmeglmmihaonaaDoorW.PrintLast Go.Proofs.YtdmeglmmihaonaaDoorW.PrintMore
attribute [local go_sem] max2_int min2_int max_two min_two max_three min_three max_four min_four   -- for this text's walks alone
set_option linter.unusedVariables false
set_option linter.unusedSimpArgs false

/-! ### value_Mid: function 15 -/
def value_Mid.f (k : Nat) (a0_0 : Int) (a0_1 : Int) (a0_2 : ByteArray) (a0_3 : Int) (a1 : Int) (a2 : Int) : Option (Int × Int × ByteArray × Int × Int) := (value_Valid.f a0_0 a0_1 a0_2 a0_3).bind fun t332 => (if t332 = true then (if a0_0 = 1 then ((value_eight.f k a0_1).bind fun t333 => (if 0 ≤ (mn a1 (IntKind.u64.wrap ((t333.size : Int)))) then (if (mn a1 (IntKind.u64.wrap ((t333.size : Int)))) ≤ (IntKind.u64.wrap ((mn a1 (IntKind.u64.wrap ((t333.size : Int)))) + (mn a2 (IntKind.u64.wrap ((IntKind.u64.wrap ((t333.size : Int))) - (mn a1 (IntKind.u64.wrap ((t333.size : Int))))))))) then (if (IntKind.u64.wrap ((mn a1 (IntKind.u64.wrap ((t333.size : Int)))) + (mn a2 (IntKind.u64.wrap ((IntKind.u64.wrap ((t333.size : Int))) - (mn a1 (IntKind.u64.wrap ((t333.size : Int))))))))) ≤ (t333.size : Int) then (some (3, 0, t333.extract ((mn a1 (IntKind.u64.wrap ((t333.size : Int)))) : Int).toNat ((IntKind.u64.wrap ((mn a1 (IntKind.u64.wrap ((t333.size : Int)))) + (mn a2 (IntKind.u64.wrap ((IntKind.u64.wrap ((t333.size : Int))) - (mn a1 (IntKind.u64.wrap ((t333.size : Int))))))))) : Int).toNat, 0, 0)) else (none)) else (none)) else (none))) else (if a0_0 = 2 then (if 0 ≤ (mn a1 (IntKind.u64.wrap ((a0_2.size : Int)))) then (if (mn a1 (IntKind.u64.wrap ((a0_2.size : Int)))) ≤ (IntKind.u64.wrap ((mn a1 (IntKind.u64.wrap ((a0_2.size : Int)))) + (mn a2 (IntKind.u64.wrap ((IntKind.u64.wrap ((a0_2.size : Int))) - (mn a1 (IntKind.u64.wrap ((a0_2.size : Int))))))))) then (if (IntKind.u64.wrap ((mn a1 (IntKind.u64.wrap ((a0_2.size : Int)))) + (mn a2 (IntKind.u64.wrap ((IntKind.u64.wrap ((a0_2.size : Int))) - (mn a1 (IntKind.u64.wrap ((a0_2.size : Int))))))))) ≤ (a0_2.size : Int) then (some (a0_0, 0, a0_2.extract ((mn a1 (IntKind.u64.wrap ((a0_2.size : Int)))) : Int).toNat ((IntKind.u64.wrap ((mn a1 (IntKind.u64.wrap ((a0_2.size : Int)))) + (mn a2 (IntKind.u64.wrap ((IntKind.u64.wrap ((a0_2.size : Int))) - (mn a1 (IntKind.u64.wrap ((a0_2.size : Int))))))))) : Int).toNat, 0, 0)) else (none)) else (none)) else (none)) else (if a0_0 = 3 then (if 0 ≤ (mn a1 (IntKind.u64.wrap ((a0_2.size : Int)))) then (if (mn a1 (IntKind.u64.wrap ((a0_2.size : Int)))) ≤ (IntKind.u64.wrap ((mn a1 (IntKind.u64.wrap ((a0_2.size : Int)))) + (mn a2 (IntKind.u64.wrap ((IntKind.u64.wrap ((a0_2.size : Int))) - (mn a1 (IntKind.u64.wrap ((a0_2.size : Int))))))))) then (if (IntKind.u64.wrap ((mn a1 (IntKind.u64.wrap ((a0_2.size : Int)))) + (mn a2 (IntKind.u64.wrap ((IntKind.u64.wrap ((a0_2.size : Int))) - (mn a1 (IntKind.u64.wrap ((a0_2.size : Int))))))))) ≤ (a0_2.size : Int) then (some (a0_0, 0, a0_2.extract ((mn a1 (IntKind.u64.wrap ((a0_2.size : Int)))) : Int).toNat ((IntKind.u64.wrap ((mn a1 (IntKind.u64.wrap ((a0_2.size : Int)))) + (mn a2 (IntKind.u64.wrap ((IntKind.u64.wrap ((a0_2.size : Int))) - (mn a1 (IntKind.u64.wrap ((a0_2.size : Int))))))))) : Int).toNat, 0, 0)) else (none)) else (none)) else (none)) else (some (0, 0, (⟨#[]⟩ : ByteArray), 0, 10))))) else (some (0, 0, (⟨#[]⟩ : ByteArray), 0, 1)))
theorem value_Mid.mono : ∀ a0 a1 a2 a3 a4 a5 k, LeO (value_Mid.f k a0 a1 a2 a3 a4 a5) (value_Mid.f (k + 1) a0 a1 a2 a3 a4 a5) := by
 intro a0 a1 a2 a3 a4 a5 k
 unfold value_Mid.f
 repeat' first
   | (with_reducible exact value_eight.mono _ _)
   | (with_reducible exact LeO.refl _)
   | (with_reducible exact LeO.none _)
   | (with_reducible refine LeO.ite ?_ ?_)
   | (with_reducible refine LeO.bind ?_ (fun _ => ?_))
   | exact value_eight.mono _ _
   | exact LeO.none _
   | refine LeO.ite ?_ ?_
   | refine LeO.bind ?_ (fun _ => ?_)
def value_Mid.T11 : Bool × List (List Nat × List Nat) := (true, [([], []), ([0], [0]), ([], []), ([2], [2]), ([], []), ([], []), ([], []), ([5, 6], [5, 6]), ([3, 4, 7], [3, 4, 7]), ([1, 8], [1, 8]), ([9, 0, 1, 2, 3, 4, 5, 6, 7, 8, 9], [9]), ([10, 0, 1, 2, 3, 4, 5, 6, 7, 8, 9, 10], [])])
def value_Mid.B11 : List Nat := [0, 1, 0, 4, 0, 0, 0, 96, 252, 511, 1023, 2047]
theorem value_Mid.tab11 : rtab .any (opsOf Tryd.f15 11) = value_Mid.T11 := by kernel_rfl
theorem value_Mid.bits11 : waitsOk value_Mid.T11.2 value_Mid.B11 = true := by kernel_rfl
set_option maxHeartbeats 8000000 in
set_option maxRecDepth 100000 in
theorem value_Mid.calls (k : Nat) (a0_0 : Int) (a0_1 : Int) (a0_2 : ByteArray) (a0_3 : Int) (a1 : Int) (a2 : Int) (r1 : Int) (r2 : Int) (r3 : ByteArray) (r4 : Int) (r5 : Int) (w : World) (h : value_Mid.f k a0_0 a0_1 a0_2 a0_3 a1 a2 = some (r1, r2, r3, r4, r5)) :
  Calls Tryd.prog 15 #[.agg #[.int .i64 a0_0, .int .u64 a0_1, .string a0_2, .int .i64 a0_3], .int .u64 a1, .int .u64 a2] w fun e w' => e = .returned (.tuple #[.agg #[.int .i64 r1, .int .u64 r2, .string r3, .int .i64 r4], .int .i64 r5]) ∧ Below w.heap.size w w' := by
 have hu24 := Tryd.underlying24
 have HB := Aside0.mk (Below.refl w.heap.size w)
 have H : ((value_Valid.f a0_0 a0_1 a0_2 a0_3).bind fun t332 => (if t332 = true then (if a0_0 = 1 then ((value_eight.f k a0_1).bind fun t333 => (if 0 ≤ (mn a1 (IntKind.u64.wrap ((t333.size : Int)))) then (if (mn a1 (IntKind.u64.wrap ((t333.size : Int)))) ≤ (IntKind.u64.wrap ((mn a1 (IntKind.u64.wrap ((t333.size : Int)))) + (mn a2 (IntKind.u64.wrap ((IntKind.u64.wrap ((t333.size : Int))) - (mn a1 (IntKind.u64.wrap ((t333.size : Int))))))))) then (if (IntKind.u64.wrap ((mn a1 (IntKind.u64.wrap ((t333.size : Int)))) + (mn a2 (IntKind.u64.wrap ((IntKind.u64.wrap ((t333.size : Int))) - (mn a1 (IntKind.u64.wrap ((t333.size : Int))))))))) ≤ (t333.size : Int) then (some (3, 0, t333.extract ((mn a1 (IntKind.u64.wrap ((t333.size : Int)))) : Int).toNat ((IntKind.u64.wrap ((mn a1 (IntKind.u64.wrap ((t333.size : Int)))) + (mn a2 (IntKind.u64.wrap ((IntKind.u64.wrap ((t333.size : Int))) - (mn a1 (IntKind.u64.wrap ((t333.size : Int))))))))) : Int).toNat, 0, 0)) else (none)) else (none)) else (none))) else (if a0_0 = 2 then (if 0 ≤ (mn a1 (IntKind.u64.wrap ((a0_2.size : Int)))) then (if (mn a1 (IntKind.u64.wrap ((a0_2.size : Int)))) ≤ (IntKind.u64.wrap ((mn a1 (IntKind.u64.wrap ((a0_2.size : Int)))) + (mn a2 (IntKind.u64.wrap ((IntKind.u64.wrap ((a0_2.size : Int))) - (mn a1 (IntKind.u64.wrap ((a0_2.size : Int))))))))) then (if (IntKind.u64.wrap ((mn a1 (IntKind.u64.wrap ((a0_2.size : Int)))) + (mn a2 (IntKind.u64.wrap ((IntKind.u64.wrap ((a0_2.size : Int))) - (mn a1 (IntKind.u64.wrap ((a0_2.size : Int))))))))) ≤ (a0_2.size : Int) then (some (a0_0, 0, a0_2.extract ((mn a1 (IntKind.u64.wrap ((a0_2.size : Int)))) : Int).toNat ((IntKind.u64.wrap ((mn a1 (IntKind.u64.wrap ((a0_2.size : Int)))) + (mn a2 (IntKind.u64.wrap ((IntKind.u64.wrap ((a0_2.size : Int))) - (mn a1 (IntKind.u64.wrap ((a0_2.size : Int))))))))) : Int).toNat, 0, 0)) else (none)) else (none)) else (none)) else (if a0_0 = 3 then (if 0 ≤ (mn a1 (IntKind.u64.wrap ((a0_2.size : Int)))) then (if (mn a1 (IntKind.u64.wrap ((a0_2.size : Int)))) ≤ (IntKind.u64.wrap ((mn a1 (IntKind.u64.wrap ((a0_2.size : Int)))) + (mn a2 (IntKind.u64.wrap ((IntKind.u64.wrap ((a0_2.size : Int))) - (mn a1 (IntKind.u64.wrap ((a0_2.size : Int))))))))) then (if (IntKind.u64.wrap ((mn a1 (IntKind.u64.wrap ((a0_2.size : Int)))) + (mn a2 (IntKind.u64.wrap ((IntKind.u64.wrap ((a0_2.size : Int))) - (mn a1 (IntKind.u64.wrap ((a0_2.size : Int))))))))) ≤ (a0_2.size : Int) then (some (a0_0, 0, a0_2.extract ((mn a1 (IntKind.u64.wrap ((a0_2.size : Int)))) : Int).toNat ((IntKind.u64.wrap ((mn a1 (IntKind.u64.wrap ((a0_2.size : Int)))) + (mn a2 (IntKind.u64.wrap ((IntKind.u64.wrap ((a0_2.size : Int))) - (mn a1 (IntKind.u64.wrap ((a0_2.size : Int))))))))) : Int).toNat, 0, 0)) else (none)) else (none)) else (none)) else (some (0, 0, (⟨#[]⟩ : ByteArray), 0, 10))))) else (some (0, 0, (⟨#[]⟩ : ByteArray), 0, 1)))) = some (r1, r2, r3, r4, r5) := h
 clear h
 replace H := Option.bind_eq_some_iff.mp H
 obtain ⟨t332, A40, H⟩ := H
 replace H : (if t332 = true then (if a0_0 = 1 then ((value_eight.f k a0_1).bind fun t333 => (if 0 ≤ (mn a1 (IntKind.u64.wrap ((t333.size : Int)))) then (if (mn a1 (IntKind.u64.wrap ((t333.size : Int)))) ≤ (IntKind.u64.wrap ((mn a1 (IntKind.u64.wrap ((t333.size : Int)))) + (mn a2 (IntKind.u64.wrap ((IntKind.u64.wrap ((t333.size : Int))) - (mn a1 (IntKind.u64.wrap ((t333.size : Int))))))))) then (if (IntKind.u64.wrap ((mn a1 (IntKind.u64.wrap ((t333.size : Int)))) + (mn a2 (IntKind.u64.wrap ((IntKind.u64.wrap ((t333.size : Int))) - (mn a1 (IntKind.u64.wrap ((t333.size : Int))))))))) ≤ (t333.size : Int) then (some (3, 0, t333.extract ((mn a1 (IntKind.u64.wrap ((t333.size : Int)))) : Int).toNat ((IntKind.u64.wrap ((mn a1 (IntKind.u64.wrap ((t333.size : Int)))) + (mn a2 (IntKind.u64.wrap ((IntKind.u64.wrap ((t333.size : Int))) - (mn a1 (IntKind.u64.wrap ((t333.size : Int))))))))) : Int).toNat, 0, 0)) else (none)) else (none)) else (none))) else (if a0_0 = 2 then (if 0 ≤ (mn a1 (IntKind.u64.wrap ((a0_2.size : Int)))) then (if (mn a1 (IntKind.u64.wrap ((a0_2.size : Int)))) ≤ (IntKind.u64.wrap ((mn a1 (IntKind.u64.wrap ((a0_2.size : Int)))) + (mn a2 (IntKind.u64.wrap ((IntKind.u64.wrap ((a0_2.size : Int))) - (mn a1 (IntKind.u64.wrap ((a0_2.size : Int))))))))) then (if (IntKind.u64.wrap ((mn a1 (IntKind.u64.wrap ((a0_2.size : Int)))) + (mn a2 (IntKind.u64.wrap ((IntKind.u64.wrap ((a0_2.size : Int))) - (mn a1 (IntKind.u64.wrap ((a0_2.size : Int))))))))) ≤ (a0_2.size : Int) then (some (a0_0, 0, a0_2.extract ((mn a1 (IntKind.u64.wrap ((a0_2.size : Int)))) : Int).toNat ((IntKind.u64.wrap ((mn a1 (IntKind.u64.wrap ((a0_2.size : Int)))) + (mn a2 (IntKind.u64.wrap ((IntKind.u64.wrap ((a0_2.size : Int))) - (mn a1 (IntKind.u64.wrap ((a0_2.size : Int))))))))) : Int).toNat, 0, 0)) else (none)) else (none)) else (none)) else (if a0_0 = 3 then (if 0 ≤ (mn a1 (IntKind.u64.wrap ((a0_2.size : Int)))) then (if (mn a1 (IntKind.u64.wrap ((a0_2.size : Int)))) ≤ (IntKind.u64.wrap ((mn a1 (IntKind.u64.wrap ((a0_2.size : Int)))) + (mn a2 (IntKind.u64.wrap ((IntKind.u64.wrap ((a0_2.size : Int))) - (mn a1 (IntKind.u64.wrap ((a0_2.size : Int))))))))) then (if (IntKind.u64.wrap ((mn a1 (IntKind.u64.wrap ((a0_2.size : Int)))) + (mn a2 (IntKind.u64.wrap ((IntKind.u64.wrap ((a0_2.size : Int))) - (mn a1 (IntKind.u64.wrap ((a0_2.size : Int))))))))) ≤ (a0_2.size : Int) then (some (a0_0, 0, a0_2.extract ((mn a1 (IntKind.u64.wrap ((a0_2.size : Int)))) : Int).toNat ((IntKind.u64.wrap ((mn a1 (IntKind.u64.wrap ((a0_2.size : Int)))) + (mn a2 (IntKind.u64.wrap ((IntKind.u64.wrap ((a0_2.size : Int))) - (mn a1 (IntKind.u64.wrap ((a0_2.size : Int))))))))) : Int).toNat, 0, 0)) else (none)) else (none)) else (none)) else (some (0, 0, (⟨#[]⟩ : ByteArray), 0, 10))))) else (some (0, 0, (⟨#[]⟩ : ByteArray), 0, 1))) = some (r1, r2, r3, r4, r5) := H
 have A4 := Aside0.mk A40
 clear A40
 by_cases c5 : t332 = true
 ·subst c5
  have H1 : (if a0_0 = 1 then ((value_eight.f k a0_1).bind fun t333 => (if 0 ≤ (mn a1 (IntKind.u64.wrap ((t333.size : Int)))) then (if (mn a1 (IntKind.u64.wrap ((t333.size : Int)))) ≤ (IntKind.u64.wrap ((mn a1 (IntKind.u64.wrap ((t333.size : Int)))) + (mn a2 (IntKind.u64.wrap ((IntKind.u64.wrap ((t333.size : Int))) - (mn a1 (IntKind.u64.wrap ((t333.size : Int))))))))) then (if (IntKind.u64.wrap ((mn a1 (IntKind.u64.wrap ((t333.size : Int)))) + (mn a2 (IntKind.u64.wrap ((IntKind.u64.wrap ((t333.size : Int))) - (mn a1 (IntKind.u64.wrap ((t333.size : Int))))))))) ≤ (t333.size : Int) then (some (3, 0, t333.extract ((mn a1 (IntKind.u64.wrap ((t333.size : Int)))) : Int).toNat ((IntKind.u64.wrap ((mn a1 (IntKind.u64.wrap ((t333.size : Int)))) + (mn a2 (IntKind.u64.wrap ((IntKind.u64.wrap ((t333.size : Int))) - (mn a1 (IntKind.u64.wrap ((t333.size : Int))))))))) : Int).toNat, 0, 0)) else (none)) else (none)) else (none))) else (if a0_0 = 2 then (if 0 ≤ (mn a1 (IntKind.u64.wrap ((a0_2.size : Int)))) then (if (mn a1 (IntKind.u64.wrap ((a0_2.size : Int)))) ≤ (IntKind.u64.wrap ((mn a1 (IntKind.u64.wrap ((a0_2.size : Int)))) + (mn a2 (IntKind.u64.wrap ((IntKind.u64.wrap ((a0_2.size : Int))) - (mn a1 (IntKind.u64.wrap ((a0_2.size : Int))))))))) then (if (IntKind.u64.wrap ((mn a1 (IntKind.u64.wrap ((a0_2.size : Int)))) + (mn a2 (IntKind.u64.wrap ((IntKind.u64.wrap ((a0_2.size : Int))) - (mn a1 (IntKind.u64.wrap ((a0_2.size : Int))))))))) ≤ (a0_2.size : Int) then (some (a0_0, 0, a0_2.extract ((mn a1 (IntKind.u64.wrap ((a0_2.size : Int)))) : Int).toNat ((IntKind.u64.wrap ((mn a1 (IntKind.u64.wrap ((a0_2.size : Int)))) + (mn a2 (IntKind.u64.wrap ((IntKind.u64.wrap ((a0_2.size : Int))) - (mn a1 (IntKind.u64.wrap ((a0_2.size : Int))))))))) : Int).toNat, 0, 0)) else (none)) else (none)) else (none)) else (if a0_0 = 3 then (if 0 ≤ (mn a1 (IntKind.u64.wrap ((a0_2.size : Int)))) then (if (mn a1 (IntKind.u64.wrap ((a0_2.size : Int)))) ≤ (IntKind.u64.wrap ((mn a1 (IntKind.u64.wrap ((a0_2.size : Int)))) + (mn a2 (IntKind.u64.wrap ((IntKind.u64.wrap ((a0_2.size : Int))) - (mn a1 (IntKind.u64.wrap ((a0_2.size : Int))))))))) then (if (IntKind.u64.wrap ((mn a1 (IntKind.u64.wrap ((a0_2.size : Int)))) + (mn a2 (IntKind.u64.wrap ((IntKind.u64.wrap ((a0_2.size : Int))) - (mn a1 (IntKind.u64.wrap ((a0_2.size : Int))))))))) ≤ (a0_2.size : Int) then (some (a0_0, 0, a0_2.extract ((mn a1 (IntKind.u64.wrap ((a0_2.size : Int)))) : Int).toNat ((IntKind.u64.wrap ((mn a1 (IntKind.u64.wrap ((a0_2.size : Int)))) + (mn a2 (IntKind.u64.wrap ((IntKind.u64.wrap ((a0_2.size : Int))) - (mn a1 (IntKind.u64.wrap ((a0_2.size : Int))))))))) : Int).toNat, 0, 0)) else (none)) else (none)) else (none)) else (some (0, 0, (⟨#[]⟩ : ByteArray), 0, 10))))) = some (r1, r2, r3, r4, r5) := by rw [if_pos rfl] at H; exact H
  clear H
  have H := H1
  clear H1
  by_cases c6 : a0_0 = 1
  ·rw [if_pos c6] at H
   have c6b0 : (a0_0 == 1) = true := beq_iff_eq.mpr c6
   have c6b1 : (a0_0 != 1) = false := bne_eq_false_iff_eq.mpr c6
   clear c6
   replace H := Option.bind_eq_some_iff.mp H
   obtain ⟨t333, A70, H⟩ := H
   replace H : (if 0 ≤ (mn a1 (IntKind.u64.wrap ((t333.size : Int)))) then (if (mn a1 (IntKind.u64.wrap ((t333.size : Int)))) ≤ (IntKind.u64.wrap ((mn a1 (IntKind.u64.wrap ((t333.size : Int)))) + (mn a2 (IntKind.u64.wrap ((IntKind.u64.wrap ((t333.size : Int))) - (mn a1 (IntKind.u64.wrap ((t333.size : Int))))))))) then (if (IntKind.u64.wrap ((mn a1 (IntKind.u64.wrap ((t333.size : Int)))) + (mn a2 (IntKind.u64.wrap ((IntKind.u64.wrap ((t333.size : Int))) - (mn a1 (IntKind.u64.wrap ((t333.size : Int))))))))) ≤ (t333.size : Int) then (some (3, 0, t333.extract ((mn a1 (IntKind.u64.wrap ((t333.size : Int)))) : Int).toNat ((IntKind.u64.wrap ((mn a1 (IntKind.u64.wrap ((t333.size : Int)))) + (mn a2 (IntKind.u64.wrap ((IntKind.u64.wrap ((t333.size : Int))) - (mn a1 (IntKind.u64.wrap ((t333.size : Int))))))))) : Int).toNat, 0, 0)) else (none)) else (none)) else (none)) = some (r1, r2, r3, r4, r5) := H
   have A7 := Aside0.mk A70
   clear A70
   obtain ⟨ji8, hji8⟩ : ∃ j_ : Int, (mn a1 (IntKind.u64.wrap ((t333.size : Int)))) = j_ := ⟨_, rfl⟩
   replace H : (if 0 ≤ (ji8) then (if (ji8) ≤ (IntKind.u64.wrap ((ji8) + (mn a2 (IntKind.u64.wrap ((IntKind.u64.wrap ((t333.size : Int))) - (ji8)))))) then (if (IntKind.u64.wrap ((ji8) + (mn a2 (IntKind.u64.wrap ((IntKind.u64.wrap ((t333.size : Int))) - (ji8)))))) ≤ (t333.size : Int) then (some (3, 0, t333.extract ((ji8) : Int).toNat ((IntKind.u64.wrap ((ji8) + (mn a2 (IntKind.u64.wrap ((IntKind.u64.wrap ((t333.size : Int))) - (ji8)))))) : Int).toNat, 0, 0)) else (none)) else (none)) else (none)) = some (r1, r2, r3, r4, r5) := by first | (rw [hji8] at H; exact H) | (simp only [hji8] at H ⊢; exact H)
   (try rw [hji8] at A4)
   (try rw [hji8] at A7)
   have hji8_ : (if (IntKind.u64.wrap ((t333.size : Int))) < a1 then (IntKind.u64.wrap ((t333.size : Int))) else a1) = ji8 := hji8
   obtain ⟨ji9, hji9⟩ : ∃ j_ : Int, (mn a2 (IntKind.u64.wrap ((IntKind.u64.wrap ((t333.size : Int))) - (ji8)))) = j_ := ⟨_, rfl⟩
   replace H : (if 0 ≤ (ji8) then (if (ji8) ≤ (IntKind.u64.wrap ((ji8) + (ji9))) then (if (IntKind.u64.wrap ((ji8) + (ji9))) ≤ (t333.size : Int) then (some (3, 0, t333.extract ((ji8) : Int).toNat ((IntKind.u64.wrap ((ji8) + (ji9))) : Int).toNat, 0, 0)) else (none)) else (none)) else (none)) = some (r1, r2, r3, r4, r5) := by first | (rw [hji9] at H; exact H) | (simp only [hji9] at H ⊢; exact H)
   (try rw [hji9] at A4)
   (try rw [hji9] at A7)
   have hji9_ : (if (IntKind.u64.wrap ((IntKind.u64.wrap ((t333.size : Int))) - (ji8))) < a2 then (IntKind.u64.wrap ((IntKind.u64.wrap ((t333.size : Int))) - (ji8))) else a2) = ji9 := hji9
   by_cases c10 : 0 ≤ (ji8)
   ·rw [if_pos c10] at H
    have c10b0 := eq_true c10
    have c10b1 : decide (0 ≤ (ji8)) = true := decide_eq_true c10
    clear c10
    by_cases c11 : (ji8) ≤ (IntKind.u64.wrap ((ji8) + (ji9)))
    ·rw [if_pos c11] at H
     have c11b0 := eq_true c11
     have c11b1 : decide ((ji8) ≤ (IntKind.u64.wrap ((ji8) + (ji9)))) = true := decide_eq_true c11
     clear c11
     by_cases c12 : (IntKind.u64.wrap ((ji8) + (ji9))) ≤ (t333.size : Int)
     ·rw [if_pos c12] at H
      have c12b0 := eq_true c12
      have c12b1 : decide ((IntKind.u64.wrap ((ji8) + (ji9))) ≤ (t333.size : Int)) = true := decide_eq_true c12
      clear c12
      simp only [Option.some.injEq, Prod.mk.injEq] at H
      obtain ⟨rfl, rfl, rfl, rfl, rfl⟩ := H
      go_enter Tryd.func15, Tryd.ntmps15
      try go_wp2_with (first | ((with_reducible refine gate_dst (N := 3) rfl ?_); refine box_event ?hg (N := 3) ?hd (cs := #[.int .i64 a0_0, .int .u64 a0_1, .string a0_2, .int .i64 a0_3]) (t := 24) ?hr ?_; (case hd => rfl); (case hg => rfl); (case hr => first | (go_simp; done) | (go_simp; rfl)); intro gb330 hg w13 hbox hb; replace HB := sqN_ (by repeat (first | (with_reducible first | exact HB.out | apply bA_ | apply bN_ | apply bD_) | exact HB.out)) hg hb; obtain ⟨HB, GE330⟩ := HB; have BK330 := Aside0.mk hbox; clear hb hbox hg) | ((with_reducible refine gate_dst (N := 6) rfl ?_); refine box_event ?hg (N := 6) ?hd (cs := #[.int .i64 0, .int .u64 0, .string ⟨#[]⟩, .int .i64 0]) (t := 24) ?hr ?_; (case hd => rfl); (case hg => rfl); (case hr => first | (go_simp; done) | (go_simp; rfl)); intro gb331 hg w14 hbox hb; replace BK330 := sqO_ BK330 (by (with_reducible repeat (first | apply kN_ | apply kD_ | apply kA_)); exact BK330.out) hg hb; obtain ⟨BK330, NB330_331, NB331_330⟩ := BK330; replace HB := sqN_ (by repeat (first | (with_reducible first | exact HB.out | apply bA_ | apply bN_ | apply bD_ | refine bS_ ?_ GE330.out) | exact HB.out)) hg hb; obtain ⟨HB, GE331⟩ := HB; have BK331 := Aside0.mk hbox; clear hb hbox hg; have hnb15 := NB330_331.out; have hnc15 := NB331_330.out; obtain ⟨hcz16_0, hcz16_1, hcz16_2, hcz16_3⟩ := cells4_ BK330.out; obtain ⟨hfz16_0, hfz16_1, hfz16_2, hfz16_3⟩ := froz4_ BK330.out) | ((with_reducible refine gate_callee (f := 25) rfl ?_); refine goesL_ (some 9) rfl rfl Tryd.func25 (by kernel_rfl) rfl #[.agg #[.int .i64 a0_0, .int .u64 a0_1, .string a0_2, .int .i64 a0_3]] rfl (by (try simp only [List.map_toArray, List.map_cons, List.map_nil]); first | done | rfl) ?_; (with_reducible refine (value_Valid.calls a0_0 a0_1 a0_2 a0_3 true _ A4.out).mono ?_); rintro e w17 ⟨rfl, hb⟩; refine ⟨_, rfl, ?_⟩; replace BK330 := sqB_ BK330 (by (with_reducible repeat (first | apply kN_ | apply kD_ | apply kA_)); exact BK330.out) hb; replace BK331 := sqB_ BK331 (by (with_reducible repeat (first | apply kN_ | apply kD_ | apply kA_)); exact BK331.out) hb; replace HB := sqS_ (by repeat (first | (with_reducible first | exact HB.out | apply bA_ | apply bN_ | apply bD_ | refine bS_ ?_ GE330.out | refine bS_ ?_ GE331.out) | exact HB.out)) hb; (try clear hb); (try clear hb2); (try clear hk); (try clear hi); obtain ⟨hcz18_0, hcz18_1, hcz18_2, hcz18_3⟩ := cells4_ BK330.out; obtain ⟨hfz18_0, hfz18_1, hfz18_2, hfz18_3⟩ := froz4_ BK330.out) | ((with_reducible refine gate_callee (f := 31) rfl ?_); refine goesL_ (some 19) rfl rfl Tryd.func31 (by kernel_rfl) rfl #[.int .u64 a0_1] rfl (by (try simp only [List.map_toArray, List.map_cons, List.map_nil]); first | done | rfl) ?_; (with_reducible refine (value_eight.calls k a0_1 t333 _ A7.out).mono ?_); rintro e w19 ⟨rfl, hb⟩; refine ⟨_, rfl, ?_⟩; replace BK330 := sqB_ BK330 (by (with_reducible repeat (first | apply kN_ | apply kD_ | apply kA_)); exact BK330.out) hb; replace BK331 := sqB_ BK331 (by (with_reducible repeat (first | apply kN_ | apply kD_ | apply kA_)); exact BK331.out) hb; replace HB := sqS_ (by repeat (first | (with_reducible first | exact HB.out | apply bA_ | apply bN_ | apply bD_ | refine bS_ ?_ GE330.out | refine bS_ ?_ GE331.out) | exact HB.out)) hb; (try clear hb); (try clear hb2); (try clear hk); (try clear hi); obtain ⟨hcz20_0, hcz20_1, hcz20_2, hcz20_3⟩ := cells4_ BK330.out; obtain ⟨hfz20_0, hfz20_1, hfz20_2, hfz20_3⟩ := froz4_ BK330.out))
      have n0_ : Aside0 (((((w19.setCell ⟨gb330, 0, none⟩ (.int .i64 3)).setCell ⟨gb330, 1, none⟩ (.int .u64 0)).setCell ⟨gb330, 2, none⟩ (.string t333)).setCell ⟨gb330, 3, none⟩ (.int .i64 0)).heap[gb330]? = some (.cells #[.int .i64 3, .int .u64 0, .string t333, .int .i64 0] 24 (0, 0))) := ⟨by (with_reducible repeat (first | apply kN_ | apply kD_ | apply kA_)); refine blk_put (cs := #[.int .i64 3, .int .u64 0, .string t333, .int .i64 a0_3]) ?_ 3 _ rfl; (with_reducible repeat (first | apply kN_ | apply kD_ | apply kA_)); refine blk_put (cs := #[.int .i64 3, .int .u64 0, .string a0_2, .int .i64 a0_3]) ?_ 2 _ rfl; (with_reducible repeat (first | apply kN_ | apply kD_ | apply kA_)); refine blk_put (cs := #[.int .i64 3, .int .u64 a0_1, .string a0_2, .int .i64 a0_3]) ?_ 1 _ rfl; (with_reducible repeat (first | apply kN_ | apply kD_ | apply kA_)); refine blk_put (cs := #[.int .i64 a0_0, .int .u64 a0_1, .string a0_2, .int .i64 a0_3]) ?_ 0 _ rfl; (with_reducible repeat (first | apply kN_ | apply kD_ | apply kA_)); exact BK330.out⟩
      have n1_ : Aside0 (((((w19.setCell ⟨gb330, 0, none⟩ (.int .i64 3)).setCell ⟨gb330, 1, none⟩ (.int .u64 0)).setCell ⟨gb330, 2, none⟩ (.string t333)).setCell ⟨gb330, 3, none⟩ (.int .i64 0)).heap[gb331]? = some (.cells #[.int .i64 0, .int .u64 0, .string ⟨#[]⟩, .int .i64 0] 24 (0, 0))) := ⟨by (with_reducible repeat (first | apply kN_ | apply kD_ | apply kA_)); refine blk_far ?_ NB331_330.out _; (with_reducible repeat (first | apply kN_ | apply kD_ | apply kA_)); refine blk_far ?_ NB331_330.out _; (with_reducible repeat (first | apply kN_ | apply kD_ | apply kA_)); refine blk_far ?_ NB331_330.out _; (with_reducible repeat (first | apply kN_ | apply kD_ | apply kA_)); refine blk_far ?_ NB331_330.out _; (with_reducible repeat (first | apply kN_ | apply kD_ | apply kA_)); exact BK331.out⟩
      have n2_ : Aside0 (Below w.heap.size w ((((w19.setCell ⟨gb330, 0, none⟩ (.int .i64 3)).setCell ⟨gb330, 1, none⟩ (.int .u64 0)).setCell ⟨gb330, 2, none⟩ (.string t333)).setCell ⟨gb330, 3, none⟩ (.int .i64 0))) := ⟨by repeat (first | (with_reducible first | exact HB.out | apply bA_ | apply bN_ | apply bD_ | refine bS_ ?_ GE330.out | refine bS_ ?_ GE331.out) | exact HB.out)⟩
      (try clear BK330)
      (try clear BK331)
      (try clear HB)
      generalize ((((w19.setCell ⟨gb330, 0, none⟩ (.int .i64 3)).setCell ⟨gb330, 1, none⟩ (.int .u64 0)).setCell ⟨gb330, 2, none⟩ (.string t333)).setCell ⟨gb330, 3, none⟩ (.int .i64 0)) = w21 at n0_ n1_ n2_ ⊢
      have BK330 := n0_
      have BK331 := n1_
      have HB := n2_
      clear n0_ n1_ n2_
      replace BK330 := Aside0.mk (kD_ BK330.out)
      replace BK331 := Aside0.mk (kD_ BK331.out)
      replace HB := Aside0.mk (bD_ HB.out)
      refine start_ (n := 12) (S := fun w' => w'.cell? ⟨gb330, 0, none⟩ = some (.int .i64 3) ∧ w'.cell? ⟨gb330, 1, none⟩ = some (.int .u64 0) ∧ w'.cell? ⟨gb330, 2, none⟩ = some (.string t333) ∧ w'.cell? ⟨gb330, 3, none⟩ = some (.int .i64 0)) (ds := []) #[false, false, false, false, false, false, false, false, false, false, false, false] (by kernel_rfl) rfl rfl (cells4_ BK330.out) (fun hHeld => ?_); refine with_tabW value_Mid.tab11 value_Mid.bits11 (fun HT_ HW_ => ?_)
      generalize w21.drew = w22 at BK330 BK331 HB hHeld ⊢
      refine pure_ (i := 0) (N := some 38) (v := ?_) (a' := ?_) (tf 12 1) rfl rfl (any_of HT_.out (by kernel_rfl)) (fun _ _ _ h => h) (Or.inl ⟨by rfl, ?_⟩) ?_ ?_
      rotate_left
      ·intro w'
       go_simp
       with_reducible rfl
      rotate_left
      ·simp only [Act.put, sA_, sB_, sC_, i64_w, i32_w]
       rfl
      refine pure_ (i := 2) (N := some 40) (v := ?_) (a' := ?_) (tf 12 5) rfl rfl (any_of HT_.out (by kernel_rfl)) (fun _ _ _ h => h) (Or.inl ⟨by rfl, ?_⟩) ?_ ?_
      rotate_left
      ·intro w'
       go_simp
       with_reducible rfl
      rotate_left
      ·simp only [Act.put, sA_, sB_, sC_, i64_w, i32_w]
       rfl
      refine pure_ (i := 4) (N := some 42) (v := ?_) (a' := ?_) (tf 12 21) rfl rfl (any_of HT_.out (by kernel_rfl)) (fun _ _ _ h => h) (Or.inl ⟨by rfl, ?_⟩) ?_ ?_
      rotate_left
      ·intro w'
       go_simp
       with_reducible rfl
      rotate_left
      ·simp only [Act.put, sA_, sB_, sC_, i64_w, i32_w]
       rfl
      refine pure_ (i := 5) (N := some 43) (v := ?_) (a' := ?_) (tf 12 53) rfl rfl (any_of HT_.out (by kernel_rfl)) (fun _ _ _ h => h) (Or.inl ⟨by rfl, ?_⟩) ?_ ?_
      rotate_left
      ·intro w'
       go_simp
       with_reducible rfl
      rotate_left
      ·simp only [Act.put, sA_, sB_, sC_, i64_w, i32_w]
       rfl
      refine pure_ (i := 6) (N := some 44) (v := ?_) (a' := ?_) (tf 12 117) rfl rfl (any_of HT_.out (by kernel_rfl)) (fun _ _ _ h => h) (Or.inl ⟨by rfl, ?_⟩) ?_ ?_
      rotate_left
      ·intro w'
       go_simp
       with_reducible rfl
      rotate_left
      ·simp only [Act.put, sA_, sB_, sC_, i64_w, i32_w]
       rfl
      refine pure_ (i := 7) (N := some 45) (v := ?_) (a' := ?_) (tf 12 245) rfl rfl (any_of HT_.out (by kernel_rfl)) (fun _ _ _ h => h) (Or.inl ⟨by rfl, ?_⟩) ?_ ?_
      rotate_left
      ·intro w'
       go_simp
       with_reducible rfl
      rotate_left
      ·simp only [Act.put, sA_, sB_, sC_, i64_w, i32_w]
       rfl
      refine take_ (i := 1) (N := some 39) (v := ?_) (a' := ?_) (tf 12 247) rfl rfl (take_ofW HT_.out HW_.out (by kernel_rfl)) (fun _ _ _ h => h) (Or.inl ⟨by rfl, ?_⟩) hHeld ?_ ?_
      rotate_left
      ·rintro w' ⟨s0, s1, s2, s3⟩
       go_simp
       with_reducible rfl
      rotate_left
      ·simp only [Act.put, sA_, sB_, sC_, i64_w, i32_w]
       rfl
      refine take_ (i := 3) (N := some 41) (v := ?_) (a' := ?_) (tf 12 255) rfl rfl (take_ofW HT_.out HW_.out (by kernel_rfl)) (fun _ _ _ h => h) (Or.inl ⟨by rfl, ?_⟩) hHeld ?_ ?_
      rotate_left
      ·rintro w' ⟨s0, s1, s2, s3⟩
       go_simp
       with_reducible rfl
      rotate_left
      ·simp only [Act.put, sA_, sB_, sC_, i64_w, i32_w]
       rfl
      refine pure_ (i := 8) (N := some 46) (v := ?_) (a' := ?_) (tf 12 511) rfl rfl (any_of HT_.out (by kernel_rfl)) (fun _ _ _ h => h) (Or.inl ⟨by rfl, ?_⟩) ?_ ?_
      rotate_left
      ·intro w'
       go_simp
       with_reducible rfl
      rotate_left
      ·simp only [Act.put, sA_, sB_, sC_, i64_w, i32_w]
       rfl
      refine pure_ (i := 9) (N := some 47) (v := ?_) (a' := ?_) (tf 12 1023) rfl rfl (any_of HT_.out (by kernel_rfl)) (fun _ _ _ h => h) (Or.inl ⟨by rfl, ?_⟩) ?_ ?_
      rotate_left
      ·intro w'
       go_simp
       with_reducible rfl
      rotate_left
      ·simp only [Act.put, sA_, sB_, sC_, i64_w, i32_w]
       rfl
      refine one_ (i := 10) (N := none) (tf 12 2047) rfl rfl (one_of HT_.out (by kernel_rfl)) (by decide) (fun K hK => ?_)
      have hs23 : w22.cell? ⟨gb331, 0, none⟩ = some (.int .i64 0) := (blk_cell BK331.out 0).trans rfl
      have hfs23 := blk_frozen BK331.out 0
      have hns23_0 := NB330_331.out
      have hms23_0 := NB331_330.out
      have hs24 : w22.cell? ⟨gb331, 1, none⟩ = some (.int .u64 0) := (blk_cell BK331.out 1).trans rfl
      have hfs24 := blk_frozen BK331.out 1
      have hns24_0 := NB330_331.out
      have hms24_0 := NB331_330.out
      have hs25 : w22.cell? ⟨gb331, 2, none⟩ = some (.string ⟨#[]⟩) := (blk_cell BK331.out 2).trans rfl
      have hfs25 := blk_frozen BK331.out 2
      have hns25_0 := NB330_331.out
      have hms25_0 := NB331_330.out
      have hs26 : w22.cell? ⟨gb331, 3, none⟩ = some (.int .i64 0) := (blk_cell BK331.out 3).trans rfl
      have hfs26 := blk_frozen BK331.out 3
      have hns26_0 := NB330_331.out
      have hms26_0 := NB331_330.out
      refine skip_ (w1 := ?_) (by rfl) rfl ?_ ?_
      rotate_left
      ·go_simp
       rfl
      refine hK.out _ _ ⟨((cell_far (p := ⟨gb331, _, none⟩) NB330_331.out _).trans (((cell_far (p := ⟨gb331, _, none⟩) NB330_331.out _).trans (((cell_far (p := ⟨gb331, _, none⟩) NB330_331.out _).trans (((cell_far (p := ⟨gb331, _, none⟩) NB330_331.out _).trans (hHeld.1)))))))), ((cell_far (p := ⟨gb331, _, none⟩) NB330_331.out _).trans (((cell_far (p := ⟨gb331, _, none⟩) NB330_331.out _).trans (((cell_far (p := ⟨gb331, _, none⟩) NB330_331.out _).trans (((cell_far (p := ⟨gb331, _, none⟩) NB330_331.out _).trans (hHeld.2.1)))))))), ((cell_far (p := ⟨gb331, _, none⟩) NB330_331.out _).trans (((cell_far (p := ⟨gb331, _, none⟩) NB330_331.out _).trans (((cell_far (p := ⟨gb331, _, none⟩) NB330_331.out _).trans (((cell_far (p := ⟨gb331, _, none⟩) NB330_331.out _).trans (hHeld.2.2.1)))))))), ((cell_far (p := ⟨gb331, _, none⟩) NB330_331.out _).trans (((cell_far (p := ⟨gb331, _, none⟩) NB330_331.out _).trans (((cell_far (p := ⟨gb331, _, none⟩) NB330_331.out _).trans (((cell_far (p := ⟨gb331, _, none⟩) NB330_331.out _).trans (hHeld.2.2.2))))))))⟩ (fun hHeld => ?_)
      clear hK K
      refine pure_ (i := 11) (N := some 7) (v := ?_) (a' := ?_) (tf 12 4095) rfl rfl (any_of HT_.out (by kernel_rfl)) (fun _ _ _ h => h) (Or.inl ⟨by rfl, ?_⟩) ?_ ?_
      rotate_left
      ·intro w'
       go_simp
       with_reducible rfl
      rotate_left
      ·simp only [Act.put, sA_, sB_, sC_, i64_w, i32_w]
       rfl
      refine done_ (done_of HT_.out (by kernel_rfl)) ?_
      try go_wp2
      refine bodyPost_ret (results_ct rfl _ _ gb331 24 #[.int .i64 3, .int .u64 0, .string (t333.extract ((ji8) : Int).toNat ((IntKind.u64.wrap ((ji8) + (ji9))) : Int).toNat), .int .i64 0] (0, 0) _ rfl (by (with_reducible repeat (first | apply kN_ | apply kD_ | apply kA_)); refine blk_put (cs := #[.int .i64 3, .int .u64 0, .string (t333.extract ((ji8) : Int).toNat ((IntKind.u64.wrap ((ji8) + (ji9))) : Int).toNat), .int .i64 0]) ?_ 3 _ rfl; (with_reducible repeat (first | apply kN_ | apply kD_ | apply kA_)); refine blk_put (cs := #[.int .i64 3, .int .u64 0, .string ⟨#[]⟩, .int .i64 0]) ?_ 2 _ rfl; (with_reducible repeat (first | apply kN_ | apply kD_ | apply kA_)); refine blk_put (cs := #[.int .i64 3, .int .u64 0, .string ⟨#[]⟩, .int .i64 0]) ?_ 1 _ rfl; (with_reducible repeat (first | apply kN_ | apply kD_ | apply kA_)); refine blk_put (cs := #[.int .i64 0, .int .u64 0, .string ⟨#[]⟩, .int .i64 0]) ?_ 0 _ rfl; (with_reducible repeat (first | apply kN_ | apply kD_ | apply kA_)); exact BK331.out) Tryd.underlying24 rfl (by kernel_rfl)) rfl ?_
      exact ⟨by first | rfl | (simp [errW_none, errW_some] <;> rfl) | (simp only [← hji8, ← hji9]; first | rfl | (simp [errW_none, errW_some] <;> rfl)) | (simp [*, errW_none, errW_some] <;> rfl), by repeat (first | (with_reducible first | exact HB.out | apply bA_ | apply bN_ | apply bD_ | refine bS_ ?_ GE330.out | refine bS_ ?_ GE331.out) | exact HB.out)⟩
     ·rw [if_neg c12] at H
      exact absurd H (by simp)
    ·rw [if_neg c11] at H
     exact absurd H (by simp)
   ·rw [if_neg c10] at H
    exact absurd H (by simp)
  ·rw [if_neg c6] at H
   have c6b0 : (a0_0 == 1) = false := beq_eq_false_iff_ne.mpr c6
   have c6b1 : (a0_0 != 1) = true := bne_iff_ne.mpr c6
   by_cases c27 : a0_0 = 2
   ·rw [if_pos c27] at H
    have c27b0 : (a0_0 == 2) = true := beq_iff_eq.mpr c27
    have c27b1 : (a0_0 != 2) = false := bne_eq_false_iff_eq.mpr c27
    clear c27
    obtain ⟨ji28, hji28⟩ : ∃ j_ : Int, (mn a1 (IntKind.u64.wrap ((a0_2.size : Int)))) = j_ := ⟨_, rfl⟩
    replace H : (if 0 ≤ (ji28) then (if (ji28) ≤ (IntKind.u64.wrap ((ji28) + (mn a2 (IntKind.u64.wrap ((IntKind.u64.wrap ((a0_2.size : Int))) - (ji28)))))) then (if (IntKind.u64.wrap ((ji28) + (mn a2 (IntKind.u64.wrap ((IntKind.u64.wrap ((a0_2.size : Int))) - (ji28)))))) ≤ (a0_2.size : Int) then (some (a0_0, 0, a0_2.extract ((ji28) : Int).toNat ((IntKind.u64.wrap ((ji28) + (mn a2 (IntKind.u64.wrap ((IntKind.u64.wrap ((a0_2.size : Int))) - (ji28)))))) : Int).toNat, 0, 0)) else (none)) else (none)) else (none)) = some (r1, r2, r3, r4, r5) := by first | (rw [hji28] at H; exact H) | (simp only [hji28] at H ⊢; exact H)
    (try rw [hji28] at A4)
    have hji28_ : (if (IntKind.u64.wrap ((a0_2.size : Int))) < a1 then (IntKind.u64.wrap ((a0_2.size : Int))) else a1) = ji28 := hji28
    obtain ⟨ji29, hji29⟩ : ∃ j_ : Int, (mn a2 (IntKind.u64.wrap ((IntKind.u64.wrap ((a0_2.size : Int))) - (ji28)))) = j_ := ⟨_, rfl⟩
    replace H : (if 0 ≤ (ji28) then (if (ji28) ≤ (IntKind.u64.wrap ((ji28) + (ji29))) then (if (IntKind.u64.wrap ((ji28) + (ji29))) ≤ (a0_2.size : Int) then (some (a0_0, 0, a0_2.extract ((ji28) : Int).toNat ((IntKind.u64.wrap ((ji28) + (ji29))) : Int).toNat, 0, 0)) else (none)) else (none)) else (none)) = some (r1, r2, r3, r4, r5) := by first | (rw [hji29] at H; exact H) | (simp only [hji29] at H ⊢; exact H)
    (try rw [hji29] at A4)
    have hji29_ : (if (IntKind.u64.wrap ((IntKind.u64.wrap ((a0_2.size : Int))) - (ji28))) < a2 then (IntKind.u64.wrap ((IntKind.u64.wrap ((a0_2.size : Int))) - (ji28))) else a2) = ji29 := hji29
    by_cases c30 : 0 ≤ (ji28)
    ·rw [if_pos c30] at H
     have c30b0 := eq_true c30
     have c30b1 : decide (0 ≤ (ji28)) = true := decide_eq_true c30
     clear c30
     by_cases c31 : (ji28) ≤ (IntKind.u64.wrap ((ji28) + (ji29)))
     ·rw [if_pos c31] at H
      have c31b0 := eq_true c31
      have c31b1 : decide ((ji28) ≤ (IntKind.u64.wrap ((ji28) + (ji29)))) = true := decide_eq_true c31
      clear c31
      by_cases c32 : (IntKind.u64.wrap ((ji28) + (ji29))) ≤ (a0_2.size : Int)
      ·rw [if_pos c32] at H
       have c32b0 := eq_true c32
       have c32b1 : decide ((IntKind.u64.wrap ((ji28) + (ji29))) ≤ (a0_2.size : Int)) = true := decide_eq_true c32
       clear c32
       simp only [Option.some.injEq, Prod.mk.injEq] at H
       obtain ⟨rfl, rfl, rfl, rfl, rfl⟩ := H
       go_enter Tryd.func15, Tryd.ntmps15
       try go_wp2_with (first | ((with_reducible refine gate_dst (N := 3) rfl ?_); refine box_event ?hg (N := 3) ?hd (cs := #[.int .i64 a0_0, .int .u64 a0_1, .string a0_2, .int .i64 a0_3]) (t := 24) ?hr ?_; (case hd => rfl); (case hg => rfl); (case hr => first | (go_simp; done) | (go_simp; rfl)); intro gb330 hg w33 hbox hb; replace HB := sqN_ (by repeat (first | (with_reducible first | exact HB.out | apply bA_ | apply bN_ | apply bD_) | exact HB.out)) hg hb; obtain ⟨HB, GE330⟩ := HB; have BK330 := Aside0.mk hbox; clear hb hbox hg) | ((with_reducible refine gate_dst (N := 6) rfl ?_); refine box_event ?hg (N := 6) ?hd (cs := #[.int .i64 0, .int .u64 0, .string ⟨#[]⟩, .int .i64 0]) (t := 24) ?hr ?_; (case hd => rfl); (case hg => rfl); (case hr => first | (go_simp; done) | (go_simp; rfl)); intro gb331 hg w34 hbox hb; replace BK330 := sqO_ BK330 (by (with_reducible repeat (first | apply kN_ | apply kD_ | apply kA_)); exact BK330.out) hg hb; obtain ⟨BK330, NB330_331, NB331_330⟩ := BK330; replace HB := sqN_ (by repeat (first | (with_reducible first | exact HB.out | apply bA_ | apply bN_ | apply bD_ | refine bS_ ?_ GE330.out) | exact HB.out)) hg hb; obtain ⟨HB, GE331⟩ := HB; have BK331 := Aside0.mk hbox; clear hb hbox hg; have hnb35 := NB330_331.out; have hnc35 := NB331_330.out; obtain ⟨hcz36_0, hcz36_1, hcz36_2, hcz36_3⟩ := cells4_ BK330.out; obtain ⟨hfz36_0, hfz36_1, hfz36_2, hfz36_3⟩ := froz4_ BK330.out) | ((with_reducible refine gate_callee (f := 25) rfl ?_); refine goesL_ (some 9) rfl rfl Tryd.func25 (by kernel_rfl) rfl #[.agg #[.int .i64 a0_0, .int .u64 a0_1, .string a0_2, .int .i64 a0_3]] rfl (by (try simp only [List.map_toArray, List.map_cons, List.map_nil]); first | done | rfl) ?_; (with_reducible refine (value_Valid.calls a0_0 a0_1 a0_2 a0_3 true _ A4.out).mono ?_); rintro e w37 ⟨rfl, hb⟩; refine ⟨_, rfl, ?_⟩; replace BK330 := sqB_ BK330 (by (with_reducible repeat (first | apply kN_ | apply kD_ | apply kA_)); exact BK330.out) hb; replace BK331 := sqB_ BK331 (by (with_reducible repeat (first | apply kN_ | apply kD_ | apply kA_)); exact BK331.out) hb; replace HB := sqS_ (by repeat (first | (with_reducible first | exact HB.out | apply bA_ | apply bN_ | apply bD_ | refine bS_ ?_ GE330.out | refine bS_ ?_ GE331.out) | exact HB.out)) hb; (try clear hb); (try clear hb2); (try clear hk); (try clear hi); obtain ⟨hcz38_0, hcz38_1, hcz38_2, hcz38_3⟩ := cells4_ BK330.out; obtain ⟨hfz38_0, hfz38_1, hfz38_2, hfz38_3⟩ := froz4_ BK330.out))
       replace BK330 := Aside0.mk (kD_ BK330.out)
       replace BK331 := Aside0.mk (kD_ BK331.out)
       replace HB := Aside0.mk (bD_ HB.out)
       refine start_ (n := 12) (S := fun w' => w'.cell? ⟨gb330, 0, none⟩ = some (.int .i64 a0_0) ∧ w'.cell? ⟨gb330, 1, none⟩ = some (.int .u64 a0_1) ∧ w'.cell? ⟨gb330, 2, none⟩ = some (.string a0_2) ∧ w'.cell? ⟨gb330, 3, none⟩ = some (.int .i64 a0_3)) (ds := []) #[false, false, false, false, false, false, false, false, false, false, false, false] (by kernel_rfl) rfl rfl (cells4_ BK330.out) (fun hHeld => ?_); refine with_tabW value_Mid.tab11 value_Mid.bits11 (fun HT_ HW_ => ?_)
       generalize w37.drew = w39 at BK330 BK331 HB hHeld ⊢
       refine pure_ (i := 0) (N := some 38) (v := ?_) (a' := ?_) (tf 12 1) rfl rfl (any_of HT_.out (by kernel_rfl)) (fun _ _ _ h => h) (Or.inl ⟨by rfl, ?_⟩) ?_ ?_
       rotate_left
       ·intro w'
        go_simp
        with_reducible rfl
       rotate_left
       ·simp only [Act.put, sA_, sB_, sC_, i64_w, i32_w]
        rfl
       refine pure_ (i := 2) (N := some 40) (v := ?_) (a' := ?_) (tf 12 5) rfl rfl (any_of HT_.out (by kernel_rfl)) (fun _ _ _ h => h) (Or.inl ⟨by rfl, ?_⟩) ?_ ?_
       rotate_left
       ·intro w'
        go_simp
        with_reducible rfl
       rotate_left
       ·simp only [Act.put, sA_, sB_, sC_, i64_w, i32_w]
        rfl
       refine pure_ (i := 4) (N := some 42) (v := ?_) (a' := ?_) (tf 12 21) rfl rfl (any_of HT_.out (by kernel_rfl)) (fun _ _ _ h => h) (Or.inl ⟨by rfl, ?_⟩) ?_ ?_
       rotate_left
       ·intro w'
        go_simp
        with_reducible rfl
       rotate_left
       ·simp only [Act.put, sA_, sB_, sC_, i64_w, i32_w]
        rfl
       refine pure_ (i := 5) (N := some 43) (v := ?_) (a' := ?_) (tf 12 53) rfl rfl (any_of HT_.out (by kernel_rfl)) (fun _ _ _ h => h) (Or.inl ⟨by rfl, ?_⟩) ?_ ?_
       rotate_left
       ·intro w'
        go_simp
        with_reducible rfl
       rotate_left
       ·simp only [Act.put, sA_, sB_, sC_, i64_w, i32_w]
        rfl
       refine pure_ (i := 6) (N := some 44) (v := ?_) (a' := ?_) (tf 12 117) rfl rfl (any_of HT_.out (by kernel_rfl)) (fun _ _ _ h => h) (Or.inl ⟨by rfl, ?_⟩) ?_ ?_
       rotate_left
       ·intro w'
        go_simp
        with_reducible rfl
       rotate_left
       ·simp only [Act.put, sA_, sB_, sC_, i64_w, i32_w]
        rfl
       refine pure_ (i := 7) (N := some 45) (v := ?_) (a' := ?_) (tf 12 245) rfl rfl (any_of HT_.out (by kernel_rfl)) (fun _ _ _ h => h) (Or.inl ⟨by rfl, ?_⟩) ?_ ?_
       rotate_left
       ·intro w'
        go_simp
        with_reducible rfl
       rotate_left
       ·simp only [Act.put, sA_, sB_, sC_, i64_w, i32_w]
        rfl
       refine take_ (i := 1) (N := some 39) (v := ?_) (a' := ?_) (tf 12 247) rfl rfl (take_ofW HT_.out HW_.out (by kernel_rfl)) (fun _ _ _ h => h) (Or.inl ⟨by rfl, ?_⟩) hHeld ?_ ?_
       rotate_left
       ·rintro w' ⟨s0, s1, s2, s3⟩
        go_simp
        with_reducible rfl
       rotate_left
       ·simp only [Act.put, sA_, sB_, sC_, i64_w, i32_w]
        rfl
       refine take_ (i := 3) (N := some 41) (v := ?_) (a' := ?_) (tf 12 255) rfl rfl (take_ofW HT_.out HW_.out (by kernel_rfl)) (fun _ _ _ h => h) (Or.inl ⟨by rfl, ?_⟩) hHeld ?_ ?_
       rotate_left
       ·rintro w' ⟨s0, s1, s2, s3⟩
        go_simp
        with_reducible rfl
       rotate_left
       ·simp only [Act.put, sA_, sB_, sC_, i64_w, i32_w]
        rfl
       refine pure_ (i := 8) (N := some 46) (v := ?_) (a' := ?_) (tf 12 511) rfl rfl (any_of HT_.out (by kernel_rfl)) (fun _ _ _ h => h) (Or.inl ⟨by rfl, ?_⟩) ?_ ?_
       rotate_left
       ·intro w'
        go_simp
        with_reducible rfl
       rotate_left
       ·simp only [Act.put, sA_, sB_, sC_, i64_w, i32_w]
        rfl
       refine pure_ (i := 9) (N := some 47) (v := ?_) (a' := ?_) (tf 12 1023) rfl rfl (any_of HT_.out (by kernel_rfl)) (fun _ _ _ h => h) (Or.inl ⟨by rfl, ?_⟩) ?_ ?_
       rotate_left
       ·intro w'
        go_simp
        with_reducible rfl
       rotate_left
       ·simp only [Act.put, sA_, sB_, sC_, i64_w, i32_w]
        rfl
       refine one_ (i := 10) (N := none) (tf 12 2047) rfl rfl (one_of HT_.out (by kernel_rfl)) (by decide) (fun K hK => ?_)
       have hs40 : w39.cell? ⟨gb331, 0, none⟩ = some (.int .i64 0) := (blk_cell BK331.out 0).trans rfl
       have hfs40 := blk_frozen BK331.out 0
       have hns40_0 := NB330_331.out
       have hms40_0 := NB331_330.out
       have hs41 : w39.cell? ⟨gb331, 1, none⟩ = some (.int .u64 0) := (blk_cell BK331.out 1).trans rfl
       have hfs41 := blk_frozen BK331.out 1
       have hns41_0 := NB330_331.out
       have hms41_0 := NB331_330.out
       have hs42 : w39.cell? ⟨gb331, 2, none⟩ = some (.string ⟨#[]⟩) := (blk_cell BK331.out 2).trans rfl
       have hfs42 := blk_frozen BK331.out 2
       have hns42_0 := NB330_331.out
       have hms42_0 := NB331_330.out
       have hs43 : w39.cell? ⟨gb331, 3, none⟩ = some (.int .i64 0) := (blk_cell BK331.out 3).trans rfl
       have hfs43 := blk_frozen BK331.out 3
       have hns43_0 := NB330_331.out
       have hms43_0 := NB331_330.out
       refine skip_ (w1 := ?_) (by rfl) rfl ?_ ?_
       rotate_left
       ·go_simp
        rfl
       refine hK.out _ _ ⟨((cell_far (p := ⟨gb331, _, none⟩) NB330_331.out _).trans (((cell_far (p := ⟨gb331, _, none⟩) NB330_331.out _).trans (((cell_far (p := ⟨gb331, _, none⟩) NB330_331.out _).trans (((cell_far (p := ⟨gb331, _, none⟩) NB330_331.out _).trans (hHeld.1)))))))), ((cell_far (p := ⟨gb331, _, none⟩) NB330_331.out _).trans (((cell_far (p := ⟨gb331, _, none⟩) NB330_331.out _).trans (((cell_far (p := ⟨gb331, _, none⟩) NB330_331.out _).trans (((cell_far (p := ⟨gb331, _, none⟩) NB330_331.out _).trans (hHeld.2.1)))))))), ((cell_far (p := ⟨gb331, _, none⟩) NB330_331.out _).trans (((cell_far (p := ⟨gb331, _, none⟩) NB330_331.out _).trans (((cell_far (p := ⟨gb331, _, none⟩) NB330_331.out _).trans (((cell_far (p := ⟨gb331, _, none⟩) NB330_331.out _).trans (hHeld.2.2.1)))))))), ((cell_far (p := ⟨gb331, _, none⟩) NB330_331.out _).trans (((cell_far (p := ⟨gb331, _, none⟩) NB330_331.out _).trans (((cell_far (p := ⟨gb331, _, none⟩) NB330_331.out _).trans (((cell_far (p := ⟨gb331, _, none⟩) NB330_331.out _).trans (hHeld.2.2.2))))))))⟩ (fun hHeld => ?_)
       clear hK K
       refine pure_ (i := 11) (N := some 7) (v := ?_) (a' := ?_) (tf 12 4095) rfl rfl (any_of HT_.out (by kernel_rfl)) (fun _ _ _ h => h) (Or.inl ⟨by rfl, ?_⟩) ?_ ?_
       rotate_left
       ·intro w'
        go_simp
        with_reducible rfl
       rotate_left
       ·simp only [Act.put, sA_, sB_, sC_, i64_w, i32_w]
        rfl
       refine done_ (done_of HT_.out (by kernel_rfl)) ?_
       try go_wp2
       refine bodyPost_ret (results_ct rfl _ _ gb331 24 #[.int .i64 a0_0, .int .u64 0, .string (a0_2.extract ((ji28) : Int).toNat ((IntKind.u64.wrap ((ji28) + (ji29))) : Int).toNat), .int .i64 0] (0, 0) _ rfl (by (with_reducible repeat (first | apply kN_ | apply kD_ | apply kA_)); refine blk_put (cs := #[.int .i64 a0_0, .int .u64 0, .string (a0_2.extract ((ji28) : Int).toNat ((IntKind.u64.wrap ((ji28) + (ji29))) : Int).toNat), .int .i64 0]) ?_ 3 _ rfl; (with_reducible repeat (first | apply kN_ | apply kD_ | apply kA_)); refine blk_put (cs := #[.int .i64 a0_0, .int .u64 0, .string ⟨#[]⟩, .int .i64 0]) ?_ 2 _ rfl; (with_reducible repeat (first | apply kN_ | apply kD_ | apply kA_)); refine blk_put (cs := #[.int .i64 a0_0, .int .u64 0, .string ⟨#[]⟩, .int .i64 0]) ?_ 1 _ rfl; (with_reducible repeat (first | apply kN_ | apply kD_ | apply kA_)); refine blk_put (cs := #[.int .i64 0, .int .u64 0, .string ⟨#[]⟩, .int .i64 0]) ?_ 0 _ rfl; (with_reducible repeat (first | apply kN_ | apply kD_ | apply kA_)); exact BK331.out) Tryd.underlying24 rfl (by kernel_rfl)) rfl ?_
       exact ⟨by first | rfl | (simp [errW_none, errW_some] <;> rfl) | (simp only [← hji28, ← hji29]; first | rfl | (simp [errW_none, errW_some] <;> rfl)) | (simp [*, errW_none, errW_some] <;> rfl), by repeat (first | (with_reducible first | exact HB.out | apply bA_ | apply bN_ | apply bD_ | refine bS_ ?_ GE330.out | refine bS_ ?_ GE331.out) | exact HB.out)⟩
      ·rw [if_neg c32] at H
       exact absurd H (by simp)
     ·rw [if_neg c31] at H
      exact absurd H (by simp)
    ·rw [if_neg c30] at H
     exact absurd H (by simp)
   ·rw [if_neg c27] at H
    have c27b0 : (a0_0 == 2) = false := beq_eq_false_iff_ne.mpr c27
    have c27b1 : (a0_0 != 2) = true := bne_iff_ne.mpr c27
    by_cases c44 : a0_0 = 3
    ·rw [if_pos c44] at H
     have c44b0 : (a0_0 == 3) = true := beq_iff_eq.mpr c44
     have c44b1 : (a0_0 != 3) = false := bne_eq_false_iff_eq.mpr c44
     clear c44
     obtain ⟨ji45, hji45⟩ : ∃ j_ : Int, (mn a1 (IntKind.u64.wrap ((a0_2.size : Int)))) = j_ := ⟨_, rfl⟩
     replace H : (if 0 ≤ (ji45) then (if (ji45) ≤ (IntKind.u64.wrap ((ji45) + (mn a2 (IntKind.u64.wrap ((IntKind.u64.wrap ((a0_2.size : Int))) - (ji45)))))) then (if (IntKind.u64.wrap ((ji45) + (mn a2 (IntKind.u64.wrap ((IntKind.u64.wrap ((a0_2.size : Int))) - (ji45)))))) ≤ (a0_2.size : Int) then (some (a0_0, 0, a0_2.extract ((ji45) : Int).toNat ((IntKind.u64.wrap ((ji45) + (mn a2 (IntKind.u64.wrap ((IntKind.u64.wrap ((a0_2.size : Int))) - (ji45)))))) : Int).toNat, 0, 0)) else (none)) else (none)) else (none)) = some (r1, r2, r3, r4, r5) := by first | (rw [hji45] at H; exact H) | (simp only [hji45] at H ⊢; exact H)
     (try rw [hji45] at A4)
     have hji45_ : (if (IntKind.u64.wrap ((a0_2.size : Int))) < a1 then (IntKind.u64.wrap ((a0_2.size : Int))) else a1) = ji45 := hji45
     obtain ⟨ji46, hji46⟩ : ∃ j_ : Int, (mn a2 (IntKind.u64.wrap ((IntKind.u64.wrap ((a0_2.size : Int))) - (ji45)))) = j_ := ⟨_, rfl⟩
     replace H : (if 0 ≤ (ji45) then (if (ji45) ≤ (IntKind.u64.wrap ((ji45) + (ji46))) then (if (IntKind.u64.wrap ((ji45) + (ji46))) ≤ (a0_2.size : Int) then (some (a0_0, 0, a0_2.extract ((ji45) : Int).toNat ((IntKind.u64.wrap ((ji45) + (ji46))) : Int).toNat, 0, 0)) else (none)) else (none)) else (none)) = some (r1, r2, r3, r4, r5) := by first | (rw [hji46] at H; exact H) | (simp only [hji46] at H ⊢; exact H)
     (try rw [hji46] at A4)
     have hji46_ : (if (IntKind.u64.wrap ((IntKind.u64.wrap ((a0_2.size : Int))) - (ji45))) < a2 then (IntKind.u64.wrap ((IntKind.u64.wrap ((a0_2.size : Int))) - (ji45))) else a2) = ji46 := hji46
     by_cases c47 : 0 ≤ (ji45)
     ·rw [if_pos c47] at H
      have c47b0 := eq_true c47
      have c47b1 : decide (0 ≤ (ji45)) = true := decide_eq_true c47
      clear c47
      by_cases c48 : (ji45) ≤ (IntKind.u64.wrap ((ji45) + (ji46)))
      ·rw [if_pos c48] at H
       have c48b0 := eq_true c48
       have c48b1 : decide ((ji45) ≤ (IntKind.u64.wrap ((ji45) + (ji46)))) = true := decide_eq_true c48
       clear c48
       by_cases c49 : (IntKind.u64.wrap ((ji45) + (ji46))) ≤ (a0_2.size : Int)
       ·rw [if_pos c49] at H
        have c49b0 := eq_true c49
        have c49b1 : decide ((IntKind.u64.wrap ((ji45) + (ji46))) ≤ (a0_2.size : Int)) = true := decide_eq_true c49
        clear c49
        simp only [Option.some.injEq, Prod.mk.injEq] at H
        obtain ⟨rfl, rfl, rfl, rfl, rfl⟩ := H
        go_enter Tryd.func15, Tryd.ntmps15
        try go_wp2_with (first | ((with_reducible refine gate_dst (N := 3) rfl ?_); refine box_event ?hg (N := 3) ?hd (cs := #[.int .i64 a0_0, .int .u64 a0_1, .string a0_2, .int .i64 a0_3]) (t := 24) ?hr ?_; (case hd => rfl); (case hg => rfl); (case hr => first | (go_simp; done) | (go_simp; rfl)); intro gb330 hg w50 hbox hb; replace HB := sqN_ (by repeat (first | (with_reducible first | exact HB.out | apply bA_ | apply bN_ | apply bD_) | exact HB.out)) hg hb; obtain ⟨HB, GE330⟩ := HB; have BK330 := Aside0.mk hbox; clear hb hbox hg) | ((with_reducible refine gate_dst (N := 6) rfl ?_); refine box_event ?hg (N := 6) ?hd (cs := #[.int .i64 0, .int .u64 0, .string ⟨#[]⟩, .int .i64 0]) (t := 24) ?hr ?_; (case hd => rfl); (case hg => rfl); (case hr => first | (go_simp; done) | (go_simp; rfl)); intro gb331 hg w51 hbox hb; replace BK330 := sqO_ BK330 (by (with_reducible repeat (first | apply kN_ | apply kD_ | apply kA_)); exact BK330.out) hg hb; obtain ⟨BK330, NB330_331, NB331_330⟩ := BK330; replace HB := sqN_ (by repeat (first | (with_reducible first | exact HB.out | apply bA_ | apply bN_ | apply bD_ | refine bS_ ?_ GE330.out) | exact HB.out)) hg hb; obtain ⟨HB, GE331⟩ := HB; have BK331 := Aside0.mk hbox; clear hb hbox hg; have hnb52 := NB330_331.out; have hnc52 := NB331_330.out; obtain ⟨hcz53_0, hcz53_1, hcz53_2, hcz53_3⟩ := cells4_ BK330.out; obtain ⟨hfz53_0, hfz53_1, hfz53_2, hfz53_3⟩ := froz4_ BK330.out) | ((with_reducible refine gate_callee (f := 25) rfl ?_); refine goesL_ (some 9) rfl rfl Tryd.func25 (by kernel_rfl) rfl #[.agg #[.int .i64 a0_0, .int .u64 a0_1, .string a0_2, .int .i64 a0_3]] rfl (by (try simp only [List.map_toArray, List.map_cons, List.map_nil]); first | done | rfl) ?_; (with_reducible refine (value_Valid.calls a0_0 a0_1 a0_2 a0_3 true _ A4.out).mono ?_); rintro e w54 ⟨rfl, hb⟩; refine ⟨_, rfl, ?_⟩; replace BK330 := sqB_ BK330 (by (with_reducible repeat (first | apply kN_ | apply kD_ | apply kA_)); exact BK330.out) hb; replace BK331 := sqB_ BK331 (by (with_reducible repeat (first | apply kN_ | apply kD_ | apply kA_)); exact BK331.out) hb; replace HB := sqS_ (by repeat (first | (with_reducible first | exact HB.out | apply bA_ | apply bN_ | apply bD_ | refine bS_ ?_ GE330.out | refine bS_ ?_ GE331.out) | exact HB.out)) hb; (try clear hb); (try clear hb2); (try clear hk); (try clear hi); obtain ⟨hcz55_0, hcz55_1, hcz55_2, hcz55_3⟩ := cells4_ BK330.out; obtain ⟨hfz55_0, hfz55_1, hfz55_2, hfz55_3⟩ := froz4_ BK330.out))
        replace BK330 := Aside0.mk (kD_ BK330.out)
        replace BK331 := Aside0.mk (kD_ BK331.out)
        replace HB := Aside0.mk (bD_ HB.out)
        refine start_ (n := 12) (S := fun w' => w'.cell? ⟨gb330, 0, none⟩ = some (.int .i64 a0_0) ∧ w'.cell? ⟨gb330, 1, none⟩ = some (.int .u64 a0_1) ∧ w'.cell? ⟨gb330, 2, none⟩ = some (.string a0_2) ∧ w'.cell? ⟨gb330, 3, none⟩ = some (.int .i64 a0_3)) (ds := []) #[false, false, false, false, false, false, false, false, false, false, false, false] (by kernel_rfl) rfl rfl (cells4_ BK330.out) (fun hHeld => ?_); refine with_tabW value_Mid.tab11 value_Mid.bits11 (fun HT_ HW_ => ?_)
        generalize w54.drew = w56 at BK330 BK331 HB hHeld ⊢
        refine pure_ (i := 0) (N := some 38) (v := ?_) (a' := ?_) (tf 12 1) rfl rfl (any_of HT_.out (by kernel_rfl)) (fun _ _ _ h => h) (Or.inl ⟨by rfl, ?_⟩) ?_ ?_
        rotate_left
        ·intro w'
         go_simp
         with_reducible rfl
        rotate_left
        ·simp only [Act.put, sA_, sB_, sC_, i64_w, i32_w]
         rfl
        refine pure_ (i := 2) (N := some 40) (v := ?_) (a' := ?_) (tf 12 5) rfl rfl (any_of HT_.out (by kernel_rfl)) (fun _ _ _ h => h) (Or.inl ⟨by rfl, ?_⟩) ?_ ?_
        rotate_left
        ·intro w'
         go_simp
         with_reducible rfl
        rotate_left
        ·simp only [Act.put, sA_, sB_, sC_, i64_w, i32_w]
         rfl
        refine pure_ (i := 4) (N := some 42) (v := ?_) (a' := ?_) (tf 12 21) rfl rfl (any_of HT_.out (by kernel_rfl)) (fun _ _ _ h => h) (Or.inl ⟨by rfl, ?_⟩) ?_ ?_
        rotate_left
        ·intro w'
         go_simp
         with_reducible rfl
        rotate_left
        ·simp only [Act.put, sA_, sB_, sC_, i64_w, i32_w]
         rfl
        refine pure_ (i := 5) (N := some 43) (v := ?_) (a' := ?_) (tf 12 53) rfl rfl (any_of HT_.out (by kernel_rfl)) (fun _ _ _ h => h) (Or.inl ⟨by rfl, ?_⟩) ?_ ?_
        rotate_left
        ·intro w'
         go_simp
         with_reducible rfl
        rotate_left
        ·simp only [Act.put, sA_, sB_, sC_, i64_w, i32_w]
         rfl
        refine pure_ (i := 6) (N := some 44) (v := ?_) (a' := ?_) (tf 12 117) rfl rfl (any_of HT_.out (by kernel_rfl)) (fun _ _ _ h => h) (Or.inl ⟨by rfl, ?_⟩) ?_ ?_
        rotate_left
        ·intro w'
         go_simp
         with_reducible rfl
        rotate_left
        ·simp only [Act.put, sA_, sB_, sC_, i64_w, i32_w]
         rfl
        refine pure_ (i := 7) (N := some 45) (v := ?_) (a' := ?_) (tf 12 245) rfl rfl (any_of HT_.out (by kernel_rfl)) (fun _ _ _ h => h) (Or.inl ⟨by rfl, ?_⟩) ?_ ?_
        rotate_left
        ·intro w'
         go_simp
         with_reducible rfl
        rotate_left
        ·simp only [Act.put, sA_, sB_, sC_, i64_w, i32_w]
         rfl
        refine take_ (i := 1) (N := some 39) (v := ?_) (a' := ?_) (tf 12 247) rfl rfl (take_ofW HT_.out HW_.out (by kernel_rfl)) (fun _ _ _ h => h) (Or.inl ⟨by rfl, ?_⟩) hHeld ?_ ?_
        rotate_left
        ·rintro w' ⟨s0, s1, s2, s3⟩
         go_simp
         with_reducible rfl
        rotate_left
        ·simp only [Act.put, sA_, sB_, sC_, i64_w, i32_w]
         rfl
        refine take_ (i := 3) (N := some 41) (v := ?_) (a' := ?_) (tf 12 255) rfl rfl (take_ofW HT_.out HW_.out (by kernel_rfl)) (fun _ _ _ h => h) (Or.inl ⟨by rfl, ?_⟩) hHeld ?_ ?_
        rotate_left
        ·rintro w' ⟨s0, s1, s2, s3⟩
         go_simp
         with_reducible rfl
        rotate_left
        ·simp only [Act.put, sA_, sB_, sC_, i64_w, i32_w]
         rfl
        refine pure_ (i := 8) (N := some 46) (v := ?_) (a' := ?_) (tf 12 511) rfl rfl (any_of HT_.out (by kernel_rfl)) (fun _ _ _ h => h) (Or.inl ⟨by rfl, ?_⟩) ?_ ?_
        rotate_left
        ·intro w'
         go_simp
         with_reducible rfl
        rotate_left
        ·simp only [Act.put, sA_, sB_, sC_, i64_w, i32_w]
         rfl
        refine pure_ (i := 9) (N := some 47) (v := ?_) (a' := ?_) (tf 12 1023) rfl rfl (any_of HT_.out (by kernel_rfl)) (fun _ _ _ h => h) (Or.inl ⟨by rfl, ?_⟩) ?_ ?_
        rotate_left
        ·intro w'
         go_simp
         with_reducible rfl
        rotate_left
        ·simp only [Act.put, sA_, sB_, sC_, i64_w, i32_w]
         rfl
        refine one_ (i := 10) (N := none) (tf 12 2047) rfl rfl (one_of HT_.out (by kernel_rfl)) (by decide) (fun K hK => ?_)
        have hs57 : w56.cell? ⟨gb331, 0, none⟩ = some (.int .i64 0) := (blk_cell BK331.out 0).trans rfl
        have hfs57 := blk_frozen BK331.out 0
        have hns57_0 := NB330_331.out
        have hms57_0 := NB331_330.out
        have hs58 : w56.cell? ⟨gb331, 1, none⟩ = some (.int .u64 0) := (blk_cell BK331.out 1).trans rfl
        have hfs58 := blk_frozen BK331.out 1
        have hns58_0 := NB330_331.out
        have hms58_0 := NB331_330.out
        have hs59 : w56.cell? ⟨gb331, 2, none⟩ = some (.string ⟨#[]⟩) := (blk_cell BK331.out 2).trans rfl
        have hfs59 := blk_frozen BK331.out 2
        have hns59_0 := NB330_331.out
        have hms59_0 := NB331_330.out
        have hs60 : w56.cell? ⟨gb331, 3, none⟩ = some (.int .i64 0) := (blk_cell BK331.out 3).trans rfl
        have hfs60 := blk_frozen BK331.out 3
        have hns60_0 := NB330_331.out
        have hms60_0 := NB331_330.out
        refine skip_ (w1 := ?_) (by rfl) rfl ?_ ?_
        rotate_left
        ·go_simp
         rfl
        refine hK.out _ _ ⟨((cell_far (p := ⟨gb331, _, none⟩) NB330_331.out _).trans (((cell_far (p := ⟨gb331, _, none⟩) NB330_331.out _).trans (((cell_far (p := ⟨gb331, _, none⟩) NB330_331.out _).trans (((cell_far (p := ⟨gb331, _, none⟩) NB330_331.out _).trans (hHeld.1)))))))), ((cell_far (p := ⟨gb331, _, none⟩) NB330_331.out _).trans (((cell_far (p := ⟨gb331, _, none⟩) NB330_331.out _).trans (((cell_far (p := ⟨gb331, _, none⟩) NB330_331.out _).trans (((cell_far (p := ⟨gb331, _, none⟩) NB330_331.out _).trans (hHeld.2.1)))))))), ((cell_far (p := ⟨gb331, _, none⟩) NB330_331.out _).trans (((cell_far (p := ⟨gb331, _, none⟩) NB330_331.out _).trans (((cell_far (p := ⟨gb331, _, none⟩) NB330_331.out _).trans (((cell_far (p := ⟨gb331, _, none⟩) NB330_331.out _).trans (hHeld.2.2.1)))))))), ((cell_far (p := ⟨gb331, _, none⟩) NB330_331.out _).trans (((cell_far (p := ⟨gb331, _, none⟩) NB330_331.out _).trans (((cell_far (p := ⟨gb331, _, none⟩) NB330_331.out _).trans (((cell_far (p := ⟨gb331, _, none⟩) NB330_331.out _).trans (hHeld.2.2.2))))))))⟩ (fun hHeld => ?_)
        clear hK K
        refine pure_ (i := 11) (N := some 7) (v := ?_) (a' := ?_) (tf 12 4095) rfl rfl (any_of HT_.out (by kernel_rfl)) (fun _ _ _ h => h) (Or.inl ⟨by rfl, ?_⟩) ?_ ?_
        rotate_left
        ·intro w'
         go_simp
         with_reducible rfl
        rotate_left
        ·simp only [Act.put, sA_, sB_, sC_, i64_w, i32_w]
         rfl
        refine done_ (done_of HT_.out (by kernel_rfl)) ?_
        try go_wp2
        refine bodyPost_ret (results_ct rfl _ _ gb331 24 #[.int .i64 a0_0, .int .u64 0, .string (a0_2.extract ((ji45) : Int).toNat ((IntKind.u64.wrap ((ji45) + (ji46))) : Int).toNat), .int .i64 0] (0, 0) _ rfl (by (with_reducible repeat (first | apply kN_ | apply kD_ | apply kA_)); refine blk_put (cs := #[.int .i64 a0_0, .int .u64 0, .string (a0_2.extract ((ji45) : Int).toNat ((IntKind.u64.wrap ((ji45) + (ji46))) : Int).toNat), .int .i64 0]) ?_ 3 _ rfl; (with_reducible repeat (first | apply kN_ | apply kD_ | apply kA_)); refine blk_put (cs := #[.int .i64 a0_0, .int .u64 0, .string ⟨#[]⟩, .int .i64 0]) ?_ 2 _ rfl; (with_reducible repeat (first | apply kN_ | apply kD_ | apply kA_)); refine blk_put (cs := #[.int .i64 a0_0, .int .u64 0, .string ⟨#[]⟩, .int .i64 0]) ?_ 1 _ rfl; (with_reducible repeat (first | apply kN_ | apply kD_ | apply kA_)); refine blk_put (cs := #[.int .i64 0, .int .u64 0, .string ⟨#[]⟩, .int .i64 0]) ?_ 0 _ rfl; (with_reducible repeat (first | apply kN_ | apply kD_ | apply kA_)); exact BK331.out) Tryd.underlying24 rfl (by kernel_rfl)) rfl ?_
        exact ⟨by first | rfl | (simp [errW_none, errW_some] <;> rfl) | (simp only [← hji45, ← hji46]; first | rfl | (simp [errW_none, errW_some] <;> rfl)) | (simp [*, errW_none, errW_some] <;> rfl), by repeat (first | (with_reducible first | exact HB.out | apply bA_ | apply bN_ | apply bD_ | refine bS_ ?_ GE330.out | refine bS_ ?_ GE331.out) | exact HB.out)⟩
       ·rw [if_neg c49] at H
        exact absurd H (by simp)
      ·rw [if_neg c48] at H
       exact absurd H (by simp)
     ·rw [if_neg c47] at H
      exact absurd H (by simp)
    ·rw [if_neg c44] at H
     have c44b0 : (a0_0 == 3) = false := beq_eq_false_iff_ne.mpr c44
     have c44b1 : (a0_0 != 3) = true := bne_iff_ne.mpr c44
     simp only [Option.some.injEq, Prod.mk.injEq] at H
     obtain ⟨rfl, rfl, rfl, rfl, rfl⟩ := H
     go_enter Tryd.func15, Tryd.ntmps15
     go_wp2_with (first | ((with_reducible refine gate_dst (N := 3) rfl ?_); refine box_event ?hg (N := 3) ?hd (cs := #[.int .i64 a0_0, .int .u64 a0_1, .string a0_2, .int .i64 a0_3]) (t := 24) ?hr ?_; (case hd => rfl); (case hg => rfl); (case hr => first | (go_simp; done) | (go_simp; rfl)); intro gb330 hg w61 hbox hb; replace HB := sqN_ (by repeat (first | (with_reducible first | exact HB.out | apply bA_ | apply bN_ | apply bD_) | exact HB.out)) hg hb; obtain ⟨HB, GE330⟩ := HB; have BK330 := Aside0.mk hbox; clear hb hbox hg) | ((with_reducible refine gate_dst (N := 6) rfl ?_); refine box_event ?hg (N := 6) ?hd (cs := #[.int .i64 0, .int .u64 0, .string ⟨#[]⟩, .int .i64 0]) (t := 24) ?hr ?_; (case hd => rfl); (case hg => rfl); (case hr => first | (go_simp; done) | (go_simp; rfl)); intro gb331 hg w62 hbox hb; replace BK330 := sqO_ BK330 (by (with_reducible repeat (first | apply kN_ | apply kD_ | apply kA_)); exact BK330.out) hg hb; obtain ⟨BK330, NB330_331, NB331_330⟩ := BK330; replace HB := sqN_ (by repeat (first | (with_reducible first | exact HB.out | apply bA_ | apply bN_ | apply bD_ | refine bS_ ?_ GE330.out) | exact HB.out)) hg hb; obtain ⟨HB, GE331⟩ := HB; have BK331 := Aside0.mk hbox; clear hb hbox hg; have hnb63 := NB330_331.out; have hnc63 := NB331_330.out; obtain ⟨hcz64_0, hcz64_1, hcz64_2, hcz64_3⟩ := cells4_ BK330.out; obtain ⟨hfz64_0, hfz64_1, hfz64_2, hfz64_3⟩ := froz4_ BK330.out) | ((with_reducible refine gate_callee (f := 25) rfl ?_); refine goesL_ (some 9) rfl rfl Tryd.func25 (by kernel_rfl) rfl #[.agg #[.int .i64 a0_0, .int .u64 a0_1, .string a0_2, .int .i64 a0_3]] rfl (by (try simp only [List.map_toArray, List.map_cons, List.map_nil]); first | done | rfl) ?_; (with_reducible refine (value_Valid.calls a0_0 a0_1 a0_2 a0_3 true _ A4.out).mono ?_); rintro e w65 ⟨rfl, hb⟩; refine ⟨_, rfl, ?_⟩; replace BK330 := sqB_ BK330 (by (with_reducible repeat (first | apply kN_ | apply kD_ | apply kA_)); exact BK330.out) hb; replace BK331 := sqB_ BK331 (by (with_reducible repeat (first | apply kN_ | apply kD_ | apply kA_)); exact BK331.out) hb; replace HB := sqS_ (by repeat (first | (with_reducible first | exact HB.out | apply bA_ | apply bN_ | apply bD_ | refine bS_ ?_ GE330.out | refine bS_ ?_ GE331.out) | exact HB.out)) hb; (try clear hb); (try clear hb2); (try clear hk); (try clear hi); obtain ⟨hcz66_0, hcz66_1, hcz66_2, hcz66_3⟩ := cells4_ BK330.out; obtain ⟨hfz66_0, hfz66_1, hfz66_2, hfz66_3⟩ := froz4_ BK330.out; obtain ⟨hcz67_0, hcz67_1, hcz67_2, hcz67_3⟩ := cells4_ BK331.out; obtain ⟨hfz67_0, hfz67_1, hfz67_2, hfz67_3⟩ := froz4_ BK331.out))
     refine bodyPost_ret (results_ct rfl _ _ gb331 24 #[.int .i64 0, .int .u64 0, .string ⟨#[]⟩, .int .i64 0] (0, 0) _ rfl (by (with_reducible repeat (first | apply kN_ | apply kD_ | apply kA_)); refine blk_put (cs := #[.int .i64 0, .int .u64 0, .string ⟨#[]⟩, .int .i64 0]) ?_ 3 _ rfl; (with_reducible repeat (first | apply kN_ | apply kD_ | apply kA_)); refine blk_put (cs := #[.int .i64 0, .int .u64 0, .string ⟨#[]⟩, .int .i64 0]) ?_ 2 _ rfl; (with_reducible repeat (first | apply kN_ | apply kD_ | apply kA_)); refine blk_put (cs := #[.int .i64 0, .int .u64 0, .string ⟨#[]⟩, .int .i64 0]) ?_ 1 _ rfl; (with_reducible repeat (first | apply kN_ | apply kD_ | apply kA_)); refine blk_put (cs := #[.int .i64 0, .int .u64 0, .string ⟨#[]⟩, .int .i64 0]) ?_ 0 _ rfl; (with_reducible repeat (first | apply kN_ | apply kD_ | apply kA_)); exact BK331.out) Tryd.underlying24 rfl (by kernel_rfl)) rfl ?_
     exact ⟨by first | rfl | (simp [errW_none, errW_some] <;> rfl) | (simp [*, errW_none, errW_some] <;> rfl), by repeat (first | (with_reducible first | exact HB.out | apply bA_ | apply bN_ | apply bD_ | refine bS_ ?_ GE330.out | refine bS_ ?_ GE331.out) | exact HB.out)⟩
 ·replace c5 := Bool.eq_false_iff.mpr c5
  subst c5
  have H1 : (some (0, 0, (⟨#[]⟩ : ByteArray), 0, 1)) = some (r1, r2, r3, r4, r5) := by rw [if_neg (show ¬ (false = true) by decide)] at H; exact H
  clear H
  have H := H1
  clear H1
  simp only [Option.some.injEq, Prod.mk.injEq] at H
  obtain ⟨rfl, rfl, rfl, rfl, rfl⟩ := H
  go_enter Tryd.func15, Tryd.ntmps15
  go_wp2_with (first | ((with_reducible refine gate_dst (N := 3) rfl ?_); refine box_event ?hg (N := 3) ?hd (cs := #[.int .i64 a0_0, .int .u64 a0_1, .string a0_2, .int .i64 a0_3]) (t := 24) ?hr ?_; (case hd => rfl); (case hg => rfl); (case hr => first | (go_simp; done) | (go_simp; rfl)); intro gb330 hg w68 hbox hb; replace HB := sqN_ (by repeat (first | (with_reducible first | exact HB.out | apply bA_ | apply bN_ | apply bD_) | exact HB.out)) hg hb; obtain ⟨HB, GE330⟩ := HB; have BK330 := Aside0.mk hbox; clear hb hbox hg) | ((with_reducible refine gate_dst (N := 6) rfl ?_); refine box_event ?hg (N := 6) ?hd (cs := #[.int .i64 0, .int .u64 0, .string ⟨#[]⟩, .int .i64 0]) (t := 24) ?hr ?_; (case hd => rfl); (case hg => rfl); (case hr => first | (go_simp; done) | (go_simp; rfl)); intro gb331 hg w69 hbox hb; replace BK330 := sqO_ BK330 (by (with_reducible repeat (first | apply kN_ | apply kD_ | apply kA_)); exact BK330.out) hg hb; obtain ⟨BK330, NB330_331, NB331_330⟩ := BK330; replace HB := sqN_ (by repeat (first | (with_reducible first | exact HB.out | apply bA_ | apply bN_ | apply bD_ | refine bS_ ?_ GE330.out) | exact HB.out)) hg hb; obtain ⟨HB, GE331⟩ := HB; have BK331 := Aside0.mk hbox; clear hb hbox hg; have hnb70 := NB330_331.out; have hnc70 := NB331_330.out; obtain ⟨hcz71_0, hcz71_1, hcz71_2, hcz71_3⟩ := cells4_ BK330.out; obtain ⟨hfz71_0, hfz71_1, hfz71_2, hfz71_3⟩ := froz4_ BK330.out) | ((with_reducible refine gate_callee (f := 25) rfl ?_); refine goesL_ (some 9) rfl rfl Tryd.func25 (by kernel_rfl) rfl #[.agg #[.int .i64 a0_0, .int .u64 a0_1, .string a0_2, .int .i64 a0_3]] rfl (by (try simp only [List.map_toArray, List.map_cons, List.map_nil]); first | done | rfl) ?_; (with_reducible refine (value_Valid.calls a0_0 a0_1 a0_2 a0_3 false _ A4.out).mono ?_); rintro e w72 ⟨rfl, hb⟩; refine ⟨_, rfl, ?_⟩; replace BK330 := sqB_ BK330 (by (with_reducible repeat (first | apply kN_ | apply kD_ | apply kA_)); exact BK330.out) hb; replace BK331 := sqB_ BK331 (by (with_reducible repeat (first | apply kN_ | apply kD_ | apply kA_)); exact BK331.out) hb; replace HB := sqS_ (by repeat (first | (with_reducible first | exact HB.out | apply bA_ | apply bN_ | apply bD_ | refine bS_ ?_ GE330.out | refine bS_ ?_ GE331.out) | exact HB.out)) hb; (try clear hb); (try clear hb2); (try clear hk); (try clear hi); obtain ⟨hcz73_0, hcz73_1, hcz73_2, hcz73_3⟩ := cells4_ BK331.out; obtain ⟨hfz73_0, hfz73_1, hfz73_2, hfz73_3⟩ := froz4_ BK331.out))
  refine bodyPost_ret (results_ct rfl _ _ gb331 24 #[.int .i64 0, .int .u64 0, .string ⟨#[]⟩, .int .i64 0] (0, 0) _ rfl (by (with_reducible repeat (first | apply kN_ | apply kD_ | apply kA_)); refine blk_put (cs := #[.int .i64 0, .int .u64 0, .string ⟨#[]⟩, .int .i64 0]) ?_ 3 _ rfl; (with_reducible repeat (first | apply kN_ | apply kD_ | apply kA_)); refine blk_put (cs := #[.int .i64 0, .int .u64 0, .string ⟨#[]⟩, .int .i64 0]) ?_ 2 _ rfl; (with_reducible repeat (first | apply kN_ | apply kD_ | apply kA_)); refine blk_put (cs := #[.int .i64 0, .int .u64 0, .string ⟨#[]⟩, .int .i64 0]) ?_ 1 _ rfl; (with_reducible repeat (first | apply kN_ | apply kD_ | apply kA_)); refine blk_put (cs := #[.int .i64 0, .int .u64 0, .string ⟨#[]⟩, .int .i64 0]) ?_ 0 _ rfl; (with_reducible repeat (first | apply kN_ | apply kD_ | apply kA_)); exact BK331.out) Tryd.underlying24 rfl (by kernel_rfl)) rfl ?_
  exact ⟨by first | rfl | (simp [errW_none, errW_some] <;> rfl) | (simp [*, errW_none, errW_some] <;> rfl), by repeat (first | (with_reducible first | exact HB.out | apply bA_ | apply bN_ | apply bD_ | refine bS_ ?_ GE330.out | refine bS_ ?_ GE331.out) | exact HB.out)⟩

/-! ### platformfwref08_little: function 32 -/
def platformfwref08_little.l0 : Nat → Int → ByteArray → Int → Option (ByteArray)
 | 0, _, _, _ => none
 | k + 1, x0, x3, x4 => if x4 < 8 then (if 0 ≤ (IntKind.u64.wrap (wrap64 (8 * x4))) then ((some (([(shr .u64 x0 (IntKind.u64.wrap (wrap64 (8 * x4)))) % 256] : List Int) : List Int)).bind fun y334 => (if x3.size + (strOfNums y334).size ≤ 9223372036854775807 then (platformfwref08_little.l0 k x0 (x3 ++ (strOfNums y334)) (wrap64 (x4 + 1))) else (none))) else (none)) else (some x3)
def platformfwref08_little.f (k : Nat) (a0 : Int) : Option (ByteArray) := platformfwref08_little.l0 k a0 (⟨#[]⟩ : ByteArray) 0
theorem platformfwref08_little.mono_l : ∀ k, (∀ y0 y1 y2, LeO (platformfwref08_little.l0 k y0 y1 y2) (platformfwref08_little.l0 (k + 1) y0 y1 y2))
 | 0 => fun _ _ _ r h => by simp [platformfwref08_little.l0] at h
 | k + 1 => by
  have ih0 := platformfwref08_little.mono_l k
  ·intro y0 y1 y2
   unfold platformfwref08_little.l0
   repeat' first
   | (with_reducible exact ih0 _ _ _)
   | (with_reducible exact LeO.refl _)
   | (with_reducible exact LeO.none _)
   | (with_reducible refine LeO.ite ?_ ?_)
   | (with_reducible refine LeO.bind ?_ (fun _ => ?_))
   | exact ih0 _ _ _
   | exact LeO.none _
   | refine LeO.ite ?_ ?_
   | refine LeO.bind ?_ (fun _ => ?_)
theorem platformfwref08_little.mono : ∀ a0 k, LeO (platformfwref08_little.f k a0) (platformfwref08_little.f (k + 1) a0) := by
 intro a0 k
 have ih0 := platformfwref08_little.mono_l k
 unfold platformfwref08_little.f
 repeat' first
   | (with_reducible exact ih0 _ _ _)
   | (with_reducible exact LeO.refl _)
   | (with_reducible exact LeO.none _)
   | (with_reducible refine LeO.ite ?_ ?_)
   | (with_reducible refine LeO.bind ?_ (fun _ => ?_))
   | exact ih0 _ _ _
   | exact LeO.none _
   | refine LeO.ite ?_ ?_
   | refine LeO.bind ?_ (fun _ => ?_)
set_option maxHeartbeats 8000000 in
set_option maxRecDepth 100000 in
theorem platformfwref08_little.calls (k : Nat) (a0 : Int) (r : ByteArray) (w : World) (h : platformfwref08_little.f k a0 = some r) :
  Calls Tryd.prog 32 #[.int .u64 a0] w fun e w' => e = .returned (.string r) ∧ Below w.heap.size w w' := by
 have HB := Aside0.mk (Below.refl w.heap.size w)
 have H : (platformfwref08_little.l0 k a0 (⟨#[]⟩ : ByteArray) 0) = some r := h
 clear h
 have H' := Aside0.mk H
 clear H
 go_enter Tryd.func32, Tryd.ntmps32
 go_wp2
 go_loopg [3, 4] k (fun kq v3 v4 w' => ∃ (x3_1 : ByteArray) (x4_1 : Int), v3 = .string x3_1 ∧ v4 = .int .i64 x4_1 ∧ Aside0 (platformfwref08_little.l0 kq a0 x3_1 x4_1 = some r) ∧ Aside0 (kq ≤ k) ∧ Aside0 (Below w.heap.size w w'))
 case atStart => exact ⟨((⟨#[]⟩ : ByteArray)), (0), (by first | rfl | (simp; done) | (simp [*]; done)), (by first | rfl | (simp; done) | (simp [*]; done)), H', ⟨Nat.le_refl _⟩, ⟨by repeat (first | (with_reducible first | exact HB.out | apply bA_ | apply bN_ | apply bD_) | exact HB.out)⟩⟩
 case round =>
  clear H'
  obtain ⟨x3_1, x4_1, rfl, rfl, HA, HK1, HB⟩ := hrel
  cases gk with
  | zero => exact absurd HA.out (by simp [platformfwref08_little.l0])
  | succ k1 =>
   have H := HA.out
   clear HA
   simp only [platformfwref08_little.l0] at H
   by_cases c2 : x4_1 < 8
   ·rw [if_pos c2] at H
    have c2b0 : decide (x4_1 < 8) = true := decide_eq_true c2
    clear c2
    obtain ⟨ji3, hji3⟩ : ∃ j_ : Int, (IntKind.u64.wrap (wrap64 (8 * x4_1))) = j_ := ⟨_, rfl⟩
    replace H : (if 0 ≤ (ji3) then ((some (([(shr .u64 a0 (ji3)) % 256] : List Int) : List Int)).bind fun y334 => (if x3_1.size + (strOfNums y334).size ≤ 9223372036854775807 then (platformfwref08_little.l0 k1 a0 (x3_1 ++ (strOfNums y334)) (wrap64 (x4_1 + 1))) else (none))) else (none)) = some r := by first | (rw [hji3] at H; exact H) | (simp only [hji3] at H ⊢; exact H)
    by_cases c4 : 0 ≤ (ji3)
    ·rw [if_pos c4] at H
     have c4b0 := eq_true c4
     have c4b1 : decide (0 ≤ (ji3)) = true := decide_eq_true c4
     clear c4
     obtain ⟨ji5, hji5⟩ : ∃ j_ : Int, (shr .u64 a0 (ji3)) = j_ := ⟨_, rfl⟩
     replace H : ((some (([(ji5) % 256] : List Int) : List Int)).bind fun y334 => (if x3_1.size + (strOfNums y334).size ≤ 9223372036854775807 then (platformfwref08_little.l0 k1 a0 (x3_1 ++ (strOfNums y334)) (wrap64 (x4_1 + 1))) else (none))) = some r := by first | (rw [hji5] at H; exact H) | (simp only [hji5] at H ⊢; exact H)
     have hji5_ : (a0 / 2 ^ min (ji3).toNat 64) = ji5 := hji5
     have hji5z : (ji3) ≤ 64 → (a0 / 2 ^ (ji3).toNat) = ji5 := shr_small hji5
     obtain ⟨y334, hy334⟩ : ∃ y_ : List Int, y_ = (([(ji5) % 256] : List Int)) := ⟨_, rfl⟩
     replace H : (if x3_1.size + (strOfNums y334).size ≤ 9223372036854775807 then (platformfwref08_little.l0 k1 a0 (x3_1 ++ (strOfNums y334)) (wrap64 (x4_1 + 1))) else (none)) = some r := by first | (rw [hy334]; with_reducible exact H) | (have H2_ := (Option.bind_some _ _).symm.trans H; rw [hy334]; with_reducible exact H2_) | (have H2_ := (Option.bind_some _ _).symm.trans H; with_reducible exact H2_) | with_reducible exact H | (rw [hy334]; exact H) | exact H
     have Ny334 := Aside0.mk hy334
     clear hy334
     by_cases c6 : x3_1.size + (strOfNums y334).size ≤ 9223372036854775807
     ·rw [if_pos c6] at H
      have c6b0 := eq_true c6
      have c6b1 : decide (x3_1.size + (strOfNums y334).size ≤ 9223372036854775807) = true := decide_eq_true c6
      try have c6b2 : (9223372036854775807 < x3_1.size + (strOfNums y334).size) = False := eq_false (Nat.not_lt.2 c6)
      clear c6
      have H' := Aside0.mk H
      clear H
      go_wp2_with (first | ((with_reducible refine gate_dst (N := 16) rfl ?_); refine Kd.R_lit (Kd.int .u8) _ 5 ?hg (N := 16) ?hd (xs := ([(ji5) % 256] : List Int)) (inner := [.int .u8 ((ji5) % 256)]) (ok := fun _ => True) (okp := fun _ => True) ?hr ?hp (fun _ hk => hk) trivial (Below.refl _ _) (Nat.le_refl _) (by simp) ?_; (case hd => rfl); (case hg => rfl); (case hr => first | (go_simp; done) | (go_simp; rfl)); (case hp => exact (Reps.one (show Kd.M (Kd.int .u8) _ _ _ ((ji5) % 256) [.int .u8 ((ji5) % 256)] from rfl) (Reps.none _ _))); intro v335 w7 ho8 hb hg_ hnew_; clear hg_ hnew_; (first | rw [← Ny334.out] at ho8 | (simp only [Int.reduceToNat] at ho8; rw [← Ny334.out] at ho8)); have n0_ := Aside0.mk (Kd.R_lower ho8 (below_size (by repeat (first | (with_reducible first | exact HB.out | apply bA_ | apply bN_ | apply bD_) | exact HB.out)))); have n1_ := Aside0.mk (below_step (by repeat (first | (with_reducible first | exact HB.out | apply bA_ | apply bN_ | apply bD_) | exact HB.out)) hb); clear HB; have HO336 := n0_; have HB := n1_; clear n0_ n1_; clear hb ho8; have hcv9 := own_string (P := Tryd.prog) Tryd.underlying65 Tryd.underlying5 Tryd.underlying9 (Kd.own_of_R HO336.out)))
      go_roundg k1
      case measure => have := HK1.out; omega
      case rel => exact ⟨(x3_1 ++ (strOfNums y334)), (wrap64 (x4_1 + 1)), (by first | rfl | (simp; done) | (simp [*]; done)), (by first | rfl | (simp; done) | (simp [*]; done)), H', ⟨by have := HK1.out; omega⟩, ⟨by repeat (first | (with_reducible first | exact HB.out | apply bA_ | apply bN_ | apply bD_) | exact HB.out)⟩⟩
     ·rw [if_neg c6] at H
      exact absurd H (by simp)
    ·rw [if_neg c4] at H
     exact absurd H (by simp)
   ·rw [if_neg c2] at H
    have c2b0 : decide (x4_1 < 8) = false := decide_eq_false c2
    clear c2
    obtain rfl := Option.some.inj H
    go_wp2
    go_ret
    exact ⟨by first | rfl | (simp [errW_none, errW_some] <;> rfl) | (simp [*, errW_none, errW_some] <;> rfl), by repeat (first | (with_reducible first | exact HB.out | apply bA_ | apply bN_ | apply bD_) | exact HB.out)⟩

end Go.Proofs.YtdmeglmmihaonaaDoor.PValueMid
