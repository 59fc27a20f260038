-- Written by a program of this session's (wip/print_patch.py over the kit's print) out of the translation; Lean checks it.
import Derived.Test.YtdmeglmmihaonaaDoorPValueArithmeticx0
import Derived.Test.YtdmeglmmihaonaaDoorPValueArithmeticx5
import Derived.Test.YtdmeglmmihaonaaDoorPValueArithmeticx6
import Derived.Test.YtdmeglmmihaonaaDoorPValueArithmeticx7
import Derived.Test.YtdmeglmmihaonaaDoorVValueArithmeticExtP
namespace Go.Proofs.YtdmeglmmihaonaaDoor.PValueArithmetic
open Go.RowKit Go.Proofs.YtdmeglmmihaonaaDoor.Ext Go.Proofs.YtdmeglmmihaonaaDoorW.PrintWords Go.Proofs.YtdmeglmmihaonaaDoorW.PrintLast Go.Proofs.YtdmeglmmihaonaaDoorW.PrintMore
attribute [local go_sem] max2_int min2_int max_two min_two max_three min_three max_four min_four   -- for this text's walks alone
set_option linter.unusedVariables false
set_option linter.unusedSimpArgs false

/-! ### platformfwlaw08_ValueArithmetic: function 7 -/
def platformfwlaw08_ValueArithmetic.j0 : Nat → Int → Int → Int → Bool → Option (Bool)
 | 0, _, _, _, _ => none
 | k + 1, x0, x1, x15, x78 => if x78 = true then (some false) else (if x1 = 0 then (some (x15 == 12)) else ((platformfwlaw08_number.f k 64 x0 x1).bind fun t431 => (if x15 = 0 then (if t431 < x1 then ((platformfwlaw08_number.f k 63 x0 x1).bind fun t432 => ((platformfwlaw08_number.f k 62 t432 x1).bind fun t433 => ((platformfwlaw08_number.f k 60 t433 t431).bind fun t434 => (some (t434 == x0))))) else (some false)) else (some false))))
def platformfwlaw08_ValueArithmetic.f (k : Nat) (a0 : Int) (a1 : Int) (a2 : Int) : Option (Bool) := (platformfwlaw08_number.f k 65 a0 a1).bind fun t380 => ((platformfwref08_Number.f t380).bind fun bt381 => ((value_Unary.f k 77 bt381.1 bt381.2.1 bt381.2.2.1 bt381.2.2.2).bind fun bt385 => ((platformfwref08_Number.f a0).bind fun bt391 => ((value_Unary.f k 77 bt391.1 bt391.2.1 bt391.2.2.1 bt391.2.2.2).bind fun bt395 => ((platformfwref08_Number.f a1).bind fun bt401 => ((value_Unary.f k 77 bt401.1 bt401.2.1 bt401.2.2.1 bt401.2.2.2).bind fun bt405 => ((platformfwref08_Number.f a0).bind fun bt411 => ((platformfwref08_Number.f a1).bind fun bt415 => ((value_Binary.f k 63 bt411.1 bt411.2.1 bt411.2.2.1 bt411.2.2.2 bt415.1 bt415.2.1 bt415.2.2.1 bt415.2.2.2).bind fun bt419 => ((platformfwlaw08_awake.f k).bind fun t425 => (if t425 = true then ((platformfwlaw08_number.f k 60 a0 a1).bind fun t426 => ((platformfwlaw08_number.f k 61 t426 a1).bind fun t427 => (if t427 = a0 then ((platformfwlaw08_number.f k 66 bt395.2.1 bt405.2.1).bind fun t428 => (if bt385.2.1 = t428 then ((platformfwlaw08_number.f k 68 a0 (IntKind.u64.wrap (Int.tmod a2 64))).bind fun t429 => (if 0 ≤ (IntKind.u64.wrap (Int.tmod a2 64)) then ((platformfwlaw08_number.f k 62 a0 (shl .u64 1 (IntKind.u64.wrap (Int.tmod a2 64)))).bind fun t430 => (platformfwlaw08_ValueArithmetic.j0 k a0 a1 bt419.2.2.2.2 (t429 != t430))) else (none))) else (platformfwlaw08_ValueArithmetic.j0 k a0 a1 bt419.2.2.2.2 true))) else (platformfwlaw08_ValueArithmetic.j0 k a0 a1 bt419.2.2.2.2 true)))) else (platformfwlaw08_ValueArithmetic.j0 k a0 a1 bt419.2.2.2.2 true))))))))))))
theorem platformfwlaw08_ValueArithmetic.mono_l : ∀ k, (∀ y0 y1 y2 y3, LeO (platformfwlaw08_ValueArithmetic.j0 k y0 y1 y2 y3) (platformfwlaw08_ValueArithmetic.j0 (k + 1) y0 y1 y2 y3))
 | 0 => fun _ _ _ _ r h => by simp [platformfwlaw08_ValueArithmetic.j0] at h
 | k + 1 => by
  have ih0 := platformfwlaw08_ValueArithmetic.mono_l k
  ·intro y0 y1 y2 y3
   unfold platformfwlaw08_ValueArithmetic.j0
   repeat' first
   | (with_reducible exact ih0 _ _ _ _)
   | (with_reducible exact platformfwlaw08_awake.mono _)
   | (with_reducible exact platformfwlaw08_number.mono _ _ _ _)
   | (with_reducible exact value_Binary.mono _ _ _ _ _ _ _ _ _ _)
   | (with_reducible exact value_Unary.mono _ _ _ _ _ _)
   | (with_reducible exact LeO.refl _)
   | (with_reducible exact LeO.none _)
   | (with_reducible refine LeO.ite ?_ ?_)
   | (with_reducible refine LeO.bind ?_ (fun _ => ?_))
   | exact ih0 _ _ _ _
   | exact platformfwlaw08_awake.mono _
   | exact platformfwlaw08_number.mono _ _ _ _
   | exact value_Binary.mono _ _ _ _ _ _ _ _ _ _
   | exact value_Unary.mono _ _ _ _ _ _
   | exact LeO.none _
   | refine LeO.ite ?_ ?_
   | refine LeO.bind ?_ (fun _ => ?_)
theorem platformfwlaw08_ValueArithmetic.mono : ∀ a0 a1 a2 k, LeO (platformfwlaw08_ValueArithmetic.f k a0 a1 a2) (platformfwlaw08_ValueArithmetic.f (k + 1) a0 a1 a2) := by
 intro a0 a1 a2 k
 have ih0 := platformfwlaw08_ValueArithmetic.mono_l k
 unfold platformfwlaw08_ValueArithmetic.f
 repeat' first
   | (with_reducible exact ih0 _ _ _ _)
   | (with_reducible exact platformfwlaw08_awake.mono _)
   | (with_reducible exact platformfwlaw08_number.mono _ _ _ _)
   | (with_reducible exact value_Binary.mono _ _ _ _ _ _ _ _ _ _)
   | (with_reducible exact value_Unary.mono _ _ _ _ _ _)
   | (with_reducible exact LeO.refl _)
   | (with_reducible exact LeO.none _)
   | (with_reducible refine LeO.ite ?_ ?_)
   | (with_reducible refine LeO.bind ?_ (fun _ => ?_))
   | exact ih0 _ _ _ _
   | exact platformfwlaw08_awake.mono _
   | exact platformfwlaw08_number.mono _ _ _ _
   | exact value_Binary.mono _ _ _ _ _ _ _ _ _ _
   | exact value_Unary.mono _ _ _ _ _ _
   | exact LeO.none _
   | refine LeO.ite ?_ ?_
   | refine LeO.bind ?_ (fun _ => ?_)
def platformfwlaw08_ValueArithmetic.T6 : Bool × List (List Nat × List Nat) := (true, [([], []), ([0], [0]), ([1, 0], [1]), ([2], [2]), ([2], [2]), ([3, 4, 2, 2], [2, 3, 4]), ([2], [2]), ([5, 6, 5, 2], [2, 5, 6]), ([2], [2]), ([7, 8, 2], [2, 7, 8]), ([2, 9], [2, 9]), ([10, 7], [10]), ([11], [11]), ([12, 11], [11, 12]), ([11], [11]), ([14, 11], [11, 14]), ([11], [11]), ([16, 11], [11, 16]), ([15, 17, 11, 11], [11, 15, 17]), ([13, 18, 11], [11, 13, 18]), ([11, 19], [11, 19]), ([20, 18], [20]), ([21], [21]), ([21], [21]), ([22, 23, 21, 21], [21, 22, 23]), ([21], [21]), ([21], [21]), ([26, 21], [21, 26]), ([25, 27, 24, 21], [21, 25, 27]), ([24, 28, 21], [21, 24, 28]), ([21, 29], [21, 29])])
def platformfwlaw08_ValueArithmetic.B6 : List Nat := [0, 1, 3, 7, 7, 31, 7, 127, 7, 511, 1023, 2047, 4095, 8191, 4095, 20479, 4095, 69631, 249855, 524287, 1048575, 2097151, 4194303, 4194303, 16777215, 4194303, 4194303, 71303167, 268435455, 536870911, 1073741823]
theorem platformfwlaw08_ValueArithmetic.tab6 : rtab .any (opsOf Tryd.f7 6) = platformfwlaw08_ValueArithmetic.T6 := by kernel_rfl
theorem platformfwlaw08_ValueArithmetic.bits6 : waitsOk platformfwlaw08_ValueArithmetic.T6.2 platformfwlaw08_ValueArithmetic.B6 = true := by kernel_rfl
set_option maxHeartbeats 8000000 in
set_option maxRecDepth 100000 in
theorem platformfwlaw08_ValueArithmetic.calls (k : Nat) (a0 : Int) (a1 : Int) (a2 : Int) (r : Bool) (w : World) (hT_ : w.cell? ⟨6, 15, none⟩ = some (.int .u8 4)) (hr_ : Aside0 (r = true)) (h : platformfwlaw08_ValueArithmetic.f k a0 a1 a2 = some r) :
  Calls Tryd.prog 7 #[.int .u64 a0, .int .u64 a1, .int .u8 a2] w fun e w' => e = .returned (.bool r) ∧ Below w.heap.size w w' := by
 have HTT_ := Aside0.mk hT_
 clear hT_
 have hu24 := Tryd.underlying24
 have HB := Aside0.mk (Below.refl w.heap.size w)
 have H : ((platformfwlaw08_number.f k 65 a0 a1).bind fun t380 => ((platformfwref08_Number.f t380).bind fun bt381 => ((value_Unary.f k 77 bt381.1 bt381.2.1 bt381.2.2.1 bt381.2.2.2).bind fun bt385 => ((platformfwref08_Number.f a0).bind fun bt391 => ((value_Unary.f k 77 bt391.1 bt391.2.1 bt391.2.2.1 bt391.2.2.2).bind fun bt395 => ((platformfwref08_Number.f a1).bind fun bt401 => ((value_Unary.f k 77 bt401.1 bt401.2.1 bt401.2.2.1 bt401.2.2.2).bind fun bt405 => ((platformfwref08_Number.f a0).bind fun bt411 => ((platformfwref08_Number.f a1).bind fun bt415 => ((value_Binary.f k 63 bt411.1 bt411.2.1 bt411.2.2.1 bt411.2.2.2 bt415.1 bt415.2.1 bt415.2.2.1 bt415.2.2.2).bind fun bt419 => ((platformfwlaw08_awake.f k).bind fun t425 => (if t425 = true then ((platformfwlaw08_number.f k 60 a0 a1).bind fun t426 => ((platformfwlaw08_number.f k 61 t426 a1).bind fun t427 => (if t427 = a0 then ((platformfwlaw08_number.f k 66 bt395.2.1 bt405.2.1).bind fun t428 => (if bt385.2.1 = t428 then ((platformfwlaw08_number.f k 68 a0 (IntKind.u64.wrap (Int.tmod a2 64))).bind fun t429 => (if 0 ≤ (IntKind.u64.wrap (Int.tmod a2 64)) then ((platformfwlaw08_number.f k 62 a0 (shl .u64 1 (IntKind.u64.wrap (Int.tmod a2 64)))).bind fun t430 => (platformfwlaw08_ValueArithmetic.j0 k a0 a1 bt419.2.2.2.2 (t429 != t430))) else (none))) else (platformfwlaw08_ValueArithmetic.j0 k a0 a1 bt419.2.2.2.2 true))) else (platformfwlaw08_ValueArithmetic.j0 k a0 a1 bt419.2.2.2.2 true)))) else (platformfwlaw08_ValueArithmetic.j0 k a0 a1 bt419.2.2.2.2 true))))))))))))) = some r := h
 clear h
 replace H := Option.bind_eq_some_iff.mp H
 obtain ⟨t380, A40, H⟩ := H
 replace H : ((platformfwref08_Number.f t380).bind fun bt381 => ((value_Unary.f k 77 bt381.1 bt381.2.1 bt381.2.2.1 bt381.2.2.2).bind fun bt385 => ((platformfwref08_Number.f a0).bind fun bt391 => ((value_Unary.f k 77 bt391.1 bt391.2.1 bt391.2.2.1 bt391.2.2.2).bind fun bt395 => ((platformfwref08_Number.f a1).bind fun bt401 => ((value_Unary.f k 77 bt401.1 bt401.2.1 bt401.2.2.1 bt401.2.2.2).bind fun bt405 => ((platformfwref08_Number.f a0).bind fun bt411 => ((platformfwref08_Number.f a1).bind fun bt415 => ((value_Binary.f k 63 bt411.1 bt411.2.1 bt411.2.2.1 bt411.2.2.2 bt415.1 bt415.2.1 bt415.2.2.1 bt415.2.2.2).bind fun bt419 => ((platformfwlaw08_awake.f k).bind fun t425 => (if t425 = true then ((platformfwlaw08_number.f k 60 a0 a1).bind fun t426 => ((platformfwlaw08_number.f k 61 t426 a1).bind fun t427 => (if t427 = a0 then ((platformfwlaw08_number.f k 66 bt395.2.1 bt405.2.1).bind fun t428 => (if bt385.2.1 = t428 then ((platformfwlaw08_number.f k 68 a0 (IntKind.u64.wrap (Int.tmod a2 64))).bind fun t429 => (if 0 ≤ (IntKind.u64.wrap (Int.tmod a2 64)) then ((platformfwlaw08_number.f k 62 a0 (shl .u64 1 (IntKind.u64.wrap (Int.tmod a2 64)))).bind fun t430 => (platformfwlaw08_ValueArithmetic.j0 k a0 a1 bt419.2.2.2.2 (t429 != t430))) else (none))) else (platformfwlaw08_ValueArithmetic.j0 k a0 a1 bt419.2.2.2.2 true))) else (platformfwlaw08_ValueArithmetic.j0 k a0 a1 bt419.2.2.2.2 true)))) else (platformfwlaw08_ValueArithmetic.j0 k a0 a1 bt419.2.2.2.2 true)))))))))))) = some r := H
 have A4 := Aside0.mk A40
 clear A40
 replace H := Option.bind_eq_some_iff.mp H
 obtain ⟨⟨t381, t382, t383, t384⟩, A50, H⟩ := H
 replace H : ((value_Unary.f k 77 t381 t382 t383 t384).bind fun bt385 => ((platformfwref08_Number.f a0).bind fun bt391 => ((value_Unary.f k 77 bt391.1 bt391.2.1 bt391.2.2.1 bt391.2.2.2).bind fun bt395 => ((platformfwref08_Number.f a1).bind fun bt401 => ((value_Unary.f k 77 bt401.1 bt401.2.1 bt401.2.2.1 bt401.2.2.2).bind fun bt405 => ((platformfwref08_Number.f a0).bind fun bt411 => ((platformfwref08_Number.f a1).bind fun bt415 => ((value_Binary.f k 63 bt411.1 bt411.2.1 bt411.2.2.1 bt411.2.2.2 bt415.1 bt415.2.1 bt415.2.2.1 bt415.2.2.2).bind fun bt419 => ((platformfwlaw08_awake.f k).bind fun t425 => (if t425 = true then ((platformfwlaw08_number.f k 60 a0 a1).bind fun t426 => ((platformfwlaw08_number.f k 61 t426 a1).bind fun t427 => (if t427 = a0 then ((platformfwlaw08_number.f k 66 bt395.2.1 bt405.2.1).bind fun t428 => (if bt385.2.1 = t428 then ((platformfwlaw08_number.f k 68 a0 (IntKind.u64.wrap (Int.tmod a2 64))).bind fun t429 => (if 0 ≤ (IntKind.u64.wrap (Int.tmod a2 64)) then ((platformfwlaw08_number.f k 62 a0 (shl .u64 1 (IntKind.u64.wrap (Int.tmod a2 64)))).bind fun t430 => (platformfwlaw08_ValueArithmetic.j0 k a0 a1 bt419.2.2.2.2 (t429 != t430))) else (none))) else (platformfwlaw08_ValueArithmetic.j0 k a0 a1 bt419.2.2.2.2 true))) else (platformfwlaw08_ValueArithmetic.j0 k a0 a1 bt419.2.2.2.2 true)))) else (platformfwlaw08_ValueArithmetic.j0 k a0 a1 bt419.2.2.2.2 true))))))))))) = some r := H
 have A5 := Aside0.mk A50
 clear A50
 replace H := Option.bind_eq_some_iff.mp H
 obtain ⟨⟨t385, t386, t387, t388, t389⟩, A60, H⟩ := H
 replace H : ((platformfwref08_Number.f a0).bind fun bt391 => ((value_Unary.f k 77 bt391.1 bt391.2.1 bt391.2.2.1 bt391.2.2.2).bind fun bt395 => ((platformfwref08_Number.f a1).bind fun bt401 => ((value_Unary.f k 77 bt401.1 bt401.2.1 bt401.2.2.1 bt401.2.2.2).bind fun bt405 => ((platformfwref08_Number.f a0).bind fun bt411 => ((platformfwref08_Number.f a1).bind fun bt415 => ((value_Binary.f k 63 bt411.1 bt411.2.1 bt411.2.2.1 bt411.2.2.2 bt415.1 bt415.2.1 bt415.2.2.1 bt415.2.2.2).bind fun bt419 => ((platformfwlaw08_awake.f k).bind fun t425 => (if t425 = true then ((platformfwlaw08_number.f k 60 a0 a1).bind fun t426 => ((platformfwlaw08_number.f k 61 t426 a1).bind fun t427 => (if t427 = a0 then ((platformfwlaw08_number.f k 66 bt395.2.1 bt405.2.1).bind fun t428 => (if t386 = t428 then ((platformfwlaw08_number.f k 68 a0 (IntKind.u64.wrap (Int.tmod a2 64))).bind fun t429 => (if 0 ≤ (IntKind.u64.wrap (Int.tmod a2 64)) then ((platformfwlaw08_number.f k 62 a0 (shl .u64 1 (IntKind.u64.wrap (Int.tmod a2 64)))).bind fun t430 => (platformfwlaw08_ValueArithmetic.j0 k a0 a1 bt419.2.2.2.2 (t429 != t430))) else (none))) else (platformfwlaw08_ValueArithmetic.j0 k a0 a1 bt419.2.2.2.2 true))) else (platformfwlaw08_ValueArithmetic.j0 k a0 a1 bt419.2.2.2.2 true)))) else (platformfwlaw08_ValueArithmetic.j0 k a0 a1 bt419.2.2.2.2 true)))))))))) = some r := H
 have A6 := Aside0.mk A60
 clear A60
 replace H := Option.bind_eq_some_iff.mp H
 obtain ⟨⟨t391, t392, t393, t394⟩, A70, H⟩ := H
 replace H : ((value_Unary.f k 77 t391 t392 t393 t394).bind fun bt395 => ((platformfwref08_Number.f a1).bind fun bt401 => ((value_Unary.f k 77 bt401.1 bt401.2.1 bt401.2.2.1 bt401.2.2.2).bind fun bt405 => ((platformfwref08_Number.f a0).bind fun bt411 => ((platformfwref08_Number.f a1).bind fun bt415 => ((value_Binary.f k 63 bt411.1 bt411.2.1 bt411.2.2.1 bt411.2.2.2 bt415.1 bt415.2.1 bt415.2.2.1 bt415.2.2.2).bind fun bt419 => ((platformfwlaw08_awake.f k).bind fun t425 => (if t425 = true then ((platformfwlaw08_number.f k 60 a0 a1).bind fun t426 => ((platformfwlaw08_number.f k 61 t426 a1).bind fun t427 => (if t427 = a0 then ((platformfwlaw08_number.f k 66 bt395.2.1 bt405.2.1).bind fun t428 => (if t386 = t428 then ((platformfwlaw08_number.f k 68 a0 (IntKind.u64.wrap (Int.tmod a2 64))).bind fun t429 => (if 0 ≤ (IntKind.u64.wrap (Int.tmod a2 64)) then ((platformfwlaw08_number.f k 62 a0 (shl .u64 1 (IntKind.u64.wrap (Int.tmod a2 64)))).bind fun t430 => (platformfwlaw08_ValueArithmetic.j0 k a0 a1 bt419.2.2.2.2 (t429 != t430))) else (none))) else (platformfwlaw08_ValueArithmetic.j0 k a0 a1 bt419.2.2.2.2 true))) else (platformfwlaw08_ValueArithmetic.j0 k a0 a1 bt419.2.2.2.2 true)))) else (platformfwlaw08_ValueArithmetic.j0 k a0 a1 bt419.2.2.2.2 true))))))))) = some r := H
 have A7 := Aside0.mk A70
 clear A70
 replace H := Option.bind_eq_some_iff.mp H
 obtain ⟨⟨t395, t396, t397, t398, t399⟩, A80, H⟩ := H
 replace H : ((platformfwref08_Number.f a1).bind fun bt401 => ((value_Unary.f k 77 bt401.1 bt401.2.1 bt401.2.2.1 bt401.2.2.2).bind fun bt405 => ((platformfwref08_Number.f a0).bind fun bt411 => ((platformfwref08_Number.f a1).bind fun bt415 => ((value_Binary.f k 63 bt411.1 bt411.2.1 bt411.2.2.1 bt411.2.2.2 bt415.1 bt415.2.1 bt415.2.2.1 bt415.2.2.2).bind fun bt419 => ((platformfwlaw08_awake.f k).bind fun t425 => (if t425 = true then ((platformfwlaw08_number.f k 60 a0 a1).bind fun t426 => ((platformfwlaw08_number.f k 61 t426 a1).bind fun t427 => (if t427 = a0 then ((platformfwlaw08_number.f k 66 t396 bt405.2.1).bind fun t428 => (if t386 = t428 then ((platformfwlaw08_number.f k 68 a0 (IntKind.u64.wrap (Int.tmod a2 64))).bind fun t429 => (if 0 ≤ (IntKind.u64.wrap (Int.tmod a2 64)) then ((platformfwlaw08_number.f k 62 a0 (shl .u64 1 (IntKind.u64.wrap (Int.tmod a2 64)))).bind fun t430 => (platformfwlaw08_ValueArithmetic.j0 k a0 a1 bt419.2.2.2.2 (t429 != t430))) else (none))) else (platformfwlaw08_ValueArithmetic.j0 k a0 a1 bt419.2.2.2.2 true))) else (platformfwlaw08_ValueArithmetic.j0 k a0 a1 bt419.2.2.2.2 true)))) else (platformfwlaw08_ValueArithmetic.j0 k a0 a1 bt419.2.2.2.2 true)))))))) = some r := H
 have A8 := Aside0.mk A80
 clear A80
 replace H := Option.bind_eq_some_iff.mp H
 obtain ⟨⟨t401, t402, t403, t404⟩, A90, H⟩ := H
 replace H : ((value_Unary.f k 77 t401 t402 t403 t404).bind fun bt405 => ((platformfwref08_Number.f a0).bind fun bt411 => ((platformfwref08_Number.f a1).bind fun bt415 => ((value_Binary.f k 63 bt411.1 bt411.2.1 bt411.2.2.1 bt411.2.2.2 bt415.1 bt415.2.1 bt415.2.2.1 bt415.2.2.2).bind fun bt419 => ((platformfwlaw08_awake.f k).bind fun t425 => (if t425 = true then ((platformfwlaw08_number.f k 60 a0 a1).bind fun t426 => ((platformfwlaw08_number.f k 61 t426 a1).bind fun t427 => (if t427 = a0 then ((platformfwlaw08_number.f k 66 t396 bt405.2.1).bind fun t428 => (if t386 = t428 then ((platformfwlaw08_number.f k 68 a0 (IntKind.u64.wrap (Int.tmod a2 64))).bind fun t429 => (if 0 ≤ (IntKind.u64.wrap (Int.tmod a2 64)) then ((platformfwlaw08_number.f k 62 a0 (shl .u64 1 (IntKind.u64.wrap (Int.tmod a2 64)))).bind fun t430 => (platformfwlaw08_ValueArithmetic.j0 k a0 a1 bt419.2.2.2.2 (t429 != t430))) else (none))) else (platformfwlaw08_ValueArithmetic.j0 k a0 a1 bt419.2.2.2.2 true))) else (platformfwlaw08_ValueArithmetic.j0 k a0 a1 bt419.2.2.2.2 true)))) else (platformfwlaw08_ValueArithmetic.j0 k a0 a1 bt419.2.2.2.2 true))))))) = some r := H
 have A9 := Aside0.mk A90
 clear A90
 replace H := Option.bind_eq_some_iff.mp H
 obtain ⟨⟨t405, t406, t407, t408, t409⟩, A100, H⟩ := H
 replace H : ((platformfwref08_Number.f a0).bind fun bt411 => ((platformfwref08_Number.f a1).bind fun bt415 => ((value_Binary.f k 63 bt411.1 bt411.2.1 bt411.2.2.1 bt411.2.2.2 bt415.1 bt415.2.1 bt415.2.2.1 bt415.2.2.2).bind fun bt419 => ((platformfwlaw08_awake.f k).bind fun t425 => (if t425 = true then ((platformfwlaw08_number.f k 60 a0 a1).bind fun t426 => ((platformfwlaw08_number.f k 61 t426 a1).bind fun t427 => (if t427 = a0 then ((platformfwlaw08_number.f k 66 t396 t406).bind fun t428 => (if t386 = t428 then ((platformfwlaw08_number.f k 68 a0 (IntKind.u64.wrap (Int.tmod a2 64))).bind fun t429 => (if 0 ≤ (IntKind.u64.wrap (Int.tmod a2 64)) then ((platformfwlaw08_number.f k 62 a0 (shl .u64 1 (IntKind.u64.wrap (Int.tmod a2 64)))).bind fun t430 => (platformfwlaw08_ValueArithmetic.j0 k a0 a1 bt419.2.2.2.2 (t429 != t430))) else (none))) else (platformfwlaw08_ValueArithmetic.j0 k a0 a1 bt419.2.2.2.2 true))) else (platformfwlaw08_ValueArithmetic.j0 k a0 a1 bt419.2.2.2.2 true)))) else (platformfwlaw08_ValueArithmetic.j0 k a0 a1 bt419.2.2.2.2 true)))))) = some r := H
 have A10 := Aside0.mk A100
 clear A100
 replace H := Option.bind_eq_some_iff.mp H
 obtain ⟨⟨t411, t412, t413, t414⟩, A110, H⟩ := H
 replace H : ((platformfwref08_Number.f a1).bind fun bt415 => ((value_Binary.f k 63 t411 t412 t413 t414 bt415.1 bt415.2.1 bt415.2.2.1 bt415.2.2.2).bind fun bt419 => ((platformfwlaw08_awake.f k).bind fun t425 => (if t425 = true then ((platformfwlaw08_number.f k 60 a0 a1).bind fun t426 => ((platformfwlaw08_number.f k 61 t426 a1).bind fun t427 => (if t427 = a0 then ((platformfwlaw08_number.f k 66 t396 t406).bind fun t428 => (if t386 = t428 then ((platformfwlaw08_number.f k 68 a0 (IntKind.u64.wrap (Int.tmod a2 64))).bind fun t429 => (if 0 ≤ (IntKind.u64.wrap (Int.tmod a2 64)) then ((platformfwlaw08_number.f k 62 a0 (shl .u64 1 (IntKind.u64.wrap (Int.tmod a2 64)))).bind fun t430 => (platformfwlaw08_ValueArithmetic.j0 k a0 a1 bt419.2.2.2.2 (t429 != t430))) else (none))) else (platformfwlaw08_ValueArithmetic.j0 k a0 a1 bt419.2.2.2.2 true))) else (platformfwlaw08_ValueArithmetic.j0 k a0 a1 bt419.2.2.2.2 true)))) else (platformfwlaw08_ValueArithmetic.j0 k a0 a1 bt419.2.2.2.2 true))))) = some r := H
 have A11 := Aside0.mk A110
 clear A110
 replace H := Option.bind_eq_some_iff.mp H
 obtain ⟨⟨t415, t416, t417, t418⟩, A120, H⟩ := H
 replace H : ((value_Binary.f k 63 t411 t412 t413 t414 t415 t416 t417 t418).bind fun bt419 => ((platformfwlaw08_awake.f k).bind fun t425 => (if t425 = true then ((platformfwlaw08_number.f k 60 a0 a1).bind fun t426 => ((platformfwlaw08_number.f k 61 t426 a1).bind fun t427 => (if t427 = a0 then ((platformfwlaw08_number.f k 66 t396 t406).bind fun t428 => (if t386 = t428 then ((platformfwlaw08_number.f k 68 a0 (IntKind.u64.wrap (Int.tmod a2 64))).bind fun t429 => (if 0 ≤ (IntKind.u64.wrap (Int.tmod a2 64)) then ((platformfwlaw08_number.f k 62 a0 (shl .u64 1 (IntKind.u64.wrap (Int.tmod a2 64)))).bind fun t430 => (platformfwlaw08_ValueArithmetic.j0 k a0 a1 bt419.2.2.2.2 (t429 != t430))) else (none))) else (platformfwlaw08_ValueArithmetic.j0 k a0 a1 bt419.2.2.2.2 true))) else (platformfwlaw08_ValueArithmetic.j0 k a0 a1 bt419.2.2.2.2 true)))) else (platformfwlaw08_ValueArithmetic.j0 k a0 a1 bt419.2.2.2.2 true)))) = some r := H
 have A12 := Aside0.mk A120
 clear A120
 replace H := Option.bind_eq_some_iff.mp H
 obtain ⟨⟨t419, t420, t421, t422, t423⟩, A130, H⟩ := H
 replace H : ((platformfwlaw08_awake.f k).bind fun t425 => (if t425 = true then ((platformfwlaw08_number.f k 60 a0 a1).bind fun t426 => ((platformfwlaw08_number.f k 61 t426 a1).bind fun t427 => (if t427 = a0 then ((platformfwlaw08_number.f k 66 t396 t406).bind fun t428 => (if t386 = t428 then ((platformfwlaw08_number.f k 68 a0 (IntKind.u64.wrap (Int.tmod a2 64))).bind fun t429 => (if 0 ≤ (IntKind.u64.wrap (Int.tmod a2 64)) then ((platformfwlaw08_number.f k 62 a0 (shl .u64 1 (IntKind.u64.wrap (Int.tmod a2 64)))).bind fun t430 => (platformfwlaw08_ValueArithmetic.j0 k a0 a1 t423 (t429 != t430))) else (none))) else (platformfwlaw08_ValueArithmetic.j0 k a0 a1 t423 true))) else (platformfwlaw08_ValueArithmetic.j0 k a0 a1 t423 true)))) else (platformfwlaw08_ValueArithmetic.j0 k a0 a1 t423 true))) = some r := H
 have A13 := Aside0.mk A130
 clear A130
 have HC14 := Aside0.mk H
 clear H
 go_enter Tryd.func7, Tryd.ntmps7
 go_upto_region 6 with (first | ((with_reducible refine gate_callee (f := 24) rfl ?_); refine goesL_ (some 23) rfl rfl Tryd.func24 (by kernel_rfl) rfl #[.int .i64 65, .int .u64 a0, .int .u64 a1] rfl (by (try simp only [List.map_toArray, List.map_cons, List.map_nil]); first | done | rfl | (simp only [List.length_drop, List.length_take]; rfl)) ?_; (with_reducible refine (platformfwlaw08_number.calls k 65 a0 a1 t380 _ ?hTT_ A4.out).mono ?_); (case hTT_ => exact tb_below HTT_.out (by repeat (first | (with_reducible first | exact HB.out | apply bA_ | apply bN_ | apply bD_) | exact HB.out))); rintro e w15 ⟨rfl, hb⟩; refine ⟨_, rfl, ?_⟩; have n0_ := Aside0.mk (below_step (by repeat (first | (with_reducible first | exact HB.out | apply bA_ | apply bN_ | apply bD_) | exact HB.out)) hb); clear HB; have HB := n0_; clear n0_; (try clear hb); (try clear hb2); (try clear hk); (try clear hi)) | ((with_reducible refine gate_callee (f := 19) rfl ?_); refine goesL_ (some 24) rfl rfl Tryd.func19 (by kernel_rfl) rfl #[.int .u64 t380] rfl (by (try simp only [List.map_toArray, List.map_cons, List.map_nil]); first | done | rfl | (simp only [List.length_drop, List.length_take]; rfl)) ?_; (with_reducible refine (platformfwref08_Number.calls t380 t381 t382 t383 t384 _ A5.out).mono ?_); rintro e w16 ⟨rfl, hb⟩; refine ⟨_, rfl, ?_⟩; have n0_ := Aside0.mk (below_step (by repeat (first | (with_reducible first | exact HB.out | apply bA_ | apply bN_ | apply bD_) | exact HB.out)) hb); clear HB; have HB := n0_; clear n0_; (try clear hb); (try clear hb2); (try clear hk); (try clear hi)) | ((with_reducible refine gate_callee (f := 23) rfl ?_); refine goesL_ (some 25) rfl rfl Tryd.func23 (by kernel_rfl) rfl #[.int .i64 77, .agg #[.int .i64 t381, .int .u64 t382, .string t383, .int .i64 t384]] rfl (by (try simp only [List.map_toArray, List.map_cons, List.map_nil]); first | done | rfl | (simp only [List.length_drop, List.length_take]; rfl)) ?_; (with_reducible refine (value_Unary.calls k 77 t381 t382 t383 t384 t385 t386 t387 t388 t389 _ ?hTT_ A6.out).mono ?_); (case hTT_ => exact tb_below HTT_.out (by repeat (first | (with_reducible first | exact HB.out | apply bA_ | apply bN_ | apply bD_) | exact HB.out))); rintro e w17 ⟨rfl, hb⟩; refine ⟨_, rfl, ?_⟩; have n0_ := Aside0.mk (below_step (by repeat (first | (with_reducible first | exact HB.out | apply bA_ | apply bN_ | apply bD_) | exact HB.out)) hb); clear HB; have HB := n0_; clear n0_; (try clear hb); (try clear hb2); (try clear hk); (try clear hi)) | ((with_reducible refine gate_dst (N := 8) rfl ?_); refine box_event ?hg (N := 8) ?hd (cs := #[.int .i64 0, .int .u64 0, .string (⟨#[]⟩ : ByteArray), .int .i64 0]) (t := 24) ?hr ?_; (case hd => rfl); (case hg => rfl); (case hr => first | (go_simp; done) | (go_simp; rfl)); intro gb390 hg w18 hbox hb; have n0_ := Aside0.mk (below_step (by repeat (first | (with_reducible first | exact HB.out | apply bA_ | apply bN_ | apply bD_) | exact HB.out)) hb); have n1_ := Aside0.mk (hbox); have n2_ := Aside0.mk ((by rw [hg]; exact (below_size (by repeat (first | (with_reducible first | exact HB.out | apply bA_ | apply bN_ | apply bD_) | exact HB.out))) : w.heap.size ≤ gb390)); have n3_ := Aside0.mk ((by rw [hg]; exact (below_size (by repeat (first | (with_reducible first | exact HB.out | apply bA_ | apply bN_ | apply bD_) | exact HB.out))) : w.heap.size ≤ gb390)); clear HB; have HB := n0_; have BK390 := n1_; have GW390 := n2_; have GE390 := n3_; clear n0_ n1_ n2_ n3_; clear hb hbox hg; obtain ⟨hcz19_0, hcz19_1, hcz19_2, hcz19_3⟩ := cells4_ BK390.out; obtain ⟨hfz19_0, hfz19_1, hfz19_2, hfz19_3⟩ := froz4_ BK390.out) | ((with_reducible refine gate_callee (f := 19) rfl ?_); refine goesL_ (some 30) rfl rfl Tryd.func19 (by kernel_rfl) rfl #[.int .u64 a0] rfl (by (try simp only [List.map_toArray, List.map_cons, List.map_nil]); first | done | rfl | (simp only [List.length_drop, List.length_take]; rfl)) ?_; (with_reducible refine (platformfwref08_Number.calls a0 t391 t392 t393 t394 _ A7.out).mono ?_); rintro e w20 ⟨rfl, hb⟩; refine ⟨_, rfl, ?_⟩; have n0_ := Aside0.mk (blk_below (g := gb390) (o := .cells #[.int .i64 t385, .int .u64 t386, .string t387, .int .i64 t388] 24 (0, 0)) (by (with_reducible repeat (first | apply kN_ | apply kD_ | apply kA_)); refine blk_put (cs := #[.int .i64 t385, .int .u64 t386, .string t387, .int .i64 0]) ?_ 3 _ rfl; (with_reducible repeat (first | apply kN_ | apply kD_ | apply kA_)); refine blk_put (cs := #[.int .i64 t385, .int .u64 t386, .string (⟨#[]⟩ : ByteArray), .int .i64 0]) ?_ 2 _ rfl; (with_reducible repeat (first | apply kN_ | apply kD_ | apply kA_)); refine blk_put (cs := #[.int .i64 t385, .int .u64 0, .string (⟨#[]⟩ : ByteArray), .int .i64 0]) ?_ 1 _ rfl; (with_reducible repeat (first | apply kN_ | apply kD_ | apply kA_)); refine blk_put (cs := #[.int .i64 0, .int .u64 0, .string (⟨#[]⟩ : ByteArray), .int .i64 0]) ?_ 0 _ rfl; (with_reducible repeat (first | apply kN_ | apply kD_ | apply kA_)); exact BK390.out) hb); have n1_ := Aside0.mk (below_step (by repeat (first | (with_reducible first | exact HB.out | apply bA_ | apply bN_ | apply bD_ | refine bS_ ?_ GE390.out) | exact HB.out)) hb); clear BK390; clear HB; have BK390 := n0_; have HB := n1_; clear n0_ n1_; (try clear hb); (try clear hb2); (try clear hk); (try clear hi)) | ((with_reducible refine gate_callee (f := 23) rfl ?_); refine goesL_ (some 31) rfl rfl Tryd.func23 (by kernel_rfl) rfl #[.int .i64 77, .agg #[.int .i64 t391, .int .u64 t392, .string t393, .int .i64 t394]] rfl (by (try simp only [List.map_toArray, List.map_cons, List.map_nil]); first | done | rfl | (simp only [List.length_drop, List.length_take]; rfl)) ?_; (with_reducible refine (value_Unary.calls k 77 t391 t392 t393 t394 t395 t396 t397 t398 t399 _ ?hTT_ A8.out).mono ?_); (case hTT_ => exact tb_below HTT_.out (by repeat (first | (with_reducible first | exact HB.out | apply bA_ | apply bN_ | apply bD_ | refine bS_ ?_ GE390.out) | exact HB.out))); rintro e w21 ⟨rfl, hb⟩; refine ⟨_, rfl, ?_⟩; have n0_ := Aside0.mk (blk_below (g := gb390) (o := .cells #[.int .i64 t385, .int .u64 t386, .string t387, .int .i64 t388] 24 (0, 0)) (by (with_reducible repeat (first | apply kN_ | apply kD_ | apply kA_)); exact BK390.out) hb); have n1_ := Aside0.mk (below_step (by repeat (first | (with_reducible first | exact HB.out | apply bA_ | apply bN_ | apply bD_ | refine bS_ ?_ GE390.out) | exact HB.out)) hb); clear BK390; clear HB; have BK390 := n0_; have HB := n1_; clear n0_ n1_; (try clear hb); (try clear hb2); (try clear hk); (try clear hi)) | ((with_reducible refine gate_dst (N := 10) rfl ?_); refine box_event ?hg (N := 10) ?hd (cs := #[.int .i64 0, .int .u64 0, .string (⟨#[]⟩ : ByteArray), .int .i64 0]) (t := 24) ?hr ?_; (case hd => rfl); (case hg => rfl); (case hr => first | (go_simp; done) | (go_simp; rfl)); intro gb400 hg w22 hbox hb; have n0_ := Aside0.mk (blk_below (g := gb390) (o := .cells #[.int .i64 t385, .int .u64 t386, .string t387, .int .i64 t388] 24 (0, 0)) (by (with_reducible repeat (first | apply kN_ | apply kD_ | apply kA_)); exact BK390.out) hb); have n1_ := Aside0.mk (below_step (by repeat (first | (with_reducible first | exact HB.out | apply bA_ | apply bN_ | apply bD_ | refine bS_ ?_ GE390.out) | exact HB.out)) hb); have n2_ := Aside0.mk (hbox); have n3_ := Aside0.mk ((by rw [hg]; exact (below_size (by repeat (first | (with_reducible first | exact HB.out | apply bA_ | apply bN_ | apply bD_ | refine bS_ ?_ GE390.out) | exact HB.out))) : w.heap.size ≤ gb400)); have n4_ := Aside0.mk ((by rw [hg]; exact (below_size (by repeat (first | (with_reducible first | exact HB.out | apply bA_ | apply bN_ | apply bD_ | refine bS_ ?_ GE390.out) | exact HB.out))) : w.heap.size ≤ gb400)); have n5_ := Aside0.mk ((by rw [hg]; exact Nat.ne_of_lt (blk_lt (g := gb390) (o := .cells #[.int .i64 t385, .int .u64 t386, .string t387, .int .i64 t388] 24 (0, 0)) (by (with_reducible repeat (first | apply kN_ | apply kD_ | apply kA_)); exact BK390.out)) : gb390 ≠ gb400)); have n6_ := Aside0.mk ((by rw [hg]; exact Nat.ne_of_gt (blk_lt (g := gb390) (o := .cells #[.int .i64 t385, .int .u64 t386, .string t387, .int .i64 t388] 24 (0, 0)) (by (with_reducible repeat (first | apply kN_ | apply kD_ | apply kA_)); exact BK390.out)) : gb400 ≠ gb390)); clear BK390; clear HB; have BK390 := n0_; have HB := n1_; have BK400 := n2_; have GW400 := n3_; have GE400 := n4_; have NB390_400 := n5_; have NB400_390 := n6_; clear n0_ n1_ n2_ n3_ n4_ n5_ n6_; clear hb hbox hg; have hnb23 := NB400_390.out; have hnc23 := NB390_400.out; obtain ⟨hcz24_0, hcz24_1, hcz24_2, hcz24_3⟩ := cells4_ BK400.out; obtain ⟨hfz24_0, hfz24_1, hfz24_2, hfz24_3⟩ := froz4_ BK400.out) | ((with_reducible refine gate_callee (f := 19) rfl ?_); refine goesL_ (some 36) rfl rfl Tryd.func19 (by kernel_rfl) rfl #[.int .u64 a1] rfl (by (try simp only [List.map_toArray, List.map_cons, List.map_nil]); first | done | rfl | (simp only [List.length_drop, List.length_take]; rfl)) ?_; (with_reducible refine (platformfwref08_Number.calls a1 t401 t402 t403 t404 _ A9.out).mono ?_); rintro e w25 ⟨rfl, hb⟩; refine ⟨_, rfl, ?_⟩; have n0_ := Aside0.mk (blk_below (g := gb390) (o := .cells #[.int .i64 t385, .int .u64 t386, .string t387, .int .i64 t388] 24 (0, 0)) (by (with_reducible repeat (first | apply kN_ | apply kD_ | apply kA_)); refine blk_far ?_ NB390_400.out _; (with_reducible repeat (first | apply kN_ | apply kD_ | apply kA_)); refine blk_far ?_ NB390_400.out _; (with_reducible repeat (first | apply kN_ | apply kD_ | apply kA_)); refine blk_far ?_ NB390_400.out _; (with_reducible repeat (first | apply kN_ | apply kD_ | apply kA_)); refine blk_far ?_ NB390_400.out _; (with_reducible repeat (first | apply kN_ | apply kD_ | apply kA_)); exact BK390.out) hb); have n1_ := Aside0.mk (blk_below (g := gb400) (o := .cells #[.int .i64 t395, .int .u64 t396, .string t397, .int .i64 t398] 24 (0, 0)) (by (with_reducible repeat (first | apply kN_ | apply kD_ | apply kA_)); refine blk_put (cs := #[.int .i64 t395, .int .u64 t396, .string t397, .int .i64 0]) ?_ 3 _ rfl; (with_reducible repeat (first | apply kN_ | apply kD_ | apply kA_)); refine blk_put (cs := #[.int .i64 t395, .int .u64 t396, .string (⟨#[]⟩ : ByteArray), .int .i64 0]) ?_ 2 _ rfl; (with_reducible repeat (first | apply kN_ | apply kD_ | apply kA_)); refine blk_put (cs := #[.int .i64 t395, .int .u64 0, .string (⟨#[]⟩ : ByteArray), .int .i64 0]) ?_ 1 _ rfl; (with_reducible repeat (first | apply kN_ | apply kD_ | apply kA_)); refine blk_put (cs := #[.int .i64 0, .int .u64 0, .string (⟨#[]⟩ : ByteArray), .int .i64 0]) ?_ 0 _ rfl; (with_reducible repeat (first | apply kN_ | apply kD_ | apply kA_)); exact BK400.out) hb); have n2_ := Aside0.mk (below_step (by repeat (first | (with_reducible first | exact HB.out | apply bA_ | apply bN_ | apply bD_ | refine bS_ ?_ GE390.out | refine bS_ ?_ GE400.out) | exact HB.out)) hb); clear BK390; clear BK400; clear HB; have BK390 := n0_; have BK400 := n1_; have HB := n2_; clear n0_ n1_ n2_; (try clear hb); (try clear hb2); (try clear hk); (try clear hi)) | ((with_reducible refine gate_callee (f := 23) rfl ?_); refine goesL_ (some 37) rfl rfl Tryd.func23 (by kernel_rfl) rfl #[.int .i64 77, .agg #[.int .i64 t401, .int .u64 t402, .string t403, .int .i64 t404]] rfl (by (try simp only [List.map_toArray, List.map_cons, List.map_nil]); first | done | rfl | (simp only [List.length_drop, List.length_take]; rfl)) ?_; (with_reducible refine (value_Unary.calls k 77 t401 t402 t403 t404 t405 t406 t407 t408 t409 _ ?hTT_ A10.out).mono ?_); (case hTT_ => exact tb_below HTT_.out (by repeat (first | (with_reducible first | exact HB.out | apply bA_ | apply bN_ | apply bD_ | refine bS_ ?_ GE390.out | refine bS_ ?_ GE400.out) | exact HB.out))); rintro e w26 ⟨rfl, hb⟩; refine ⟨_, rfl, ?_⟩; have n0_ := Aside0.mk (blk_below (g := gb390) (o := .cells #[.int .i64 t385, .int .u64 t386, .string t387, .int .i64 t388] 24 (0, 0)) (by (with_reducible repeat (first | apply kN_ | apply kD_ | apply kA_)); exact BK390.out) hb); have n1_ := Aside0.mk (blk_below (g := gb400) (o := .cells #[.int .i64 t395, .int .u64 t396, .string t397, .int .i64 t398] 24 (0, 0)) (by (with_reducible repeat (first | apply kN_ | apply kD_ | apply kA_)); exact BK400.out) hb); have n2_ := Aside0.mk (below_step (by repeat (first | (with_reducible first | exact HB.out | apply bA_ | apply bN_ | apply bD_ | refine bS_ ?_ GE390.out | refine bS_ ?_ GE400.out) | exact HB.out)) hb); clear BK390; clear BK400; clear HB; have BK390 := n0_; have BK400 := n1_; have HB := n2_; clear n0_ n1_ n2_; (try clear hb); (try clear hb2); (try clear hk); (try clear hi)) | ((with_reducible refine gate_dst (N := 12) rfl ?_); refine box_event ?hg (N := 12) ?hd (cs := #[.int .i64 0, .int .u64 0, .string (⟨#[]⟩ : ByteArray), .int .i64 0]) (t := 24) ?hr ?_; (case hd => rfl); (case hg => rfl); (case hr => first | (go_simp; done) | (go_simp; rfl)); intro gb410 hg w27 hbox hb; have n0_ := Aside0.mk (blk_below (g := gb390) (o := .cells #[.int .i64 t385, .int .u64 t386, .string t387, .int .i64 t388] 24 (0, 0)) (by (with_reducible repeat (first | apply kN_ | apply kD_ | apply kA_)); exact BK390.out) hb); have n1_ := Aside0.mk (blk_below (g := gb400) (o := .cells #[.int .i64 t395, .int .u64 t396, .string t397, .int .i64 t398] 24 (0, 0)) (by (with_reducible repeat (first | apply kN_ | apply kD_ | apply kA_)); exact BK400.out) hb); have n2_ := Aside0.mk (below_step (by repeat (first | (with_reducible first | exact HB.out | apply bA_ | apply bN_ | apply bD_ | refine bS_ ?_ GE390.out | refine bS_ ?_ GE400.out) | exact HB.out)) hb); have n3_ := Aside0.mk (hbox); have n4_ := Aside0.mk ((by rw [hg]; exact (below_size (by repeat (first | (with_reducible first | exact HB.out | apply bA_ | apply bN_ | apply bD_ | refine bS_ ?_ GE390.out | refine bS_ ?_ GE400.out) | exact HB.out))) : w.heap.size ≤ gb410)); have n5_ := Aside0.mk ((by rw [hg]; exact (below_size (by repeat (first | (with_reducible first | exact HB.out | apply bA_ | apply bN_ | apply bD_ | refine bS_ ?_ GE390.out | refine bS_ ?_ GE400.out) | exact HB.out))) : w.heap.size ≤ gb410)); have n6_ := Aside0.mk ((by rw [hg]; exact Nat.ne_of_lt (blk_lt (g := gb390) (o := .cells #[.int .i64 t385, .int .u64 t386, .string t387, .int .i64 t388] 24 (0, 0)) (by (with_reducible repeat (first | apply kN_ | apply kD_ | apply kA_)); exact BK390.out)) : gb390 ≠ gb410)); have n7_ := Aside0.mk ((by rw [hg]; exact Nat.ne_of_gt (blk_lt (g := gb390) (o := .cells #[.int .i64 t385, .int .u64 t386, .string t387, .int .i64 t388] 24 (0, 0)) (by (with_reducible repeat (first | apply kN_ | apply kD_ | apply kA_)); exact BK390.out)) : gb410 ≠ gb390)); have n8_ := Aside0.mk ((by rw [hg]; exact Nat.ne_of_lt (blk_lt (g := gb400) (o := .cells #[.int .i64 t395, .int .u64 t396, .string t397, .int .i64 t398] 24 (0, 0)) (by (with_reducible repeat (first | apply kN_ | apply kD_ | apply kA_)); exact BK400.out)) : gb400 ≠ gb410)); have n9_ := Aside0.mk ((by rw [hg]; exact Nat.ne_of_gt (blk_lt (g := gb400) (o := .cells #[.int .i64 t395, .int .u64 t396, .string t397, .int .i64 t398] 24 (0, 0)) (by (with_reducible repeat (first | apply kN_ | apply kD_ | apply kA_)); exact BK400.out)) : gb410 ≠ gb400)); clear BK390; clear BK400; clear HB; have BK390 := n0_; have BK400 := n1_; have HB := n2_; have BK410 := n3_; have GW410 := n4_; have GE410 := n5_; have NB390_410 := n6_; have NB410_390 := n7_; have NB400_410 := n8_; have NB410_400 := n9_; clear n0_ n1_ n2_ n3_ n4_ n5_ n6_ n7_ n8_ n9_; clear hb hbox hg; have hnb28 := NB410_390.out; have hnc28 := NB390_410.out; have hnb29 := NB410_400.out; have hnc29 := NB400_410.out; obtain ⟨hcz30_0, hcz30_1, hcz30_2, hcz30_3⟩ := cells4_ BK410.out; obtain ⟨hfz30_0, hfz30_1, hfz30_2, hfz30_3⟩ := froz4_ BK410.out) | ((with_reducible refine gate_callee (f := 19) rfl ?_); refine goesL_ (some 42) rfl rfl Tryd.func19 (by kernel_rfl) rfl #[.int .u64 a0] rfl (by (try simp only [List.map_toArray, List.map_cons, List.map_nil]); first | done | rfl | (simp only [List.length_drop, List.length_take]; rfl)) ?_; (with_reducible refine (platformfwref08_Number.calls a0 t411 t412 t413 t414 _ A11.out).mono ?_); rintro e w31 ⟨rfl, hb⟩; refine ⟨_, rfl, ?_⟩; have n0_ := Aside0.mk (blk_below (g := gb390) (o := .cells #[.int .i64 t385, .int .u64 t386, .string t387, .int .i64 t388] 24 (0, 0)) (by (with_reducible repeat (first | apply kN_ | apply kD_ | apply kA_)); refine blk_far ?_ NB390_410.out _; (with_reducible repeat (first | apply kN_ | apply kD_ | apply kA_)); refine blk_far ?_ NB390_410.out _; (with_reducible repeat (first | apply kN_ | apply kD_ | apply kA_)); refine blk_far ?_ NB390_410.out _; (with_reducible repeat (first | apply kN_ | apply kD_ | apply kA_)); refine blk_far ?_ NB390_410.out _; (with_reducible repeat (first | apply kN_ | apply kD_ | apply kA_)); exact BK390.out) hb); have n1_ := Aside0.mk (blk_below (g := gb400) (o := .cells #[.int .i64 t395, .int .u64 t396, .string t397, .int .i64 t398] 24 (0, 0)) (by (with_reducible repeat (first | apply kN_ | apply kD_ | apply kA_)); refine blk_far ?_ NB400_410.out _; (with_reducible repeat (first | apply kN_ | apply kD_ | apply kA_)); refine blk_far ?_ NB400_410.out _; (with_reducible repeat (first | apply kN_ | apply kD_ | apply kA_)); refine blk_far ?_ NB400_410.out _; (with_reducible repeat (first | apply kN_ | apply kD_ | apply kA_)); refine blk_far ?_ NB400_410.out _; (with_reducible repeat (first | apply kN_ | apply kD_ | apply kA_)); exact BK400.out) hb); have n2_ := Aside0.mk (blk_below (g := gb410) (o := .cells #[.int .i64 t405, .int .u64 t406, .string t407, .int .i64 t408] 24 (0, 0)) (by (with_reducible repeat (first | apply kN_ | apply kD_ | apply kA_)); refine blk_put (cs := #[.int .i64 t405, .int .u64 t406, .string t407, .int .i64 0]) ?_ 3 _ rfl; (with_reducible repeat (first | apply kN_ | apply kD_ | apply kA_)); refine blk_put (cs := #[.int .i64 t405, .int .u64 t406, .string (⟨#[]⟩ : ByteArray), .int .i64 0]) ?_ 2 _ rfl; (with_reducible repeat (first | apply kN_ | apply kD_ | apply kA_)); refine blk_put (cs := #[.int .i64 t405, .int .u64 0, .string (⟨#[]⟩ : ByteArray), .int .i64 0]) ?_ 1 _ rfl; (with_reducible repeat (first | apply kN_ | apply kD_ | apply kA_)); refine blk_put (cs := #[.int .i64 0, .int .u64 0, .string (⟨#[]⟩ : ByteArray), .int .i64 0]) ?_ 0 _ rfl; (with_reducible repeat (first | apply kN_ | apply kD_ | apply kA_)); exact BK410.out) hb); have n3_ := Aside0.mk (below_step (by repeat (first | (with_reducible first | exact HB.out | apply bA_ | apply bN_ | apply bD_ | refine bS_ ?_ GE390.out | refine bS_ ?_ GE400.out | refine bS_ ?_ GE410.out) | exact HB.out)) hb); clear BK390; clear BK400; clear BK410; clear HB; have BK390 := n0_; have BK400 := n1_; have BK410 := n2_; have HB := n3_; clear n0_ n1_ n2_ n3_; (try clear hb); (try clear hb2); (try clear hk); (try clear hi)) | ((with_reducible refine gate_callee (f := 19) rfl ?_); refine goesL_ (some 44) rfl rfl Tryd.func19 (by kernel_rfl) rfl #[.int .u64 a1] rfl (by (try simp only [List.map_toArray, List.map_cons, List.map_nil]); first | done | rfl | (simp only [List.length_drop, List.length_take]; rfl)) ?_; (with_reducible refine (platformfwref08_Number.calls a1 t415 t416 t417 t418 _ A12.out).mono ?_); rintro e w32 ⟨rfl, hb⟩; refine ⟨_, rfl, ?_⟩; have n0_ := Aside0.mk (blk_below (g := gb390) (o := .cells #[.int .i64 t385, .int .u64 t386, .string t387, .int .i64 t388] 24 (0, 0)) (by (with_reducible repeat (first | apply kN_ | apply kD_ | apply kA_)); exact BK390.out) hb); have n1_ := Aside0.mk (blk_below (g := gb400) (o := .cells #[.int .i64 t395, .int .u64 t396, .string t397, .int .i64 t398] 24 (0, 0)) (by (with_reducible repeat (first | apply kN_ | apply kD_ | apply kA_)); exact BK400.out) hb); have n2_ := Aside0.mk (blk_below (g := gb410) (o := .cells #[.int .i64 t405, .int .u64 t406, .string t407, .int .i64 t408] 24 (0, 0)) (by (with_reducible repeat (first | apply kN_ | apply kD_ | apply kA_)); exact BK410.out) hb); have n3_ := Aside0.mk (below_step (by repeat (first | (with_reducible first | exact HB.out | apply bA_ | apply bN_ | apply bD_ | refine bS_ ?_ GE390.out | refine bS_ ?_ GE400.out | refine bS_ ?_ GE410.out) | exact HB.out)) hb); clear BK390; clear BK400; clear BK410; clear HB; have BK390 := n0_; have BK400 := n1_; have BK410 := n2_; have HB := n3_; clear n0_ n1_ n2_ n3_; (try clear hb); (try clear hb2); (try clear hk); (try clear hi)) | ((with_reducible refine gate_callee (f := 8) rfl ?_); refine goesL_ (some 45) rfl rfl Tryd.func8 (by kernel_rfl) rfl #[.int .i64 63, .agg #[.int .i64 t411, .int .u64 t412, .string t413, .int .i64 t414], .agg #[.int .i64 t415, .int .u64 t416, .string t417, .int .i64 t418]] rfl (by (try simp only [List.map_toArray, List.map_cons, List.map_nil]); first | done | rfl | (simp only [List.length_drop, List.length_take]; rfl)) ?_; (with_reducible refine (value_Binary.calls k 63 t411 t412 t413 t414 t415 t416 t417 t418 t419 t420 t421 t422 t423 _ ?hTT_ A13.out).mono ?_); (case hTT_ => exact tb_below HTT_.out (by repeat (first | (with_reducible first | exact HB.out | apply bA_ | apply bN_ | apply bD_ | refine bS_ ?_ GE390.out | refine bS_ ?_ GE400.out | refine bS_ ?_ GE410.out) | exact HB.out))); rintro e w33 ⟨rfl, hb⟩; refine ⟨_, rfl, ?_⟩; have n0_ := Aside0.mk (blk_below (g := gb390) (o := .cells #[.int .i64 t385, .int .u64 t386, .string t387, .int .i64 t388] 24 (0, 0)) (by (with_reducible repeat (first | apply kN_ | apply kD_ | apply kA_)); exact BK390.out) hb); have n1_ := Aside0.mk (blk_below (g := gb400) (o := .cells #[.int .i64 t395, .int .u64 t396, .string t397, .int .i64 t398] 24 (0, 0)) (by (with_reducible repeat (first | apply kN_ | apply kD_ | apply kA_)); exact BK400.out) hb); have n2_ := Aside0.mk (blk_below (g := gb410) (o := .cells #[.int .i64 t405, .int .u64 t406, .string t407, .int .i64 t408] 24 (0, 0)) (by (with_reducible repeat (first | apply kN_ | apply kD_ | apply kA_)); exact BK410.out) hb); have n3_ := Aside0.mk (below_step (by repeat (first | (with_reducible first | exact HB.out | apply bA_ | apply bN_ | apply bD_ | refine bS_ ?_ GE390.out | refine bS_ ?_ GE400.out | refine bS_ ?_ GE410.out) | exact HB.out)) hb); clear BK390; clear BK400; clear BK410; clear HB; have BK390 := n0_; have BK400 := n1_; have BK410 := n2_; have HB := n3_; clear n0_ n1_ n2_ n3_; (try clear hb); (try clear hb2); (try clear hk); (try clear hi)) | ((with_reducible refine gate_dst (N := 14) rfl ?_); refine box_event ?hg (N := 14) ?hd (cs := #[.int .i64 0, .int .u64 0, .string (⟨#[]⟩ : ByteArray), .int .i64 0]) (t := 24) ?hr ?_; (case hd => rfl); (case hg => rfl); (case hr => first | (go_simp; done) | (go_simp; rfl)); intro gb424 hg w34 hbox hb; have n0_ := Aside0.mk (blk_below (g := gb390) (o := .cells #[.int .i64 t385, .int .u64 t386, .string t387, .int .i64 t388] 24 (0, 0)) (by (with_reducible repeat (first | apply kN_ | apply kD_ | apply kA_)); exact BK390.out) hb); have n1_ := Aside0.mk (blk_below (g := gb400) (o := .cells #[.int .i64 t395, .int .u64 t396, .string t397, .int .i64 t398] 24 (0, 0)) (by (with_reducible repeat (first | apply kN_ | apply kD_ | apply kA_)); exact BK400.out) hb); have n2_ := Aside0.mk (blk_below (g := gb410) (o := .cells #[.int .i64 t405, .int .u64 t406, .string t407, .int .i64 t408] 24 (0, 0)) (by (with_reducible repeat (first | apply kN_ | apply kD_ | apply kA_)); exact BK410.out) hb); have n3_ := Aside0.mk (below_step (by repeat (first | (with_reducible first | exact HB.out | apply bA_ | apply bN_ | apply bD_ | refine bS_ ?_ GE390.out | refine bS_ ?_ GE400.out | refine bS_ ?_ GE410.out) | exact HB.out)) hb); have n4_ := Aside0.mk (hbox); have n5_ := Aside0.mk ((by rw [hg]; exact (below_size (by repeat (first | (with_reducible first | exact HB.out | apply bA_ | apply bN_ | apply bD_ | refine bS_ ?_ GE390.out | refine bS_ ?_ GE400.out | refine bS_ ?_ GE410.out) | exact HB.out))) : w.heap.size ≤ gb424)); have n6_ := Aside0.mk ((by rw [hg]; exact (below_size (by repeat (first | (with_reducible first | exact HB.out | apply bA_ | apply bN_ | apply bD_ | refine bS_ ?_ GE390.out | refine bS_ ?_ GE400.out | refine bS_ ?_ GE410.out) | exact HB.out))) : w.heap.size ≤ gb424)); have n7_ := Aside0.mk ((by rw [hg]; exact Nat.ne_of_lt (blk_lt (g := gb390) (o := .cells #[.int .i64 t385, .int .u64 t386, .string t387, .int .i64 t388] 24 (0, 0)) (by (with_reducible repeat (first | apply kN_ | apply kD_ | apply kA_)); exact BK390.out)) : gb390 ≠ gb424)); have n8_ := Aside0.mk ((by rw [hg]; exact Nat.ne_of_gt (blk_lt (g := gb390) (o := .cells #[.int .i64 t385, .int .u64 t386, .string t387, .int .i64 t388] 24 (0, 0)) (by (with_reducible repeat (first | apply kN_ | apply kD_ | apply kA_)); exact BK390.out)) : gb424 ≠ gb390)); have n9_ := Aside0.mk ((by rw [hg]; exact Nat.ne_of_lt (blk_lt (g := gb400) (o := .cells #[.int .i64 t395, .int .u64 t396, .string t397, .int .i64 t398] 24 (0, 0)) (by (with_reducible repeat (first | apply kN_ | apply kD_ | apply kA_)); exact BK400.out)) : gb400 ≠ gb424)); have n10_ := Aside0.mk ((by rw [hg]; exact Nat.ne_of_gt (blk_lt (g := gb400) (o := .cells #[.int .i64 t395, .int .u64 t396, .string t397, .int .i64 t398] 24 (0, 0)) (by (with_reducible repeat (first | apply kN_ | apply kD_ | apply kA_)); exact BK400.out)) : gb424 ≠ gb400)); have n11_ := Aside0.mk ((by rw [hg]; exact Nat.ne_of_lt (blk_lt (g := gb410) (o := .cells #[.int .i64 t405, .int .u64 t406, .string t407, .int .i64 t408] 24 (0, 0)) (by (with_reducible repeat (first | apply kN_ | apply kD_ | apply kA_)); exact BK410.out)) : gb410 ≠ gb424)); have n12_ := Aside0.mk ((by rw [hg]; exact Nat.ne_of_gt (blk_lt (g := gb410) (o := .cells #[.int .i64 t405, .int .u64 t406, .string t407, .int .i64 t408] 24 (0, 0)) (by (with_reducible repeat (first | apply kN_ | apply kD_ | apply kA_)); exact BK410.out)) : gb424 ≠ gb410)); clear BK390; clear BK400; clear BK410; clear HB; have BK390 := n0_; have BK400 := n1_; have BK410 := n2_; have HB := n3_; have BK424 := n4_; have GW424 := n5_; have GE424 := n6_; have NB390_424 := n7_; have NB424_390 := n8_; have NB400_424 := n9_; have NB424_400 := n10_; have NB410_424 := n11_; have NB424_410 := n12_; clear n0_ n1_ n2_ n3_ n4_ n5_ n6_ n7_ n8_ n9_ n10_ n11_ n12_; clear hb hbox hg; have hnb35 := NB424_390.out; have hnc35 := NB390_424.out; have hnb36 := NB424_400.out; have hnc36 := NB400_424.out; have hnb37 := NB424_410.out; have hnc37 := NB410_424.out; obtain ⟨hcz38_0, hcz38_1, hcz38_2, hcz38_3⟩ := cells4_ BK424.out; obtain ⟨hfz38_0, hfz38_1, hfz38_2, hfz38_3⟩ := froz4_ BK424.out))
 (try simp only [Act.put, sA_, sB_, sC_])
 go_cut [78] (fun v78 wc => ∃ (kq : Nat) (x78_13 : Bool), v78 = .bool x78_13 ∧ Aside0 (platformfwlaw08_ValueArithmetic.j0 kq a0 a1 t423 x78_13 = some r) ∧ Aside0 (kq ≤ k) ∧ Aside0 (wc.heap[gb390]? = some (.cells #[.int .i64 t385, .int .u64 t386, .string t387, .int .i64 t388] 24 (0, 0))) ∧ Aside0 (wc.heap[gb400]? = some (.cells #[.int .i64 t395, .int .u64 t396, .string t397, .int .i64 t398] 24 (0, 0))) ∧ Aside0 (wc.heap[gb410]? = some (.cells #[.int .i64 t405, .int .u64 t406, .string t407, .int .i64 t408] 24 (0, 0))) ∧ Aside0 (wc.heap[gb424]? = some (.cells #[.int .i64 t419, .int .u64 t420, .string t421, .int .i64 t422] 24 (0, 0))) ∧ Aside0 (Below w.heap.size w wc))
 case first =>
  have H := HC14.out
  clear HC14
  replace H := Option.bind_eq_some_iff.mp H
  obtain ⟨t425, A390, H⟩ := H
  replace H : (if t425 = true then ((platformfwlaw08_number.f k 60 a0 a1).bind fun t426 => ((platformfwlaw08_number.f k 61 t426 a1).bind fun t427 => (if t427 = a0 then ((platformfwlaw08_number.f k 66 t396 t406).bind fun t428 => (if t386 = t428 then ((platformfwlaw08_number.f k 68 a0 (IntKind.u64.wrap (Int.tmod a2 64))).bind fun t429 => (if 0 ≤ (IntKind.u64.wrap (Int.tmod a2 64)) then ((platformfwlaw08_number.f k 62 a0 (shl .u64 1 (IntKind.u64.wrap (Int.tmod a2 64)))).bind fun t430 => (platformfwlaw08_ValueArithmetic.j0 k a0 a1 t423 (t429 != t430))) else (none))) else (platformfwlaw08_ValueArithmetic.j0 k a0 a1 t423 true))) else (platformfwlaw08_ValueArithmetic.j0 k a0 a1 t423 true)))) else (platformfwlaw08_ValueArithmetic.j0 k a0 a1 t423 true)) = some r := H
  have A39 := Aside0.mk A390
  clear A390
  by_cases c40 : t425 = true
  ·subst c40
   have H1 : ((platformfwlaw08_number.f k 60 a0 a1).bind fun t426 => ((platformfwlaw08_number.f k 61 t426 a1).bind fun t427 => (if t427 = a0 then ((platformfwlaw08_number.f k 66 t396 t406).bind fun t428 => (if t386 = t428 then ((platformfwlaw08_number.f k 68 a0 (IntKind.u64.wrap (Int.tmod a2 64))).bind fun t429 => (if 0 ≤ (IntKind.u64.wrap (Int.tmod a2 64)) then ((platformfwlaw08_number.f k 62 a0 (shl .u64 1 (IntKind.u64.wrap (Int.tmod a2 64)))).bind fun t430 => (platformfwlaw08_ValueArithmetic.j0 k a0 a1 t423 (t429 != t430))) else (none))) else (platformfwlaw08_ValueArithmetic.j0 k a0 a1 t423 true))) else (platformfwlaw08_ValueArithmetic.j0 k a0 a1 t423 true)))) = some r := by rw [if_pos rfl] at H; exact H
   clear H
   have H := H1
   clear H1
   replace H := Option.bind_eq_some_iff.mp H
   obtain ⟨t426, A410, H⟩ := H
   replace H : ((platformfwlaw08_number.f k 61 t426 a1).bind fun t427 => (if t427 = a0 then ((platformfwlaw08_number.f k 66 t396 t406).bind fun t428 => (if t386 = t428 then ((platformfwlaw08_number.f k 68 a0 (IntKind.u64.wrap (Int.tmod a2 64))).bind fun t429 => (if 0 ≤ (IntKind.u64.wrap (Int.tmod a2 64)) then ((platformfwlaw08_number.f k 62 a0 (shl .u64 1 (IntKind.u64.wrap (Int.tmod a2 64)))).bind fun t430 => (platformfwlaw08_ValueArithmetic.j0 k a0 a1 t423 (t429 != t430))) else (none))) else (platformfwlaw08_ValueArithmetic.j0 k a0 a1 t423 true))) else (platformfwlaw08_ValueArithmetic.j0 k a0 a1 t423 true))) = some r := H
   have A41 := Aside0.mk A410
   clear A410
   replace H := Option.bind_eq_some_iff.mp H
   obtain ⟨t427, A420, H⟩ := H
   replace H : (if t427 = a0 then ((platformfwlaw08_number.f k 66 t396 t406).bind fun t428 => (if t386 = t428 then ((platformfwlaw08_number.f k 68 a0 (IntKind.u64.wrap (Int.tmod a2 64))).bind fun t429 => (if 0 ≤ (IntKind.u64.wrap (Int.tmod a2 64)) then ((platformfwlaw08_number.f k 62 a0 (shl .u64 1 (IntKind.u64.wrap (Int.tmod a2 64)))).bind fun t430 => (platformfwlaw08_ValueArithmetic.j0 k a0 a1 t423 (t429 != t430))) else (none))) else (platformfwlaw08_ValueArithmetic.j0 k a0 a1 t423 true))) else (platformfwlaw08_ValueArithmetic.j0 k a0 a1 t423 true)) = some r := H
   have A42 := Aside0.mk A420
   clear A420
   by_cases c43 : t427 = a0
   ·rw [if_pos c43] at H
    have c43b0 : (t427 == a0) = true := beq_iff_eq.mpr c43
    have c43b1 : (t427 != a0) = false := bne_eq_false_iff_eq.mpr c43
    clear c43
    (first | rw [c43b0] | (simp only [i64_w, i32_w]; rw [c43b0]) | skip)
    replace H := Option.bind_eq_some_iff.mp H
    obtain ⟨t428, A440, H⟩ := H
    replace H : (if t386 = t428 then ((platformfwlaw08_number.f k 68 a0 (IntKind.u64.wrap (Int.tmod a2 64))).bind fun t429 => (if 0 ≤ (IntKind.u64.wrap (Int.tmod a2 64)) then ((platformfwlaw08_number.f k 62 a0 (shl .u64 1 (IntKind.u64.wrap (Int.tmod a2 64)))).bind fun t430 => (platformfwlaw08_ValueArithmetic.j0 k a0 a1 t423 (t429 != t430))) else (none))) else (platformfwlaw08_ValueArithmetic.j0 k a0 a1 t423 true)) = some r := H
    have A44 := Aside0.mk A440
    clear A440
    by_cases c45 : t386 = t428
    ·rw [if_pos c45] at H
     have c45b0 : (t386 == t428) = true := beq_iff_eq.mpr c45
     have c45b1 : (t386 != t428) = false := bne_eq_false_iff_eq.mpr c45
     clear c45
     replace H := Option.bind_eq_some_iff.mp H
     obtain ⟨t429, A460, H⟩ := H
     replace H : (if 0 ≤ (IntKind.u64.wrap (Int.tmod a2 64)) then ((platformfwlaw08_number.f k 62 a0 (shl .u64 1 (IntKind.u64.wrap (Int.tmod a2 64)))).bind fun t430 => (platformfwlaw08_ValueArithmetic.j0 k a0 a1 t423 (t429 != t430))) else (none)) = some r := H
     have A46 := Aside0.mk A460
     clear A460
     obtain ⟨ji47, hji47⟩ : ∃ j_ : Int, (IntKind.u64.wrap (Int.tmod a2 64)) = j_ := ⟨_, rfl⟩
     replace H : (if 0 ≤ (ji47) then ((platformfwlaw08_number.f k 62 a0 (shl .u64 1 (ji47))).bind fun t430 => (platformfwlaw08_ValueArithmetic.j0 k a0 a1 t423 (t429 != t430))) else (none)) = some r := by first | (rw [hji47] at H; exact H) | (simp only [hji47] at H ⊢; exact H)
     (try rw [hji47] at A39)
     (try rw [hji47] at A41)
     (try rw [hji47] at A42)
     (try rw [hji47] at A44)
     (try rw [hji47] at A46)
     by_cases c48 : 0 ≤ (ji47)
     ·rw [if_pos c48] at H
      have c48b0 := eq_true c48
      have c48b1 : decide (0 ≤ (ji47)) = true := decide_eq_true c48
      clear c48
      obtain ⟨ji49, hji49⟩ : ∃ j_ : Int, (shl .u64 1 (ji47)) = j_ := ⟨_, rfl⟩
      replace H : ((platformfwlaw08_number.f k 62 a0 (ji49)).bind fun t430 => (platformfwlaw08_ValueArithmetic.j0 k a0 a1 t423 (t429 != t430))) = some r := by first | (rw [hji49] at H; exact H) | (simp only [hji49] at H ⊢; exact H)
      (try rw [hji49] at A39)
      (try rw [hji49] at A41)
      (try rw [hji49] at A42)
      (try rw [hji49] at A44)
      (try rw [hji49] at A46)
      have hji49_ : (IntKind.u64.wrap (1 * 2 ^ min (ji47).toNat 64)) = ji49 := hji49
      have hji49z : (ji47) ≤ 64 → (IntKind.u64.wrap (1 * 2 ^ (ji47).toNat)) = ji49 := shl_small hji49
      have hji49u : (IntKind.u64.wrap (2 ^ min (ji47).toNat 64)) = ji49 := by have h_ := hji49_; rw [Int.one_mul] at h_; exact h_
      have hji49v : (ji47) ≤ 64 → (IntKind.u64.wrap (2 ^ (ji47).toNat)) = ji49 := fun hle_ => by have h_ := hji49z hle_; rw [Int.one_mul] at h_; exact h_
      replace H := Option.bind_eq_some_iff.mp H
      obtain ⟨t430, A500, H⟩ := H
      replace H : (platformfwlaw08_ValueArithmetic.j0 k a0 a1 t423 (t429 != t430)) = some r := H
      have A50 := Aside0.mk A500
      clear A500
      have H' := Aside0.mk H
      clear H
      try go_wp2
      have n0_ : Aside0 (((((w34.setCell ⟨gb424, 0, none⟩ (.int .i64 t419)).setCell ⟨gb424, 1, none⟩ (.int .u64 t420)).setCell ⟨gb424, 2, none⟩ (.string t421)).setCell ⟨gb424, 3, none⟩ (.int .i64 t422)).heap[gb390]? = some (.cells #[.int .i64 t385, .int .u64 t386, .string t387, .int .i64 t388] 24 (0, 0))) := ⟨by (with_reducible repeat (first | apply kN_ | apply kD_ | apply kA_)); refine blk_far ?_ NB390_424.out _; (with_reducible repeat (first | apply kN_ | apply kD_ | apply kA_)); refine blk_far ?_ NB390_424.out _; (with_reducible repeat (first | apply kN_ | apply kD_ | apply kA_)); refine blk_far ?_ NB390_424.out _; (with_reducible repeat (first | apply kN_ | apply kD_ | apply kA_)); refine blk_far ?_ NB390_424.out _; (with_reducible repeat (first | apply kN_ | apply kD_ | apply kA_)); exact BK390.out⟩
      have n1_ : Aside0 (((((w34.setCell ⟨gb424, 0, none⟩ (.int .i64 t419)).setCell ⟨gb424, 1, none⟩ (.int .u64 t420)).setCell ⟨gb424, 2, none⟩ (.string t421)).setCell ⟨gb424, 3, none⟩ (.int .i64 t422)).heap[gb400]? = some (.cells #[.int .i64 t395, .int .u64 t396, .string t397, .int .i64 t398] 24 (0, 0))) := ⟨by (with_reducible repeat (first | apply kN_ | apply kD_ | apply kA_)); refine blk_far ?_ NB400_424.out _; (with_reducible repeat (first | apply kN_ | apply kD_ | apply kA_)); refine blk_far ?_ NB400_424.out _; (with_reducible repeat (first | apply kN_ | apply kD_ | apply kA_)); refine blk_far ?_ NB400_424.out _; (with_reducible repeat (first | apply kN_ | apply kD_ | apply kA_)); refine blk_far ?_ NB400_424.out _; (with_reducible repeat (first | apply kN_ | apply kD_ | apply kA_)); exact BK400.out⟩
      have n2_ : Aside0 (((((w34.setCell ⟨gb424, 0, none⟩ (.int .i64 t419)).setCell ⟨gb424, 1, none⟩ (.int .u64 t420)).setCell ⟨gb424, 2, none⟩ (.string t421)).setCell ⟨gb424, 3, none⟩ (.int .i64 t422)).heap[gb410]? = some (.cells #[.int .i64 t405, .int .u64 t406, .string t407, .int .i64 t408] 24 (0, 0))) := ⟨by (with_reducible repeat (first | apply kN_ | apply kD_ | apply kA_)); refine blk_far ?_ NB410_424.out _; (with_reducible repeat (first | apply kN_ | apply kD_ | apply kA_)); refine blk_far ?_ NB410_424.out _; (with_reducible repeat (first | apply kN_ | apply kD_ | apply kA_)); refine blk_far ?_ NB410_424.out _; (with_reducible repeat (first | apply kN_ | apply kD_ | apply kA_)); refine blk_far ?_ NB410_424.out _; (with_reducible repeat (first | apply kN_ | apply kD_ | apply kA_)); exact BK410.out⟩
      have n3_ : Aside0 (((((w34.setCell ⟨gb424, 0, none⟩ (.int .i64 t419)).setCell ⟨gb424, 1, none⟩ (.int .u64 t420)).setCell ⟨gb424, 2, none⟩ (.string t421)).setCell ⟨gb424, 3, none⟩ (.int .i64 t422)).heap[gb424]? = some (.cells #[.int .i64 t419, .int .u64 t420, .string t421, .int .i64 t422] 24 (0, 0))) := ⟨by (with_reducible repeat (first | apply kN_ | apply kD_ | apply kA_)); refine blk_put (cs := #[.int .i64 t419, .int .u64 t420, .string t421, .int .i64 0]) ?_ 3 _ rfl; (with_reducible repeat (first | apply kN_ | apply kD_ | apply kA_)); refine blk_put (cs := #[.int .i64 t419, .int .u64 t420, .string (⟨#[]⟩ : ByteArray), .int .i64 0]) ?_ 2 _ rfl; (with_reducible repeat (first | apply kN_ | apply kD_ | apply kA_)); refine blk_put (cs := #[.int .i64 t419, .int .u64 0, .string (⟨#[]⟩ : ByteArray), .int .i64 0]) ?_ 1 _ rfl; (with_reducible repeat (first | apply kN_ | apply kD_ | apply kA_)); refine blk_put (cs := #[.int .i64 0, .int .u64 0, .string (⟨#[]⟩ : ByteArray), .int .i64 0]) ?_ 0 _ rfl; (with_reducible repeat (first | apply kN_ | apply kD_ | apply kA_)); exact BK424.out⟩
      have n4_ : Aside0 (Below w.heap.size w ((((w34.setCell ⟨gb424, 0, none⟩ (.int .i64 t419)).setCell ⟨gb424, 1, none⟩ (.int .u64 t420)).setCell ⟨gb424, 2, none⟩ (.string t421)).setCell ⟨gb424, 3, none⟩ (.int .i64 t422))) := ⟨by repeat (first | (with_reducible first | exact HB.out | apply bA_ | apply bN_ | apply bD_ | refine bS_ ?_ GE390.out | refine bS_ ?_ GE400.out | refine bS_ ?_ GE410.out | refine bS_ ?_ GE424.out) | exact HB.out)⟩
      (try clear BK390)
      (try clear BK400)
      (try clear BK410)
      (try clear BK424)
      (try clear HB)
      generalize ((((w34.setCell ⟨gb424, 0, none⟩ (.int .i64 t419)).setCell ⟨gb424, 1, none⟩ (.int .u64 t420)).setCell ⟨gb424, 2, none⟩ (.string t421)).setCell ⟨gb424, 3, none⟩ (.int .i64 t422)) = w51 at n0_ n1_ n2_ n3_ n4_ ⊢
      have BK390 := n0_
      have BK400 := n1_
      have BK410 := n2_
      have BK424 := n3_
      have HB := n4_
      clear n0_ n1_ n2_ n3_ n4_
      have n0_ := Aside0.mk (kD_ BK390.out)
      have n1_ := Aside0.mk (kD_ BK400.out)
      have n2_ := Aside0.mk (kD_ BK410.out)
      have n3_ := Aside0.mk (kD_ BK424.out)
      have n4_ := Aside0.mk (bD_ HB.out)
      clear BK390
      clear BK400
      clear BK410
      clear BK424
      clear HB
      have BK390 := n0_
      have BK400 := n1_
      have BK410 := n2_
      have BK424 := n3_
      have HB := n4_
      clear n0_ n1_ n2_ n3_ n4_
      refine start_ (n := 31) (S := fun w' => w'.cell? ⟨gb390, 0, none⟩ = some (.int .i64 t385) ∧ w'.cell? ⟨gb390, 1, none⟩ = some (.int .u64 t386) ∧ w'.cell? ⟨gb390, 2, none⟩ = some (.string t387) ∧ w'.cell? ⟨gb390, 3, none⟩ = some (.int .i64 t388) ∧ w'.cell? ⟨gb400, 0, none⟩ = some (.int .i64 t395) ∧ w'.cell? ⟨gb400, 1, none⟩ = some (.int .u64 t396) ∧ w'.cell? ⟨gb400, 2, none⟩ = some (.string t397) ∧ w'.cell? ⟨gb400, 3, none⟩ = some (.int .i64 t398) ∧ w'.cell? ⟨gb410, 0, none⟩ = some (.int .i64 t405) ∧ w'.cell? ⟨gb410, 1, none⟩ = some (.int .u64 t406) ∧ w'.cell? ⟨gb410, 2, none⟩ = some (.string t407) ∧ w'.cell? ⟨gb410, 3, none⟩ = some (.int .i64 t408)) (ds := []) #[false, false, false, false, false, false, false, false, false, false, false, false, false, false, false, false, false, false, false, false, false, false, false, false, false, false, false, false, false, false, false] (by kernel_rfl) rfl rfl ⟨(blk_cell BK390.out 0).trans rfl, (blk_cell BK390.out 1).trans rfl, (blk_cell BK390.out 2).trans rfl, (blk_cell BK390.out 3).trans rfl, (blk_cell BK400.out 0).trans rfl, (blk_cell BK400.out 1).trans rfl, (blk_cell BK400.out 2).trans rfl, (blk_cell BK400.out 3).trans rfl, (blk_cell BK410.out 0).trans rfl, (blk_cell BK410.out 1).trans rfl, (blk_cell BK410.out 2).trans rfl, (blk_cell BK410.out 3).trans rfl⟩ (fun hHeld => ?_); refine with_tabW platformfwlaw08_ValueArithmetic.tab6 platformfwlaw08_ValueArithmetic.bits6 (fun HT_ HW_ => ?_)
      generalize w51.drew = w52 at BK390 BK400 BK410 BK424 HB hHeld ⊢
      refine one_ (i := 0) (N := some 48) (tf 31 1) rfl rfl (one_of HT_.out (by kernel_rfl)) (by decide) (fun K hK => ?_)
      refine goes_ Tryd.func12 (by kernel_rfl) rfl #[] (by rfl) rfl rfl (by (try simp only [List.map_toArray, List.map_cons, List.map_nil]); first | done | rfl | (simp only [List.length_drop, List.length_take]; rfl)) ?_
      with_reducible refine (platformfwlaw08_awake.calls k  true _ ?hTT_ A39.out).mono ?_
      (case hTT_ => exact tb_below HTT_.out (by repeat (first | (with_reducible first | exact HB.out | apply bA_ | apply bN_ | apply bD_) | exact HB.out)))
      rintro e w53 ⟨rfl, hb⟩
      refine ⟨_, rfl, ?_⟩
      have n0_ := Aside0.mk (blk_below (g := gb390) (o := .cells #[.int .i64 t385, .int .u64 t386, .string t387, .int .i64 t388] 24 (0, 0)) (by (with_reducible repeat (first | apply kN_ | apply kD_ | apply kA_)); exact BK390.out) hb)
      have n1_ := Aside0.mk (blk_below (g := gb400) (o := .cells #[.int .i64 t395, .int .u64 t396, .string t397, .int .i64 t398] 24 (0, 0)) (by (with_reducible repeat (first | apply kN_ | apply kD_ | apply kA_)); exact BK400.out) hb)
      have n2_ := Aside0.mk (blk_below (g := gb410) (o := .cells #[.int .i64 t405, .int .u64 t406, .string t407, .int .i64 t408] 24 (0, 0)) (by (with_reducible repeat (first | apply kN_ | apply kD_ | apply kA_)); exact BK410.out) hb)
      have n3_ := Aside0.mk (blk_below (g := gb424) (o := .cells #[.int .i64 t419, .int .u64 t420, .string t421, .int .i64 t422] 24 (0, 0)) (by (with_reducible repeat (first | apply kN_ | apply kD_ | apply kA_)); exact BK424.out) hb)
      have n4_ := Aside0.mk (below_step (by repeat (first | (with_reducible first | exact HB.out | apply bA_ | apply bN_ | apply bD_ | refine bS_ ?_ GE390.out | refine bS_ ?_ GE400.out | refine bS_ ?_ GE410.out | refine bS_ ?_ GE424.out) | exact HB.out)) hb)
      clear BK390
      clear BK400
      clear BK410
      clear BK424
      clear HB
      have BK390 := n0_
      have BK400 := n1_
      have BK410 := n2_
      have BK424 := n3_
      have HB := n4_
      clear n0_ n1_ n2_ n3_ n4_
      (try clear hb)
      (try clear hb2)
      (try clear hk)
      (try clear hi)
      refine hK.out _ _ ⟨(blk_cell BK390.out 0).trans rfl, (blk_cell BK390.out 1).trans rfl, (blk_cell BK390.out 2).trans rfl, (blk_cell BK390.out 3).trans rfl, (blk_cell BK400.out 0).trans rfl, (blk_cell BK400.out 1).trans rfl, (blk_cell BK400.out 2).trans rfl, (blk_cell BK400.out 3).trans rfl, (blk_cell BK410.out 0).trans rfl, (blk_cell BK410.out 1).trans rfl, (blk_cell BK410.out 2).trans rfl, (blk_cell BK410.out 3).trans rfl⟩ (fun hHeld => ?_)
      clear hK K
      refine norm_ (a' := ?_) ?_ ?_
      rotate_left
      ·show Act.put _ (some 48) _ = _
       simp only [Act.put, sA_, sB_, sC_, i64_w, i32_w]
       rfl
      refine pure_ (i := 1) (N := some 49) (v := ?_) (a' := ?_) (tf 31 3) rfl rfl (any_of HT_.out (by kernel_rfl)) (fun _ _ _ h => h) (Or.inl ⟨by rfl, ?_⟩) ?_ ?_
      rotate_left
      ·intro w'
       go_simp
       with_reducible rfl
      rotate_left
      ·simp only [Act.put, sA_, sB_, sC_, i64_w, i32_w]
       rfl
      refine pure_ (i := 2) (N := some 50) (v := ?_) (a' := ?_) (tf 31 7) rfl rfl (any_of HT_.out (by kernel_rfl)) (fun _ _ _ h => h) (Or.inl ⟨by rfl, ?_⟩) ?_ ?_
      rotate_left
      ·intro w'
       go_simp
       with_reducible rfl
      rotate_left
      ·simp only [Act.put, sA_, sB_, sC_, i64_w, i32_w]
       rfl
      refine pure_ (i := 3) (N := some 51) (v := ?_) (a' := ?_) (tf 31 15) rfl rfl (any_of HT_.out (by kernel_rfl)) (fun _ _ _ h => h) (Or.inl ⟨by rfl, ?_⟩) ?_ ?_
      rotate_left
      ·intro w'
       go_simp
       with_reducible rfl
      rotate_left
      ·simp only [Act.put, sA_, sB_, sC_, i64_w, i32_w]
       rfl
      refine pure_ (i := 4) (N := some 52) (v := ?_) (a' := ?_) (tf 31 31) rfl rfl (any_of HT_.out (by kernel_rfl)) (fun _ _ _ h => h) (Or.inl ⟨by rfl, ?_⟩) ?_ ?_
      rotate_left
      ·intro w'
       go_simp
       with_reducible rfl
      rotate_left
      ·simp only [Act.put, sA_, sB_, sC_, i64_w, i32_w]
       rfl
      refine pure_ (i := 6) (N := some 54) (v := ?_) (a' := ?_) (tf 31 95) rfl rfl (any_of HT_.out (by kernel_rfl)) (fun _ _ _ h => h) (Or.inl ⟨by rfl, ?_⟩) ?_ ?_
      rotate_left
      ·intro w'
       go_simp
       with_reducible rfl
      rotate_left
      ·simp only [Act.put, sA_, sB_, sC_, i64_w, i32_w]
       rfl
      refine pure_ (i := 8) (N := some 56) (v := ?_) (a' := ?_) (tf 31 351) rfl rfl (any_of HT_.out (by kernel_rfl)) (fun _ _ _ h => h) (Or.inl ⟨by rfl, ?_⟩) ?_ ?_
      rotate_left
      ·intro w'
       go_simp
       with_reducible rfl
      rotate_left
      ·simp only [Act.put, sA_, sB_, sC_, i64_w, i32_w]
       rfl
      refine one_ (i := 5) (N := some 53) (tf 31 383) rfl rfl (one_of HT_.out (by kernel_rfl)) (by decide) (fun K hK => ?_)
      refine goes_ Tryd.func24 (by kernel_rfl) rfl #[.int .i64 60, .int .u64 a0, .int .u64 a1] (by rfl) rfl rfl (by (try simp only [List.map_toArray, List.map_cons, List.map_nil]); first | done | rfl | (simp only [List.length_drop, List.length_take]; rfl)) ?_
      with_reducible refine (platformfwlaw08_number.calls k 60 a0 a1 t426 _ ?hTT_ A41.out).mono ?_
      (case hTT_ => exact tb_below HTT_.out (by repeat (first | (with_reducible first | exact HB.out | apply bA_ | apply bN_ | apply bD_) | exact HB.out)))
      rintro e w54 ⟨rfl, hb⟩
      refine ⟨_, rfl, ?_⟩
      have n0_ := Aside0.mk (blk_below (g := gb390) (o := .cells #[.int .i64 t385, .int .u64 t386, .string t387, .int .i64 t388] 24 (0, 0)) (by (with_reducible repeat (first | apply kN_ | apply kD_ | apply kA_)); exact BK390.out) hb)
      have n1_ := Aside0.mk (blk_below (g := gb400) (o := .cells #[.int .i64 t395, .int .u64 t396, .string t397, .int .i64 t398] 24 (0, 0)) (by (with_reducible repeat (first | apply kN_ | apply kD_ | apply kA_)); exact BK400.out) hb)
      have n2_ := Aside0.mk (blk_below (g := gb410) (o := .cells #[.int .i64 t405, .int .u64 t406, .string t407, .int .i64 t408] 24 (0, 0)) (by (with_reducible repeat (first | apply kN_ | apply kD_ | apply kA_)); exact BK410.out) hb)
      have n3_ := Aside0.mk (blk_below (g := gb424) (o := .cells #[.int .i64 t419, .int .u64 t420, .string t421, .int .i64 t422] 24 (0, 0)) (by (with_reducible repeat (first | apply kN_ | apply kD_ | apply kA_)); exact BK424.out) hb)
      have n4_ := Aside0.mk (below_step (by repeat (first | (with_reducible first | exact HB.out | apply bA_ | apply bN_ | apply bD_ | refine bS_ ?_ GE390.out | refine bS_ ?_ GE400.out | refine bS_ ?_ GE410.out | refine bS_ ?_ GE424.out) | exact HB.out)) hb)
      clear BK390
      clear BK400
      clear BK410
      clear BK424
      clear HB
      have BK390 := n0_
      have BK400 := n1_
      have BK410 := n2_
      have BK424 := n3_
      have HB := n4_
      clear n0_ n1_ n2_ n3_ n4_
      (try clear hb)
      (try clear hb2)
      (try clear hk)
      (try clear hi)
      refine hK.out _ _ ⟨(blk_cell BK390.out 0).trans rfl, (blk_cell BK390.out 1).trans rfl, (blk_cell BK390.out 2).trans rfl, (blk_cell BK390.out 3).trans rfl, (blk_cell BK400.out 0).trans rfl, (blk_cell BK400.out 1).trans rfl, (blk_cell BK400.out 2).trans rfl, (blk_cell BK400.out 3).trans rfl, (blk_cell BK410.out 0).trans rfl, (blk_cell BK410.out 1).trans rfl, (blk_cell BK410.out 2).trans rfl, (blk_cell BK410.out 3).trans rfl⟩ (fun hHeld => ?_)
      clear hK K
      refine norm_ (a' := ?_) ?_ ?_
      rotate_left
      ·show Act.put _ (some 53) _ = _
       simp only [Act.put, sA_, sB_, sC_, i64_w, i32_w]
       rfl
      refine one_ (i := 7) (N := some 55) (tf 31 511) rfl rfl (one_of HT_.out (by kernel_rfl)) (by decide) (fun K hK => ?_)
      refine goes_ Tryd.func24 (by kernel_rfl) rfl #[.int .i64 61, .int .u64 t426, .int .u64 a1] (by rfl) rfl rfl (by (try simp only [List.map_toArray, List.map_cons, List.map_nil]); first | done | rfl | (simp only [List.length_drop, List.length_take]; rfl)) ?_
      with_reducible refine (platformfwlaw08_number.calls k 61 t426 a1 t427 _ ?hTT_ A42.out).mono ?_
      (case hTT_ => exact tb_below HTT_.out (by repeat (first | (with_reducible first | exact HB.out | apply bA_ | apply bN_ | apply bD_) | exact HB.out)))
      rintro e w55 ⟨rfl, hb⟩
      refine ⟨_, rfl, ?_⟩
      have n0_ := Aside0.mk (blk_below (g := gb390) (o := .cells #[.int .i64 t385, .int .u64 t386, .string t387, .int .i64 t388] 24 (0, 0)) (by (with_reducible repeat (first | apply kN_ | apply kD_ | apply kA_)); exact BK390.out) hb)
      have n1_ := Aside0.mk (blk_below (g := gb400) (o := .cells #[.int .i64 t395, .int .u64 t396, .string t397, .int .i64 t398] 24 (0, 0)) (by (with_reducible repeat (first | apply kN_ | apply kD_ | apply kA_)); exact BK400.out) hb)
      have n2_ := Aside0.mk (blk_below (g := gb410) (o := .cells #[.int .i64 t405, .int .u64 t406, .string t407, .int .i64 t408] 24 (0, 0)) (by (with_reducible repeat (first | apply kN_ | apply kD_ | apply kA_)); exact BK410.out) hb)
      have n3_ := Aside0.mk (blk_below (g := gb424) (o := .cells #[.int .i64 t419, .int .u64 t420, .string t421, .int .i64 t422] 24 (0, 0)) (by (with_reducible repeat (first | apply kN_ | apply kD_ | apply kA_)); exact BK424.out) hb)
      have n4_ := Aside0.mk (below_step (by repeat (first | (with_reducible first | exact HB.out | apply bA_ | apply bN_ | apply bD_ | refine bS_ ?_ GE390.out | refine bS_ ?_ GE400.out | refine bS_ ?_ GE410.out | refine bS_ ?_ GE424.out) | exact HB.out)) hb)
      clear BK390
      clear BK400
      clear BK410
      clear BK424
      clear HB
      have BK390 := n0_
      have BK400 := n1_
      have BK410 := n2_
      have BK424 := n3_
      have HB := n4_
      clear n0_ n1_ n2_ n3_ n4_
      (try clear hb)
      (try clear hb2)
      (try clear hk)
      (try clear hi)
      refine hK.out _ _ ⟨(blk_cell BK390.out 0).trans rfl, (blk_cell BK390.out 1).trans rfl, (blk_cell BK390.out 2).trans rfl, (blk_cell BK390.out 3).trans rfl, (blk_cell BK400.out 0).trans rfl, (blk_cell BK400.out 1).trans rfl, (blk_cell BK400.out 2).trans rfl, (blk_cell BK400.out 3).trans rfl, (blk_cell BK410.out 0).trans rfl, (blk_cell BK410.out 1).trans rfl, (blk_cell BK410.out 2).trans rfl, (blk_cell BK410.out 3).trans rfl⟩ (fun hHeld => ?_)
      clear hK K
      refine norm_ (a' := ?_) ?_ ?_
      rotate_left
      ·show Act.put _ (some 55) _ = _
       simp only [Act.put, sA_, sB_, sC_, i64_w, i32_w]
       rfl
      refine pure_ (i := 9) (N := some 57) (v := ?_) (a' := ?_) (tf 31 1023) rfl rfl (any_of HT_.out (by kernel_rfl)) (fun _ _ _ h => h) (Or.inl ⟨by rfl, ?_⟩) ?_ ?_
      rotate_left
      ·intro w'
       go_simp
       with_reducible rfl
      rotate_left
      ·simp only [Act.put, sA_, sB_, sC_, i64_w, i32_w]
       rfl
      refine pure_ (i := 10) (N := some 58) (v := ?_) (a' := ?_) (tf 31 2047) rfl rfl (any_of HT_.out (by kernel_rfl)) (fun _ _ _ h => h) (Or.inl ⟨by rfl, ?_⟩) ?_ ?_
      rotate_left
      ·intro w'
       go_simp
       with_reducible rfl
      rotate_left
      ·simp only [Act.put, sA_, sB_, sC_, i64_w, i32_w]
       rfl
      refine pure_ (i := 11) (N := some 59) (v := ?_) (a' := ?_) (tf 31 4095) rfl rfl (any_of HT_.out (by kernel_rfl)) (fun _ _ _ h => h) (Or.inl ⟨by rfl, ?_⟩) ?_ ?_
      rotate_left
      ·intro w'
       go_simp
       with_reducible rfl
      rotate_left
      ·simp only [Act.put, sA_, sB_, sC_, i64_w, i32_w]
       rfl
      refine pure_ (i := 12) (N := some 60) (v := ?_) (a' := ?_) (tf 31 8191) rfl rfl (any_of HT_.out (by kernel_rfl)) (fun _ _ _ h => h) (Or.inl ⟨by rfl, ?_⟩) ?_ ?_
      rotate_left
      ·intro w'
       go_simp
       with_reducible rfl
      rotate_left
      ·simp only [Act.put, sA_, sB_, sC_, i64_w, i32_w]
       rfl
      refine pure_ (i := 14) (N := some 62) (v := ?_) (a' := ?_) (tf 31 24575) rfl rfl (any_of HT_.out (by kernel_rfl)) (fun _ _ _ h => h) (Or.inl ⟨by rfl, ?_⟩) ?_ ?_
      rotate_left
      ·intro w'
       go_simp
       with_reducible rfl
      rotate_left
      ·simp only [Act.put, sA_, sB_, sC_, i64_w, i32_w]
       rfl
      refine pure_ (i := 16) (N := some 64) (v := ?_) (a' := ?_) (tf 31 90111) rfl rfl (any_of HT_.out (by kernel_rfl)) (fun _ _ _ h => h) (Or.inl ⟨by rfl, ?_⟩) ?_ ?_
      rotate_left
      ·intro w'
       go_simp
       with_reducible rfl
      rotate_left
      ·simp only [Act.put, sA_, sB_, sC_, i64_w, i32_w]
       rfl
      refine take_ (i := 13) (N := some 61) (v := ?_) (a' := ?_) (tf 31 98303) rfl rfl (take_ofW HT_.out HW_.out (by kernel_rfl)) (fun _ _ _ h => h) (Or.inl ⟨by rfl, ?_⟩) hHeld ?_ ?_
      rotate_left
      ·rintro w' ⟨s0, s1, s2, s3, s4, s5, s6, s7, s8, s9, s10, s11⟩
       go_simp
       with_reducible rfl
      rotate_left
      ·simp only [Act.put, sA_, sB_, sC_, i64_w, i32_w]
       rfl
      refine take_ (i := 15) (N := some 63) (v := ?_) (a' := ?_) (tf 31 131071) rfl rfl (take_ofW HT_.out HW_.out (by kernel_rfl)) (fun _ _ _ h => h) (Or.inl ⟨by rfl, ?_⟩) hHeld ?_ ?_
      rotate_left
      ·rintro w' ⟨s0, s1, s2, s3, s4, s5, s6, s7, s8, s9, s10, s11⟩
       go_simp
       with_reducible rfl
      rotate_left
      ·simp only [Act.put, sA_, sB_, sC_, i64_w, i32_w]
       rfl
      refine take_ (i := 17) (N := some 65) (v := ?_) (a' := ?_) (tf 31 262143) rfl rfl (take_ofW HT_.out HW_.out (by kernel_rfl)) (fun _ _ _ h => h) (Or.inl ⟨by rfl, ?_⟩) hHeld ?_ ?_
      rotate_left
      ·rintro w' ⟨s0, s1, s2, s3, s4, s5, s6, s7, s8, s9, s10, s11⟩
       go_simp
       with_reducible rfl
      rotate_left
      ·simp only [Act.put, sA_, sB_, sC_, i64_w, i32_w]
       rfl
      refine one_ (i := 18) (N := some 66) (tf 31 524287) rfl rfl (one_of HT_.out (by kernel_rfl)) (by decide) (fun K hK => ?_)
      refine goes_ Tryd.func24 (by kernel_rfl) rfl #[.int .i64 66, .int .u64 t396, .int .u64 t406] (by rfl) rfl rfl (by (try simp only [List.map_toArray, List.map_cons, List.map_nil]); first | done | rfl | (simp only [List.length_drop, List.length_take]; rfl)) ?_
      with_reducible refine (platformfwlaw08_number.calls k 66 t396 t406 t428 _ ?hTT_ A44.out).mono ?_
      (case hTT_ => exact tb_below HTT_.out (by repeat (first | (with_reducible first | exact HB.out | apply bA_ | apply bN_ | apply bD_) | exact HB.out)))
      rintro e w56 ⟨rfl, hb⟩
      refine ⟨_, rfl, ?_⟩
      have n0_ := Aside0.mk (blk_below (g := gb390) (o := .cells #[.int .i64 t385, .int .u64 t386, .string t387, .int .i64 t388] 24 (0, 0)) (by (with_reducible repeat (first | apply kN_ | apply kD_ | apply kA_)); exact BK390.out) hb)
      have n1_ := Aside0.mk (blk_below (g := gb400) (o := .cells #[.int .i64 t395, .int .u64 t396, .string t397, .int .i64 t398] 24 (0, 0)) (by (with_reducible repeat (first | apply kN_ | apply kD_ | apply kA_)); exact BK400.out) hb)
      have n2_ := Aside0.mk (blk_below (g := gb410) (o := .cells #[.int .i64 t405, .int .u64 t406, .string t407, .int .i64 t408] 24 (0, 0)) (by (with_reducible repeat (first | apply kN_ | apply kD_ | apply kA_)); exact BK410.out) hb)
      have n3_ := Aside0.mk (blk_below (g := gb424) (o := .cells #[.int .i64 t419, .int .u64 t420, .string t421, .int .i64 t422] 24 (0, 0)) (by (with_reducible repeat (first | apply kN_ | apply kD_ | apply kA_)); exact BK424.out) hb)
      have n4_ := Aside0.mk (below_step (by repeat (first | (with_reducible first | exact HB.out | apply bA_ | apply bN_ | apply bD_ | refine bS_ ?_ GE390.out | refine bS_ ?_ GE400.out | refine bS_ ?_ GE410.out | refine bS_ ?_ GE424.out) | exact HB.out)) hb)
      clear BK390
      clear BK400
      clear BK410
      clear BK424
      clear HB
      have BK390 := n0_
      have BK400 := n1_
      have BK410 := n2_
      have BK424 := n3_
      have HB := n4_
      clear n0_ n1_ n2_ n3_ n4_
      (try clear hb)
      (try clear hb2)
      (try clear hk)
      (try clear hi)
      refine hK.out _ _ ⟨(blk_cell BK390.out 0).trans rfl, (blk_cell BK390.out 1).trans rfl, (blk_cell BK390.out 2).trans rfl, (blk_cell BK390.out 3).trans rfl, (blk_cell BK400.out 0).trans rfl, (blk_cell BK400.out 1).trans rfl, (blk_cell BK400.out 2).trans rfl, (blk_cell BK400.out 3).trans rfl, (blk_cell BK410.out 0).trans rfl, (blk_cell BK410.out 1).trans rfl, (blk_cell BK410.out 2).trans rfl, (blk_cell BK410.out 3).trans rfl⟩ (fun hHeld => ?_)
      clear hK K
      refine norm_ (a' := ?_) ?_ ?_
      rotate_left
      ·show Act.put _ (some 66) _ = _
       simp only [Act.put, sA_, sB_, sC_, i64_w, i32_w]
       rfl
      refine pure_ (i := 19) (N := some 67) (v := ?_) (a' := ?_) (tf 31 1048575) rfl rfl (any_of HT_.out (by kernel_rfl)) (fun _ _ _ h => h) (Or.inl ⟨by rfl, ?_⟩) ?_ ?_
      rotate_left
      ·intro w'
       go_simp
       with_reducible rfl
      rotate_left
      ·simp only [Act.put, sA_, sB_, sC_, i64_w, i32_w]
       rfl
      refine pure_ (i := 20) (N := some 68) (v := ?_) (a' := ?_) (tf 31 2097151) rfl rfl (any_of HT_.out (by kernel_rfl)) (fun _ _ _ h => h) (Or.inl ⟨by rfl, ?_⟩) ?_ ?_
      rotate_left
      ·intro w'
       go_simp
       with_reducible rfl
      rotate_left
      ·simp only [Act.put, sA_, sB_, sC_, i64_w, i32_w]
       rfl
      refine pure_ (i := 21) (N := some 69) (v := ?_) (a' := ?_) (tf 31 4194303) rfl rfl (any_of HT_.out (by kernel_rfl)) (fun _ _ _ h => h) (Or.inl ⟨by rfl, ?_⟩) ?_ ?_
      rotate_left
      ·intro w'
       go_simp
       with_reducible rfl
      rotate_left
      ·simp only [Act.put, sA_, sB_, sC_, i64_w, i32_w]
       rfl
      refine pure_ (i := 22) (N := some 70) (v := ?_) (a' := ?_) (tf 31 8388607) rfl rfl (any_of HT_.out (by kernel_rfl)) (fun _ _ _ h => h) (Or.inl ⟨by rfl, ?_⟩) ?_ ?_
      rotate_left
      ·intro w'
       go_simp
       with_reducible rfl
      rotate_left
      ·simp only [Act.put, sA_, sB_, sC_, i64_w, i32_w]
       rfl
      refine pure_ (i := 23) (N := some 71) (v := ?_) (a' := ?_) (tf 31 16777215) rfl rfl (any_of HT_.out (by kernel_rfl)) (fun _ _ _ h => h) (Or.inl ⟨by rfl, ?_⟩) ?_ ?_
      rotate_left
      ·intro w'
       go_simp
       with_reducible rfl
      rotate_left
      ·simp only [Act.put, sA_, sB_, sC_, i64_w, i32_w]
       rfl
      refine pure_ (i := 25) (N := some 73) (v := ?_) (a' := ?_) (tf 31 50331647) rfl rfl (any_of HT_.out (by kernel_rfl)) (fun _ _ _ h => h) (Or.inl ⟨by rfl, ?_⟩) ?_ ?_
      rotate_left
      ·intro w'
       go_simp
       with_reducible rfl
      rotate_left
      ·simp only [Act.put, sA_, sB_, sC_, i64_w, i32_w]
       rfl
      refine pure_ (i := 26) (N := some 74) (v := ?_) (a' := ?_) (tf 31 117440511) rfl rfl (any_of HT_.out (by kernel_rfl)) (fun _ _ _ h => h) (Or.inl ⟨by rfl, ?_⟩) ?_ ?_
      rotate_left
      ·intro w'
       go_simp
       with_reducible rfl
      rotate_left
      ·simp only [Act.put, sA_, sB_, sC_, i64_w, i32_w]
       rfl
      refine pure_ (i := 27) (N := some 75) (v := ?_) (a' := ?_) (tf 31 251658239) rfl rfl (any_of HT_.out (by kernel_rfl)) (fun _ _ _ h => h) (Or.inl ⟨by rfl, ?_⟩) ?_ ?_
      rotate_left
      ·intro w'
       go_simp
       with_reducible rfl
      rotate_left
      ·simp only [Act.put, sA_, sB_, sC_, i64_w, i32_w]
       rfl
      refine one_ (i := 24) (N := some 72) (tf 31 268435455) rfl rfl (one_of HT_.out (by kernel_rfl)) (by decide) (fun K hK => ?_)
      refine goes_ Tryd.func24 (by kernel_rfl) rfl #[.int .i64 68, .int .u64 a0, .int .u64 ji47] (by rfl) rfl rfl (by (try simp only [List.map_toArray, List.map_cons, List.map_nil]); first | done | (simp only [hji47]; rfl) | rfl | (simp only [List.length_drop, List.length_take]; rfl)) ?_
      with_reducible refine (platformfwlaw08_number.calls k 68 a0 ji47 t429 _ ?hTT_ A46.out).mono ?_
      (case hTT_ => exact tb_below HTT_.out (by repeat (first | (with_reducible first | exact HB.out | apply bA_ | apply bN_ | apply bD_) | exact HB.out)))
      rintro e w57 ⟨rfl, hb⟩
      refine ⟨_, rfl, ?_⟩
      have n0_ := Aside0.mk (blk_below (g := gb390) (o := .cells #[.int .i64 t385, .int .u64 t386, .string t387, .int .i64 t388] 24 (0, 0)) (by (with_reducible repeat (first | apply kN_ | apply kD_ | apply kA_)); exact BK390.out) hb)
      have n1_ := Aside0.mk (blk_below (g := gb400) (o := .cells #[.int .i64 t395, .int .u64 t396, .string t397, .int .i64 t398] 24 (0, 0)) (by (with_reducible repeat (first | apply kN_ | apply kD_ | apply kA_)); exact BK400.out) hb)
      have n2_ := Aside0.mk (blk_below (g := gb410) (o := .cells #[.int .i64 t405, .int .u64 t406, .string t407, .int .i64 t408] 24 (0, 0)) (by (with_reducible repeat (first | apply kN_ | apply kD_ | apply kA_)); exact BK410.out) hb)
      have n3_ := Aside0.mk (blk_below (g := gb424) (o := .cells #[.int .i64 t419, .int .u64 t420, .string t421, .int .i64 t422] 24 (0, 0)) (by (with_reducible repeat (first | apply kN_ | apply kD_ | apply kA_)); exact BK424.out) hb)
      have n4_ := Aside0.mk (below_step (by repeat (first | (with_reducible first | exact HB.out | apply bA_ | apply bN_ | apply bD_ | refine bS_ ?_ GE390.out | refine bS_ ?_ GE400.out | refine bS_ ?_ GE410.out | refine bS_ ?_ GE424.out) | exact HB.out)) hb)
      clear BK390
      clear BK400
      clear BK410
      clear BK424
      clear HB
      have BK390 := n0_
      have BK400 := n1_
      have BK410 := n2_
      have BK424 := n3_
      have HB := n4_
      clear n0_ n1_ n2_ n3_ n4_
      (try clear hb)
      (try clear hb2)
      (try clear hk)
      (try clear hi)
      refine hK.out _ _ ⟨(blk_cell BK390.out 0).trans rfl, (blk_cell BK390.out 1).trans rfl, (blk_cell BK390.out 2).trans rfl, (blk_cell BK390.out 3).trans rfl, (blk_cell BK400.out 0).trans rfl, (blk_cell BK400.out 1).trans rfl, (blk_cell BK400.out 2).trans rfl, (blk_cell BK400.out 3).trans rfl, (blk_cell BK410.out 0).trans rfl, (blk_cell BK410.out 1).trans rfl, (blk_cell BK410.out 2).trans rfl, (blk_cell BK410.out 3).trans rfl⟩ (fun hHeld => ?_)
      clear hK K
      refine norm_ (a' := ?_) ?_ ?_
      rotate_left
      ·show Act.put _ (some 72) _ = _
       simp only [Act.put, sA_, sB_, sC_, i64_w, i32_w]
       rfl
      refine one_ (i := 28) (N := some 76) (tf 31 536870911) rfl rfl (one_of HT_.out (by kernel_rfl)) (by decide) (fun K hK => ?_)
      refine goes_ Tryd.func24 (by kernel_rfl) rfl #[.int .i64 62, .int .u64 a0, .int .u64 ji49] (by rfl) rfl rfl (by (try simp only [List.map_toArray, List.map_cons, List.map_nil]); first | done | (simp only [hji49]; rfl) | rfl | (simp only [List.length_drop, List.length_take]; rfl)) ?_
      with_reducible refine (platformfwlaw08_number.calls k 62 a0 ji49 t430 _ ?hTT_ A50.out).mono ?_
      (case hTT_ => exact tb_below HTT_.out (by repeat (first | (with_reducible first | exact HB.out | apply bA_ | apply bN_ | apply bD_) | exact HB.out)))
      rintro e w58 ⟨rfl, hb⟩
      refine ⟨_, rfl, ?_⟩
      have n0_ := Aside0.mk (blk_below (g := gb390) (o := .cells #[.int .i64 t385, .int .u64 t386, .string t387, .int .i64 t388] 24 (0, 0)) (by (with_reducible repeat (first | apply kN_ | apply kD_ | apply kA_)); exact BK390.out) hb)
      have n1_ := Aside0.mk (blk_below (g := gb400) (o := .cells #[.int .i64 t395, .int .u64 t396, .string t397, .int .i64 t398] 24 (0, 0)) (by (with_reducible repeat (first | apply kN_ | apply kD_ | apply kA_)); exact BK400.out) hb)
      have n2_ := Aside0.mk (blk_below (g := gb410) (o := .cells #[.int .i64 t405, .int .u64 t406, .string t407, .int .i64 t408] 24 (0, 0)) (by (with_reducible repeat (first | apply kN_ | apply kD_ | apply kA_)); exact BK410.out) hb)
      have n3_ := Aside0.mk (blk_below (g := gb424) (o := .cells #[.int .i64 t419, .int .u64 t420, .string t421, .int .i64 t422] 24 (0, 0)) (by (with_reducible repeat (first | apply kN_ | apply kD_ | apply kA_)); exact BK424.out) hb)
      have n4_ := Aside0.mk (below_step (by repeat (first | (with_reducible first | exact HB.out | apply bA_ | apply bN_ | apply bD_ | refine bS_ ?_ GE390.out | refine bS_ ?_ GE400.out | refine bS_ ?_ GE410.out | refine bS_ ?_ GE424.out) | exact HB.out)) hb)
      clear BK390
      clear BK400
      clear BK410
      clear BK424
      clear HB
      have BK390 := n0_
      have BK400 := n1_
      have BK410 := n2_
      have BK424 := n3_
      have HB := n4_
      clear n0_ n1_ n2_ n3_ n4_
      (try clear hb)
      (try clear hb2)
      (try clear hk)
      (try clear hi)
      refine hK.out _ _ ⟨(blk_cell BK390.out 0).trans rfl, (blk_cell BK390.out 1).trans rfl, (blk_cell BK390.out 2).trans rfl, (blk_cell BK390.out 3).trans rfl, (blk_cell BK400.out 0).trans rfl, (blk_cell BK400.out 1).trans rfl, (blk_cell BK400.out 2).trans rfl, (blk_cell BK400.out 3).trans rfl, (blk_cell BK410.out 0).trans rfl, (blk_cell BK410.out 1).trans rfl, (blk_cell BK410.out 2).trans rfl, (blk_cell BK410.out 3).trans rfl⟩ (fun hHeld => ?_)
      clear hK K
      refine norm_ (a' := ?_) ?_ ?_
      rotate_left
      ·show Act.put _ (some 76) _ = _
       simp only [Act.put, sA_, sB_, sC_, i64_w, i32_w]
       rfl
      refine pure_ (i := 29) (N := some 77) (v := ?_) (a' := ?_) (tf 31 1073741823) rfl rfl (any_of HT_.out (by kernel_rfl)) (fun _ _ _ h => h) (Or.inl ⟨by rfl, ?_⟩) ?_ ?_
      rotate_left
      ·intro w'
       go_simp
       with_reducible rfl
      rotate_left
      ·simp only [Act.put, sA_, sB_, sC_, i64_w, i32_w]
       rfl
      refine pure_ (i := 30) (N := some 78) (v := ?_) (a' := ?_) (tf 31 2147483647) rfl rfl (any_of HT_.out (by kernel_rfl)) (fun _ _ _ h => h) (Or.inl ⟨by rfl, ?_⟩) ?_ ?_
      rotate_left
      ·intro w'
       go_simp
       with_reducible rfl
      rotate_left
      ·simp only [Act.put, sA_, sB_, sC_, i64_w, i32_w]
       rfl
      refine done_ (done_of HT_.out (by kernel_rfl)) ?_
      try go_wp2
      go_meet
      case rel => exact ⟨_, ((t429 != t430)), (by first | rfl | (simp; done) | (simp [*]; done)), H', ⟨by first | omega | exact Nat.le_refl _⟩, ⟨by (with_reducible repeat (first | apply kN_ | apply kD_ | apply kA_)); exact BK390.out⟩, ⟨by (with_reducible repeat (first | apply kN_ | apply kD_ | apply kA_)); exact BK400.out⟩, ⟨by (with_reducible repeat (first | apply kN_ | apply kD_ | apply kA_)); exact BK410.out⟩, ⟨by (with_reducible repeat (first | apply kN_ | apply kD_ | apply kA_)); exact BK424.out⟩, ⟨by repeat (first | (with_reducible first | exact HB.out | apply bA_ | apply bN_ | apply bD_ | refine bS_ ?_ GE390.out | refine bS_ ?_ GE400.out | refine bS_ ?_ GE410.out | refine bS_ ?_ GE424.out) | exact HB.out)⟩⟩
     ·rw [if_neg c48] at H
      exact absurd H (by simp)
    ·rw [if_neg c45] at H
     have c45b0 : (t386 == t428) = false := beq_eq_false_iff_ne.mpr c45
     have c45b1 : (t386 != t428) = true := bne_iff_ne.mpr c45
     have H' := Aside0.mk H
     clear H
     try go_wp2
     have n0_ : Aside0 (((((w34.setCell ⟨gb424, 0, none⟩ (.int .i64 t419)).setCell ⟨gb424, 1, none⟩ (.int .u64 t420)).setCell ⟨gb424, 2, none⟩ (.string t421)).setCell ⟨gb424, 3, none⟩ (.int .i64 t422)).heap[gb390]? = some (.cells #[.int .i64 t385, .int .u64 t386, .string t387, .int .i64 t388] 24 (0, 0))) := ⟨by (with_reducible repeat (first | apply kN_ | apply kD_ | apply kA_)); refine blk_far ?_ NB390_424.out _; (with_reducible repeat (first | apply kN_ | apply kD_ | apply kA_)); refine blk_far ?_ NB390_424.out _; (with_reducible repeat (first | apply kN_ | apply kD_ | apply kA_)); refine blk_far ?_ NB390_424.out _; (with_reducible repeat (first | apply kN_ | apply kD_ | apply kA_)); refine blk_far ?_ NB390_424.out _; (with_reducible repeat (first | apply kN_ | apply kD_ | apply kA_)); exact BK390.out⟩
     have n1_ : Aside0 (((((w34.setCell ⟨gb424, 0, none⟩ (.int .i64 t419)).setCell ⟨gb424, 1, none⟩ (.int .u64 t420)).setCell ⟨gb424, 2, none⟩ (.string t421)).setCell ⟨gb424, 3, none⟩ (.int .i64 t422)).heap[gb400]? = some (.cells #[.int .i64 t395, .int .u64 t396, .string t397, .int .i64 t398] 24 (0, 0))) := ⟨by (with_reducible repeat (first | apply kN_ | apply kD_ | apply kA_)); refine blk_far ?_ NB400_424.out _; (with_reducible repeat (first | apply kN_ | apply kD_ | apply kA_)); refine blk_far ?_ NB400_424.out _; (with_reducible repeat (first | apply kN_ | apply kD_ | apply kA_)); refine blk_far ?_ NB400_424.out _; (with_reducible repeat (first | apply kN_ | apply kD_ | apply kA_)); refine blk_far ?_ NB400_424.out _; (with_reducible repeat (first | apply kN_ | apply kD_ | apply kA_)); exact BK400.out⟩
     have n2_ : Aside0 (((((w34.setCell ⟨gb424, 0, none⟩ (.int .i64 t419)).setCell ⟨gb424, 1, none⟩ (.int .u64 t420)).setCell ⟨gb424, 2, none⟩ (.string t421)).setCell ⟨gb424, 3, none⟩ (.int .i64 t422)).heap[gb410]? = some (.cells #[.int .i64 t405, .int .u64 t406, .string t407, .int .i64 t408] 24 (0, 0))) := ⟨by (with_reducible repeat (first | apply kN_ | apply kD_ | apply kA_)); refine blk_far ?_ NB410_424.out _; (with_reducible repeat (first | apply kN_ | apply kD_ | apply kA_)); refine blk_far ?_ NB410_424.out _; (with_reducible repeat (first | apply kN_ | apply kD_ | apply kA_)); refine blk_far ?_ NB410_424.out _; (with_reducible repeat (first | apply kN_ | apply kD_ | apply kA_)); refine blk_far ?_ NB410_424.out _; (with_reducible repeat (first | apply kN_ | apply kD_ | apply kA_)); exact BK410.out⟩
     have n3_ : Aside0 (((((w34.setCell ⟨gb424, 0, none⟩ (.int .i64 t419)).setCell ⟨gb424, 1, none⟩ (.int .u64 t420)).setCell ⟨gb424, 2, none⟩ (.string t421)).setCell ⟨gb424, 3, none⟩ (.int .i64 t422)).heap[gb424]? = some (.cells #[.int .i64 t419, .int .u64 t420, .string t421, .int .i64 t422] 24 (0, 0))) := ⟨by (with_reducible repeat (first | apply kN_ | apply kD_ | apply kA_)); refine blk_put (cs := #[.int .i64 t419, .int .u64 t420, .string t421, .int .i64 0]) ?_ 3 _ rfl; (with_reducible repeat (first | apply kN_ | apply kD_ | apply kA_)); refine blk_put (cs := #[.int .i64 t419, .int .u64 t420, .string (⟨#[]⟩ : ByteArray), .int .i64 0]) ?_ 2 _ rfl; (with_reducible repeat (first | apply kN_ | apply kD_ | apply kA_)); refine blk_put (cs := #[.int .i64 t419, .int .u64 0, .string (⟨#[]⟩ : ByteArray), .int .i64 0]) ?_ 1 _ rfl; (with_reducible repeat (first | apply kN_ | apply kD_ | apply kA_)); refine blk_put (cs := #[.int .i64 0, .int .u64 0, .string (⟨#[]⟩ : ByteArray), .int .i64 0]) ?_ 0 _ rfl; (with_reducible repeat (first | apply kN_ | apply kD_ | apply kA_)); exact BK424.out⟩
     have n4_ : Aside0 (Below w.heap.size w ((((w34.setCell ⟨gb424, 0, none⟩ (.int .i64 t419)).setCell ⟨gb424, 1, none⟩ (.int .u64 t420)).setCell ⟨gb424, 2, none⟩ (.string t421)).setCell ⟨gb424, 3, none⟩ (.int .i64 t422))) := ⟨by repeat (first | (with_reducible first | exact HB.out | apply bA_ | apply bN_ | apply bD_ | refine bS_ ?_ GE390.out | refine bS_ ?_ GE400.out | refine bS_ ?_ GE410.out | refine bS_ ?_ GE424.out) | exact HB.out)⟩
     (try clear BK390)
     (try clear BK400)
     (try clear BK410)
     (try clear BK424)
     (try clear HB)
     generalize ((((w34.setCell ⟨gb424, 0, none⟩ (.int .i64 t419)).setCell ⟨gb424, 1, none⟩ (.int .u64 t420)).setCell ⟨gb424, 2, none⟩ (.string t421)).setCell ⟨gb424, 3, none⟩ (.int .i64 t422)) = w59 at n0_ n1_ n2_ n3_ n4_ ⊢
     have BK390 := n0_
     have BK400 := n1_
     have BK410 := n2_
     have BK424 := n3_
     have HB := n4_
     clear n0_ n1_ n2_ n3_ n4_
     have n0_ := Aside0.mk (kD_ BK390.out)
     have n1_ := Aside0.mk (kD_ BK400.out)
     have n2_ := Aside0.mk (kD_ BK410.out)
     have n3_ := Aside0.mk (kD_ BK424.out)
     have n4_ := Aside0.mk (bD_ HB.out)
     clear BK390
     clear BK400
     clear BK410
     clear BK424
     clear HB
     have BK390 := n0_
     have BK400 := n1_
     have BK410 := n2_
     have BK424 := n3_
     have HB := n4_
     clear n0_ n1_ n2_ n3_ n4_
     refine start_ (n := 31) (S := fun w' => w'.cell? ⟨gb390, 0, none⟩ = some (.int .i64 t385) ∧ w'.cell? ⟨gb390, 1, none⟩ = some (.int .u64 t386) ∧ w'.cell? ⟨gb390, 2, none⟩ = some (.string t387) ∧ w'.cell? ⟨gb390, 3, none⟩ = some (.int .i64 t388) ∧ w'.cell? ⟨gb400, 0, none⟩ = some (.int .i64 t395) ∧ w'.cell? ⟨gb400, 1, none⟩ = some (.int .u64 t396) ∧ w'.cell? ⟨gb400, 2, none⟩ = some (.string t397) ∧ w'.cell? ⟨gb400, 3, none⟩ = some (.int .i64 t398) ∧ w'.cell? ⟨gb410, 0, none⟩ = some (.int .i64 t405) ∧ w'.cell? ⟨gb410, 1, none⟩ = some (.int .u64 t406) ∧ w'.cell? ⟨gb410, 2, none⟩ = some (.string t407) ∧ w'.cell? ⟨gb410, 3, none⟩ = some (.int .i64 t408)) (ds := []) #[false, false, false, false, false, false, false, false, false, false, false, false, false, false, false, false, false, false, false, false, false, false, false, false, false, false, false, false, false, false, false] (by kernel_rfl) rfl rfl ⟨(blk_cell BK390.out 0).trans rfl, (blk_cell BK390.out 1).trans rfl, (blk_cell BK390.out 2).trans rfl, (blk_cell BK390.out 3).trans rfl, (blk_cell BK400.out 0).trans rfl, (blk_cell BK400.out 1).trans rfl, (blk_cell BK400.out 2).trans rfl, (blk_cell BK400.out 3).trans rfl, (blk_cell BK410.out 0).trans rfl, (blk_cell BK410.out 1).trans rfl, (blk_cell BK410.out 2).trans rfl, (blk_cell BK410.out 3).trans rfl⟩ (fun hHeld => ?_); refine with_tabW platformfwlaw08_ValueArithmetic.tab6 platformfwlaw08_ValueArithmetic.bits6 (fun HT_ HW_ => ?_)
     generalize w59.drew = w60 at BK390 BK400 BK410 BK424 HB hHeld ⊢
     refine one_ (i := 0) (N := some 48) (tf 31 1) rfl rfl (one_of HT_.out (by kernel_rfl)) (by decide) (fun K hK => ?_)
     refine goes_ Tryd.func12 (by kernel_rfl) rfl #[] (by rfl) rfl rfl (by (try simp only [List.map_toArray, List.map_cons, List.map_nil]); first | done | rfl | (simp only [List.length_drop, List.length_take]; rfl)) ?_
     with_reducible refine (platformfwlaw08_awake.calls k  true _ ?hTT_ A39.out).mono ?_
     (case hTT_ => exact tb_below HTT_.out (by repeat (first | (with_reducible first | exact HB.out | apply bA_ | apply bN_ | apply bD_) | exact HB.out)))
     rintro e w61 ⟨rfl, hb⟩
     refine ⟨_, rfl, ?_⟩
     have n0_ := Aside0.mk (blk_below (g := gb390) (o := .cells #[.int .i64 t385, .int .u64 t386, .string t387, .int .i64 t388] 24 (0, 0)) (by (with_reducible repeat (first | apply kN_ | apply kD_ | apply kA_)); exact BK390.out) hb)
     have n1_ := Aside0.mk (blk_below (g := gb400) (o := .cells #[.int .i64 t395, .int .u64 t396, .string t397, .int .i64 t398] 24 (0, 0)) (by (with_reducible repeat (first | apply kN_ | apply kD_ | apply kA_)); exact BK400.out) hb)
     have n2_ := Aside0.mk (blk_below (g := gb410) (o := .cells #[.int .i64 t405, .int .u64 t406, .string t407, .int .i64 t408] 24 (0, 0)) (by (with_reducible repeat (first | apply kN_ | apply kD_ | apply kA_)); exact BK410.out) hb)
     have n3_ := Aside0.mk (blk_below (g := gb424) (o := .cells #[.int .i64 t419, .int .u64 t420, .string t421, .int .i64 t422] 24 (0, 0)) (by (with_reducible repeat (first | apply kN_ | apply kD_ | apply kA_)); exact BK424.out) hb)
     have n4_ := Aside0.mk (below_step (by repeat (first | (with_reducible first | exact HB.out | apply bA_ | apply bN_ | apply bD_ | refine bS_ ?_ GE390.out | refine bS_ ?_ GE400.out | refine bS_ ?_ GE410.out | refine bS_ ?_ GE424.out) | exact HB.out)) hb)
     clear BK390
     clear BK400
     clear BK410
     clear BK424
     clear HB
     have BK390 := n0_
     have BK400 := n1_
     have BK410 := n2_
     have BK424 := n3_
     have HB := n4_
     clear n0_ n1_ n2_ n3_ n4_
     (try clear hb)
     (try clear hb2)
     (try clear hk)
     (try clear hi)
     refine hK.out _ _ ⟨(blk_cell BK390.out 0).trans rfl, (blk_cell BK390.out 1).trans rfl, (blk_cell BK390.out 2).trans rfl, (blk_cell BK390.out 3).trans rfl, (blk_cell BK400.out 0).trans rfl, (blk_cell BK400.out 1).trans rfl, (blk_cell BK400.out 2).trans rfl, (blk_cell BK400.out 3).trans rfl, (blk_cell BK410.out 0).trans rfl, (blk_cell BK410.out 1).trans rfl, (blk_cell BK410.out 2).trans rfl, (blk_cell BK410.out 3).trans rfl⟩ (fun hHeld => ?_)
     clear hK K
     refine norm_ (a' := ?_) ?_ ?_
     rotate_left
     ·show Act.put _ (some 48) _ = _
      simp only [Act.put, sA_, sB_, sC_, i64_w, i32_w]
      rfl
     refine pure_ (i := 1) (N := some 49) (v := ?_) (a' := ?_) (tf 31 3) rfl rfl (any_of HT_.out (by kernel_rfl)) (fun _ _ _ h => h) (Or.inl ⟨by rfl, ?_⟩) ?_ ?_
     rotate_left
     ·intro w'
      go_simp
      with_reducible rfl
     rotate_left
     ·simp only [Act.put, sA_, sB_, sC_, i64_w, i32_w]
      rfl
     refine pure_ (i := 2) (N := some 50) (v := ?_) (a' := ?_) (tf 31 7) rfl rfl (any_of HT_.out (by kernel_rfl)) (fun _ _ _ h => h) (Or.inl ⟨by rfl, ?_⟩) ?_ ?_
     rotate_left
     ·intro w'
      go_simp
      with_reducible rfl
     rotate_left
     ·simp only [Act.put, sA_, sB_, sC_, i64_w, i32_w]
      rfl
     refine pure_ (i := 3) (N := some 51) (v := ?_) (a' := ?_) (tf 31 15) rfl rfl (any_of HT_.out (by kernel_rfl)) (fun _ _ _ h => h) (Or.inl ⟨by rfl, ?_⟩) ?_ ?_
     rotate_left
     ·intro w'
      go_simp
      with_reducible rfl
     rotate_left
     ·simp only [Act.put, sA_, sB_, sC_, i64_w, i32_w]
      rfl
     refine pure_ (i := 4) (N := some 52) (v := ?_) (a' := ?_) (tf 31 31) rfl rfl (any_of HT_.out (by kernel_rfl)) (fun _ _ _ h => h) (Or.inl ⟨by rfl, ?_⟩) ?_ ?_
     rotate_left
     ·intro w'
      go_simp
      with_reducible rfl
     rotate_left
     ·simp only [Act.put, sA_, sB_, sC_, i64_w, i32_w]
      rfl
     refine pure_ (i := 6) (N := some 54) (v := ?_) (a' := ?_) (tf 31 95) rfl rfl (any_of HT_.out (by kernel_rfl)) (fun _ _ _ h => h) (Or.inl ⟨by rfl, ?_⟩) ?_ ?_
     rotate_left
     ·intro w'
      go_simp
      with_reducible rfl
     rotate_left
     ·simp only [Act.put, sA_, sB_, sC_, i64_w, i32_w]
      rfl
     refine pure_ (i := 8) (N := some 56) (v := ?_) (a' := ?_) (tf 31 351) rfl rfl (any_of HT_.out (by kernel_rfl)) (fun _ _ _ h => h) (Or.inl ⟨by rfl, ?_⟩) ?_ ?_
     rotate_left
     ·intro w'
      go_simp
      with_reducible rfl
     rotate_left
     ·simp only [Act.put, sA_, sB_, sC_, i64_w, i32_w]
      rfl
     refine one_ (i := 5) (N := some 53) (tf 31 383) rfl rfl (one_of HT_.out (by kernel_rfl)) (by decide) (fun K hK => ?_)
     refine goes_ Tryd.func24 (by kernel_rfl) rfl #[.int .i64 60, .int .u64 a0, .int .u64 a1] (by rfl) rfl rfl (by (try simp only [List.map_toArray, List.map_cons, List.map_nil]); first | done | rfl | (simp only [List.length_drop, List.length_take]; rfl)) ?_
     with_reducible refine (platformfwlaw08_number.calls k 60 a0 a1 t426 _ ?hTT_ A41.out).mono ?_
     (case hTT_ => exact tb_below HTT_.out (by repeat (first | (with_reducible first | exact HB.out | apply bA_ | apply bN_ | apply bD_) | exact HB.out)))
     rintro e w62 ⟨rfl, hb⟩
     refine ⟨_, rfl, ?_⟩
     have n0_ := Aside0.mk (blk_below (g := gb390) (o := .cells #[.int .i64 t385, .int .u64 t386, .string t387, .int .i64 t388] 24 (0, 0)) (by (with_reducible repeat (first | apply kN_ | apply kD_ | apply kA_)); exact BK390.out) hb)
     have n1_ := Aside0.mk (blk_below (g := gb400) (o := .cells #[.int .i64 t395, .int .u64 t396, .string t397, .int .i64 t398] 24 (0, 0)) (by (with_reducible repeat (first | apply kN_ | apply kD_ | apply kA_)); exact BK400.out) hb)
     have n2_ := Aside0.mk (blk_below (g := gb410) (o := .cells #[.int .i64 t405, .int .u64 t406, .string t407, .int .i64 t408] 24 (0, 0)) (by (with_reducible repeat (first | apply kN_ | apply kD_ | apply kA_)); exact BK410.out) hb)
     have n3_ := Aside0.mk (blk_below (g := gb424) (o := .cells #[.int .i64 t419, .int .u64 t420, .string t421, .int .i64 t422] 24 (0, 0)) (by (with_reducible repeat (first | apply kN_ | apply kD_ | apply kA_)); exact BK424.out) hb)
     have n4_ := Aside0.mk (below_step (by repeat (first | (with_reducible first | exact HB.out | apply bA_ | apply bN_ | apply bD_ | refine bS_ ?_ GE390.out | refine bS_ ?_ GE400.out | refine bS_ ?_ GE410.out | refine bS_ ?_ GE424.out) | exact HB.out)) hb)
     clear BK390
     clear BK400
     clear BK410
     clear BK424
     clear HB
     have BK390 := n0_
     have BK400 := n1_
     have BK410 := n2_
     have BK424 := n3_
     have HB := n4_
     clear n0_ n1_ n2_ n3_ n4_
     (try clear hb)
     (try clear hb2)
     (try clear hk)
     (try clear hi)
     refine hK.out _ _ ⟨(blk_cell BK390.out 0).trans rfl, (blk_cell BK390.out 1).trans rfl, (blk_cell BK390.out 2).trans rfl, (blk_cell BK390.out 3).trans rfl, (blk_cell BK400.out 0).trans rfl, (blk_cell BK400.out 1).trans rfl, (blk_cell BK400.out 2).trans rfl, (blk_cell BK400.out 3).trans rfl, (blk_cell BK410.out 0).trans rfl, (blk_cell BK410.out 1).trans rfl, (blk_cell BK410.out 2).trans rfl, (blk_cell BK410.out 3).trans rfl⟩ (fun hHeld => ?_)
     clear hK K
     refine norm_ (a' := ?_) ?_ ?_
     rotate_left
     ·show Act.put _ (some 53) _ = _
      simp only [Act.put, sA_, sB_, sC_, i64_w, i32_w]
      rfl
     refine one_ (i := 7) (N := some 55) (tf 31 511) rfl rfl (one_of HT_.out (by kernel_rfl)) (by decide) (fun K hK => ?_)
     refine goes_ Tryd.func24 (by kernel_rfl) rfl #[.int .i64 61, .int .u64 t426, .int .u64 a1] (by rfl) rfl rfl (by (try simp only [List.map_toArray, List.map_cons, List.map_nil]); first | done | rfl | (simp only [List.length_drop, List.length_take]; rfl)) ?_
     with_reducible refine (platformfwlaw08_number.calls k 61 t426 a1 t427 _ ?hTT_ A42.out).mono ?_
     (case hTT_ => exact tb_below HTT_.out (by repeat (first | (with_reducible first | exact HB.out | apply bA_ | apply bN_ | apply bD_) | exact HB.out)))
     rintro e w63 ⟨rfl, hb⟩
     refine ⟨_, rfl, ?_⟩
     have n0_ := Aside0.mk (blk_below (g := gb390) (o := .cells #[.int .i64 t385, .int .u64 t386, .string t387, .int .i64 t388] 24 (0, 0)) (by (with_reducible repeat (first | apply kN_ | apply kD_ | apply kA_)); exact BK390.out) hb)
     have n1_ := Aside0.mk (blk_below (g := gb400) (o := .cells #[.int .i64 t395, .int .u64 t396, .string t397, .int .i64 t398] 24 (0, 0)) (by (with_reducible repeat (first | apply kN_ | apply kD_ | apply kA_)); exact BK400.out) hb)
     have n2_ := Aside0.mk (blk_below (g := gb410) (o := .cells #[.int .i64 t405, .int .u64 t406, .string t407, .int .i64 t408] 24 (0, 0)) (by (with_reducible repeat (first | apply kN_ | apply kD_ | apply kA_)); exact BK410.out) hb)
     have n3_ := Aside0.mk (blk_below (g := gb424) (o := .cells #[.int .i64 t419, .int .u64 t420, .string t421, .int .i64 t422] 24 (0, 0)) (by (with_reducible repeat (first | apply kN_ | apply kD_ | apply kA_)); exact BK424.out) hb)
     have n4_ := Aside0.mk (below_step (by repeat (first | (with_reducible first | exact HB.out | apply bA_ | apply bN_ | apply bD_ | refine bS_ ?_ GE390.out | refine bS_ ?_ GE400.out | refine bS_ ?_ GE410.out | refine bS_ ?_ GE424.out) | exact HB.out)) hb)
     clear BK390
     clear BK400
     clear BK410
     clear BK424
     clear HB
     have BK390 := n0_
     have BK400 := n1_
     have BK410 := n2_
     have BK424 := n3_
     have HB := n4_
     clear n0_ n1_ n2_ n3_ n4_
     (try clear hb)
     (try clear hb2)
     (try clear hk)
     (try clear hi)
     refine hK.out _ _ ⟨(blk_cell BK390.out 0).trans rfl, (blk_cell BK390.out 1).trans rfl, (blk_cell BK390.out 2).trans rfl, (blk_cell BK390.out 3).trans rfl, (blk_cell BK400.out 0).trans rfl, (blk_cell BK400.out 1).trans rfl, (blk_cell BK400.out 2).trans rfl, (blk_cell BK400.out 3).trans rfl, (blk_cell BK410.out 0).trans rfl, (blk_cell BK410.out 1).trans rfl, (blk_cell BK410.out 2).trans rfl, (blk_cell BK410.out 3).trans rfl⟩ (fun hHeld => ?_)
     clear hK K
     refine norm_ (a' := ?_) ?_ ?_
     rotate_left
     ·show Act.put _ (some 55) _ = _
      simp only [Act.put, sA_, sB_, sC_, i64_w, i32_w]
      rfl
     refine pure_ (i := 9) (N := some 57) (v := ?_) (a' := ?_) (tf 31 1023) rfl rfl (any_of HT_.out (by kernel_rfl)) (fun _ _ _ h => h) (Or.inl ⟨by rfl, ?_⟩) ?_ ?_
     rotate_left
     ·intro w'
      go_simp
      with_reducible rfl
     rotate_left
     ·simp only [Act.put, sA_, sB_, sC_, i64_w, i32_w]
      rfl
     refine pure_ (i := 10) (N := some 58) (v := ?_) (a' := ?_) (tf 31 2047) rfl rfl (any_of HT_.out (by kernel_rfl)) (fun _ _ _ h => h) (Or.inl ⟨by rfl, ?_⟩) ?_ ?_
     rotate_left
     ·intro w'
      go_simp
      with_reducible rfl
     rotate_left
     ·simp only [Act.put, sA_, sB_, sC_, i64_w, i32_w]
      rfl
     refine pure_ (i := 11) (N := some 59) (v := ?_) (a' := ?_) (tf 31 4095) rfl rfl (any_of HT_.out (by kernel_rfl)) (fun _ _ _ h => h) (Or.inl ⟨by rfl, ?_⟩) ?_ ?_
     rotate_left
     ·intro w'
      go_simp
      with_reducible rfl
     rotate_left
     ·simp only [Act.put, sA_, sB_, sC_, i64_w, i32_w]
      rfl
     refine pure_ (i := 12) (N := some 60) (v := ?_) (a' := ?_) (tf 31 8191) rfl rfl (any_of HT_.out (by kernel_rfl)) (fun _ _ _ h => h) (Or.inl ⟨by rfl, ?_⟩) ?_ ?_
     rotate_left
     ·intro w'
      go_simp
      with_reducible rfl
     rotate_left
     ·simp only [Act.put, sA_, sB_, sC_, i64_w, i32_w]
      rfl
     refine pure_ (i := 14) (N := some 62) (v := ?_) (a' := ?_) (tf 31 24575) rfl rfl (any_of HT_.out (by kernel_rfl)) (fun _ _ _ h => h) (Or.inl ⟨by rfl, ?_⟩) ?_ ?_
     rotate_left
     ·intro w'
      go_simp
      with_reducible rfl
     rotate_left
     ·simp only [Act.put, sA_, sB_, sC_, i64_w, i32_w]
      rfl
     refine pure_ (i := 16) (N := some 64) (v := ?_) (a' := ?_) (tf 31 90111) rfl rfl (any_of HT_.out (by kernel_rfl)) (fun _ _ _ h => h) (Or.inl ⟨by rfl, ?_⟩) ?_ ?_
     rotate_left
     ·intro w'
      go_simp
      with_reducible rfl
     rotate_left
     ·simp only [Act.put, sA_, sB_, sC_, i64_w, i32_w]
      rfl
     refine take_ (i := 13) (N := some 61) (v := ?_) (a' := ?_) (tf 31 98303) rfl rfl (take_ofW HT_.out HW_.out (by kernel_rfl)) (fun _ _ _ h => h) (Or.inl ⟨by rfl, ?_⟩) hHeld ?_ ?_
     rotate_left
     ·rintro w' ⟨s0, s1, s2, s3, s4, s5, s6, s7, s8, s9, s10, s11⟩
      go_simp
      with_reducible rfl
     rotate_left
     ·simp only [Act.put, sA_, sB_, sC_, i64_w, i32_w]
      rfl
     refine take_ (i := 15) (N := some 63) (v := ?_) (a' := ?_) (tf 31 131071) rfl rfl (take_ofW HT_.out HW_.out (by kernel_rfl)) (fun _ _ _ h => h) (Or.inl ⟨by rfl, ?_⟩) hHeld ?_ ?_
     rotate_left
     ·rintro w' ⟨s0, s1, s2, s3, s4, s5, s6, s7, s8, s9, s10, s11⟩
      go_simp
      with_reducible rfl
     rotate_left
     ·simp only [Act.put, sA_, sB_, sC_, i64_w, i32_w]
      rfl
     refine take_ (i := 17) (N := some 65) (v := ?_) (a' := ?_) (tf 31 262143) rfl rfl (take_ofW HT_.out HW_.out (by kernel_rfl)) (fun _ _ _ h => h) (Or.inl ⟨by rfl, ?_⟩) hHeld ?_ ?_
     rotate_left
     ·rintro w' ⟨s0, s1, s2, s3, s4, s5, s6, s7, s8, s9, s10, s11⟩
      go_simp
      with_reducible rfl
     rotate_left
     ·simp only [Act.put, sA_, sB_, sC_, i64_w, i32_w]
      rfl
     refine one_ (i := 18) (N := some 66) (tf 31 524287) rfl rfl (one_of HT_.out (by kernel_rfl)) (by decide) (fun K hK => ?_)
     refine goes_ Tryd.func24 (by kernel_rfl) rfl #[.int .i64 66, .int .u64 t396, .int .u64 t406] (by rfl) rfl rfl (by (try simp only [List.map_toArray, List.map_cons, List.map_nil]); first | done | rfl | (simp only [List.length_drop, List.length_take]; rfl)) ?_
     with_reducible refine (platformfwlaw08_number.calls k 66 t396 t406 t428 _ ?hTT_ A44.out).mono ?_
     (case hTT_ => exact tb_below HTT_.out (by repeat (first | (with_reducible first | exact HB.out | apply bA_ | apply bN_ | apply bD_) | exact HB.out)))
     rintro e w64 ⟨rfl, hb⟩
     refine ⟨_, rfl, ?_⟩
     have n0_ := Aside0.mk (blk_below (g := gb390) (o := .cells #[.int .i64 t385, .int .u64 t386, .string t387, .int .i64 t388] 24 (0, 0)) (by (with_reducible repeat (first | apply kN_ | apply kD_ | apply kA_)); exact BK390.out) hb)
     have n1_ := Aside0.mk (blk_below (g := gb400) (o := .cells #[.int .i64 t395, .int .u64 t396, .string t397, .int .i64 t398] 24 (0, 0)) (by (with_reducible repeat (first | apply kN_ | apply kD_ | apply kA_)); exact BK400.out) hb)
     have n2_ := Aside0.mk (blk_below (g := gb410) (o := .cells #[.int .i64 t405, .int .u64 t406, .string t407, .int .i64 t408] 24 (0, 0)) (by (with_reducible repeat (first | apply kN_ | apply kD_ | apply kA_)); exact BK410.out) hb)
     have n3_ := Aside0.mk (blk_below (g := gb424) (o := .cells #[.int .i64 t419, .int .u64 t420, .string t421, .int .i64 t422] 24 (0, 0)) (by (with_reducible repeat (first | apply kN_ | apply kD_ | apply kA_)); exact BK424.out) hb)
     have n4_ := Aside0.mk (below_step (by repeat (first | (with_reducible first | exact HB.out | apply bA_ | apply bN_ | apply bD_ | refine bS_ ?_ GE390.out | refine bS_ ?_ GE400.out | refine bS_ ?_ GE410.out | refine bS_ ?_ GE424.out) | exact HB.out)) hb)
     clear BK390
     clear BK400
     clear BK410
     clear BK424
     clear HB
     have BK390 := n0_
     have BK400 := n1_
     have BK410 := n2_
     have BK424 := n3_
     have HB := n4_
     clear n0_ n1_ n2_ n3_ n4_
     (try clear hb)
     (try clear hb2)
     (try clear hk)
     (try clear hi)
     refine hK.out _ _ ⟨(blk_cell BK390.out 0).trans rfl, (blk_cell BK390.out 1).trans rfl, (blk_cell BK390.out 2).trans rfl, (blk_cell BK390.out 3).trans rfl, (blk_cell BK400.out 0).trans rfl, (blk_cell BK400.out 1).trans rfl, (blk_cell BK400.out 2).trans rfl, (blk_cell BK400.out 3).trans rfl, (blk_cell BK410.out 0).trans rfl, (blk_cell BK410.out 1).trans rfl, (blk_cell BK410.out 2).trans rfl, (blk_cell BK410.out 3).trans rfl⟩ (fun hHeld => ?_)
     clear hK K
     refine norm_ (a' := ?_) ?_ ?_
     rotate_left
     ·show Act.put _ (some 66) _ = _
      simp only [Act.put, sA_, sB_, sC_, i64_w, i32_w]
      rfl
     refine pure_ (i := 19) (N := some 67) (v := ?_) (a' := ?_) (tf 31 1048575) rfl rfl (any_of HT_.out (by kernel_rfl)) (fun _ _ _ h => h) (Or.inl ⟨by rfl, ?_⟩) ?_ ?_
     rotate_left
     ·intro w'
      go_simp
      with_reducible rfl
     rotate_left
     ·simp only [Act.put, sA_, sB_, sC_, i64_w, i32_w]
      rfl
     refine pure_ (i := 20) (N := some 68) (v := ?_) (a' := ?_) (tf 31 2097151) rfl rfl (any_of HT_.out (by kernel_rfl)) (fun _ _ _ h => h) (Or.inl ⟨by rfl, ?_⟩) ?_ ?_
     rotate_left
     ·intro w'
      go_simp
      with_reducible rfl
     rotate_left
     ·simp only [Act.put, sA_, sB_, sC_, i64_w, i32_w]
      rfl
     refine pure_ (i := 21) (N := some 69) (v := ?_) (a' := ?_) (tf 31 4194303) rfl rfl (any_of HT_.out (by kernel_rfl)) (fun _ _ _ h => h) (Or.inl ⟨by rfl, ?_⟩) ?_ ?_
     rotate_left
     ·intro w'
      go_simp
      with_reducible rfl
     rotate_left
     ·simp only [Act.put, sA_, sB_, sC_, i64_w, i32_w]
      rfl
     refine pure_ (i := 22) (N := some 70) (v := undef) (a' := ?_) (tf 31 8388607) rfl rfl (any_of HT_.out (by kernel_rfl)) (fun _ _ _ h => h) (Or.inr ⟨by rfl, rfl⟩) ?_ ?_
     rotate_left
     ·simp only [Act.put, sA_, sB_, sC_, i64_w, i32_w]
      rfl
     refine pure_ (i := 23) (N := some 71) (v := undef) (a' := ?_) (tf 31 16777215) rfl rfl (any_of HT_.out (by kernel_rfl)) (fun _ _ _ h => h) (Or.inr ⟨by rfl, rfl⟩) ?_ ?_
     rotate_left
     ·simp only [Act.put, sA_, sB_, sC_, i64_w, i32_w]
      rfl
     refine pure_ (i := 24) (N := some 72) (v := undef) (a' := ?_) (tf 31 33554431) rfl rfl (any_of HT_.out (by kernel_rfl)) (fun _ _ _ h => h) (Or.inr ⟨by rfl, rfl⟩) ?_ ?_
     rotate_left
     ·simp only [Act.put, sA_, sB_, sC_, i64_w, i32_w]
      rfl
     refine pure_ (i := 25) (N := some 73) (v := undef) (a' := ?_) (tf 31 67108863) rfl rfl (any_of HT_.out (by kernel_rfl)) (fun _ _ _ h => h) (Or.inr ⟨by rfl, rfl⟩) ?_ ?_
     rotate_left
     ·simp only [Act.put, sA_, sB_, sC_, i64_w, i32_w]
      rfl
     refine pure_ (i := 26) (N := some 74) (v := undef) (a' := ?_) (tf 31 134217727) rfl rfl (any_of HT_.out (by kernel_rfl)) (fun _ _ _ h => h) (Or.inr ⟨by rfl, rfl⟩) ?_ ?_
     rotate_left
     ·simp only [Act.put, sA_, sB_, sC_, i64_w, i32_w]
      rfl
     refine pure_ (i := 27) (N := some 75) (v := undef) (a' := ?_) (tf 31 268435455) rfl rfl (any_of HT_.out (by kernel_rfl)) (fun _ _ _ h => h) (Or.inr ⟨by rfl, rfl⟩) ?_ ?_
     rotate_left
     ·simp only [Act.put, sA_, sB_, sC_, i64_w, i32_w]
      rfl
     refine pure_ (i := 28) (N := some 76) (v := undef) (a' := ?_) (tf 31 536870911) rfl rfl (any_of HT_.out (by kernel_rfl)) (fun _ _ _ h => h) (Or.inr ⟨by rfl, rfl⟩) ?_ ?_
     rotate_left
     ·simp only [Act.put, sA_, sB_, sC_, i64_w, i32_w]
      rfl
     refine pure_ (i := 29) (N := some 77) (v := undef) (a' := ?_) (tf 31 1073741823) rfl rfl (any_of HT_.out (by kernel_rfl)) (fun _ _ _ h => h) (Or.inr ⟨by rfl, rfl⟩) ?_ ?_
     rotate_left
     ·simp only [Act.put, sA_, sB_, sC_, i64_w, i32_w]
      rfl
     refine pure_ (i := 30) (N := some 78) (v := ?_) (a' := ?_) (tf 31 2147483647) rfl rfl (any_of HT_.out (by kernel_rfl)) (fun _ _ _ h => h) (Or.inl ⟨by rfl, ?_⟩) ?_ ?_
     rotate_left
     ·intro w'
      go_simp
      with_reducible rfl
     rotate_left
     ·simp only [Act.put, sA_, sB_, sC_, i64_w, i32_w]
      rfl
     refine done_ (done_of HT_.out (by kernel_rfl)) ?_
     try go_wp2
     go_meet
     case rel => exact ⟨_, (true), (by first | rfl | (simp; done) | (simp [*]; done)), H', ⟨by first | omega | exact Nat.le_refl _⟩, ⟨by (with_reducible repeat (first | apply kN_ | apply kD_ | apply kA_)); exact BK390.out⟩, ⟨by (with_reducible repeat (first | apply kN_ | apply kD_ | apply kA_)); exact BK400.out⟩, ⟨by (with_reducible repeat (first | apply kN_ | apply kD_ | apply kA_)); exact BK410.out⟩, ⟨by (with_reducible repeat (first | apply kN_ | apply kD_ | apply kA_)); exact BK424.out⟩, ⟨by repeat (first | (with_reducible first | exact HB.out | apply bA_ | apply bN_ | apply bD_ | refine bS_ ?_ GE390.out | refine bS_ ?_ GE400.out | refine bS_ ?_ GE410.out | refine bS_ ?_ GE424.out) | exact HB.out)⟩⟩
   ·rw [if_neg c43] at H
    have c43b0 : (t427 == a0) = false := beq_eq_false_iff_ne.mpr c43
    have c43b1 : (t427 != a0) = true := bne_iff_ne.mpr c43
    (first | rw [c43b0] | (simp only [i64_w, i32_w]; rw [c43b0]) | skip)
    have H' := Aside0.mk H
    clear H
    try go_wp2
    have n0_ : Aside0 (((((w34.setCell ⟨gb424, 0, none⟩ (.int .i64 t419)).setCell ⟨gb424, 1, none⟩ (.int .u64 t420)).setCell ⟨gb424, 2, none⟩ (.string t421)).setCell ⟨gb424, 3, none⟩ (.int .i64 t422)).heap[gb390]? = some (.cells #[.int .i64 t385, .int .u64 t386, .string t387, .int .i64 t388] 24 (0, 0))) := ⟨by (with_reducible repeat (first | apply kN_ | apply kD_ | apply kA_)); refine blk_far ?_ NB390_424.out _; (with_reducible repeat (first | apply kN_ | apply kD_ | apply kA_)); refine blk_far ?_ NB390_424.out _; (with_reducible repeat (first | apply kN_ | apply kD_ | apply kA_)); refine blk_far ?_ NB390_424.out _; (with_reducible repeat (first | apply kN_ | apply kD_ | apply kA_)); refine blk_far ?_ NB390_424.out _; (with_reducible repeat (first | apply kN_ | apply kD_ | apply kA_)); exact BK390.out⟩
    have n1_ : Aside0 (((((w34.setCell ⟨gb424, 0, none⟩ (.int .i64 t419)).setCell ⟨gb424, 1, none⟩ (.int .u64 t420)).setCell ⟨gb424, 2, none⟩ (.string t421)).setCell ⟨gb424, 3, none⟩ (.int .i64 t422)).heap[gb400]? = some (.cells #[.int .i64 t395, .int .u64 t396, .string t397, .int .i64 t398] 24 (0, 0))) := ⟨by (with_reducible repeat (first | apply kN_ | apply kD_ | apply kA_)); refine blk_far ?_ NB400_424.out _; (with_reducible repeat (first | apply kN_ | apply kD_ | apply kA_)); refine blk_far ?_ NB400_424.out _; (with_reducible repeat (first | apply kN_ | apply kD_ | apply kA_)); refine blk_far ?_ NB400_424.out _; (with_reducible repeat (first | apply kN_ | apply kD_ | apply kA_)); refine blk_far ?_ NB400_424.out _; (with_reducible repeat (first | apply kN_ | apply kD_ | apply kA_)); exact BK400.out⟩
    have n2_ : Aside0 (((((w34.setCell ⟨gb424, 0, none⟩ (.int .i64 t419)).setCell ⟨gb424, 1, none⟩ (.int .u64 t420)).setCell ⟨gb424, 2, none⟩ (.string t421)).setCell ⟨gb424, 3, none⟩ (.int .i64 t422)).heap[gb410]? = some (.cells #[.int .i64 t405, .int .u64 t406, .string t407, .int .i64 t408] 24 (0, 0))) := ⟨by (with_reducible repeat (first | apply kN_ | apply kD_ | apply kA_)); refine blk_far ?_ NB410_424.out _; (with_reducible repeat (first | apply kN_ | apply kD_ | apply kA_)); refine blk_far ?_ NB410_424.out _; (with_reducible repeat (first | apply kN_ | apply kD_ | apply kA_)); refine blk_far ?_ NB410_424.out _; (with_reducible repeat (first | apply kN_ | apply kD_ | apply kA_)); refine blk_far ?_ NB410_424.out _; (with_reducible repeat (first | apply kN_ | apply kD_ | apply kA_)); exact BK410.out⟩
    have n3_ : Aside0 (((((w34.setCell ⟨gb424, 0, none⟩ (.int .i64 t419)).setCell ⟨gb424, 1, none⟩ (.int .u64 t420)).setCell ⟨gb424, 2, none⟩ (.string t421)).setCell ⟨gb424, 3, none⟩ (.int .i64 t422)).heap[gb424]? = some (.cells #[.int .i64 t419, .int .u64 t420, .string t421, .int .i64 t422] 24 (0, 0))) := ⟨by (with_reducible repeat (first | apply kN_ | apply kD_ | apply kA_)); refine blk_put (cs := #[.int .i64 t419, .int .u64 t420, .string t421, .int .i64 0]) ?_ 3 _ rfl; (with_reducible repeat (first | apply kN_ | apply kD_ | apply kA_)); refine blk_put (cs := #[.int .i64 t419, .int .u64 t420, .string (⟨#[]⟩ : ByteArray), .int .i64 0]) ?_ 2 _ rfl; (with_reducible repeat (first | apply kN_ | apply kD_ | apply kA_)); refine blk_put (cs := #[.int .i64 t419, .int .u64 0, .string (⟨#[]⟩ : ByteArray), .int .i64 0]) ?_ 1 _ rfl; (with_reducible repeat (first | apply kN_ | apply kD_ | apply kA_)); refine blk_put (cs := #[.int .i64 0, .int .u64 0, .string (⟨#[]⟩ : ByteArray), .int .i64 0]) ?_ 0 _ rfl; (with_reducible repeat (first | apply kN_ | apply kD_ | apply kA_)); exact BK424.out⟩
    have n4_ : Aside0 (Below w.heap.size w ((((w34.setCell ⟨gb424, 0, none⟩ (.int .i64 t419)).setCell ⟨gb424, 1, none⟩ (.int .u64 t420)).setCell ⟨gb424, 2, none⟩ (.string t421)).setCell ⟨gb424, 3, none⟩ (.int .i64 t422))) := ⟨by repeat (first | (with_reducible first | exact HB.out | apply bA_ | apply bN_ | apply bD_ | refine bS_ ?_ GE390.out | refine bS_ ?_ GE400.out | refine bS_ ?_ GE410.out | refine bS_ ?_ GE424.out) | exact HB.out)⟩
    (try clear BK390)
    (try clear BK400)
    (try clear BK410)
    (try clear BK424)
    (try clear HB)
    generalize ((((w34.setCell ⟨gb424, 0, none⟩ (.int .i64 t419)).setCell ⟨gb424, 1, none⟩ (.int .u64 t420)).setCell ⟨gb424, 2, none⟩ (.string t421)).setCell ⟨gb424, 3, none⟩ (.int .i64 t422)) = w65 at n0_ n1_ n2_ n3_ n4_ ⊢
    have BK390 := n0_
    have BK400 := n1_
    have BK410 := n2_
    have BK424 := n3_
    have HB := n4_
    clear n0_ n1_ n2_ n3_ n4_
    have n0_ := Aside0.mk (kD_ BK390.out)
    have n1_ := Aside0.mk (kD_ BK400.out)
    have n2_ := Aside0.mk (kD_ BK410.out)
    have n3_ := Aside0.mk (kD_ BK424.out)
    have n4_ := Aside0.mk (bD_ HB.out)
    clear BK390
    clear BK400
    clear BK410
    clear BK424
    clear HB
    have BK390 := n0_
    have BK400 := n1_
    have BK410 := n2_
    have BK424 := n3_
    have HB := n4_
    clear n0_ n1_ n2_ n3_ n4_
    refine start_ (n := 31) (S := fun w' => True) (ds := []) #[false, false, false, false, false, false, false, false, false, false, false, false, false, false, false, false, false, false, false, false, false, false, false, false, false, false, false, false, false, false, false] (by kernel_rfl) rfl rfl trivial (fun hHeld => ?_); refine with_tabW platformfwlaw08_ValueArithmetic.tab6 platformfwlaw08_ValueArithmetic.bits6 (fun HT_ HW_ => ?_)
    generalize w65.drew = w66 at BK390 BK400 BK410 BK424 HB hHeld ⊢
    refine one_ (i := 0) (N := some 48) (tf 31 1) rfl rfl (one_of HT_.out (by kernel_rfl)) (by decide) (fun K hK => ?_)
    refine goes_ Tryd.func12 (by kernel_rfl) rfl #[] (by rfl) rfl rfl (by (try simp only [List.map_toArray, List.map_cons, List.map_nil]); first | done | rfl | (simp only [List.length_drop, List.length_take]; rfl)) ?_
    with_reducible refine (platformfwlaw08_awake.calls k  true _ ?hTT_ A39.out).mono ?_
    (case hTT_ => exact tb_below HTT_.out (by repeat (first | (with_reducible first | exact HB.out | apply bA_ | apply bN_ | apply bD_) | exact HB.out)))
    rintro e w67 ⟨rfl, hb⟩
    refine ⟨_, rfl, ?_⟩
    have n0_ := Aside0.mk (blk_below (g := gb390) (o := .cells #[.int .i64 t385, .int .u64 t386, .string t387, .int .i64 t388] 24 (0, 0)) (by (with_reducible repeat (first | apply kN_ | apply kD_ | apply kA_)); exact BK390.out) hb)
    have n1_ := Aside0.mk (blk_below (g := gb400) (o := .cells #[.int .i64 t395, .int .u64 t396, .string t397, .int .i64 t398] 24 (0, 0)) (by (with_reducible repeat (first | apply kN_ | apply kD_ | apply kA_)); exact BK400.out) hb)
    have n2_ := Aside0.mk (blk_below (g := gb410) (o := .cells #[.int .i64 t405, .int .u64 t406, .string t407, .int .i64 t408] 24 (0, 0)) (by (with_reducible repeat (first | apply kN_ | apply kD_ | apply kA_)); exact BK410.out) hb)
    have n3_ := Aside0.mk (blk_below (g := gb424) (o := .cells #[.int .i64 t419, .int .u64 t420, .string t421, .int .i64 t422] 24 (0, 0)) (by (with_reducible repeat (first | apply kN_ | apply kD_ | apply kA_)); exact BK424.out) hb)
    have n4_ := Aside0.mk (below_step (by repeat (first | (with_reducible first | exact HB.out | apply bA_ | apply bN_ | apply bD_ | refine bS_ ?_ GE390.out | refine bS_ ?_ GE400.out | refine bS_ ?_ GE410.out | refine bS_ ?_ GE424.out) | exact HB.out)) hb)
    clear BK390
    clear BK400
    clear BK410
    clear BK424
    clear HB
    have BK390 := n0_
    have BK400 := n1_
    have BK410 := n2_
    have BK424 := n3_
    have HB := n4_
    clear n0_ n1_ n2_ n3_ n4_
    (try clear hb)
    (try clear hb2)
    (try clear hk)
    (try clear hi)
    refine hK.out _ _ trivial (fun hHeld => ?_)
    clear hK K
    refine norm_ (a' := ?_) ?_ ?_
    rotate_left
    ·show Act.put _ (some 48) _ = _
     simp only [Act.put, sA_, sB_, sC_, i64_w, i32_w]
     rfl
    refine pure_ (i := 1) (N := some 49) (v := ?_) (a' := ?_) (tf 31 3) rfl rfl (any_of HT_.out (by kernel_rfl)) (fun _ _ _ h => h) (Or.inl ⟨by rfl, ?_⟩) ?_ ?_
    rotate_left
    ·intro w'
     go_simp
     with_reducible rfl
    rotate_left
    ·simp only [Act.put, sA_, sB_, sC_, i64_w, i32_w]
     rfl
    refine pure_ (i := 2) (N := some 50) (v := ?_) (a' := ?_) (tf 31 7) rfl rfl (any_of HT_.out (by kernel_rfl)) (fun _ _ _ h => h) (Or.inl ⟨by rfl, ?_⟩) ?_ ?_
    rotate_left
    ·intro w'
     go_simp
     with_reducible rfl
    rotate_left
    ·simp only [Act.put, sA_, sB_, sC_, i64_w, i32_w]
     rfl
    refine pure_ (i := 3) (N := some 51) (v := ?_) (a' := ?_) (tf 31 15) rfl rfl (any_of HT_.out (by kernel_rfl)) (fun _ _ _ h => h) (Or.inl ⟨by rfl, ?_⟩) ?_ ?_
    rotate_left
    ·intro w'
     go_simp
     with_reducible rfl
    rotate_left
    ·simp only [Act.put, sA_, sB_, sC_, i64_w, i32_w]
     rfl
    refine pure_ (i := 4) (N := some 52) (v := ?_) (a' := ?_) (tf 31 31) rfl rfl (any_of HT_.out (by kernel_rfl)) (fun _ _ _ h => h) (Or.inl ⟨by rfl, ?_⟩) ?_ ?_
    rotate_left
    ·intro w'
     go_simp
     with_reducible rfl
    rotate_left
    ·simp only [Act.put, sA_, sB_, sC_, i64_w, i32_w]
     rfl
    refine pure_ (i := 6) (N := some 54) (v := ?_) (a' := ?_) (tf 31 95) rfl rfl (any_of HT_.out (by kernel_rfl)) (fun _ _ _ h => h) (Or.inl ⟨by rfl, ?_⟩) ?_ ?_
    rotate_left
    ·intro w'
     go_simp
     with_reducible rfl
    rotate_left
    ·simp only [Act.put, sA_, sB_, sC_, i64_w, i32_w]
     rfl
    refine pure_ (i := 8) (N := some 56) (v := ?_) (a' := ?_) (tf 31 351) rfl rfl (any_of HT_.out (by kernel_rfl)) (fun _ _ _ h => h) (Or.inl ⟨by rfl, ?_⟩) ?_ ?_
    rotate_left
    ·intro w'
     go_simp
     with_reducible rfl
    rotate_left
    ·simp only [Act.put, sA_, sB_, sC_, i64_w, i32_w]
     rfl
    refine one_ (i := 5) (N := some 53) (tf 31 383) rfl rfl (one_of HT_.out (by kernel_rfl)) (by decide) (fun K hK => ?_)
    refine goes_ Tryd.func24 (by kernel_rfl) rfl #[.int .i64 60, .int .u64 a0, .int .u64 a1] (by rfl) rfl rfl (by (try simp only [List.map_toArray, List.map_cons, List.map_nil]); first | done | rfl | (simp only [List.length_drop, List.length_take]; rfl)) ?_
    with_reducible refine (platformfwlaw08_number.calls k 60 a0 a1 t426 _ ?hTT_ A41.out).mono ?_
    (case hTT_ => exact tb_below HTT_.out (by repeat (first | (with_reducible first | exact HB.out | apply bA_ | apply bN_ | apply bD_) | exact HB.out)))
    rintro e w68 ⟨rfl, hb⟩
    refine ⟨_, rfl, ?_⟩
    have n0_ := Aside0.mk (blk_below (g := gb390) (o := .cells #[.int .i64 t385, .int .u64 t386, .string t387, .int .i64 t388] 24 (0, 0)) (by (with_reducible repeat (first | apply kN_ | apply kD_ | apply kA_)); exact BK390.out) hb)
    have n1_ := Aside0.mk (blk_below (g := gb400) (o := .cells #[.int .i64 t395, .int .u64 t396, .string t397, .int .i64 t398] 24 (0, 0)) (by (with_reducible repeat (first | apply kN_ | apply kD_ | apply kA_)); exact BK400.out) hb)
    have n2_ := Aside0.mk (blk_below (g := gb410) (o := .cells #[.int .i64 t405, .int .u64 t406, .string t407, .int .i64 t408] 24 (0, 0)) (by (with_reducible repeat (first | apply kN_ | apply kD_ | apply kA_)); exact BK410.out) hb)
    have n3_ := Aside0.mk (blk_below (g := gb424) (o := .cells #[.int .i64 t419, .int .u64 t420, .string t421, .int .i64 t422] 24 (0, 0)) (by (with_reducible repeat (first | apply kN_ | apply kD_ | apply kA_)); exact BK424.out) hb)
    have n4_ := Aside0.mk (below_step (by repeat (first | (with_reducible first | exact HB.out | apply bA_ | apply bN_ | apply bD_ | refine bS_ ?_ GE390.out | refine bS_ ?_ GE400.out | refine bS_ ?_ GE410.out | refine bS_ ?_ GE424.out) | exact HB.out)) hb)
    clear BK390
    clear BK400
    clear BK410
    clear BK424
    clear HB
    have BK390 := n0_
    have BK400 := n1_
    have BK410 := n2_
    have BK424 := n3_
    have HB := n4_
    clear n0_ n1_ n2_ n3_ n4_
    (try clear hb)
    (try clear hb2)
    (try clear hk)
    (try clear hi)
    refine hK.out _ _ trivial (fun hHeld => ?_)
    clear hK K
    refine norm_ (a' := ?_) ?_ ?_
    rotate_left
    ·show Act.put _ (some 53) _ = _
     simp only [Act.put, sA_, sB_, sC_, i64_w, i32_w]
     rfl
    refine one_ (i := 7) (N := some 55) (tf 31 511) rfl rfl (one_of HT_.out (by kernel_rfl)) (by decide) (fun K hK => ?_)
    refine goes_ Tryd.func24 (by kernel_rfl) rfl #[.int .i64 61, .int .u64 t426, .int .u64 a1] (by rfl) rfl rfl (by (try simp only [List.map_toArray, List.map_cons, List.map_nil]); first | done | rfl | (simp only [List.length_drop, List.length_take]; rfl)) ?_
    with_reducible refine (platformfwlaw08_number.calls k 61 t426 a1 t427 _ ?hTT_ A42.out).mono ?_
    (case hTT_ => exact tb_below HTT_.out (by repeat (first | (with_reducible first | exact HB.out | apply bA_ | apply bN_ | apply bD_) | exact HB.out)))
    rintro e w69 ⟨rfl, hb⟩
    refine ⟨_, rfl, ?_⟩
    have n0_ := Aside0.mk (blk_below (g := gb390) (o := .cells #[.int .i64 t385, .int .u64 t386, .string t387, .int .i64 t388] 24 (0, 0)) (by (with_reducible repeat (first | apply kN_ | apply kD_ | apply kA_)); exact BK390.out) hb)
    have n1_ := Aside0.mk (blk_below (g := gb400) (o := .cells #[.int .i64 t395, .int .u64 t396, .string t397, .int .i64 t398] 24 (0, 0)) (by (with_reducible repeat (first | apply kN_ | apply kD_ | apply kA_)); exact BK400.out) hb)
    have n2_ := Aside0.mk (blk_below (g := gb410) (o := .cells #[.int .i64 t405, .int .u64 t406, .string t407, .int .i64 t408] 24 (0, 0)) (by (with_reducible repeat (first | apply kN_ | apply kD_ | apply kA_)); exact BK410.out) hb)
    have n3_ := Aside0.mk (blk_below (g := gb424) (o := .cells #[.int .i64 t419, .int .u64 t420, .string t421, .int .i64 t422] 24 (0, 0)) (by (with_reducible repeat (first | apply kN_ | apply kD_ | apply kA_)); exact BK424.out) hb)
    have n4_ := Aside0.mk (below_step (by repeat (first | (with_reducible first | exact HB.out | apply bA_ | apply bN_ | apply bD_ | refine bS_ ?_ GE390.out | refine bS_ ?_ GE400.out | refine bS_ ?_ GE410.out | refine bS_ ?_ GE424.out) | exact HB.out)) hb)
    clear BK390
    clear BK400
    clear BK410
    clear BK424
    clear HB
    have BK390 := n0_
    have BK400 := n1_
    have BK410 := n2_
    have BK424 := n3_
    have HB := n4_
    clear n0_ n1_ n2_ n3_ n4_
    (try clear hb)
    (try clear hb2)
    (try clear hk)
    (try clear hi)
    refine hK.out _ _ trivial (fun hHeld => ?_)
    clear hK K
    refine norm_ (a' := ?_) ?_ ?_
    rotate_left
    ·show Act.put _ (some 55) _ = _
     simp only [Act.put, sA_, sB_, sC_, i64_w, i32_w]
     rfl
    refine pure_ (i := 9) (N := some 57) (v := ?_) (a' := ?_) (tf 31 1023) rfl rfl (any_of HT_.out (by kernel_rfl)) (fun _ _ _ h => h) (Or.inl ⟨by rfl, ?_⟩) ?_ ?_
    rotate_left
    ·intro w'
     go_simp
     with_reducible rfl
    rotate_left
    ·simp only [Act.put, sA_, sB_, sC_, i64_w, i32_w]
     rfl
    refine pure_ (i := 10) (N := some 58) (v := ?_) (a' := ?_) (tf 31 2047) rfl rfl (any_of HT_.out (by kernel_rfl)) (fun _ _ _ h => h) (Or.inl ⟨by rfl, ?_⟩) ?_ ?_
    rotate_left
    ·intro w'
     go_simp
     with_reducible rfl
    rotate_left
    ·simp only [Act.put, sA_, sB_, sC_, i64_w, i32_w]
     rfl
    refine pure_ (i := 11) (N := some 59) (v := ?_) (a' := ?_) (tf 31 4095) rfl rfl (any_of HT_.out (by kernel_rfl)) (fun _ _ _ h => h) (Or.inl ⟨by rfl, ?_⟩) ?_ ?_
    rotate_left
    ·intro w'
     go_simp
     with_reducible rfl
    rotate_left
    ·simp only [Act.put, sA_, sB_, sC_, i64_w, i32_w]
     rfl
    refine pure_ (i := 12) (N := some 60) (v := undef) (a' := ?_) (tf 31 8191) rfl rfl (any_of HT_.out (by kernel_rfl)) (fun _ _ _ h => h) (Or.inr ⟨by rfl, rfl⟩) ?_ ?_
    rotate_left
    ·simp only [Act.put, sA_, sB_, sC_, i64_w, i32_w]
     rfl
    refine pure_ (i := 13) (N := some 61) (v := undef) (a' := ?_) (tf 31 16383) rfl rfl (any_of HT_.out (by kernel_rfl)) (fun _ _ _ h => h) (Or.inr ⟨by rfl, rfl⟩) ?_ ?_
    rotate_left
    ·simp only [Act.put, sA_, sB_, sC_, i64_w, i32_w]
     rfl
    refine pure_ (i := 14) (N := some 62) (v := undef) (a' := ?_) (tf 31 32767) rfl rfl (any_of HT_.out (by kernel_rfl)) (fun _ _ _ h => h) (Or.inr ⟨by rfl, rfl⟩) ?_ ?_
    rotate_left
    ·simp only [Act.put, sA_, sB_, sC_, i64_w, i32_w]
     rfl
    refine pure_ (i := 15) (N := some 63) (v := undef) (a' := ?_) (tf 31 65535) rfl rfl (any_of HT_.out (by kernel_rfl)) (fun _ _ _ h => h) (Or.inr ⟨by rfl, rfl⟩) ?_ ?_
    rotate_left
    ·simp only [Act.put, sA_, sB_, sC_, i64_w, i32_w]
     rfl
    refine pure_ (i := 16) (N := some 64) (v := undef) (a' := ?_) (tf 31 131071) rfl rfl (any_of HT_.out (by kernel_rfl)) (fun _ _ _ h => h) (Or.inr ⟨by rfl, rfl⟩) ?_ ?_
    rotate_left
    ·simp only [Act.put, sA_, sB_, sC_, i64_w, i32_w]
     rfl
    refine pure_ (i := 17) (N := some 65) (v := undef) (a' := ?_) (tf 31 262143) rfl rfl (any_of HT_.out (by kernel_rfl)) (fun _ _ _ h => h) (Or.inr ⟨by rfl, rfl⟩) ?_ ?_
    rotate_left
    ·simp only [Act.put, sA_, sB_, sC_, i64_w, i32_w]
     rfl
    refine pure_ (i := 18) (N := some 66) (v := undef) (a' := ?_) (tf 31 524287) rfl rfl (any_of HT_.out (by kernel_rfl)) (fun _ _ _ h => h) (Or.inr ⟨by rfl, rfl⟩) ?_ ?_
    rotate_left
    ·simp only [Act.put, sA_, sB_, sC_, i64_w, i32_w]
     rfl
    refine pure_ (i := 19) (N := some 67) (v := undef) (a' := ?_) (tf 31 1048575) rfl rfl (any_of HT_.out (by kernel_rfl)) (fun _ _ _ h => h) (Or.inr ⟨by rfl, rfl⟩) ?_ ?_
    rotate_left
    ·simp only [Act.put, sA_, sB_, sC_, i64_w, i32_w]
     rfl
    refine pure_ (i := 20) (N := some 68) (v := ?_) (a' := ?_) (tf 31 2097151) rfl rfl (any_of HT_.out (by kernel_rfl)) (fun _ _ _ h => h) (Or.inl ⟨by rfl, ?_⟩) ?_ ?_
    rotate_left
    ·intro w'
     go_simp
     with_reducible rfl
    rotate_left
    ·simp only [Act.put, sA_, sB_, sC_, i64_w, i32_w]
     rfl
    refine pure_ (i := 21) (N := some 69) (v := ?_) (a' := ?_) (tf 31 4194303) rfl rfl (any_of HT_.out (by kernel_rfl)) (fun _ _ _ h => h) (Or.inl ⟨by rfl, ?_⟩) ?_ ?_
    rotate_left
    ·intro w'
     go_simp
     with_reducible rfl
    rotate_left
    ·simp only [Act.put, sA_, sB_, sC_, i64_w, i32_w]
     rfl
    refine pure_ (i := 22) (N := some 70) (v := undef) (a' := ?_) (tf 31 8388607) rfl rfl (any_of HT_.out (by kernel_rfl)) (fun _ _ _ h => h) (Or.inr ⟨by rfl, rfl⟩) ?_ ?_
    rotate_left
    ·simp only [Act.put, sA_, sB_, sC_, i64_w, i32_w]
     rfl
    refine pure_ (i := 23) (N := some 71) (v := undef) (a' := ?_) (tf 31 16777215) rfl rfl (any_of HT_.out (by kernel_rfl)) (fun _ _ _ h => h) (Or.inr ⟨by rfl, rfl⟩) ?_ ?_
    rotate_left
    ·simp only [Act.put, sA_, sB_, sC_, i64_w, i32_w]
     rfl
    refine pure_ (i := 24) (N := some 72) (v := undef) (a' := ?_) (tf 31 33554431) rfl rfl (any_of HT_.out (by kernel_rfl)) (fun _ _ _ h => h) (Or.inr ⟨by rfl, rfl⟩) ?_ ?_
    rotate_left
    ·simp only [Act.put, sA_, sB_, sC_, i64_w, i32_w]
     rfl
    refine pure_ (i := 25) (N := some 73) (v := undef) (a' := ?_) (tf 31 67108863) rfl rfl (any_of HT_.out (by kernel_rfl)) (fun _ _ _ h => h) (Or.inr ⟨by rfl, rfl⟩) ?_ ?_
    rotate_left
    ·simp only [Act.put, sA_, sB_, sC_, i64_w, i32_w]
     rfl
    refine pure_ (i := 26) (N := some 74) (v := undef) (a' := ?_) (tf 31 134217727) rfl rfl (any_of HT_.out (by kernel_rfl)) (fun _ _ _ h => h) (Or.inr ⟨by rfl, rfl⟩) ?_ ?_
    rotate_left
    ·simp only [Act.put, sA_, sB_, sC_, i64_w, i32_w]
     rfl
    refine pure_ (i := 27) (N := some 75) (v := undef) (a' := ?_) (tf 31 268435455) rfl rfl (any_of HT_.out (by kernel_rfl)) (fun _ _ _ h => h) (Or.inr ⟨by rfl, rfl⟩) ?_ ?_
    rotate_left
    ·simp only [Act.put, sA_, sB_, sC_, i64_w, i32_w]
     rfl
    refine pure_ (i := 28) (N := some 76) (v := undef) (a' := ?_) (tf 31 536870911) rfl rfl (any_of HT_.out (by kernel_rfl)) (fun _ _ _ h => h) (Or.inr ⟨by rfl, rfl⟩) ?_ ?_
    rotate_left
    ·simp only [Act.put, sA_, sB_, sC_, i64_w, i32_w]
     rfl
    refine pure_ (i := 29) (N := some 77) (v := undef) (a' := ?_) (tf 31 1073741823) rfl rfl (any_of HT_.out (by kernel_rfl)) (fun _ _ _ h => h) (Or.inr ⟨by rfl, rfl⟩) ?_ ?_
    rotate_left
    ·simp only [Act.put, sA_, sB_, sC_, i64_w, i32_w]
     rfl
    refine pure_ (i := 30) (N := some 78) (v := ?_) (a' := ?_) (tf 31 2147483647) rfl rfl (any_of HT_.out (by kernel_rfl)) (fun _ _ _ h => h) (Or.inl ⟨by rfl, ?_⟩) ?_ ?_
    rotate_left
    ·intro w'
     go_simp
     with_reducible rfl
    rotate_left
    ·simp only [Act.put, sA_, sB_, sC_, i64_w, i32_w]
     rfl
    refine done_ (done_of HT_.out (by kernel_rfl)) ?_
    try go_wp2
    go_meet
    case rel => exact ⟨_, (true), (by first | rfl | (simp; done) | (simp [*]; done)), H', ⟨by first | omega | exact Nat.le_refl _⟩, ⟨by (with_reducible repeat (first | apply kN_ | apply kD_ | apply kA_)); exact BK390.out⟩, ⟨by (with_reducible repeat (first | apply kN_ | apply kD_ | apply kA_)); exact BK400.out⟩, ⟨by (with_reducible repeat (first | apply kN_ | apply kD_ | apply kA_)); exact BK410.out⟩, ⟨by (with_reducible repeat (first | apply kN_ | apply kD_ | apply kA_)); exact BK424.out⟩, ⟨by repeat (first | (with_reducible first | exact HB.out | apply bA_ | apply bN_ | apply bD_ | refine bS_ ?_ GE390.out | refine bS_ ?_ GE400.out | refine bS_ ?_ GE410.out | refine bS_ ?_ GE424.out) | exact HB.out)⟩⟩
  ·replace c40 := Bool.eq_false_iff.mpr c40
   subst c40
   have H1 : (platformfwlaw08_ValueArithmetic.j0 k a0 a1 t423 true) = some r := by rw [if_neg (show ¬ (false = true) by decide)] at H; exact H
   clear H
   have H := H1
   clear H1
   have H' := Aside0.mk H
   clear H
   try go_wp2
   have n0_ : Aside0 (((((w34.setCell ⟨gb424, 0, none⟩ (.int .i64 t419)).setCell ⟨gb424, 1, none⟩ (.int .u64 t420)).setCell ⟨gb424, 2, none⟩ (.string t421)).setCell ⟨gb424, 3, none⟩ (.int .i64 t422)).heap[gb390]? = some (.cells #[.int .i64 t385, .int .u64 t386, .string t387, .int .i64 t388] 24 (0, 0))) := ⟨by (with_reducible repeat (first | apply kN_ | apply kD_ | apply kA_)); refine blk_far ?_ NB390_424.out _; (with_reducible repeat (first | apply kN_ | apply kD_ | apply kA_)); refine blk_far ?_ NB390_424.out _; (with_reducible repeat (first | apply kN_ | apply kD_ | apply kA_)); refine blk_far ?_ NB390_424.out _; (with_reducible repeat (first | apply kN_ | apply kD_ | apply kA_)); refine blk_far ?_ NB390_424.out _; (with_reducible repeat (first | apply kN_ | apply kD_ | apply kA_)); exact BK390.out⟩
   have n1_ : Aside0 (((((w34.setCell ⟨gb424, 0, none⟩ (.int .i64 t419)).setCell ⟨gb424, 1, none⟩ (.int .u64 t420)).setCell ⟨gb424, 2, none⟩ (.string t421)).setCell ⟨gb424, 3, none⟩ (.int .i64 t422)).heap[gb400]? = some (.cells #[.int .i64 t395, .int .u64 t396, .string t397, .int .i64 t398] 24 (0, 0))) := ⟨by (with_reducible repeat (first | apply kN_ | apply kD_ | apply kA_)); refine blk_far ?_ NB400_424.out _; (with_reducible repeat (first | apply kN_ | apply kD_ | apply kA_)); refine blk_far ?_ NB400_424.out _; (with_reducible repeat (first | apply kN_ | apply kD_ | apply kA_)); refine blk_far ?_ NB400_424.out _; (with_reducible repeat (first | apply kN_ | apply kD_ | apply kA_)); refine blk_far ?_ NB400_424.out _; (with_reducible repeat (first | apply kN_ | apply kD_ | apply kA_)); exact BK400.out⟩
   have n2_ : Aside0 (((((w34.setCell ⟨gb424, 0, none⟩ (.int .i64 t419)).setCell ⟨gb424, 1, none⟩ (.int .u64 t420)).setCell ⟨gb424, 2, none⟩ (.string t421)).setCell ⟨gb424, 3, none⟩ (.int .i64 t422)).heap[gb410]? = some (.cells #[.int .i64 t405, .int .u64 t406, .string t407, .int .i64 t408] 24 (0, 0))) := ⟨by (with_reducible repeat (first | apply kN_ | apply kD_ | apply kA_)); refine blk_far ?_ NB410_424.out _; (with_reducible repeat (first | apply kN_ | apply kD_ | apply kA_)); refine blk_far ?_ NB410_424.out _; (with_reducible repeat (first | apply kN_ | apply kD_ | apply kA_)); refine blk_far ?_ NB410_424.out _; (with_reducible repeat (first | apply kN_ | apply kD_ | apply kA_)); refine blk_far ?_ NB410_424.out _; (with_reducible repeat (first | apply kN_ | apply kD_ | apply kA_)); exact BK410.out⟩
   have n3_ : Aside0 (((((w34.setCell ⟨gb424, 0, none⟩ (.int .i64 t419)).setCell ⟨gb424, 1, none⟩ (.int .u64 t420)).setCell ⟨gb424, 2, none⟩ (.string t421)).setCell ⟨gb424, 3, none⟩ (.int .i64 t422)).heap[gb424]? = some (.cells #[.int .i64 t419, .int .u64 t420, .string t421, .int .i64 t422] 24 (0, 0))) := ⟨by (with_reducible repeat (first | apply kN_ | apply kD_ | apply kA_)); refine blk_put (cs := #[.int .i64 t419, .int .u64 t420, .string t421, .int .i64 0]) ?_ 3 _ rfl; (with_reducible repeat (first | apply kN_ | apply kD_ | apply kA_)); refine blk_put (cs := #[.int .i64 t419, .int .u64 t420, .string (⟨#[]⟩ : ByteArray), .int .i64 0]) ?_ 2 _ rfl; (with_reducible repeat (first | apply kN_ | apply kD_ | apply kA_)); refine blk_put (cs := #[.int .i64 t419, .int .u64 0, .string (⟨#[]⟩ : ByteArray), .int .i64 0]) ?_ 1 _ rfl; (with_reducible repeat (first | apply kN_ | apply kD_ | apply kA_)); refine blk_put (cs := #[.int .i64 0, .int .u64 0, .string (⟨#[]⟩ : ByteArray), .int .i64 0]) ?_ 0 _ rfl; (with_reducible repeat (first | apply kN_ | apply kD_ | apply kA_)); exact BK424.out⟩
   have n4_ : Aside0 (Below w.heap.size w ((((w34.setCell ⟨gb424, 0, none⟩ (.int .i64 t419)).setCell ⟨gb424, 1, none⟩ (.int .u64 t420)).setCell ⟨gb424, 2, none⟩ (.string t421)).setCell ⟨gb424, 3, none⟩ (.int .i64 t422))) := ⟨by repeat (first | (with_reducible first | exact HB.out | apply bA_ | apply bN_ | apply bD_ | refine bS_ ?_ GE390.out | refine bS_ ?_ GE400.out | refine bS_ ?_ GE410.out | refine bS_ ?_ GE424.out) | exact HB.out)⟩
   (try clear BK390)
   (try clear BK400)
   (try clear BK410)
   (try clear BK424)
   (try clear HB)
   generalize ((((w34.setCell ⟨gb424, 0, none⟩ (.int .i64 t419)).setCell ⟨gb424, 1, none⟩ (.int .u64 t420)).setCell ⟨gb424, 2, none⟩ (.string t421)).setCell ⟨gb424, 3, none⟩ (.int .i64 t422)) = w70 at n0_ n1_ n2_ n3_ n4_ ⊢
   have BK390 := n0_
   have BK400 := n1_
   have BK410 := n2_
   have BK424 := n3_
   have HB := n4_
   clear n0_ n1_ n2_ n3_ n4_
   have n0_ := Aside0.mk (kD_ BK390.out)
   have n1_ := Aside0.mk (kD_ BK400.out)
   have n2_ := Aside0.mk (kD_ BK410.out)
   have n3_ := Aside0.mk (kD_ BK424.out)
   have n4_ := Aside0.mk (bD_ HB.out)
   clear BK390
   clear BK400
   clear BK410
   clear BK424
   clear HB
   have BK390 := n0_
   have BK400 := n1_
   have BK410 := n2_
   have BK424 := n3_
   have HB := n4_
   clear n0_ n1_ n2_ n3_ n4_
   refine start_ (n := 31) (S := fun w' => True) (ds := []) #[false, false, false, false, false, false, false, false, false, false, false, false, false, false, false, false, false, false, false, false, false, false, false, false, false, false, false, false, false, false, false] (by kernel_rfl) rfl rfl trivial (fun hHeld => ?_); refine with_tabW platformfwlaw08_ValueArithmetic.tab6 platformfwlaw08_ValueArithmetic.bits6 (fun HT_ HW_ => ?_)
   generalize w70.drew = w71 at BK390 BK400 BK410 BK424 HB hHeld ⊢
   refine one_ (i := 0) (N := some 48) (tf 31 1) rfl rfl (one_of HT_.out (by kernel_rfl)) (by decide) (fun K hK => ?_)
   refine goes_ Tryd.func12 (by kernel_rfl) rfl #[] (by rfl) rfl rfl (by (try simp only [List.map_toArray, List.map_cons, List.map_nil]); first | done | rfl | (simp only [List.length_drop, List.length_take]; rfl)) ?_
   with_reducible refine (platformfwlaw08_awake.calls k  false _ ?hTT_ A39.out).mono ?_
   (case hTT_ => exact tb_below HTT_.out (by repeat (first | (with_reducible first | exact HB.out | apply bA_ | apply bN_ | apply bD_) | exact HB.out)))
   rintro e w72 ⟨rfl, hb⟩
   refine ⟨_, rfl, ?_⟩
   have n0_ := Aside0.mk (blk_below (g := gb390) (o := .cells #[.int .i64 t385, .int .u64 t386, .string t387, .int .i64 t388] 24 (0, 0)) (by (with_reducible repeat (first | apply kN_ | apply kD_ | apply kA_)); exact BK390.out) hb)
   have n1_ := Aside0.mk (blk_below (g := gb400) (o := .cells #[.int .i64 t395, .int .u64 t396, .string t397, .int .i64 t398] 24 (0, 0)) (by (with_reducible repeat (first | apply kN_ | apply kD_ | apply kA_)); exact BK400.out) hb)
   have n2_ := Aside0.mk (blk_below (g := gb410) (o := .cells #[.int .i64 t405, .int .u64 t406, .string t407, .int .i64 t408] 24 (0, 0)) (by (with_reducible repeat (first | apply kN_ | apply kD_ | apply kA_)); exact BK410.out) hb)
   have n3_ := Aside0.mk (blk_below (g := gb424) (o := .cells #[.int .i64 t419, .int .u64 t420, .string t421, .int .i64 t422] 24 (0, 0)) (by (with_reducible repeat (first | apply kN_ | apply kD_ | apply kA_)); exact BK424.out) hb)
   have n4_ := Aside0.mk (below_step (by repeat (first | (with_reducible first | exact HB.out | apply bA_ | apply bN_ | apply bD_ | refine bS_ ?_ GE390.out | refine bS_ ?_ GE400.out | refine bS_ ?_ GE410.out | refine bS_ ?_ GE424.out) | exact HB.out)) hb)
   clear BK390
   clear BK400
   clear BK410
   clear BK424
   clear HB
   have BK390 := n0_
   have BK400 := n1_
   have BK410 := n2_
   have BK424 := n3_
   have HB := n4_
   clear n0_ n1_ n2_ n3_ n4_
   (try clear hb)
   (try clear hb2)
   (try clear hk)
   (try clear hi)
   refine hK.out _ _ trivial (fun hHeld => ?_)
   clear hK K
   refine norm_ (a' := ?_) ?_ ?_
   rotate_left
   ·show Act.put _ (some 48) _ = _
    simp only [Act.put, sA_, sB_, sC_, i64_w, i32_w]
    rfl
   refine pure_ (i := 1) (N := some 49) (v := ?_) (a' := ?_) (tf 31 3) rfl rfl (any_of HT_.out (by kernel_rfl)) (fun _ _ _ h => h) (Or.inl ⟨by rfl, ?_⟩) ?_ ?_
   rotate_left
   ·intro w'
    go_simp
    with_reducible rfl
   rotate_left
   ·simp only [Act.put, sA_, sB_, sC_, i64_w, i32_w]
    rfl
   refine pure_ (i := 2) (N := some 50) (v := ?_) (a' := ?_) (tf 31 7) rfl rfl (any_of HT_.out (by kernel_rfl)) (fun _ _ _ h => h) (Or.inl ⟨by rfl, ?_⟩) ?_ ?_
   rotate_left
   ·intro w'
    go_simp
    with_reducible rfl
   rotate_left
   ·simp only [Act.put, sA_, sB_, sC_, i64_w, i32_w]
    rfl
   refine pure_ (i := 3) (N := some 51) (v := undef) (a' := ?_) (tf 31 15) rfl rfl (any_of HT_.out (by kernel_rfl)) (fun _ _ _ h => h) (Or.inr ⟨by rfl, rfl⟩) ?_ ?_
   rotate_left
   ·simp only [Act.put, sA_, sB_, sC_, i64_w, i32_w]
    rfl
   refine pure_ (i := 4) (N := some 52) (v := undef) (a' := ?_) (tf 31 31) rfl rfl (any_of HT_.out (by kernel_rfl)) (fun _ _ _ h => h) (Or.inr ⟨by rfl, rfl⟩) ?_ ?_
   rotate_left
   ·simp only [Act.put, sA_, sB_, sC_, i64_w, i32_w]
    rfl
   refine pure_ (i := 5) (N := some 53) (v := undef) (a' := ?_) (tf 31 63) rfl rfl (any_of HT_.out (by kernel_rfl)) (fun _ _ _ h => h) (Or.inr ⟨by rfl, rfl⟩) ?_ ?_
   rotate_left
   ·simp only [Act.put, sA_, sB_, sC_, i64_w, i32_w]
    rfl
   refine pure_ (i := 6) (N := some 54) (v := undef) (a' := ?_) (tf 31 127) rfl rfl (any_of HT_.out (by kernel_rfl)) (fun _ _ _ h => h) (Or.inr ⟨by rfl, rfl⟩) ?_ ?_
   rotate_left
   ·simp only [Act.put, sA_, sB_, sC_, i64_w, i32_w]
    rfl
   refine pure_ (i := 7) (N := some 55) (v := undef) (a' := ?_) (tf 31 255) rfl rfl (any_of HT_.out (by kernel_rfl)) (fun _ _ _ h => h) (Or.inr ⟨by rfl, rfl⟩) ?_ ?_
   rotate_left
   ·simp only [Act.put, sA_, sB_, sC_, i64_w, i32_w]
    rfl
   refine pure_ (i := 8) (N := some 56) (v := undef) (a' := ?_) (tf 31 511) rfl rfl (any_of HT_.out (by kernel_rfl)) (fun _ _ _ h => h) (Or.inr ⟨by rfl, rfl⟩) ?_ ?_
   rotate_left
   ·simp only [Act.put, sA_, sB_, sC_, i64_w, i32_w]
    rfl
   refine pure_ (i := 9) (N := some 57) (v := undef) (a' := ?_) (tf 31 1023) rfl rfl (any_of HT_.out (by kernel_rfl)) (fun _ _ _ h => h) (Or.inr ⟨by rfl, rfl⟩) ?_ ?_
   rotate_left
   ·simp only [Act.put, sA_, sB_, sC_, i64_w, i32_w]
    rfl
   refine pure_ (i := 10) (N := some 58) (v := ?_) (a' := ?_) (tf 31 2047) rfl rfl (any_of HT_.out (by kernel_rfl)) (fun _ _ _ h => h) (Or.inl ⟨by rfl, ?_⟩) ?_ ?_
   rotate_left
   ·intro w'
    go_simp
    with_reducible rfl
   rotate_left
   ·simp only [Act.put, sA_, sB_, sC_, i64_w, i32_w]
    rfl
   refine pure_ (i := 11) (N := some 59) (v := ?_) (a' := ?_) (tf 31 4095) rfl rfl (any_of HT_.out (by kernel_rfl)) (fun _ _ _ h => h) (Or.inl ⟨by rfl, ?_⟩) ?_ ?_
   rotate_left
   ·intro w'
    go_simp
    with_reducible rfl
   rotate_left
   ·simp only [Act.put, sA_, sB_, sC_, i64_w, i32_w]
    rfl
   refine pure_ (i := 12) (N := some 60) (v := undef) (a' := ?_) (tf 31 8191) rfl rfl (any_of HT_.out (by kernel_rfl)) (fun _ _ _ h => h) (Or.inr ⟨by rfl, rfl⟩) ?_ ?_
   rotate_left
   ·simp only [Act.put, sA_, sB_, sC_, i64_w, i32_w]
    rfl
   refine pure_ (i := 13) (N := some 61) (v := undef) (a' := ?_) (tf 31 16383) rfl rfl (any_of HT_.out (by kernel_rfl)) (fun _ _ _ h => h) (Or.inr ⟨by rfl, rfl⟩) ?_ ?_
   rotate_left
   ·simp only [Act.put, sA_, sB_, sC_, i64_w, i32_w]
    rfl
   refine pure_ (i := 14) (N := some 62) (v := undef) (a' := ?_) (tf 31 32767) rfl rfl (any_of HT_.out (by kernel_rfl)) (fun _ _ _ h => h) (Or.inr ⟨by rfl, rfl⟩) ?_ ?_
   rotate_left
   ·simp only [Act.put, sA_, sB_, sC_, i64_w, i32_w]
    rfl
   refine pure_ (i := 15) (N := some 63) (v := undef) (a' := ?_) (tf 31 65535) rfl rfl (any_of HT_.out (by kernel_rfl)) (fun _ _ _ h => h) (Or.inr ⟨by rfl, rfl⟩) ?_ ?_
   rotate_left
   ·simp only [Act.put, sA_, sB_, sC_, i64_w, i32_w]
    rfl
   refine pure_ (i := 16) (N := some 64) (v := undef) (a' := ?_) (tf 31 131071) rfl rfl (any_of HT_.out (by kernel_rfl)) (fun _ _ _ h => h) (Or.inr ⟨by rfl, rfl⟩) ?_ ?_
   rotate_left
   ·simp only [Act.put, sA_, sB_, sC_, i64_w, i32_w]
    rfl
   refine pure_ (i := 17) (N := some 65) (v := undef) (a' := ?_) (tf 31 262143) rfl rfl (any_of HT_.out (by kernel_rfl)) (fun _ _ _ h => h) (Or.inr ⟨by rfl, rfl⟩) ?_ ?_
   rotate_left
   ·simp only [Act.put, sA_, sB_, sC_, i64_w, i32_w]
    rfl
   refine pure_ (i := 18) (N := some 66) (v := undef) (a' := ?_) (tf 31 524287) rfl rfl (any_of HT_.out (by kernel_rfl)) (fun _ _ _ h => h) (Or.inr ⟨by rfl, rfl⟩) ?_ ?_
   rotate_left
   ·simp only [Act.put, sA_, sB_, sC_, i64_w, i32_w]
    rfl
   refine pure_ (i := 19) (N := some 67) (v := undef) (a' := ?_) (tf 31 1048575) rfl rfl (any_of HT_.out (by kernel_rfl)) (fun _ _ _ h => h) (Or.inr ⟨by rfl, rfl⟩) ?_ ?_
   rotate_left
   ·simp only [Act.put, sA_, sB_, sC_, i64_w, i32_w]
    rfl
   refine pure_ (i := 20) (N := some 68) (v := ?_) (a' := ?_) (tf 31 2097151) rfl rfl (any_of HT_.out (by kernel_rfl)) (fun _ _ _ h => h) (Or.inl ⟨by rfl, ?_⟩) ?_ ?_
   rotate_left
   ·intro w'
    go_simp
    with_reducible rfl
   rotate_left
   ·simp only [Act.put, sA_, sB_, sC_, i64_w, i32_w]
    rfl
   refine pure_ (i := 21) (N := some 69) (v := ?_) (a' := ?_) (tf 31 4194303) rfl rfl (any_of HT_.out (by kernel_rfl)) (fun _ _ _ h => h) (Or.inl ⟨by rfl, ?_⟩) ?_ ?_
   rotate_left
   ·intro w'
    go_simp
    with_reducible rfl
   rotate_left
   ·simp only [Act.put, sA_, sB_, sC_, i64_w, i32_w]
    rfl
   refine pure_ (i := 22) (N := some 70) (v := undef) (a' := ?_) (tf 31 8388607) rfl rfl (any_of HT_.out (by kernel_rfl)) (fun _ _ _ h => h) (Or.inr ⟨by rfl, rfl⟩) ?_ ?_
   rotate_left
   ·simp only [Act.put, sA_, sB_, sC_, i64_w, i32_w]
    rfl
   refine pure_ (i := 23) (N := some 71) (v := undef) (a' := ?_) (tf 31 16777215) rfl rfl (any_of HT_.out (by kernel_rfl)) (fun _ _ _ h => h) (Or.inr ⟨by rfl, rfl⟩) ?_ ?_
   rotate_left
   ·simp only [Act.put, sA_, sB_, sC_, i64_w, i32_w]
    rfl
   refine pure_ (i := 24) (N := some 72) (v := undef) (a' := ?_) (tf 31 33554431) rfl rfl (any_of HT_.out (by kernel_rfl)) (fun _ _ _ h => h) (Or.inr ⟨by rfl, rfl⟩) ?_ ?_
   rotate_left
   ·simp only [Act.put, sA_, sB_, sC_, i64_w, i32_w]
    rfl
   refine pure_ (i := 25) (N := some 73) (v := undef) (a' := ?_) (tf 31 67108863) rfl rfl (any_of HT_.out (by kernel_rfl)) (fun _ _ _ h => h) (Or.inr ⟨by rfl, rfl⟩) ?_ ?_
   rotate_left
   ·simp only [Act.put, sA_, sB_, sC_, i64_w, i32_w]
    rfl
   refine pure_ (i := 26) (N := some 74) (v := undef) (a' := ?_) (tf 31 134217727) rfl rfl (any_of HT_.out (by kernel_rfl)) (fun _ _ _ h => h) (Or.inr ⟨by rfl, rfl⟩) ?_ ?_
   rotate_left
   ·simp only [Act.put, sA_, sB_, sC_, i64_w, i32_w]
    rfl
   refine pure_ (i := 27) (N := some 75) (v := undef) (a' := ?_) (tf 31 268435455) rfl rfl (any_of HT_.out (by kernel_rfl)) (fun _ _ _ h => h) (Or.inr ⟨by rfl, rfl⟩) ?_ ?_
   rotate_left
   ·simp only [Act.put, sA_, sB_, sC_, i64_w, i32_w]
    rfl
   refine pure_ (i := 28) (N := some 76) (v := undef) (a' := ?_) (tf 31 536870911) rfl rfl (any_of HT_.out (by kernel_rfl)) (fun _ _ _ h => h) (Or.inr ⟨by rfl, rfl⟩) ?_ ?_
   rotate_left
   ·simp only [Act.put, sA_, sB_, sC_, i64_w, i32_w]
    rfl
   refine pure_ (i := 29) (N := some 77) (v := undef) (a' := ?_) (tf 31 1073741823) rfl rfl (any_of HT_.out (by kernel_rfl)) (fun _ _ _ h => h) (Or.inr ⟨by rfl, rfl⟩) ?_ ?_
   rotate_left
   ·simp only [Act.put, sA_, sB_, sC_, i64_w, i32_w]
    rfl
   refine pure_ (i := 30) (N := some 78) (v := ?_) (a' := ?_) (tf 31 2147483647) rfl rfl (any_of HT_.out (by kernel_rfl)) (fun _ _ _ h => h) (Or.inl ⟨by rfl, ?_⟩) ?_ ?_
   rotate_left
   ·intro w'
    go_simp
    with_reducible rfl
   rotate_left
   ·simp only [Act.put, sA_, sB_, sC_, i64_w, i32_w]
    rfl
   refine done_ (done_of HT_.out (by kernel_rfl)) ?_
   try go_wp2
   go_meet
   case rel => exact ⟨_, (true), (by first | rfl | (simp; done) | (simp [*]; done)), H', ⟨by first | omega | exact Nat.le_refl _⟩, ⟨by (with_reducible repeat (first | apply kN_ | apply kD_ | apply kA_)); exact BK390.out⟩, ⟨by (with_reducible repeat (first | apply kN_ | apply kD_ | apply kA_)); exact BK400.out⟩, ⟨by (with_reducible repeat (first | apply kN_ | apply kD_ | apply kA_)); exact BK410.out⟩, ⟨by (with_reducible repeat (first | apply kN_ | apply kD_ | apply kA_)); exact BK424.out⟩, ⟨by repeat (first | (with_reducible first | exact HB.out | apply bA_ | apply bN_ | apply bD_ | refine bS_ ?_ GE390.out | refine bS_ ?_ GE400.out | refine bS_ ?_ GE410.out | refine bS_ ?_ GE424.out) | exact HB.out)⟩⟩
 case rest =>
  clear HC14
  try clear c1
  try clear c2
  try clear p2
  try clear c4
  try clear c12
  try clear c24
  try clear c40
  try clear c43
  try clear c43b0
  try clear c43b1
  obtain ⟨kq, x78_13, rfl, HA, HJ13, BK390, BK400, BK410, BK424, HB⟩ := hcut
  cases kq with
  | zero => exact absurd HA.out (by simp [platformfwlaw08_ValueArithmetic.j0])
  | succ kj13 =>
   have H := HA.out
   clear HA
   simp only [platformfwlaw08_ValueArithmetic.j0] at H
   by_cases c73 : x78_13 = true
   ·subst c73
    have H1 : (some false) = some r := by rw [if_pos rfl] at H; exact H
    clear H
    have H := H1
    clear H1
    obtain rfl := Option.some.inj H
    exact absurd hr_.out (by simp)
   ·replace c73 := Bool.eq_false_iff.mpr c73
    subst c73
    have H1 : (if a1 = 0 then (some (t423 == 12)) else ((platformfwlaw08_number.f kj13 64 a0 a1).bind fun t431 => (if t423 = 0 then (if t431 < a1 then ((platformfwlaw08_number.f kj13 63 a0 a1).bind fun t432 => ((platformfwlaw08_number.f kj13 62 t432 a1).bind fun t433 => ((platformfwlaw08_number.f kj13 60 t433 t431).bind fun t434 => (some (t434 == a0))))) else (some false)) else (some false)))) = some r := by rw [if_neg (show ¬ (false = true) by decide)] at H; exact H
    clear H
    have H := H1
    clear H1
    by_cases c74 : a1 = 0
    ·rw [if_pos c74] at H
     have c74b0 : (a1 == 0) = true := beq_iff_eq.mpr c74
     have c74b1 : (a1 != 0) = false := bne_eq_false_iff_eq.mpr c74
     clear c74
     obtain rfl := Option.some.inj H
     go_wp2
     go_ret
     exact ⟨by first | rfl | (simp [errW_none, errW_some] <;> rfl) | (simp [*, errW_none, errW_some] <;> rfl), by repeat (first | (with_reducible first | exact HB.out | apply bA_ | apply bN_ | apply bD_ | refine bS_ ?_ GE390.out | refine bS_ ?_ GE400.out | refine bS_ ?_ GE410.out | refine bS_ ?_ GE424.out) | exact HB.out)⟩
    ·rw [if_neg c74] at H
     have c74b0 : (a1 == 0) = false := beq_eq_false_iff_ne.mpr c74
     have c74b1 : (a1 != 0) = true := bne_iff_ne.mpr c74
     replace H := Option.bind_eq_some_iff.mp H
     obtain ⟨t431, A750, H⟩ := H
     replace H : (if t423 = 0 then (if t431 < a1 then ((platformfwlaw08_number.f kj13 63 a0 a1).bind fun t432 => ((platformfwlaw08_number.f kj13 62 t432 a1).bind fun t433 => ((platformfwlaw08_number.f kj13 60 t433 t431).bind fun t434 => (some (t434 == a0))))) else (some false)) else (some false)) = some r := H
     have A75 := Aside0.mk A750
     clear A750
     by_cases c76 : t423 = 0
     ·rw [if_pos c76] at H
      have c76b0 : (t423 == 0) = true := beq_iff_eq.mpr c76
      have c76b1 : (t423 != 0) = false := bne_eq_false_iff_eq.mpr c76
      clear c76
      by_cases c77 : t431 < a1
      ·rw [if_pos c77] at H
       have c77b0 : decide (t431 < a1) = true := decide_eq_true c77
       clear c77
       replace H := Option.bind_eq_some_iff.mp H
       obtain ⟨t432, A780, H⟩ := H
       replace H : ((platformfwlaw08_number.f kj13 62 t432 a1).bind fun t433 => ((platformfwlaw08_number.f kj13 60 t433 t431).bind fun t434 => (some (t434 == a0)))) = some r := H
       have A78 := Aside0.mk A780
       clear A780
       replace H := Option.bind_eq_some_iff.mp H
       obtain ⟨t433, A790, H⟩ := H
       replace H : ((platformfwlaw08_number.f kj13 60 t433 t431).bind fun t434 => (some (t434 == a0))) = some r := H
       have A79 := Aside0.mk A790
       clear A790
       replace H := Option.bind_eq_some_iff.mp H
       obtain ⟨t434, A800, H⟩ := H
       replace H : (some (t434 == a0)) = some r := H
       have A80 := Aside0.mk A800
       clear A800
       obtain rfl := Option.some.inj H
       go_wp2_with (first | ((with_reducible refine gate_callee (f := 24) rfl ?_); refine goesL_ (some 85) rfl rfl Tryd.func24 (by kernel_rfl) rfl #[.int .i64 64, .int .u64 a0, .int .u64 a1] rfl (by (try simp only [List.map_toArray, List.map_cons, List.map_nil]); first | done | rfl | (simp only [List.length_drop, List.length_take]; rfl)) ?_; (with_reducible refine (platformfwlaw08_number.calls kj13 64 a0 a1 t431 _ ?hTT_ A75.out).mono ?_); (case hTT_ => exact tb_below HTT_.out (by repeat (first | (with_reducible first | exact HB.out | apply bA_ | apply bN_ | apply bD_ | refine bS_ ?_ GE390.out | refine bS_ ?_ GE400.out | refine bS_ ?_ GE410.out | refine bS_ ?_ GE424.out) | exact HB.out))); rintro e w81 ⟨rfl, hb⟩; refine ⟨_, rfl, ?_⟩; have n0_ := Aside0.mk (blk_below (g := gb390) (o := .cells #[.int .i64 t385, .int .u64 t386, .string t387, .int .i64 t388] 24 (0, 0)) (by (with_reducible repeat (first | apply kN_ | apply kD_ | apply kA_)); exact BK390.out) hb); have n1_ := Aside0.mk (blk_below (g := gb400) (o := .cells #[.int .i64 t395, .int .u64 t396, .string t397, .int .i64 t398] 24 (0, 0)) (by (with_reducible repeat (first | apply kN_ | apply kD_ | apply kA_)); exact BK400.out) hb); have n2_ := Aside0.mk (blk_below (g := gb410) (o := .cells #[.int .i64 t405, .int .u64 t406, .string t407, .int .i64 t408] 24 (0, 0)) (by (with_reducible repeat (first | apply kN_ | apply kD_ | apply kA_)); exact BK410.out) hb); have n3_ := Aside0.mk (blk_below (g := gb424) (o := .cells #[.int .i64 t419, .int .u64 t420, .string t421, .int .i64 t422] 24 (0, 0)) (by (with_reducible repeat (first | apply kN_ | apply kD_ | apply kA_)); exact BK424.out) hb); have n4_ := Aside0.mk (below_step (by repeat (first | (with_reducible first | exact HB.out | apply bA_ | apply bN_ | apply bD_ | refine bS_ ?_ GE390.out | refine bS_ ?_ GE400.out | refine bS_ ?_ GE410.out | refine bS_ ?_ GE424.out) | exact HB.out)) hb); clear BK390; clear BK400; clear BK410; clear BK424; clear HB; have BK390 := n0_; have BK400 := n1_; have BK410 := n2_; have BK424 := n3_; have HB := n4_; clear n0_ n1_ n2_ n3_ n4_; (try clear hb); (try clear hb2); (try clear hk); (try clear hi)) | (go_at_call 24; (with_reducible refine (platformfwlaw08_number.calls kj13 63 a0 a1 t432 _ ?hTT_ A78.out).mono ?_); (case hTT_ => exact tb_below HTT_.out (by repeat (first | (with_reducible first | exact HB.out | apply bA_ | apply bN_ | apply bD_ | refine bS_ ?_ GE390.out | refine bS_ ?_ GE400.out | refine bS_ ?_ GE410.out | refine bS_ ?_ GE424.out) | exact HB.out))); rintro e w82 ⟨rfl, hb⟩; have n0_ := Aside0.mk (blk_below (g := gb390) (o := .cells #[.int .i64 t385, .int .u64 t386, .string t387, .int .i64 t388] 24 (0, 0)) (by (with_reducible repeat (first | apply kN_ | apply kD_ | apply kA_)); exact BK390.out) hb); have n1_ := Aside0.mk (blk_below (g := gb400) (o := .cells #[.int .i64 t395, .int .u64 t396, .string t397, .int .i64 t398] 24 (0, 0)) (by (with_reducible repeat (first | apply kN_ | apply kD_ | apply kA_)); exact BK400.out) hb); have n2_ := Aside0.mk (blk_below (g := gb410) (o := .cells #[.int .i64 t405, .int .u64 t406, .string t407, .int .i64 t408] 24 (0, 0)) (by (with_reducible repeat (first | apply kN_ | apply kD_ | apply kA_)); exact BK410.out) hb); have n3_ := Aside0.mk (blk_below (g := gb424) (o := .cells #[.int .i64 t419, .int .u64 t420, .string t421, .int .i64 t422] 24 (0, 0)) (by (with_reducible repeat (first | apply kN_ | apply kD_ | apply kA_)); exact BK424.out) hb); have n4_ := Aside0.mk (below_step (by repeat (first | (with_reducible first | exact HB.out | apply bA_ | apply bN_ | apply bD_ | refine bS_ ?_ GE390.out | refine bS_ ?_ GE400.out | refine bS_ ?_ GE410.out | refine bS_ ?_ GE424.out) | exact HB.out)) hb); clear BK390; clear BK400; clear BK410; clear BK424; clear HB; have BK390 := n0_; have BK400 := n1_; have BK410 := n2_; have BK424 := n3_; have HB := n4_; clear n0_ n1_ n2_ n3_ n4_; (try clear hb); (try clear hb2); (try clear hk); (try clear hi)) | (go_at_call 24; (with_reducible refine (platformfwlaw08_number.calls kj13 62 t432 a1 t433 _ ?hTT_ A79.out).mono ?_); (case hTT_ => exact tb_below HTT_.out (by repeat (first | (with_reducible first | exact HB.out | apply bA_ | apply bN_ | apply bD_ | refine bS_ ?_ GE390.out | refine bS_ ?_ GE400.out | refine bS_ ?_ GE410.out | refine bS_ ?_ GE424.out) | exact HB.out))); rintro e w83 ⟨rfl, hb⟩; have n0_ := Aside0.mk (blk_below (g := gb390) (o := .cells #[.int .i64 t385, .int .u64 t386, .string t387, .int .i64 t388] 24 (0, 0)) (by (with_reducible repeat (first | apply kN_ | apply kD_ | apply kA_)); exact BK390.out) hb); have n1_ := Aside0.mk (blk_below (g := gb400) (o := .cells #[.int .i64 t395, .int .u64 t396, .string t397, .int .i64 t398] 24 (0, 0)) (by (with_reducible repeat (first | apply kN_ | apply kD_ | apply kA_)); exact BK400.out) hb); have n2_ := Aside0.mk (blk_below (g := gb410) (o := .cells #[.int .i64 t405, .int .u64 t406, .string t407, .int .i64 t408] 24 (0, 0)) (by (with_reducible repeat (first | apply kN_ | apply kD_ | apply kA_)); exact BK410.out) hb); have n3_ := Aside0.mk (blk_below (g := gb424) (o := .cells #[.int .i64 t419, .int .u64 t420, .string t421, .int .i64 t422] 24 (0, 0)) (by (with_reducible repeat (first | apply kN_ | apply kD_ | apply kA_)); exact BK424.out) hb); have n4_ := Aside0.mk (below_step (by repeat (first | (with_reducible first | exact HB.out | apply bA_ | apply bN_ | apply bD_ | refine bS_ ?_ GE390.out | refine bS_ ?_ GE400.out | refine bS_ ?_ GE410.out | refine bS_ ?_ GE424.out) | exact HB.out)) hb); clear BK390; clear BK400; clear BK410; clear BK424; clear HB; have BK390 := n0_; have BK400 := n1_; have BK410 := n2_; have BK424 := n3_; have HB := n4_; clear n0_ n1_ n2_ n3_ n4_; (try clear hb); (try clear hb2); (try clear hk); (try clear hi)) | (go_at_call 24; (with_reducible refine (platformfwlaw08_number.calls kj13 60 t433 t431 t434 _ ?hTT_ A80.out).mono ?_); (case hTT_ => exact tb_below HTT_.out (by repeat (first | (with_reducible first | exact HB.out | apply bA_ | apply bN_ | apply bD_ | refine bS_ ?_ GE390.out | refine bS_ ?_ GE400.out | refine bS_ ?_ GE410.out | refine bS_ ?_ GE424.out) | exact HB.out))); rintro e w84 ⟨rfl, hb⟩; have n0_ := Aside0.mk (blk_below (g := gb390) (o := .cells #[.int .i64 t385, .int .u64 t386, .string t387, .int .i64 t388] 24 (0, 0)) (by (with_reducible repeat (first | apply kN_ | apply kD_ | apply kA_)); exact BK390.out) hb); have n1_ := Aside0.mk (blk_below (g := gb400) (o := .cells #[.int .i64 t395, .int .u64 t396, .string t397, .int .i64 t398] 24 (0, 0)) (by (with_reducible repeat (first | apply kN_ | apply kD_ | apply kA_)); exact BK400.out) hb); have n2_ := Aside0.mk (blk_below (g := gb410) (o := .cells #[.int .i64 t405, .int .u64 t406, .string t407, .int .i64 t408] 24 (0, 0)) (by (with_reducible repeat (first | apply kN_ | apply kD_ | apply kA_)); exact BK410.out) hb); have n3_ := Aside0.mk (blk_below (g := gb424) (o := .cells #[.int .i64 t419, .int .u64 t420, .string t421, .int .i64 t422] 24 (0, 0)) (by (with_reducible repeat (first | apply kN_ | apply kD_ | apply kA_)); exact BK424.out) hb); have n4_ := Aside0.mk (below_step (by repeat (first | (with_reducible first | exact HB.out | apply bA_ | apply bN_ | apply bD_ | refine bS_ ?_ GE390.out | refine bS_ ?_ GE400.out | refine bS_ ?_ GE410.out | refine bS_ ?_ GE424.out) | exact HB.out)) hb); clear BK390; clear BK400; clear BK410; clear BK424; clear HB; have BK390 := n0_; have BK400 := n1_; have BK410 := n2_; have BK424 := n3_; have HB := n4_; clear n0_ n1_ n2_ n3_ n4_; (try clear hb); (try clear hb2); (try clear hk); (try clear hi)))
       go_ret
       exact ⟨by first | rfl | (simp [errW_none, errW_some] <;> rfl) | (simp [*, errW_none, errW_some] <;> rfl), by repeat (first | (with_reducible first | exact HB.out | apply bA_ | apply bN_ | apply bD_ | refine bS_ ?_ GE390.out | refine bS_ ?_ GE400.out | refine bS_ ?_ GE410.out | refine bS_ ?_ GE424.out) | exact HB.out)⟩
      ·rw [if_neg c77] at H
       have c77b0 : decide (t431 < a1) = false := decide_eq_false c77
       clear c77
       obtain rfl := Option.some.inj H
       exact absurd hr_.out (by simp)
     ·rw [if_neg c76] at H
      have c76b0 : (t423 == 0) = false := beq_eq_false_iff_ne.mpr c76
      have c76b1 : (t423 != 0) = true := bne_iff_ne.mpr c76
      obtain rfl := Option.some.inj H
      exact absurd hr_.out (by simp)

/-- THE ONE PURE STATEMENT of platformfwlaw08_ValueArithmetic: yours. -/
def platformfwlaw08_ValueArithmetic.Pure : Prop := ∀ (a0 : Int) (a1 : Int) (a2 : Int), (Lit.int .u64 a0).wf = true → (Lit.int .u64 a1).wf = true → (Lit.int .u8 a2).wf = true → ∃ k, platformfwlaw08_ValueArithmetic.f k a0 a1 a2 = some true

end Go.Proofs.YtdmeglmmihaonaaDoor.PValueArithmetic
