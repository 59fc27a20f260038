-- Written by a program of this session's (wip/print_patch.py over the kit's print) out of the translation; Lean checks it.
import Derived.Test.YtdmeglmmihaonaaGreatDoorPValueUnaryx0
import Derived.Test.YtdmeglmmihaonaaGreatDoorPValueUnaryx1
import Derived.Test.YtdmeglmmihaonaaGreatDoorPValueUnaryx2
import Derived.Test.YtdmeglmmihaonaaGreatDoorPValueUnaryx4
import Derived.Test.YtdmeglmmihaonaaGreatDoorPValueUnaryx5
import Derived.Test.YtdmeglmmihaonaaGreatDoorPValueUnaryx8
import Derived.Test.YtdmeglmmihaonaaGreatDoorPValueUnaryx9
import Derived.Test.YtdmeglmmihaonaaGreatDoorPValueUnaryx11
import Derived.Test.YtdmeglmmihaonaaGreatDoorVValueUnaryExtS
namespace Go.Proofs.YtdmeglmmihaonaaGreatDoor.PValueUnary
open Go.RowKit Go.Proofs.YtdmeglmmihaonaaGreatDoor.Ext Go.Proofs.YtdmeglmmihaonaaGreatDoorW.PrintWords Go.Proofs.YtdmeglmmihaonaaGreatDoorW.PrintLast Go.Proofs.YtdmeglmmihaonaaGreatDoorW.PrintMore
attribute [local go_sem] max2_int min2_int max_two min_two max_three min_three max_four min_four   -- for this text's walks alone
set_option linter.unusedVariables false
set_option linter.unusedSimpArgs false

attribute [local go_sem high] eqA24
/-! ### platformfwlaw08_awake: function 8 -/
def platformfwlaw08_awake.f (k : Nat)  : Option (Bool) := (value_Integer.f k 2 0 (⟨#[49, 70, 122]⟩ : ByteArray) 0).bind fun bt477 => ((platformfwref08_Number.f 255).bind fun bt479 => ((value_Binary.f k 75 2 0 (⟨#[97]⟩ : ByteArray) 0 bt479.1 bt479.2.1 bt479.2.2.1 bt479.2.2.2).bind fun bt483 => ((platformfwref08_Number.f 1).bind fun bt489 => ((platformfwref08_Number.f 64).bind fun bt493 => ((value_Binary.f k 68 bt489.1 bt489.2.1 bt489.2.2.1 bt489.2.2.2 bt493.1 bt493.2.1 bt493.2.2.1 bt493.2.2.2).bind fun bt497 => (if bt477.1 = 31 then (if bt477.2 = 0 then (if (bt483.1 == 2 && (bt483.2.1 == 0 && (bt483.2.2.1.toList == ([97, 48, 48, 48, 48, 48, 48, 48, 48, 48, 48, 48, 48, 48, 48, 70, 70] : List UInt8) && (bt483.2.2.2.1 == 0)))) = true then (if bt483.2.2.2.2 = 0 then ((platformfwref08_Number.f 0).bind fun bt503 => (if (bt497.1 == bt503.1 && (bt497.2.1 == bt503.2.1 && (bt497.2.2.1.toList == bt503.2.2.1.toList && (bt497.2.2.2.1 == bt503.2.2.2)))) = true then (some (bt497.2.2.2.2 == 0)) else (some false))) else (some false)) else (some false)) else (some false)) else (some false)))))))
theorem platformfwlaw08_awake.mono : ∀ k, LeO (platformfwlaw08_awake.f k ) (platformfwlaw08_awake.f (k + 1) ) := by
 intro  k
 unfold platformfwlaw08_awake.f
 repeat' first
   | (with_reducible exact value_Binary.mono _ _ _ _ _ _ _ _ _ _)
   | (with_reducible exact value_Integer.mono _ _ _ _ _)
   | (with_reducible exact LeO.refl _)
   | (with_reducible exact LeO.none _)
   | (with_reducible refine LeO.ite ?_ ?_)
   | (with_reducible refine LeO.bind ?_ (fun _ => ?_))
   | exact value_Binary.mono _ _ _ _ _ _ _ _ _ _
   | exact value_Integer.mono _ _ _ _ _
   | exact LeO.none _
   | refine LeO.ite ?_ ?_
   | refine LeO.bind ?_ (fun _ => ?_)
def platformfwlaw08_awake.T4 : Bool × List (List Nat × List Nat) := (true, [([], []), ([0], [0]), ([1], [1]), ([2], [2]), ([3, 2], [2, 3]), ([2, 4], [2, 4]), ([5, 2], [5]), ([6], [6]), ([6], [6]), ([7, 8, 6], [6, 7, 8]), ([6, 9], [6, 9]), ([10, 6], [10]), ([11], [11]), ([12, 11], [11, 12]), ([11, 13], [11, 13]), ([14, 11], [14]), ([15], [15]), ([15, 15], [15]), ([16, 17, 15], [15, 16, 17]), ([15, 18], [15, 18]), ([19, 17], [19]), ([20], [20]), ([21, 20], [20, 21]), ([20, 22], [20, 22]), ([23, 20, 0, 1, 2, 3, 4, 5, 6, 7, 8, 9, 10, 11, 12, 13, 14, 15, 16, 17, 18, 19, 20, 21, 22, 23], [23])])
def platformfwlaw08_awake.B4 : List Nat := [0, 1, 3, 7, 15, 31, 63, 127, 127, 511, 1023, 2047, 4095, 8191, 16383, 32767, 65535, 65535, 262143, 524287, 1048575, 2097151, 4194303, 8388607, 16777215]
theorem platformfwlaw08_awake.tab4 : rtab .any (opsOf Tryz.f8 4) = platformfwlaw08_awake.T4 := by kernel_rfl
theorem platformfwlaw08_awake.bits4 : waitsOk platformfwlaw08_awake.T4.2 platformfwlaw08_awake.B4 = true := by kernel_rfl
set_option maxHeartbeats 8000000 in
set_option maxRecDepth 100000 in
theorem platformfwlaw08_awake.calls (k : Nat)  (r : Bool) (w : World) (hT_ : Tb w) (hr_ : Aside0 (r = true)) (h : platformfwlaw08_awake.f k  = some r) :
  Calls Tryz.prog 8 #[] w fun e w' => e = .returned (.bool r) ∧ Below w.heap.size w w' := by
 have HTT_ := Aside0.mk hT_
 clear hT_
 have hu24 := Tryz.underlying24
 have HB := Aside0.mk (Below.refl w.heap.size w)
 have H : ((value_Integer.f k 2 0 (⟨#[49, 70, 122]⟩ : ByteArray) 0).bind fun bt477 => ((platformfwref08_Number.f 255).bind fun bt479 => ((value_Binary.f k 75 2 0 (⟨#[97]⟩ : ByteArray) 0 bt479.1 bt479.2.1 bt479.2.2.1 bt479.2.2.2).bind fun bt483 => ((platformfwref08_Number.f 1).bind fun bt489 => ((platformfwref08_Number.f 64).bind fun bt493 => ((value_Binary.f k 68 bt489.1 bt489.2.1 bt489.2.2.1 bt489.2.2.2 bt493.1 bt493.2.1 bt493.2.2.1 bt493.2.2.2).bind fun bt497 => (if bt477.1 = 31 then (if bt477.2 = 0 then (if (bt483.1 == 2 && (bt483.2.1 == 0 && (bt483.2.2.1.toList == ([97, 48, 48, 48, 48, 48, 48, 48, 48, 48, 48, 48, 48, 48, 48, 70, 70] : List UInt8) && (bt483.2.2.2.1 == 0)))) = true then (if bt483.2.2.2.2 = 0 then ((platformfwref08_Number.f 0).bind fun bt503 => (if (bt497.1 == bt503.1 && (bt497.2.1 == bt503.2.1 && (bt497.2.2.1.toList == bt503.2.2.1.toList && (bt497.2.2.2.1 == bt503.2.2.2)))) = true then (some (bt497.2.2.2.2 == 0)) else (some false))) else (some false)) else (some false)) else (some false)) else (some false)))))))) = some r := h
 clear h
 replace H := Option.bind_eq_some_iff.mp H
 obtain ⟨⟨t477, t478⟩, A10, H⟩ := H
 replace H : ((platformfwref08_Number.f 255).bind fun bt479 => ((value_Binary.f k 75 2 0 (⟨#[97]⟩ : ByteArray) 0 bt479.1 bt479.2.1 bt479.2.2.1 bt479.2.2.2).bind fun bt483 => ((platformfwref08_Number.f 1).bind fun bt489 => ((platformfwref08_Number.f 64).bind fun bt493 => ((value_Binary.f k 68 bt489.1 bt489.2.1 bt489.2.2.1 bt489.2.2.2 bt493.1 bt493.2.1 bt493.2.2.1 bt493.2.2.2).bind fun bt497 => (if t477 = 31 then (if t478 = 0 then (if (bt483.1 == 2 && (bt483.2.1 == 0 && (bt483.2.2.1.toList == ([97, 48, 48, 48, 48, 48, 48, 48, 48, 48, 48, 48, 48, 48, 48, 70, 70] : List UInt8) && (bt483.2.2.2.1 == 0)))) = true then (if bt483.2.2.2.2 = 0 then ((platformfwref08_Number.f 0).bind fun bt503 => (if (bt497.1 == bt503.1 && (bt497.2.1 == bt503.2.1 && (bt497.2.2.1.toList == bt503.2.2.1.toList && (bt497.2.2.2.1 == bt503.2.2.2)))) = true then (some (bt497.2.2.2.2 == 0)) else (some false))) else (some false)) else (some false)) else (some false)) else (some false))))))) = some r := H
 have A1 := Aside0.mk A10
 clear A10
 replace H := Option.bind_eq_some_iff.mp H
 obtain ⟨⟨t479, t480, t481, t482⟩, A20, H⟩ := H
 replace H : ((value_Binary.f k 75 2 0 (⟨#[97]⟩ : ByteArray) 0 t479 t480 t481 t482).bind fun bt483 => ((platformfwref08_Number.f 1).bind fun bt489 => ((platformfwref08_Number.f 64).bind fun bt493 => ((value_Binary.f k 68 bt489.1 bt489.2.1 bt489.2.2.1 bt489.2.2.2 bt493.1 bt493.2.1 bt493.2.2.1 bt493.2.2.2).bind fun bt497 => (if t477 = 31 then (if t478 = 0 then (if (bt483.1 == 2 && (bt483.2.1 == 0 && (bt483.2.2.1.toList == ([97, 48, 48, 48, 48, 48, 48, 48, 48, 48, 48, 48, 48, 48, 48, 70, 70] : List UInt8) && (bt483.2.2.2.1 == 0)))) = true then (if bt483.2.2.2.2 = 0 then ((platformfwref08_Number.f 0).bind fun bt503 => (if (bt497.1 == bt503.1 && (bt497.2.1 == bt503.2.1 && (bt497.2.2.1.toList == bt503.2.2.1.toList && (bt497.2.2.2.1 == bt503.2.2.2)))) = true then (some (bt497.2.2.2.2 == 0)) else (some false))) else (some false)) else (some false)) else (some false)) else (some false)))))) = some r := H
 have A2 := Aside0.mk A20
 clear A20
 replace H := Option.bind_eq_some_iff.mp H
 obtain ⟨⟨t483, t484, t485, t486, t487⟩, A30, H⟩ := H
 replace H : ((platformfwref08_Number.f 1).bind fun bt489 => ((platformfwref08_Number.f 64).bind fun bt493 => ((value_Binary.f k 68 bt489.1 bt489.2.1 bt489.2.2.1 bt489.2.2.2 bt493.1 bt493.2.1 bt493.2.2.1 bt493.2.2.2).bind fun bt497 => (if t477 = 31 then (if t478 = 0 then (if (t483 == 2 && (t484 == 0 && (t485.toList == ([97, 48, 48, 48, 48, 48, 48, 48, 48, 48, 48, 48, 48, 48, 48, 70, 70] : List UInt8) && (t486 == 0)))) = true then (if t487 = 0 then ((platformfwref08_Number.f 0).bind fun bt503 => (if (bt497.1 == bt503.1 && (bt497.2.1 == bt503.2.1 && (bt497.2.2.1.toList == bt503.2.2.1.toList && (bt497.2.2.2.1 == bt503.2.2.2)))) = true then (some (bt497.2.2.2.2 == 0)) else (some false))) else (some false)) else (some false)) else (some false)) else (some false))))) = some r := H
 have A3 := Aside0.mk A30
 clear A30
 replace H := Option.bind_eq_some_iff.mp H
 obtain ⟨⟨t489, t490, t491, t492⟩, A40, H⟩ := H
 replace H : ((platformfwref08_Number.f 64).bind fun bt493 => ((value_Binary.f k 68 t489 t490 t491 t492 bt493.1 bt493.2.1 bt493.2.2.1 bt493.2.2.2).bind fun bt497 => (if t477 = 31 then (if t478 = 0 then (if (t483 == 2 && (t484 == 0 && (t485.toList == ([97, 48, 48, 48, 48, 48, 48, 48, 48, 48, 48, 48, 48, 48, 48, 70, 70] : List UInt8) && (t486 == 0)))) = true then (if t487 = 0 then ((platformfwref08_Number.f 0).bind fun bt503 => (if (bt497.1 == bt503.1 && (bt497.2.1 == bt503.2.1 && (bt497.2.2.1.toList == bt503.2.2.1.toList && (bt497.2.2.2.1 == bt503.2.2.2)))) = true then (some (bt497.2.2.2.2 == 0)) else (some false))) else (some false)) else (some false)) else (some false)) else (some false)))) = some r := H
 have A4 := Aside0.mk A40
 clear A40
 replace H := Option.bind_eq_some_iff.mp H
 obtain ⟨⟨t493, t494, t495, t496⟩, A50, H⟩ := H
 replace H : ((value_Binary.f k 68 t489 t490 t491 t492 t493 t494 t495 t496).bind fun bt497 => (if t477 = 31 then (if t478 = 0 then (if (t483 == 2 && (t484 == 0 && (t485.toList == ([97, 48, 48, 48, 48, 48, 48, 48, 48, 48, 48, 48, 48, 48, 48, 70, 70] : List UInt8) && (t486 == 0)))) = true then (if t487 = 0 then ((platformfwref08_Number.f 0).bind fun bt503 => (if (bt497.1 == bt503.1 && (bt497.2.1 == bt503.2.1 && (bt497.2.2.1.toList == bt503.2.2.1.toList && (bt497.2.2.2.1 == bt503.2.2.2)))) = true then (some (bt497.2.2.2.2 == 0)) else (some false))) else (some false)) else (some false)) else (some false)) else (some false))) = some r := H
 have A5 := Aside0.mk A50
 clear A50
 replace H := Option.bind_eq_some_iff.mp H
 obtain ⟨⟨t497, t498, t499, t500, t501⟩, A60, H⟩ := H
 replace H : (if t477 = 31 then (if t478 = 0 then (if (t483 == 2 && (t484 == 0 && (t485.toList == ([97, 48, 48, 48, 48, 48, 48, 48, 48, 48, 48, 48, 48, 48, 48, 70, 70] : List UInt8) && (t486 == 0)))) = true then (if t487 = 0 then ((platformfwref08_Number.f 0).bind fun bt503 => (if (t497 == bt503.1 && (t498 == bt503.2.1 && (t499.toList == bt503.2.2.1.toList && (t500 == bt503.2.2.2)))) = true then (some (t501 == 0)) else (some false))) else (some false)) else (some false)) else (some false)) else (some false)) = some r := H
 have A6 := Aside0.mk A60
 clear A60
 by_cases c7 : t477 = 31
 ·rw [if_pos c7] at H
  have c7b0 : (t477 == 31) = true := beq_iff_eq.mpr c7
  have c7b1 : (t477 != 31) = false := bne_eq_false_iff_eq.mpr c7
  clear c7
  by_cases c8 : t478 = 0
  ·rw [if_pos c8] at H
   have c8b0 : (t478 == 0) = true := beq_iff_eq.mpr c8
   have c8b1 : (t478 != 0) = false := bne_eq_false_iff_eq.mpr c8
   clear c8
   by_cases c9 : (t483 == 2 && (t484 == 0 && (t485.toList == ([97, 48, 48, 48, 48, 48, 48, 48, 48, 48, 48, 48, 48, 48, 48, 70, 70] : List UInt8) && (t486 == 0)))) = true
   ·rw [if_pos c9] at H
    have c9b0 : (t483 == 2 && (t484 == 0 && (t485.toList == ([97, 48, 48, 48, 48, 48, 48, 48, 48, 48, 48, 48, 48, 48, 48, 70, 70] : List UInt8) && (t486 == 0)))) = true := c9
    (try (have c9b1 : decide (t483 = 2 && (t484 == 0 && (t485.toList == ([97, 48, 48, 48, 48, 48, 48, 48, 48, 48, 48, 48, 48, 48, 48, 70, 70] : List UInt8) && (t486 == 0)))) = true := by simpa using c9))
    (try (have c9b2 : (t483 == 2 && (t484 == 0 && (t485.toList == ([97, 48, 48, 48, 48, 48, 48, 48, 48, 48, 48, 48, 48, 48, 48, 70, 70] : List UInt8) && (t486 == 0)))) = true := by simpa using c9))
    clear c9
    by_cases c10 : t487 = 0
    ·rw [if_pos c10] at H
     have c10b0 : (t487 == 0) = true := beq_iff_eq.mpr c10
     have c10b1 : (t487 != 0) = false := bne_eq_false_iff_eq.mpr c10
     clear c10
     replace H := Option.bind_eq_some_iff.mp H
     obtain ⟨⟨t503, t504, t505, t506⟩, A110, H⟩ := H
     replace H : (if (t497 == t503 && (t498 == t504 && (t499.toList == t505.toList && (t500 == t506)))) = true then (some (t501 == 0)) else (some false)) = some r := H
     have A11 := Aside0.mk A110
     clear A110
     by_cases c12 : (t497 == t503 && (t498 == t504 && (t499.toList == t505.toList && (t500 == t506)))) = true
     ·rw [if_pos c12] at H
      have c12b0 : (t497 == t503 && (t498 == t504 && (t499.toList == t505.toList && (t500 == t506)))) = true := c12
      (try (have c12b1 : decide (t497 = t503 && (t498 == t504 && (t499.toList == t505.toList && (t500 == t506)))) = true := by simpa using c12))
      (try (have c12b2 : (t497 == t503 && (t498 == t504 && (t499.toList == t505.toList && (t500 == t506)))) = true := by simpa using c12))
      clear c12
      obtain rfl := Option.some.inj H
      go_enter Tryz.func8, Tryz.ntmps8
      try go_wp2_with (first | ((with_reducible refine gate_callee (f := 10) rfl ?_); refine goesL_ (some 9) rfl rfl Tryz.func10 (by kernel_rfl) rfl #[.agg #[.int .i64 2, .int .u64 0, .string (⟨#[49, 70, 122]⟩ : ByteArray), .int .i64 0]] rfl (by (try simp only [List.map_toArray, List.map_cons, List.map_nil]); first | done | rfl) ?_; (with_reducible refine (value_Integer.calls k 2 0 (⟨#[49, 70, 122]⟩ : ByteArray) 0 t477 t478 _ A1.out).mono ?_); rintro e w13 ⟨rfl, hb⟩; refine ⟨_, rfl, ?_⟩; replace HB := sqS_ (by repeat (first | (with_reducible first | exact HB.out | apply bA_ | apply bN_ | apply bD_) | exact HB.out)) hb; (try clear hb); (try clear hb2); (try clear hk); (try clear hi)) | ((with_reducible refine gate_callee (f := 27) rfl ?_); refine goesL_ (some 14) rfl rfl Tryz.func27 (by kernel_rfl) rfl #[.int .u64 255] rfl (by (try simp only [List.map_toArray, List.map_cons, List.map_nil]); first | done | rfl) ?_; (with_reducible refine (platformfwref08_Number.calls 255 t479 t480 t481 t482 _ A2.out).mono ?_); rintro e w14 ⟨rfl, hb⟩; refine ⟨_, rfl, ?_⟩; replace HB := sqS_ (by repeat (first | (with_reducible first | exact HB.out | apply bA_ | apply bN_ | apply bD_) | exact HB.out)) hb; (try clear hb); (try clear hb2); (try clear hk); (try clear hi)) | ((with_reducible refine gate_callee (f := 32) rfl ?_); refine goesL_ (some 15) rfl rfl Tryz.func32 (by kernel_rfl) rfl #[.int .i64 75, .agg #[.int .i64 2, .int .u64 0, .string (⟨#[97]⟩ : ByteArray), .int .i64 0], .agg #[.int .i64 t479, .int .u64 t480, .string t481, .int .i64 t482]] rfl (by (try simp only [List.map_toArray, List.map_cons, List.map_nil]); first | done | rfl) ?_; (with_reducible refine (value_Binary.calls k 75 2 0 (⟨#[97]⟩ : ByteArray) 0 t479 t480 t481 t482 t483 t484 t485 t486 t487 _ ?hTT_ A3.out).mono ?_); (case hTT_ => exact tbT_below HTT_.out (by repeat (first | (with_reducible first | exact HB.out | apply bA_ | apply bN_ | apply bD_) | exact HB.out))); rintro e w15 ⟨rfl, hb⟩; refine ⟨_, rfl, ?_⟩; replace HB := sqS_ (by repeat (first | (with_reducible first | exact HB.out | apply bA_ | apply bN_ | apply bD_) | exact HB.out)) hb; (try clear hb); (try clear hb2); (try clear hk); (try clear hi)) | ((with_reducible refine gate_dst (N := 3) rfl ?_); refine box_event ?hg (N := 3) ?hd (cs := #[.int .i64 0, .int .u64 0, .string ⟨#[]⟩, .int .i64 0]) (t := 24) ?hr ?_; (case hd => rfl); (case hg => rfl); (case hr => first | (go_simp; done) | (go_simp; rfl)); intro gb488 hg w16 hbox hb; replace HB := sqN_ (by repeat (first | (with_reducible first | exact HB.out | apply bA_ | apply bN_ | apply bD_) | exact HB.out)) hg hb; obtain ⟨HB, GE488⟩ := HB; have BK488 := Aside0.mk hbox; clear hb hbox hg; obtain ⟨hcz17_0, hcz17_1, hcz17_2, hcz17_3⟩ := cells4_ BK488.out; obtain ⟨hfz17_0, hfz17_1, hfz17_2, hfz17_3⟩ := froz4_ BK488.out) | ((with_reducible refine gate_callee (f := 27) rfl ?_); refine goesL_ (some 19) rfl rfl Tryz.func27 (by kernel_rfl) rfl #[.int .u64 1] rfl (by (try simp only [List.map_toArray, List.map_cons, List.map_nil]); first | done | rfl) ?_; (with_reducible refine (platformfwref08_Number.calls 1 t489 t490 t491 t492 _ A4.out).mono ?_); rintro e w18 ⟨rfl, hb⟩; refine ⟨_, rfl, ?_⟩; replace HB := sqS_ (by repeat (first | (with_reducible first | exact HB.out | apply bA_ | apply bN_ | apply bD_ | refine bS_ ?_ GE488.out) | exact HB.out)) hb; replace BK488 := Aside0.mk (blk_below (g := gb488) (o := .cells #[.int .i64 t483, .int .u64 t484, .string t485, .int .i64 t486] 24 (0, 0)) (by (with_reducible repeat (first | apply kN_ | apply kD_ | apply kA_)); refine blk_put (cs := #[.int .i64 t483, .int .u64 t484, .string t485, .int .i64 0]) ?_ 3 _ rfl; (with_reducible repeat (first | apply kN_ | apply kD_ | apply kA_)); refine blk_put (cs := #[.int .i64 t483, .int .u64 t484, .string ⟨#[]⟩, .int .i64 0]) ?_ 2 _ rfl; (with_reducible repeat (first | apply kN_ | apply kD_ | apply kA_)); refine blk_put (cs := #[.int .i64 t483, .int .u64 0, .string ⟨#[]⟩, .int .i64 0]) ?_ 1 _ rfl; (with_reducible repeat (first | apply kN_ | apply kD_ | apply kA_)); refine blk_put (cs := #[.int .i64 0, .int .u64 0, .string ⟨#[]⟩, .int .i64 0]) ?_ 0 _ rfl; (with_reducible repeat (first | apply kN_ | apply kD_ | apply kA_)); exact BK488.out) hb); (try clear hb); (try clear hb2); (try clear hk); (try clear hi)) | ((with_reducible refine gate_callee (f := 27) rfl ?_); refine goesL_ (some 20) rfl rfl Tryz.func27 (by kernel_rfl) rfl #[.int .u64 64] rfl (by (try simp only [List.map_toArray, List.map_cons, List.map_nil]); first | done | rfl) ?_; (with_reducible refine (platformfwref08_Number.calls 64 t493 t494 t495 t496 _ A5.out).mono ?_); rintro e w19 ⟨rfl, hb⟩; refine ⟨_, rfl, ?_⟩; replace BK488 := sqB_ (g := gb488) (by (with_reducible repeat (first | apply kN_ | apply kD_ | apply kA_)); exact BK488.out) hb; replace HB := sqS_ (by repeat (first | (with_reducible first | exact HB.out | apply bA_ | apply bN_ | apply bD_ | refine bS_ ?_ GE488.out) | exact HB.out)) hb; (try clear hb); (try clear hb2); (try clear hk); (try clear hi)) | ((with_reducible refine gate_callee (f := 32) rfl ?_); refine goesL_ (some 21) rfl rfl Tryz.func32 (by kernel_rfl) rfl #[.int .i64 68, .agg #[.int .i64 t489, .int .u64 t490, .string t491, .int .i64 t492], .agg #[.int .i64 t493, .int .u64 t494, .string t495, .int .i64 t496]] rfl (by (try simp only [List.map_toArray, List.map_cons, List.map_nil]); first | done | rfl) ?_; (with_reducible refine (value_Binary.calls k 68 t489 t490 t491 t492 t493 t494 t495 t496 t497 t498 t499 t500 t501 _ ?hTT_ A6.out).mono ?_); (case hTT_ => exact tbT_below HTT_.out (by repeat (first | (with_reducible first | exact HB.out | apply bA_ | apply bN_ | apply bD_ | refine bS_ ?_ GE488.out) | exact HB.out))); rintro e w20 ⟨rfl, hb⟩; refine ⟨_, rfl, ?_⟩; replace BK488 := sqB_ (g := gb488) (by (with_reducible repeat (first | apply kN_ | apply kD_ | apply kA_)); exact BK488.out) hb; replace HB := sqS_ (by repeat (first | (with_reducible first | exact HB.out | apply bA_ | apply bN_ | apply bD_ | refine bS_ ?_ GE488.out) | exact HB.out)) hb; (try clear hb); (try clear hb2); (try clear hk); (try clear hi)) | ((with_reducible refine gate_dst (N := 5) rfl ?_); refine box_event ?hg (N := 5) ?hd (cs := #[.int .i64 0, .int .u64 0, .string ⟨#[]⟩, .int .i64 0]) (t := 24) ?hr ?_; (case hd => rfl); (case hg => rfl); (case hr => first | (go_simp; done) | (go_simp; rfl)); intro gb502 hg w21 hbox hb; replace BK488 := sqO_ (g := gb488) (by (with_reducible repeat (first | apply kN_ | apply kD_ | apply kA_)); exact BK488.out) hg hb; obtain ⟨BK488, NB488_502, NB502_488⟩ := BK488; replace HB := sqN_ (by repeat (first | (with_reducible first | exact HB.out | apply bA_ | apply bN_ | apply bD_ | refine bS_ ?_ GE488.out) | exact HB.out)) hg hb; obtain ⟨HB, GE502⟩ := HB; have BK502 := Aside0.mk hbox; clear hb hbox hg; have hnb22 := NB502_488.out; have hnc22 := NB488_502.out; obtain ⟨hcz23_0, hcz23_1, hcz23_2, hcz23_3⟩ := cells4_ BK502.out; obtain ⟨hfz23_0, hfz23_1, hfz23_2, hfz23_3⟩ := froz4_ BK502.out))
      have n0_ : Aside0 (((((w21.setCell ⟨gb502, 0, none⟩ (.int .i64 t497)).setCell ⟨gb502, 1, none⟩ (.int .u64 t498)).setCell ⟨gb502, 2, none⟩ (.string t499)).setCell ⟨gb502, 3, none⟩ (.int .i64 t500)).heap[gb488]? = some (.cells #[.int .i64 t483, .int .u64 t484, .string t485, .int .i64 t486] 24 (0, 0))) := ⟨by (with_reducible repeat (first | apply kN_ | apply kD_ | apply kA_)); refine blk_far ?_ NB488_502.out _; (with_reducible repeat (first | apply kN_ | apply kD_ | apply kA_)); refine blk_far ?_ NB488_502.out _; (with_reducible repeat (first | apply kN_ | apply kD_ | apply kA_)); refine blk_far ?_ NB488_502.out _; (with_reducible repeat (first | apply kN_ | apply kD_ | apply kA_)); refine blk_far ?_ NB488_502.out _; (with_reducible repeat (first | apply kN_ | apply kD_ | apply kA_)); exact BK488.out⟩
      have n1_ : Aside0 (((((w21.setCell ⟨gb502, 0, none⟩ (.int .i64 t497)).setCell ⟨gb502, 1, none⟩ (.int .u64 t498)).setCell ⟨gb502, 2, none⟩ (.string t499)).setCell ⟨gb502, 3, none⟩ (.int .i64 t500)).heap[gb502]? = some (.cells #[.int .i64 t497, .int .u64 t498, .string t499, .int .i64 t500] 24 (0, 0))) := ⟨by (with_reducible repeat (first | apply kN_ | apply kD_ | apply kA_)); refine blk_put (cs := #[.int .i64 t497, .int .u64 t498, .string t499, .int .i64 0]) ?_ 3 _ rfl; (with_reducible repeat (first | apply kN_ | apply kD_ | apply kA_)); refine blk_put (cs := #[.int .i64 t497, .int .u64 t498, .string ⟨#[]⟩, .int .i64 0]) ?_ 2 _ rfl; (with_reducible repeat (first | apply kN_ | apply kD_ | apply kA_)); refine blk_put (cs := #[.int .i64 t497, .int .u64 0, .string ⟨#[]⟩, .int .i64 0]) ?_ 1 _ rfl; (with_reducible repeat (first | apply kN_ | apply kD_ | apply kA_)); refine blk_put (cs := #[.int .i64 0, .int .u64 0, .string ⟨#[]⟩, .int .i64 0]) ?_ 0 _ rfl; (with_reducible repeat (first | apply kN_ | apply kD_ | apply kA_)); exact BK502.out⟩
      have n2_ : Aside0 (Below w.heap.size w ((((w21.setCell ⟨gb502, 0, none⟩ (.int .i64 t497)).setCell ⟨gb502, 1, none⟩ (.int .u64 t498)).setCell ⟨gb502, 2, none⟩ (.string t499)).setCell ⟨gb502, 3, none⟩ (.int .i64 t500))) := ⟨by repeat (first | (with_reducible first | exact HB.out | apply bA_ | apply bN_ | apply bD_ | refine bS_ ?_ GE488.out | refine bS_ ?_ GE502.out) | exact HB.out)⟩
      (try clear BK488)
      (try clear BK502)
      (try clear HB)
      generalize ((((w21.setCell ⟨gb502, 0, none⟩ (.int .i64 t497)).setCell ⟨gb502, 1, none⟩ (.int .u64 t498)).setCell ⟨gb502, 2, none⟩ (.string t499)).setCell ⟨gb502, 3, none⟩ (.int .i64 t500)) = w24 at n0_ n1_ n2_ ⊢
      have BK488 := n0_
      have BK502 := n1_
      have HB := n2_
      clear n0_ n1_ n2_
      replace BK488 := Aside0.mk (kD_ BK488.out)
      replace BK502 := Aside0.mk (kD_ BK502.out)
      replace HB := Aside0.mk (bD_ HB.out)
      refine start_ (n := 25) (S := fun w' => w'.cell? ⟨gb488, 0, none⟩ = some (.int .i64 t483) ∧ w'.cell? ⟨gb488, 1, none⟩ = some (.int .u64 t484) ∧ w'.cell? ⟨gb488, 2, none⟩ = some (.string t485) ∧ w'.cell? ⟨gb488, 3, none⟩ = some (.int .i64 t486) ∧ w'.cell? ⟨gb502, 0, none⟩ = some (.int .i64 t497) ∧ w'.cell? ⟨gb502, 1, none⟩ = some (.int .u64 t498) ∧ w'.cell? ⟨gb502, 2, none⟩ = some (.string t499) ∧ w'.cell? ⟨gb502, 3, none⟩ = some (.int .i64 t500)) (ds := []) #[false, false, false, false, false, false, false, false, false, false, false, false, false, false, false, false, false, false, false, false, false, false, false, false, false] (by kernel_rfl) rfl rfl ⟨(blk_cell BK488.out 0).trans rfl, (blk_cell BK488.out 1).trans rfl, (blk_cell BK488.out 2).trans rfl, (blk_cell BK488.out 3).trans rfl, (blk_cell BK502.out 0).trans rfl, (blk_cell BK502.out 1).trans rfl, (blk_cell BK502.out 2).trans rfl, (blk_cell BK502.out 3).trans rfl⟩ (fun hHeld => ?_); refine with_tabW platformfwlaw08_awake.tab4 platformfwlaw08_awake.bits4 (fun HT_ HW_ => ?_)
      generalize w24.drew = w25 at BK488 BK502 HB hHeld ⊢
      refine pure_ (i := 0) (N := some 24) (v := ?_) (a' := ?_) (tf 25 1) rfl rfl (any_of HT_.out (by kernel_rfl)) (fun _ _ _ h => h) (Or.inl ⟨by rfl, ?_⟩) ?_ ?_
      rotate_left
      ·intro w'
       go_simp
       with_reducible rfl
      rotate_left
      ·simp only [Act.put, sA_, sB_, sC_, i64_w, i32_w]
       rfl
      refine pure_ (i := 1) (N := some 25) (v := ?_) (a' := ?_) (tf 25 3) rfl rfl (any_of HT_.out (by kernel_rfl)) (fun _ _ _ h => h) (Or.inl ⟨by rfl, ?_⟩) ?_ ?_
      rotate_left
      ·intro w'
       go_simp
       with_reducible rfl
      rotate_left
      ·simp only [Act.put, sA_, sB_, sC_, i64_w, i32_w]
       rfl
      refine pure_ (i := 2) (N := some 26) (v := ?_) (a' := ?_) (tf 25 7) rfl rfl (any_of HT_.out (by kernel_rfl)) (fun _ _ _ h => h) (Or.inl ⟨by rfl, ?_⟩) ?_ ?_
      rotate_left
      ·intro w'
       go_simp
       with_reducible rfl
      rotate_left
      ·simp only [Act.put, sA_, sB_, sC_, i64_w, i32_w]
       rfl
      refine pure_ (i := 3) (N := some 27) (v := ?_) (a' := ?_) (tf 25 15) rfl rfl (any_of HT_.out (by kernel_rfl)) (fun _ _ _ h => h) (Or.inl ⟨by rfl, ?_⟩) ?_ ?_
      rotate_left
      ·intro w'
       go_simp
       with_reducible rfl
      rotate_left
      ·simp only [Act.put, sA_, sB_, sC_, i64_w, i32_w]
       rfl
      refine pure_ (i := 4) (N := some 28) (v := ?_) (a' := ?_) (tf 25 31) rfl rfl (any_of HT_.out (by kernel_rfl)) (fun _ _ _ h => h) (Or.inl ⟨by rfl, ?_⟩) ?_ ?_
      rotate_left
      ·intro w'
       go_simp
       with_reducible rfl
      rotate_left
      ·simp only [Act.put, sA_, sB_, sC_, i64_w, i32_w]
       rfl
      refine pure_ (i := 5) (N := some 29) (v := ?_) (a' := ?_) (tf 25 63) rfl rfl (any_of HT_.out (by kernel_rfl)) (fun _ _ _ h => h) (Or.inl ⟨by rfl, ?_⟩) ?_ ?_
      rotate_left
      ·intro w'
       go_simp
       with_reducible rfl
      rotate_left
      ·simp only [Act.put, sA_, sB_, sC_, i64_w, i32_w]
       rfl
      refine pure_ (i := 6) (N := some 30) (v := ?_) (a' := ?_) (tf 25 127) rfl rfl (any_of HT_.out (by kernel_rfl)) (fun _ _ _ h => h) (Or.inl ⟨by rfl, ?_⟩) ?_ ?_
      rotate_left
      ·intro w'
       go_simp
       with_reducible rfl
      rotate_left
      ·simp only [Act.put, sA_, sB_, sC_, i64_w, i32_w]
       rfl
      refine pure_ (i := 8) (N := some 32) (v := ?_) (a' := ?_) (tf 25 383) rfl rfl (any_of HT_.out (by kernel_rfl)) (fun _ _ _ h => h) (Or.inl ⟨by rfl, ?_⟩) ?_ ?_
      rotate_left
      ·intro w'
       go_simp
       with_reducible rfl
      rotate_left
      ·simp only [Act.put, sA_, sB_, sC_, i64_w, i32_w]
       rfl
      refine take_ (i := 7) (N := some 31) (v := ?_) (a' := ?_) (tf 25 511) rfl rfl (take_ofW HT_.out HW_.out (by kernel_rfl)) (fun _ _ _ h => h) (Or.inl ⟨by rfl, ?_⟩) hHeld ?_ ?_
      rotate_left
      ·rintro w' ⟨s0, s1, s2, s3, s4, s5, s6, s7⟩
       go_simp
       with_reducible rfl
      rotate_left
      ·simp only [Act.put, sA_, sB_, sC_, i64_w, i32_w]
       rfl
      refine pure_ (i := 9) (N := some 33) (v := ?_) (a' := ?_) (tf 25 1023) rfl rfl (any_of HT_.out (by kernel_rfl)) (fun _ _ _ h => h) (Or.inl ⟨by rfl, ?_⟩) ?_ ?_
      rotate_left
      ·intro w'
       go_simp
       with_reducible rfl
      rotate_left
      ·simp only [Act.put, sA_, sB_, sC_, i64_w, i32_w]
       rfl
      refine pure_ (i := 10) (N := some 34) (v := ?_) (a' := ?_) (tf 25 2047) rfl rfl (any_of HT_.out (by kernel_rfl)) (fun _ _ _ h => h) (Or.inl ⟨by rfl, ?_⟩) ?_ ?_
      rotate_left
      ·intro w'
       go_simp
       with_reducible rfl
      rotate_left
      ·simp only [Act.put, sA_, sB_, sC_, i64_w, i32_w]
       rfl
      refine pure_ (i := 11) (N := some 35) (v := ?_) (a' := ?_) (tf 25 4095) rfl rfl (any_of HT_.out (by kernel_rfl)) (fun _ _ _ h => h) (Or.inl ⟨by rfl, ?_⟩) ?_ ?_
      rotate_left
      ·intro w'
       go_simp
       with_reducible rfl
      rotate_left
      ·simp only [Act.put, sA_, sB_, sC_, i64_w, i32_w]
       rfl
      refine pure_ (i := 12) (N := some 36) (v := ?_) (a' := ?_) (tf 25 8191) rfl rfl (any_of HT_.out (by kernel_rfl)) (fun _ _ _ h => h) (Or.inl ⟨by rfl, ?_⟩) ?_ ?_
      rotate_left
      ·intro w'
       go_simp
       with_reducible rfl
      rotate_left
      ·simp only [Act.put, sA_, sB_, sC_, i64_w, i32_w]
       rfl
      refine pure_ (i := 13) (N := some 37) (v := ?_) (a' := ?_) (tf 25 16383) rfl rfl (any_of HT_.out (by kernel_rfl)) (fun _ _ _ h => h) (Or.inl ⟨by rfl, ?_⟩) ?_ ?_
      rotate_left
      ·intro w'
       go_simp
       with_reducible rfl
      rotate_left
      ·simp only [Act.put, sA_, sB_, sC_, i64_w, i32_w]
       rfl
      refine pure_ (i := 14) (N := some 38) (v := ?_) (a' := ?_) (tf 25 32767) rfl rfl (any_of HT_.out (by kernel_rfl)) (fun _ _ _ h => h) (Or.inl ⟨by rfl, ?_⟩) ?_ ?_
      rotate_left
      ·intro w'
       go_simp
       with_reducible rfl
      rotate_left
      ·simp only [Act.put, sA_, sB_, sC_, i64_w, i32_w]
       rfl
      refine pure_ (i := 15) (N := some 39) (v := ?_) (a' := ?_) (tf 25 65535) rfl rfl (any_of HT_.out (by kernel_rfl)) (fun _ _ _ h => h) (Or.inl ⟨by rfl, ?_⟩) ?_ ?_
      rotate_left
      ·intro w'
       go_simp
       with_reducible rfl
      rotate_left
      ·simp only [Act.put, sA_, sB_, sC_, i64_w, i32_w]
       rfl
      refine take_ (i := 16) (N := some 40) (v := ?_) (a' := ?_) (tf 25 131071) rfl rfl (take_ofW HT_.out HW_.out (by kernel_rfl)) (fun _ _ _ h => h) (Or.inl ⟨by rfl, ?_⟩) hHeld ?_ ?_
      rotate_left
      ·rintro w' ⟨s0, s1, s2, s3, s4, s5, s6, s7⟩
       go_simp
       with_reducible rfl
      rotate_left
      ·simp only [Act.put, sA_, sB_, sC_, i64_w, i32_w]
       rfl
      refine one_ (i := 17) (N := some 41) (tf 25 262143) rfl rfl (one_of HT_.out (by kernel_rfl)) (by decide) (fun K hK => ?_)
      refine goes_ Tryz.func27 (by kernel_rfl) rfl #[.int .u64 0] (by rfl) rfl rfl (by (try simp only [List.map_toArray, List.map_cons, List.map_nil]); first | done | rfl) ?_
      with_reducible refine (platformfwref08_Number.calls 0 t503 t504 t505 t506 _ A11.out).mono ?_
      rintro e w26 ⟨rfl, hb⟩
      refine ⟨_, rfl, ?_⟩
      replace BK488 := sqB_ (g := gb488) (by (with_reducible repeat (first | apply kN_ | apply kD_ | apply kA_)); exact BK488.out) hb
      replace BK502 := sqB_ (g := gb502) (by (with_reducible repeat (first | apply kN_ | apply kD_ | apply kA_)); exact BK502.out) hb
      replace HB := sqS_ (by repeat (first | (with_reducible first | exact HB.out | apply bA_ | apply bN_ | apply bD_ | refine bS_ ?_ GE488.out | refine bS_ ?_ GE502.out) | exact HB.out)) hb
      (try clear hb)
      (try clear hb2)
      (try clear hk)
      (try clear hi)
      refine hK.out _ _ ⟨(blk_cell BK488.out 0).trans rfl, (blk_cell BK488.out 1).trans rfl, (blk_cell BK488.out 2).trans rfl, (blk_cell BK488.out 3).trans rfl, (blk_cell BK502.out 0).trans rfl, (blk_cell BK502.out 1).trans rfl, (blk_cell BK502.out 2).trans rfl, (blk_cell BK502.out 3).trans rfl⟩ (fun hHeld => ?_)
      clear hK K
      refine norm_ (a' := ?_) ?_ ?_
      rotate_left
      ·show Act.put _ (some 41) _ = _
       simp only [Act.put, sA_, sB_, sC_, i64_w, i32_w]
       rfl
      refine pure_ (i := 18) (N := some 42) (v := ?_) (a' := ?_) (tf 25 524287) rfl rfl (any_of HT_.out (by kernel_rfl)) (fun _ _ _ h => h) (Or.inl ⟨by rfl, ?_⟩) ?_ ?_
      rotate_left
      ·intro w'
       go_simp
       with_reducible rfl
      rotate_left
      ·simp only [Act.put, sA_, sB_, sC_, i64_w, i32_w]
       rfl
      refine pure_ (i := 19) (N := some 43) (v := ?_) (a' := ?_) (tf 25 1048575) rfl rfl (any_of HT_.out (by kernel_rfl)) (fun _ _ _ h => h) (Or.inl ⟨by rfl, ?_⟩) ?_ ?_
      rotate_left
      ·intro w'
       go_simp
       with_reducible rfl
      rotate_left
      ·simp only [Act.put, sA_, sB_, sC_, i64_w, i32_w]
       rfl
      refine pure_ (i := 20) (N := some 44) (v := ?_) (a' := ?_) (tf 25 2097151) rfl rfl (any_of HT_.out (by kernel_rfl)) (fun _ _ _ h => h) (Or.inl ⟨by rfl, ?_⟩) ?_ ?_
      rotate_left
      ·intro w'
       go_simp
       with_reducible rfl
      rotate_left
      ·simp only [Act.put, sA_, sB_, sC_, i64_w, i32_w]
       rfl
      refine pure_ (i := 21) (N := some 45) (v := ?_) (a' := ?_) (tf 25 4194303) rfl rfl (any_of HT_.out (by kernel_rfl)) (fun _ _ _ h => h) (Or.inl ⟨by rfl, ?_⟩) ?_ ?_
      rotate_left
      ·intro w'
       go_simp
       with_reducible rfl
      rotate_left
      ·simp only [Act.put, sA_, sB_, sC_, i64_w, i32_w]
       rfl
      refine pure_ (i := 22) (N := some 46) (v := ?_) (a' := ?_) (tf 25 8388607) rfl rfl (any_of HT_.out (by kernel_rfl)) (fun _ _ _ h => h) (Or.inl ⟨by rfl, ?_⟩) ?_ ?_
      rotate_left
      ·intro w'
       go_simp
       with_reducible rfl
      rotate_left
      ·simp only [Act.put, sA_, sB_, sC_, i64_w, i32_w]
       rfl
      refine pure_ (i := 23) (N := some 47) (v := ?_) (a' := ?_) (tf 25 16777215) rfl rfl (any_of HT_.out (by kernel_rfl)) (fun _ _ _ h => h) (Or.inl ⟨by rfl, ?_⟩) ?_ ?_
      rotate_left
      ·intro w'
       go_simp
       with_reducible rfl
      rotate_left
      ·simp only [Act.put, sA_, sB_, sC_, i64_w, i32_w]
       rfl
      refine pure_ (i := 24) (N := some 0) (v := ?_) (a' := ?_) (tf 25 33554431) rfl rfl (any_of HT_.out (by kernel_rfl)) (fun _ _ _ h => h) (Or.inl ⟨by rfl, ?_⟩) ?_ ?_
      rotate_left
      ·intro w'
       go_simp
       with_reducible rfl
      rotate_left
      ·simp only [Act.put, sA_, sB_, sC_, i64_w, i32_w]
       rfl
      refine done_ (done_of HT_.out (by kernel_rfl)) ?_
      try go_wp2
      go_ret
      exact ⟨by first | rfl | (simp [errW_none, errW_some] <;> rfl) | (simp [*, errW_none, errW_some] <;> rfl), by repeat (first | (with_reducible first | exact HB.out | apply bA_ | apply bN_ | apply bD_ | refine bS_ ?_ GE488.out | refine bS_ ?_ GE502.out) | exact HB.out)⟩
     ·rw [if_neg c12] at H
      have c12b0 : (t497 == t503 && (t498 == t504 && (t499.toList == t505.toList && (t500 == t506)))) = false := by simpa using c12
      (try (have c12b1 : decide (t497 = t503 && (t498 == t504 && (t499.toList == t505.toList && (t500 == t506)))) = false := by simpa using c12))
      (try (have c12b2 : (t497 == t503 && (t498 == t504 && (t499.toList == t505.toList && (t500 == t506)))) = false := by simpa using c12))
      (try (have c12b3 : ¬ (t497 = t503 && (t498 == t504 && (t499.toList == t505.toList && (t500 == t506)))) := by simpa using c12))
      clear c12
      obtain rfl := Option.some.inj H
      exact absurd hr_.out (by simp)
    ·rw [if_neg c10] at H
     have c10b0 : (t487 == 0) = false := beq_eq_false_iff_ne.mpr c10
     have c10b1 : (t487 != 0) = true := bne_iff_ne.mpr c10
     obtain rfl := Option.some.inj H
     exact absurd hr_.out (by simp)
   ·rw [if_neg c9] at H
    have c9b0 : (t483 == 2 && (t484 == 0 && (t485.toList == ([97, 48, 48, 48, 48, 48, 48, 48, 48, 48, 48, 48, 48, 48, 48, 70, 70] : List UInt8) && (t486 == 0)))) = false := by simpa using c9
    (try (have c9b1 : decide (t483 = 2 && (t484 == 0 && (t485.toList == ([97, 48, 48, 48, 48, 48, 48, 48, 48, 48, 48, 48, 48, 48, 48, 70, 70] : List UInt8) && (t486 == 0)))) = false := by simpa using c9))
    (try (have c9b2 : (t483 == 2 && (t484 == 0 && (t485.toList == ([97, 48, 48, 48, 48, 48, 48, 48, 48, 48, 48, 48, 48, 48, 48, 70, 70] : List UInt8) && (t486 == 0)))) = false := by simpa using c9))
    (try (have c9b3 : ¬ (t483 = 2 && (t484 == 0 && (t485.toList == ([97, 48, 48, 48, 48, 48, 48, 48, 48, 48, 48, 48, 48, 48, 48, 70, 70] : List UInt8) && (t486 == 0)))) := by simpa using c9))
    clear c9
    obtain rfl := Option.some.inj H
    exact absurd hr_.out (by simp)
  ·rw [if_neg c8] at H
   have c8b0 : (t478 == 0) = false := beq_eq_false_iff_ne.mpr c8
   have c8b1 : (t478 != 0) = true := bne_iff_ne.mpr c8
   obtain rfl := Option.some.inj H
   exact absurd hr_.out (by simp)
 ·rw [if_neg c7] at H
  have c7b0 : (t477 == 31) = false := beq_eq_false_iff_ne.mpr c7
  have c7b1 : (t477 != 31) = true := bne_iff_ne.mpr c7
  obtain rfl := Option.some.inj H
  exact absurd hr_.out (by simp)

/-! ### platformfwlaw08_ValueUnary: function 3 -/
mutual
def platformfwlaw08_ValueUnary.l0 : Nat → Int → Int → Int → Int → ByteArray → Int → Option (Bool)
 | 0, _, _, _, _, _, _ => none
 | k + 1, x0, x5, x508000, x508001, x508002, x508003 => if x5 < 3 then ((value_Unary.f k x0 x508000 x508001 x508002 x508003).bind fun bt509 => ((platformfwref08_Unary.f k x0 x508000 x508001 x508002 x508003).bind fun bt515 => (if (!(bt509.1 == bt515.1) || (!(bt509.2.1 == bt515.2.1) || (!(bt509.2.2.1.toList == bt515.2.2.1.toList) || (!(bt509.2.2.2.1 == bt515.2.2.2.1))))) = true then (platformfwlaw08_ValueUnary.j1 k x0 x5 true x508000 x508001 x508002 x508003) else (platformfwlaw08_ValueUnary.j1 k x0 x5 (bt509.2.2.2.2 != bt515.2.2.2.2) x508000 x508001 x508002 x508003)))) else ((platformfwlaw08_awake.f k).bind fun t508 => (some t508))
def platformfwlaw08_ValueUnary.j1 : Nat → Int → Int → Bool → Int → Int → ByteArray → Int → Option (Bool)
 | 0, _, _, _, _, _, _, _ => none
 | k + 1, x0, x5, x33, x508000, x508001, x508002, x508003 => if x33 = true then (some false) else ((platformfwhelp_Mod.f x0 8).bind fun t521 => (if x5 = 0 then ((platformfwlaw08_some.f k x508000 x508001 x508002 x508003).bind fun bt522 => (platformfwlaw08_ValueUnary.l0 k (wrap64 (77 + t521)) (wrap64 (x5 + 1)) bt522.1 bt522.2.1 bt522.2.2.1 bt522.2.2.2)) else (platformfwlaw08_ValueUnary.l0 k (wrap64 (77 + t521)) (wrap64 (x5 + 1)) x508000 x508001 x508002 x508003)))
end
def platformfwlaw08_ValueUnary.f (k : Nat) (a0 : Int) (a1_0 : Int) (a1_1 : Int) (a1_2 : ByteArray) (a1_3 : Int) : Option (Bool) := platformfwlaw08_ValueUnary.l0 k a0 0 a1_0 a1_1 a1_2 a1_3
theorem platformfwlaw08_ValueUnary.mono_l : ∀ k, (∀ y0 y1 y2 y3 y4 y5, LeO (platformfwlaw08_ValueUnary.l0 k y0 y1 y2 y3 y4 y5) (platformfwlaw08_ValueUnary.l0 (k + 1) y0 y1 y2 y3 y4 y5)) ∧ (∀ y0 y1 y2 y3 y4 y5 y6, LeO (platformfwlaw08_ValueUnary.j1 k y0 y1 y2 y3 y4 y5 y6) (platformfwlaw08_ValueUnary.j1 (k + 1) y0 y1 y2 y3 y4 y5 y6))
 | 0 => ⟨fun _ _ _ _ _ _ r h => by simp [platformfwlaw08_ValueUnary.l0] at h, fun _ _ _ _ _ _ _ r h => by simp [platformfwlaw08_ValueUnary.j1] at h⟩
 | k + 1 => by
  obtain ⟨ih0, ih1⟩ := platformfwlaw08_ValueUnary.mono_l k
  refine ⟨?_, ?_⟩
  ·intro y0 y1 y2 y3 y4 y5
   unfold platformfwlaw08_ValueUnary.l0
   repeat' first
   | (with_reducible exact ih0 _ _ _ _ _ _)
   | (with_reducible exact ih1 _ _ _ _ _ _ _)
   | (with_reducible exact platformfwlaw08_awake.mono _)
   | (with_reducible exact platformfwlaw08_some.mono _ _ _ _ _)
   | (with_reducible exact platformfwref08_Unary.mono _ _ _ _ _ _)
   | (with_reducible exact value_Unary.mono _ _ _ _ _ _)
   | (with_reducible exact LeO.refl _)
   | (with_reducible exact LeO.none _)
   | (with_reducible refine LeO.ite ?_ ?_)
   | (with_reducible refine LeO.bind ?_ (fun _ => ?_))
   | exact ih0 _ _ _ _ _ _
   | exact ih1 _ _ _ _ _ _ _
   | exact platformfwlaw08_awake.mono _
   | exact platformfwlaw08_some.mono _ _ _ _ _
   | exact platformfwref08_Unary.mono _ _ _ _ _ _
   | exact value_Unary.mono _ _ _ _ _ _
   | exact LeO.none _
   | refine LeO.ite ?_ ?_
   | refine LeO.bind ?_ (fun _ => ?_)
  ·intro y0 y1 y2 y3 y4 y5 y6
   unfold platformfwlaw08_ValueUnary.j1
   repeat' first
   | (with_reducible exact ih0 _ _ _ _ _ _)
   | (with_reducible exact ih1 _ _ _ _ _ _ _)
   | (with_reducible exact platformfwlaw08_awake.mono _)
   | (with_reducible exact platformfwlaw08_some.mono _ _ _ _ _)
   | (with_reducible exact platformfwref08_Unary.mono _ _ _ _ _ _)
   | (with_reducible exact value_Unary.mono _ _ _ _ _ _)
   | (with_reducible exact LeO.refl _)
   | (with_reducible exact LeO.none _)
   | (with_reducible refine LeO.ite ?_ ?_)
   | (with_reducible refine LeO.bind ?_ (fun _ => ?_))
   | exact ih0 _ _ _ _ _ _
   | exact ih1 _ _ _ _ _ _ _
   | exact platformfwlaw08_awake.mono _
   | exact platformfwlaw08_some.mono _ _ _ _ _
   | exact platformfwref08_Unary.mono _ _ _ _ _ _
   | exact value_Unary.mono _ _ _ _ _ _
   | exact LeO.none _
   | refine LeO.ite ?_ ?_
   | refine LeO.bind ?_ (fun _ => ?_)
theorem platformfwlaw08_ValueUnary.mono : ∀ a0 a1 a2 a3 a4 k, LeO (platformfwlaw08_ValueUnary.f k a0 a1 a2 a3 a4) (platformfwlaw08_ValueUnary.f (k + 1) a0 a1 a2 a3 a4) := by
 intro a0 a1 a2 a3 a4 k
 obtain ⟨ih0, ih1⟩ := platformfwlaw08_ValueUnary.mono_l k
 unfold platformfwlaw08_ValueUnary.f
 repeat' first
   | (with_reducible exact ih0 _ _ _ _ _ _)
   | (with_reducible exact ih1 _ _ _ _ _ _ _)
   | (with_reducible exact platformfwlaw08_awake.mono _)
   | (with_reducible exact platformfwlaw08_some.mono _ _ _ _ _)
   | (with_reducible exact platformfwref08_Unary.mono _ _ _ _ _ _)
   | (with_reducible exact value_Unary.mono _ _ _ _ _ _)
   | (with_reducible exact LeO.refl _)
   | (with_reducible exact LeO.none _)
   | (with_reducible refine LeO.ite ?_ ?_)
   | (with_reducible refine LeO.bind ?_ (fun _ => ?_))
   | exact ih0 _ _ _ _ _ _
   | exact ih1 _ _ _ _ _ _ _
   | exact platformfwlaw08_awake.mono _
   | exact platformfwlaw08_some.mono _ _ _ _ _
   | exact platformfwref08_Unary.mono _ _ _ _ _ _
   | exact value_Unary.mono _ _ _ _ _ _
   | exact LeO.none _
   | refine LeO.ite ?_ ?_
   | refine LeO.bind ?_ (fun _ => ?_)
set_option maxHeartbeats 8000000 in
set_option maxRecDepth 100000 in
theorem platformfwlaw08_ValueUnary.calls (k : Nat) (a0 : Int) (a1_0 : Int) (a1_1 : Int) (a1_2 : ByteArray) (a1_3 : Int) (r : Bool) (w : World) (hT_ : Tb w) (hr_ : Aside0 (r = true)) (h : platformfwlaw08_ValueUnary.f k a0 a1_0 a1_1 a1_2 a1_3 = some r) :
  Calls Tryz.prog 3 #[.int .i64 a0, .agg #[.int .i64 a1_0, .int .u64 a1_1, .string a1_2, .int .i64 a1_3]] w fun e w' => e = .returned (.bool r) ∧ Below w.heap.size w w' := by
 have HTT_ := Aside0.mk hT_
 clear hT_
 have hu24 := Tryz.underlying24
 have HB := Aside0.mk (Below.refl w.heap.size w)
 have H : (platformfwlaw08_ValueUnary.l0 k a0 0 a1_0 a1_1 a1_2 a1_3) = some r := h
 clear h
 have H' := Aside0.mk H
 clear H
 go_enter Tryz.func3, Tryz.ntmps3
 go_wp2_with (first | ((with_reducible refine gate_dst (N := 3) rfl ?_); refine box_event ?hg (N := 3) ?hd (cs := #[.int .i64 a1_0, .int .u64 a1_1, .string a1_2, .int .i64 a1_3]) (t := 24) ?hr ?_; (case hd => rfl); (case hg => rfl); (case hr => first | (go_simp; done) | (go_simp; rfl)); intro gb507 hg w3 hbox hb; replace HB := sqN_ (by repeat (first | (with_reducible first | exact HB.out | apply bA_ | apply bN_ | apply bD_) | exact HB.out)) hg hb; obtain ⟨HB, GE507⟩ := HB; have BK507 := Aside0.mk hbox; clear hb hbox hg))
 go_loopg [0, 5] k (fun kq v0 v5 w' => ∃ (x0_1 : Int) (x5_1 : Int) (x508000_1 : Int) (x508001_1 : Int) (x508002_1 : ByteArray) (x508003_1 : Int), v0 = .int .i64 x0_1 ∧ v5 = .int .i64 x5_1 ∧ Aside0 (platformfwlaw08_ValueUnary.l0 kq x0_1 x5_1 x508000_1 x508001_1 x508002_1 x508003_1 = some r) ∧ Aside0 (kq ≤ k) ∧ Aside0 (w'.heap[gb507]? = some (.cells #[.int .i64 x508000_1, .int .u64 x508001_1, .string x508002_1, .int .i64 x508003_1] 24 (0, 0))) ∧ Aside0 (Below w.heap.size w w'))
 case atStart => exact ⟨(a0), (0), (a1_0), (a1_1), (a1_2), (a1_3), (by first | rfl | (simp; done) | (simp [*]; done)), (by first | rfl | (simp; done) | (simp [*]; done)), H', ⟨Nat.le_refl _⟩, ⟨by (with_reducible repeat (first | apply kN_ | apply kD_ | apply kA_)); exact BK507.out⟩, ⟨by repeat (first | (with_reducible first | exact HB.out | apply bA_ | apply bN_ | apply bD_ | refine bS_ ?_ GE507.out) | exact HB.out)⟩⟩
 case round =>
  clear H'
  try clear p2
  try clear c3
  obtain ⟨x0_1, x5_1, x508000_1, x508001_1, x508002_1, x508003_1, rfl, rfl, HA, HK1, BK507, HB⟩ := hrel
  cases gk with
  | zero => exact absurd HA.out (by simp [platformfwlaw08_ValueUnary.l0])
  | succ k1 =>
   have H := HA.out
   clear HA
   simp only [platformfwlaw08_ValueUnary.l0] at H
   by_cases c4 : x5_1 < 3
   ·rw [if_pos c4] at H
    have c4b0 : decide (x5_1 < 3) = true := decide_eq_true c4
    clear c4
    replace H := Option.bind_eq_some_iff.mp H
    obtain ⟨⟨t509, t510, t511, t512, t513⟩, A50, H⟩ := H
    replace H : ((platformfwref08_Unary.f k1 x0_1 x508000_1 x508001_1 x508002_1 x508003_1).bind fun bt515 => (if (!(t509 == bt515.1) || (!(t510 == bt515.2.1) || (!(t511.toList == bt515.2.2.1.toList) || (!(t512 == bt515.2.2.2.1))))) = true then (platformfwlaw08_ValueUnary.j1 k1 x0_1 x5_1 true x508000_1 x508001_1 x508002_1 x508003_1) else (platformfwlaw08_ValueUnary.j1 k1 x0_1 x5_1 (t513 != bt515.2.2.2.2) x508000_1 x508001_1 x508002_1 x508003_1))) = some r := H
    have A5 := Aside0.mk A50
    clear A50
    replace H := Option.bind_eq_some_iff.mp H
    obtain ⟨⟨t515, t516, t517, t518, t519⟩, A60, H⟩ := H
    replace H : (if (!(t509 == t515) || (!(t510 == t516) || (!(t511.toList == t517.toList) || (!(t512 == t518))))) = true then (platformfwlaw08_ValueUnary.j1 k1 x0_1 x5_1 true x508000_1 x508001_1 x508002_1 x508003_1) else (platformfwlaw08_ValueUnary.j1 k1 x0_1 x5_1 (t513 != t519) x508000_1 x508001_1 x508002_1 x508003_1)) = some r := H
    have A6 := Aside0.mk A60
    clear A60
    have HC7 := Aside0.mk H
    clear H
    obtain ⟨hcz8_0, hcz8_1, hcz8_2, hcz8_3⟩ := cells4_ BK507.out
    obtain ⟨hfz8_0, hfz8_1, hfz8_2, hfz8_3⟩ := froz4_ BK507.out
    go_upto_region 6 with (first | ((with_reducible refine gate_callee (f := 4) rfl ?_); refine goesL_ (some 17) rfl rfl Tryz.func4 (by kernel_rfl) rfl #[.int .i64 x0_1, .agg #[.int .i64 x508000_1, .int .u64 x508001_1, .string x508002_1, .int .i64 x508003_1]] rfl (by (try simp only [List.map_toArray, List.map_cons, List.map_nil]); first | done | rfl) ?_; (with_reducible refine (value_Unary.calls k1 x0_1 x508000_1 x508001_1 x508002_1 x508003_1 t509 t510 t511 t512 t513 _ ?hTT_ A5.out).mono ?_); (case hTT_ => exact tbT_below HTT_.out (by repeat (first | (with_reducible first | exact HB.out | apply bA_ | apply bN_ | apply bD_ | refine bS_ ?_ GE507.out) | exact HB.out))); rintro e w9 ⟨rfl, hb⟩; refine ⟨_, rfl, ?_⟩; replace BK507 := sqB_ (g := gb507) (by (with_reducible repeat (first | apply kN_ | apply kD_ | apply kA_)); exact BK507.out) hb; replace HB := sqS_ (by repeat (first | (with_reducible first | exact HB.out | apply bA_ | apply bN_ | apply bD_ | refine bS_ ?_ GE507.out) | exact HB.out)) hb; (try clear hb); (try clear hb2); (try clear hk); (try clear hi)) | ((with_reducible refine gate_dst (N := 6) rfl ?_); refine box_event ?hg (N := 6) ?hd (cs := #[.int .i64 0, .int .u64 0, .string ⟨#[]⟩, .int .i64 0]) (t := 24) ?hr ?_; (case hd => rfl); (case hg => rfl); (case hr => first | (go_simp; done) | (go_simp; rfl)); intro gb514 hg w10 hbox hb; replace BK507 := sqO_ (g := gb507) (by (with_reducible repeat (first | apply kN_ | apply kD_ | apply kA_)); exact BK507.out) hg hb; obtain ⟨BK507, NB507_514, NB514_507⟩ := BK507; replace HB := sqN_ (by repeat (first | (with_reducible first | exact HB.out | apply bA_ | apply bN_ | apply bD_ | refine bS_ ?_ GE507.out) | exact HB.out)) hg hb; obtain ⟨HB, GE514⟩ := HB; have BK514 := Aside0.mk hbox; clear hb hbox hg; have hnb11 := NB514_507.out; have hnc11 := NB507_514.out; obtain ⟨hcz12_0, hcz12_1, hcz12_2, hcz12_3⟩ := cells4_ BK514.out; obtain ⟨hfz12_0, hfz12_1, hfz12_2, hfz12_3⟩ := froz4_ BK514.out; obtain ⟨hcz13_0, hcz13_1, hcz13_2, hcz13_3⟩ := cells4_ BK507.out; obtain ⟨hfz13_0, hfz13_1, hfz13_2, hfz13_3⟩ := froz4_ BK507.out) | ((with_reducible refine gate_callee (f := 5) rfl ?_); refine goesL_ (some 23) rfl rfl Tryz.func5 (by kernel_rfl) rfl #[.int .i64 x0_1, .agg #[.int .i64 x508000_1, .int .u64 x508001_1, .string x508002_1, .int .i64 x508003_1]] rfl (by (try simp only [List.map_toArray, List.map_cons, List.map_nil]); first | done | rfl) ?_; (with_reducible refine (platformfwref08_Unary.calls k1 x0_1 x508000_1 x508001_1 x508002_1 x508003_1 t515 t516 t517 t518 t519 _ A6.out).mono ?_); rintro e w14 ⟨rfl, hb⟩; refine ⟨_, rfl, ?_⟩; replace HB := sqS_ (by repeat (first | (with_reducible first | exact HB.out | apply bA_ | apply bN_ | apply bD_ | refine bS_ ?_ GE507.out | refine bS_ ?_ GE514.out) | exact HB.out)) hb; replace BK507 := Aside0.mk (blk_below (g := gb507) (o := .cells #[.int .i64 x508000_1, .int .u64 x508001_1, .string x508002_1, .int .i64 x508003_1] 24 (0, 0)) (by (with_reducible repeat (first | apply kN_ | apply kD_ | apply kA_)); refine blk_far ?_ NB507_514.out _; (with_reducible repeat (first | apply kN_ | apply kD_ | apply kA_)); refine blk_far ?_ NB507_514.out _; (with_reducible repeat (first | apply kN_ | apply kD_ | apply kA_)); refine blk_far ?_ NB507_514.out _; (with_reducible repeat (first | apply kN_ | apply kD_ | apply kA_)); refine blk_far ?_ NB507_514.out _; (with_reducible repeat (first | apply kN_ | apply kD_ | apply kA_)); exact BK507.out) hb); replace BK514 := Aside0.mk (blk_below (g := gb514) (o := .cells #[.int .i64 t509, .int .u64 t510, .string t511, .int .i64 t512] 24 (0, 0)) (by (with_reducible repeat (first | apply kN_ | apply kD_ | apply kA_)); refine blk_put (cs := #[.int .i64 t509, .int .u64 t510, .string t511, .int .i64 0]) ?_ 3 _ rfl; (with_reducible repeat (first | apply kN_ | apply kD_ | apply kA_)); refine blk_put (cs := #[.int .i64 t509, .int .u64 t510, .string ⟨#[]⟩, .int .i64 0]) ?_ 2 _ rfl; (with_reducible repeat (first | apply kN_ | apply kD_ | apply kA_)); refine blk_put (cs := #[.int .i64 t509, .int .u64 0, .string ⟨#[]⟩, .int .i64 0]) ?_ 1 _ rfl; (with_reducible repeat (first | apply kN_ | apply kD_ | apply kA_)); refine blk_put (cs := #[.int .i64 0, .int .u64 0, .string ⟨#[]⟩, .int .i64 0]) ?_ 0 _ rfl; (with_reducible repeat (first | apply kN_ | apply kD_ | apply kA_)); exact BK514.out) hb); (try clear hb); (try clear hb2); (try clear hk); (try clear hi)) | ((with_reducible refine gate_dst (N := 8) rfl ?_); refine box_event ?hg (N := 8) ?hd (cs := #[.int .i64 0, .int .u64 0, .string ⟨#[]⟩, .int .i64 0]) (t := 24) ?hr ?_; (case hd => rfl); (case hg => rfl); (case hr => first | (go_simp; done) | (go_simp; rfl)); intro gb520 hg w15 hbox hb; replace BK507 := sqO_ (g := gb507) (by (with_reducible repeat (first | apply kN_ | apply kD_ | apply kA_)); exact BK507.out) hg hb; obtain ⟨BK507, NB507_520, NB520_507⟩ := BK507; replace BK514 := sqO_ (g := gb514) (by (with_reducible repeat (first | apply kN_ | apply kD_ | apply kA_)); exact BK514.out) hg hb; obtain ⟨BK514, NB514_520, NB520_514⟩ := BK514; replace HB := sqN_ (by repeat (first | (with_reducible first | exact HB.out | apply bA_ | apply bN_ | apply bD_ | refine bS_ ?_ GE507.out | refine bS_ ?_ GE514.out) | exact HB.out)) hg hb; obtain ⟨HB, GE520⟩ := HB; have BK520 := Aside0.mk hbox; clear hb hbox hg; have hnb16 := NB520_507.out; have hnc16 := NB507_520.out; have hnb17 := NB520_514.out; have hnc17 := NB514_520.out; obtain ⟨hcz18_0, hcz18_1, hcz18_2, hcz18_3⟩ := cells4_ BK520.out; obtain ⟨hfz18_0, hfz18_1, hfz18_2, hfz18_3⟩ := froz4_ BK520.out))
    (try simp only [Act.put, sA_, sB_, sC_])
    go_cut [33] (fun v33 wc => ∃ (kq : Nat) (x33_6 : Bool), v33 = .bool x33_6 ∧ Aside0 (platformfwlaw08_ValueUnary.j1 kq x0_1 x5_1 x33_6 x508000_1 x508001_1 x508002_1 x508003_1 = some r) ∧ Aside0 (kq ≤ k1) ∧ Aside0 (wc.heap[gb507]? = some (.cells #[.int .i64 x508000_1, .int .u64 x508001_1, .string x508002_1, .int .i64 x508003_1] 24 (0, 0))) ∧ Aside0 (wc.heap[gb514]? = some (.cells #[.int .i64 t509, .int .u64 t510, .string t511, .int .i64 t512] 24 (0, 0))) ∧ Aside0 (wc.heap[gb520]? = some (.cells #[.int .i64 t515, .int .u64 t516, .string t517, .int .i64 t518] 24 (0, 0))) ∧ Aside0 (Below w.heap.size w wc))
    case first =>
     have H := HC7.out
     clear HC7
     by_cases c19 : (!(t509 == t515) || (!(t510 == t516) || (!(t511.toList == t517.toList) || (!(t512 == t518))))) = true
     ·rw [if_pos c19] at H
      have c19b0 : (!(t509 == t515) || (!(t510 == t516) || (!(t511.toList == t517.toList) || (!(t512 == t518))))) = true := c19
      clear c19
      (first | rw [c19b0] | (simp only [i64_w, i32_w]; rw [c19b0]) | skip)
      have H' := Aside0.mk H
      clear H
      have hnb20 := NB514_507.out
      have hnc20 := NB507_514.out
      have hnb21 := NB514_520.out
      have hnc21 := NB520_514.out
      obtain ⟨hcz22_0, hcz22_1, hcz22_2, hcz22_3⟩ := cells4_ BK514.out
      obtain ⟨hfz22_0, hfz22_1, hfz22_2, hfz22_3⟩ := froz4_ BK514.out
      have hnb23 := NB520_507.out
      have hnc23 := NB507_520.out
      have hcz24_0 : w15.cell? ⟨gb520, 0, none⟩ = some (.int .i64 0) := (blk_cell BK520.out 0).trans rfl
      have hcz24_1 : w15.cell? ⟨gb520, 1, none⟩ = some (.int .u64 0) := (blk_cell BK520.out 1).trans rfl
      have hcz24_2 : w15.cell? ⟨gb520, 2, none⟩ = some (.string ⟨#[]⟩) := (blk_cell BK520.out 2).trans rfl
      have hcz24_3 : w15.cell? ⟨gb520, 3, none⟩ = some (.int .i64 0) := (blk_cell BK520.out 3).trans rfl
      have hfz24_0 := blk_frozen BK520.out 0
      have hfz24_1 := blk_frozen BK520.out 1
      have hfz24_2 := blk_frozen BK520.out 2
      have hfz24_3 := blk_frozen BK520.out 3
      go_wp2
      go_meet
      case rel => exact ⟨_, (true), (by first | rfl | (simp; done) | (simp [*]; done)), H', ⟨by have := HK1.out; first | omega | exact Nat.le_refl _⟩, ⟨by (with_reducible repeat (first | apply kN_ | apply kD_ | apply kA_)); refine blk_far ?_ NB507_520.out _; (with_reducible repeat (first | apply kN_ | apply kD_ | apply kA_)); refine blk_far ?_ NB507_520.out _; (with_reducible repeat (first | apply kN_ | apply kD_ | apply kA_)); refine blk_far ?_ NB507_520.out _; (with_reducible repeat (first | apply kN_ | apply kD_ | apply kA_)); refine blk_far ?_ NB507_520.out _; (with_reducible repeat (first | apply kN_ | apply kD_ | apply kA_)); exact BK507.out⟩, ⟨by (with_reducible repeat (first | apply kN_ | apply kD_ | apply kA_)); refine blk_far ?_ NB514_520.out _; (with_reducible repeat (first | apply kN_ | apply kD_ | apply kA_)); refine blk_far ?_ NB514_520.out _; (with_reducible repeat (first | apply kN_ | apply kD_ | apply kA_)); refine blk_far ?_ NB514_520.out _; (with_reducible repeat (first | apply kN_ | apply kD_ | apply kA_)); refine blk_far ?_ NB514_520.out _; (with_reducible repeat (first | apply kN_ | apply kD_ | apply kA_)); exact BK514.out⟩, ⟨by (with_reducible repeat (first | apply kN_ | apply kD_ | apply kA_)); refine blk_put (cs := #[.int .i64 t515, .int .u64 t516, .string t517, .int .i64 0]) ?_ 3 _ rfl; (with_reducible repeat (first | apply kN_ | apply kD_ | apply kA_)); refine blk_put (cs := #[.int .i64 t515, .int .u64 t516, .string ⟨#[]⟩, .int .i64 0]) ?_ 2 _ rfl; (with_reducible repeat (first | apply kN_ | apply kD_ | apply kA_)); refine blk_put (cs := #[.int .i64 t515, .int .u64 0, .string ⟨#[]⟩, .int .i64 0]) ?_ 1 _ rfl; (with_reducible repeat (first | apply kN_ | apply kD_ | apply kA_)); refine blk_put (cs := #[.int .i64 0, .int .u64 0, .string ⟨#[]⟩, .int .i64 0]) ?_ 0 _ rfl; (with_reducible repeat (first | apply kN_ | apply kD_ | apply kA_)); exact BK520.out⟩, ⟨by repeat (first | (with_reducible first | exact HB.out | apply bA_ | apply bN_ | apply bD_ | refine bS_ ?_ GE507.out | refine bS_ ?_ GE514.out | refine bS_ ?_ GE520.out) | exact HB.out)⟩⟩
     ·rw [if_neg c19] at H
      have c19b0 : (!(t509 == t515) || (!(t510 == t516) || (!(t511.toList == t517.toList) || (!(t512 == t518))))) = false := by simpa using c19
      clear c19
      (first | rw [c19b0] | (simp only [i64_w, i32_w]; rw [c19b0]) | skip)
      have H' := Aside0.mk H
      clear H
      have hnb25 := NB514_507.out
      have hnc25 := NB507_514.out
      have hnb26 := NB514_520.out
      have hnc26 := NB520_514.out
      obtain ⟨hcz27_0, hcz27_1, hcz27_2, hcz27_3⟩ := cells4_ BK514.out
      obtain ⟨hfz27_0, hfz27_1, hfz27_2, hfz27_3⟩ := froz4_ BK514.out
      have hnb28 := NB520_507.out
      have hnc28 := NB507_520.out
      have hcz29_0 : w15.cell? ⟨gb520, 0, none⟩ = some (.int .i64 0) := (blk_cell BK520.out 0).trans rfl
      have hcz29_1 : w15.cell? ⟨gb520, 1, none⟩ = some (.int .u64 0) := (blk_cell BK520.out 1).trans rfl
      have hcz29_2 : w15.cell? ⟨gb520, 2, none⟩ = some (.string ⟨#[]⟩) := (blk_cell BK520.out 2).trans rfl
      have hcz29_3 : w15.cell? ⟨gb520, 3, none⟩ = some (.int .i64 0) := (blk_cell BK520.out 3).trans rfl
      have hfz29_0 := blk_frozen BK520.out 0
      have hfz29_1 := blk_frozen BK520.out 1
      have hfz29_2 := blk_frozen BK520.out 2
      have hfz29_3 := blk_frozen BK520.out 3
      go_wp2
      go_meet
      case rel => exact ⟨_, ((t513 != t519)), (by first | rfl | (simp; done) | (simp [*]; done)), H', ⟨by have := HK1.out; first | omega | exact Nat.le_refl _⟩, ⟨by (with_reducible repeat (first | apply kN_ | apply kD_ | apply kA_)); refine blk_far ?_ NB507_520.out _; (with_reducible repeat (first | apply kN_ | apply kD_ | apply kA_)); refine blk_far ?_ NB507_520.out _; (with_reducible repeat (first | apply kN_ | apply kD_ | apply kA_)); refine blk_far ?_ NB507_520.out _; (with_reducible repeat (first | apply kN_ | apply kD_ | apply kA_)); refine blk_far ?_ NB507_520.out _; (with_reducible repeat (first | apply kN_ | apply kD_ | apply kA_)); exact BK507.out⟩, ⟨by (with_reducible repeat (first | apply kN_ | apply kD_ | apply kA_)); refine blk_far ?_ NB514_520.out _; (with_reducible repeat (first | apply kN_ | apply kD_ | apply kA_)); refine blk_far ?_ NB514_520.out _; (with_reducible repeat (first | apply kN_ | apply kD_ | apply kA_)); refine blk_far ?_ NB514_520.out _; (with_reducible repeat (first | apply kN_ | apply kD_ | apply kA_)); refine blk_far ?_ NB514_520.out _; (with_reducible repeat (first | apply kN_ | apply kD_ | apply kA_)); exact BK514.out⟩, ⟨by (with_reducible repeat (first | apply kN_ | apply kD_ | apply kA_)); refine blk_put (cs := #[.int .i64 t515, .int .u64 t516, .string t517, .int .i64 0]) ?_ 3 _ rfl; (with_reducible repeat (first | apply kN_ | apply kD_ | apply kA_)); refine blk_put (cs := #[.int .i64 t515, .int .u64 t516, .string ⟨#[]⟩, .int .i64 0]) ?_ 2 _ rfl; (with_reducible repeat (first | apply kN_ | apply kD_ | apply kA_)); refine blk_put (cs := #[.int .i64 t515, .int .u64 0, .string ⟨#[]⟩, .int .i64 0]) ?_ 1 _ rfl; (with_reducible repeat (first | apply kN_ | apply kD_ | apply kA_)); refine blk_put (cs := #[.int .i64 0, .int .u64 0, .string ⟨#[]⟩, .int .i64 0]) ?_ 0 _ rfl; (with_reducible repeat (first | apply kN_ | apply kD_ | apply kA_)); exact BK520.out⟩, ⟨by repeat (first | (with_reducible first | exact HB.out | apply bA_ | apply bN_ | apply bD_ | refine bS_ ?_ GE507.out | refine bS_ ?_ GE514.out | refine bS_ ?_ GE520.out) | exact HB.out)⟩⟩
    case rest =>
     clear HC7
     try clear c1
     try clear c2
     try clear p2
     try clear c3
     try clear c4
     try clear c4b0
     try clear c5
     try clear c11
     try clear c16
     try clear c17
     try clear c19
     try clear c19b0
     try clear c20
     try clear c21
     try clear c23
     try clear c25
     try clear c26
     try clear c28
     try clear hcz12_0 hcz12_1 hcz12_2 hcz12_3
     try clear hcz13_0 hcz13_1 hcz13_2 hcz13_3
     try clear hcz18_0 hcz18_1 hcz18_2 hcz18_3
     try clear hcz22_0 hcz22_1 hcz22_2 hcz22_3
     try clear hcz24_0 hcz24_1 hcz24_2 hcz24_3
     try clear hcz27_0 hcz27_1 hcz27_2 hcz27_3
     try clear hcz29_0 hcz29_1 hcz29_2 hcz29_3
     try clear hcz8_0 hcz8_1 hcz8_2 hcz8_3
     try clear hfz12_0 hfz12_1 hfz12_2 hfz12_3
     try clear hfz13_0 hfz13_1 hfz13_2 hfz13_3
     try clear hfz18_0 hfz18_1 hfz18_2 hfz18_3
     try clear hfz22_0 hfz22_1 hfz22_2 hfz22_3
     try clear hfz24_0 hfz24_1 hfz24_2 hfz24_3
     try clear hfz27_0 hfz27_1 hfz27_2 hfz27_3
     try clear hfz29_0 hfz29_1 hfz29_2 hfz29_3
     try clear hfz8_0 hfz8_1 hfz8_2 hfz8_3
     try clear p2
     obtain ⟨kq, x33_6, rfl, HA, HJ6, BK507, BK514, BK520, HB⟩ := hcut
     cases kq with
     | zero => exact absurd HA.out (by simp [platformfwlaw08_ValueUnary.j1])
     | succ kj6 =>
      have H := HA.out
      clear HA
      simp only [platformfwlaw08_ValueUnary.j1] at H
      by_cases c30 : x33_6 = true
      ·subst c30
       have H1 : (some false) = some r := by rw [if_pos rfl] at H; exact H
       clear H
       have H := H1
       clear H1
       obtain rfl := Option.some.inj H
       exact absurd hr_.out (by simp)
      ·replace c30 := Bool.eq_false_iff.mpr c30
       subst c30
       have H1 : ((platformfwhelp_Mod.f x0_1 8).bind fun t521 => (if x5_1 = 0 then ((platformfwlaw08_some.f kj6 x508000_1 x508001_1 x508002_1 x508003_1).bind fun bt522 => (platformfwlaw08_ValueUnary.l0 kj6 (wrap64 (77 + t521)) (wrap64 (x5_1 + 1)) bt522.1 bt522.2.1 bt522.2.2.1 bt522.2.2.2)) else (platformfwlaw08_ValueUnary.l0 kj6 (wrap64 (77 + t521)) (wrap64 (x5_1 + 1)) x508000_1 x508001_1 x508002_1 x508003_1))) = some r := by rw [if_neg (show ¬ (false = true) by decide)] at H; exact H
       clear H
       have H := H1
       clear H1
       replace H := Option.bind_eq_some_iff.mp H
       obtain ⟨t521, A310, H⟩ := H
       replace H : (if x5_1 = 0 then ((platformfwlaw08_some.f kj6 x508000_1 x508001_1 x508002_1 x508003_1).bind fun bt522 => (platformfwlaw08_ValueUnary.l0 kj6 (wrap64 (77 + t521)) (wrap64 (x5_1 + 1)) bt522.1 bt522.2.1 bt522.2.2.1 bt522.2.2.2)) else (platformfwlaw08_ValueUnary.l0 kj6 (wrap64 (77 + t521)) (wrap64 (x5_1 + 1)) x508000_1 x508001_1 x508002_1 x508003_1)) = some r := H
       have A31 := Aside0.mk A310
       clear A310
       by_cases c32 : x5_1 = 0
       ·rw [if_pos c32] at H
        have c32b0 : (x5_1 == 0) = true := beq_iff_eq.mpr c32
        have c32b1 : (x5_1 != 0) = false := bne_eq_false_iff_eq.mpr c32
        clear c32
        replace H := Option.bind_eq_some_iff.mp H
        obtain ⟨⟨t522, t523, t524, t525⟩, A330, H⟩ := H
        replace H : (platformfwlaw08_ValueUnary.l0 kj6 (wrap64 (77 + t521)) (wrap64 (x5_1 + 1)) t522 t523 t524 t525) = some r := H
        have A33 := Aside0.mk A330
        clear A330
        have H' := Aside0.mk H
        clear H
        go_wp2_with (first | ((with_reducible refine gate_callee (f := 6) rfl ?_); refine goesL_ (some 35) rfl rfl Tryz.func6 (by kernel_rfl) rfl #[.int .i64 x0_1, .int .i64 8] rfl (by (try simp only [List.map_toArray, List.map_cons, List.map_nil]); first | done | rfl) ?_; (with_reducible refine (platformfwhelp_Mod.calls x0_1 8 t521 _ A31.out).mono ?_); rintro e w' ⟨rfl, ⟨nd, rfl⟩⟩; refine ⟨_, rfl, ?_⟩; (try (rw [drewN_self wc]; generalize hq_ : World.drewN wc _ = wc; have n0_ : Aside0 (wc.heap[gb507]? = some (.cells #[.int .i64 x508000_1, .int .u64 x508001_1, .string x508002_1, .int .i64 x508003_1] 24 (0, 0))) := ⟨by rw [← hq_]; exact (by (with_reducible repeat (first | apply kN_ | apply kD_ | apply kA_)); exact BK507.out)⟩; have n1_ : Aside0 (wc.heap[gb514]? = some (.cells #[.int .i64 t509, .int .u64 t510, .string t511, .int .i64 t512] 24 (0, 0))) := ⟨by rw [← hq_]; exact (by (with_reducible repeat (first | apply kN_ | apply kD_ | apply kA_)); exact BK514.out)⟩; have n2_ : Aside0 (wc.heap[gb520]? = some (.cells #[.int .i64 t515, .int .u64 t516, .string t517, .int .i64 t518] 24 (0, 0))) := ⟨by rw [← hq_]; exact (by (with_reducible repeat (first | apply kN_ | apply kD_ | apply kA_)); exact BK520.out)⟩; have n3_ : Aside0 (Below w.heap.size w wc) := ⟨by rw [← hq_]; exact (by repeat (first | (with_reducible first | exact HB.out | apply bA_ | apply bN_ | apply bD_ | refine bS_ ?_ GE507.out | refine bS_ ?_ GE514.out | refine bS_ ?_ GE520.out) | exact HB.out))⟩; clear BK507 BK514 BK520 HB hq_; have BK507 := n0_; have BK514 := n1_; have BK520 := n2_; have HB := n3_; clear n0_ n1_ n2_ n3_)); have hnb34 := NB507_514.out; have hnc34 := NB514_507.out; have hnb35 := NB507_520.out; have hnc35 := NB520_507.out; obtain ⟨hcz36_0, hcz36_1, hcz36_2, hcz36_3⟩ := cells4_ BK507.out; obtain ⟨hfz36_0, hfz36_1, hfz36_2, hfz36_3⟩ := froz4_ BK507.out) | ((with_reducible refine gate_callee (f := 7) rfl ?_); refine goesL_ (some 40) rfl rfl Tryz.func7 (by kernel_rfl) rfl #[.agg #[.int .i64 x508000_1, .int .u64 x508001_1, .string x508002_1, .int .i64 x508003_1]] rfl (by (try simp only [List.map_toArray, List.map_cons, List.map_nil]); first | done | rfl) ?_; (with_reducible refine (platformfwlaw08_some.calls kj6 x508000_1 x508001_1 x508002_1 x508003_1 t522 t523 t524 t525 _ A33.out).mono ?_); rintro e w37 ⟨rfl, hb⟩; refine ⟨_, rfl, ?_⟩; replace BK507 := sqB_ (g := gb507) (by (with_reducible repeat (first | apply kN_ | apply kD_ | apply kA_)); exact BK507.out) hb; replace BK514 := sqB_ (g := gb514) (by (with_reducible repeat (first | apply kN_ | apply kD_ | apply kA_)); exact BK514.out) hb; replace BK520 := sqB_ (g := gb520) (by (with_reducible repeat (first | apply kN_ | apply kD_ | apply kA_)); exact BK520.out) hb; replace HB := sqS_ (by repeat (first | (with_reducible first | exact HB.out | apply bA_ | apply bN_ | apply bD_ | refine bS_ ?_ GE507.out | refine bS_ ?_ GE514.out | refine bS_ ?_ GE520.out) | exact HB.out)) hb; (try clear hb); (try clear hb2); (try clear hk); (try clear hi); obtain ⟨hcz38_0, hcz38_1, hcz38_2, hcz38_3⟩ := cells4_ BK507.out; obtain ⟨hfz38_0, hfz38_1, hfz38_2, hfz38_3⟩ := froz4_ BK507.out))
        go_roundg kj6
        case measure => have := HK1.out; have := HJ6.out; omega
        case rel => exact ⟨(wrap64 (77 + t521)), (wrap64 (x5_1 + 1)), (t522), (t523), (t524), (t525), (by first | rfl | (simp; done) | (simp [*]; done)), (by first | rfl | (simp; done) | (simp [*]; done)), H', ⟨by have := HK1.out; have := HJ6.out; omega⟩, ⟨by (with_reducible repeat (first | apply kN_ | apply kD_ | apply kA_)); refine blk_put (cs := #[.int .i64 t522, .int .u64 t523, .string t524, .int .i64 x508003_1]) ?_ 3 _ rfl; (with_reducible repeat (first | apply kN_ | apply kD_ | apply kA_)); refine blk_put (cs := #[.int .i64 t522, .int .u64 t523, .string x508002_1, .int .i64 x508003_1]) ?_ 2 _ rfl; (with_reducible repeat (first | apply kN_ | apply kD_ | apply kA_)); refine blk_put (cs := #[.int .i64 t522, .int .u64 x508001_1, .string x508002_1, .int .i64 x508003_1]) ?_ 1 _ rfl; (with_reducible repeat (first | apply kN_ | apply kD_ | apply kA_)); refine blk_put (cs := #[.int .i64 x508000_1, .int .u64 x508001_1, .string x508002_1, .int .i64 x508003_1]) ?_ 0 _ rfl; (with_reducible repeat (first | apply kN_ | apply kD_ | apply kA_)); exact BK507.out⟩, ⟨by repeat (first | (with_reducible first | exact HB.out | apply bA_ | apply bN_ | apply bD_ | refine bS_ ?_ GE507.out | refine bS_ ?_ GE514.out | refine bS_ ?_ GE520.out) | exact HB.out)⟩⟩
       ·rw [if_neg c32] at H
        have c32b0 : (x5_1 == 0) = false := beq_eq_false_iff_ne.mpr c32
        have c32b1 : (x5_1 != 0) = true := bne_iff_ne.mpr c32
        have H' := Aside0.mk H
        clear H
        go_wp2_with (first | ((with_reducible refine gate_callee (f := 6) rfl ?_); refine goesL_ (some 35) rfl rfl Tryz.func6 (by kernel_rfl) rfl #[.int .i64 x0_1, .int .i64 8] rfl (by (try simp only [List.map_toArray, List.map_cons, List.map_nil]); first | done | rfl) ?_; (with_reducible refine (platformfwhelp_Mod.calls x0_1 8 t521 _ A31.out).mono ?_); rintro e w' ⟨rfl, ⟨nd, rfl⟩⟩; refine ⟨_, rfl, ?_⟩))
        go_roundg kj6
        case measure => have := HK1.out; have := HJ6.out; omega
        case rel => exact ⟨(wrap64 (77 + t521)), (wrap64 (x5_1 + 1)), (x508000_1), (x508001_1), (x508002_1), (x508003_1), (by first | rfl | (simp; done) | (simp [*]; done)), (by first | rfl | (simp; done) | (simp [*]; done)), H', ⟨by have := HK1.out; have := HJ6.out; omega⟩, ⟨by (with_reducible repeat (first | apply kN_ | apply kD_ | apply kA_)); exact BK507.out⟩, ⟨by repeat (first | (with_reducible first | exact HB.out | apply bA_ | apply bN_ | apply bD_ | refine bS_ ?_ GE507.out | refine bS_ ?_ GE514.out | refine bS_ ?_ GE520.out) | exact HB.out)⟩⟩
   ·rw [if_neg c4] at H
    have c4b0 : decide (x5_1 < 3) = false := decide_eq_false c4
    clear c4
    replace H := Option.bind_eq_some_iff.mp H
    obtain ⟨t508, A390, H⟩ := H
    replace H : (some t508) = some r := H
    have A39 := Aside0.mk A390
    clear A390
    obtain rfl := Option.some.inj H
    go_wp2_with (first | ((with_reducible refine gate_callee (f := 8) rfl ?_); refine goesL_ (some 41) rfl rfl Tryz.func8 (by kernel_rfl) rfl #[] rfl (by (try simp only [List.map_toArray, List.map_cons, List.map_nil]); first | done | rfl) ?_; (with_reducible refine (platformfwlaw08_awake.calls k1  t508 _ ?hTT_ (by first | exact hr_ | exact ⟨rfl⟩) A39.out).mono ?_); (case hTT_ => exact tbT_below HTT_.out (by repeat (first | (with_reducible first | exact HB.out | apply bA_ | apply bN_ | apply bD_ | refine bS_ ?_ GE507.out) | exact HB.out))); rintro e w40 ⟨rfl, hb⟩; refine ⟨_, rfl, ?_⟩; replace BK507 := sqB_ (g := gb507) (by (with_reducible repeat (first | apply kN_ | apply kD_ | apply kA_)); exact BK507.out) hb; replace HB := sqS_ (by repeat (first | (with_reducible first | exact HB.out | apply bA_ | apply bN_ | apply bD_ | refine bS_ ?_ GE507.out) | exact HB.out)) hb; (try clear hb); (try clear hb2); (try clear hk); (try clear hi)))
    go_ret
    exact ⟨by first | rfl | (simp [errW_none, errW_some] <;> rfl) | (simp [*, errW_none, errW_some] <;> rfl), by repeat (first | (with_reducible first | exact HB.out | apply bA_ | apply bN_ | apply bD_ | refine bS_ ?_ GE507.out) | exact HB.out)⟩

end Go.Proofs.YtdmeglmmihaonaaGreatDoor.PValueUnary
