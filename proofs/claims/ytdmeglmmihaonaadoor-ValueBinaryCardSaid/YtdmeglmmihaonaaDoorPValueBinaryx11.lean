-- Written by a program of this session's (wip/print_patch.py over the kit's print) out of the translation; Lean checks it.
import Derived.Test.YtdmeglmmihaonaaDoorPValueBinaryx0
import Derived.Test.YtdmeglmmihaonaaDoorPValueBinaryx1
import Derived.Test.YtdmeglmmihaonaaDoorPValueBinaryx2
import Derived.Test.YtdmeglmmihaonaaDoorPValueBinaryx5
import Derived.Test.YtdmeglmmihaonaaDoorVValueBinaryExtP
namespace Go.Proofs.YtdmeglmmihaonaaDoor.PValueBinary
open Go.RowKit Go.Proofs.YtdmeglmmihaonaaDoor.Ext Go.Proofs.YtdmeglmmihaonaaDoorW.PrintWords Go.Proofs.YtdmeglmmihaonaaDoorW.PrintLast Go.Proofs.YtdmeglmmihaonaaDoorW.PrintMore
attribute [local go_sem] max2_int min2_int max_two min_two max_three min_three max_four min_four   -- for this text's walks alone
set_option linter.unusedVariables false
set_option linter.unusedSimpArgs false

attribute [local go_sem high] eqA24
/-! ### platformfwlaw08_awake: function 12 -/
def platformfwlaw08_awake.f (k : Nat)  : Option (Bool) := (value_Integer.f k 2 0 (⟨#[49, 70, 122]⟩ : ByteArray) 0).bind fun bt480 => ((platformfwref08_Number.f 255).bind fun bt482 => ((value_Binary.f k 75 2 0 (⟨#[97]⟩ : ByteArray) 0 bt482.1 bt482.2.1 bt482.2.2.1 bt482.2.2.2).bind fun bt486 => ((platformfwref08_Number.f 1).bind fun bt492 => ((platformfwref08_Number.f 64).bind fun bt496 => ((value_Binary.f k 68 bt492.1 bt492.2.1 bt492.2.2.1 bt492.2.2.2 bt496.1 bt496.2.1 bt496.2.2.1 bt496.2.2.2).bind fun bt500 => (if bt480.1 = 31 then (if bt480.2 = 0 then (if (bt486.1 == 2 && (bt486.2.1 == 0 && (bt486.2.2.1.toList == ([97, 48, 48, 48, 48, 48, 48, 48, 48, 48, 48, 48, 48, 48, 48, 70, 70] : List UInt8) && (bt486.2.2.2.1 == 0)))) = true then (if bt486.2.2.2.2 = 0 then ((platformfwref08_Number.f 0).bind fun bt506 => (if (bt500.1 == bt506.1 && (bt500.2.1 == bt506.2.1 && (bt500.2.2.1.toList == bt506.2.2.1.toList && (bt500.2.2.2.1 == bt506.2.2.2)))) = true then (some (bt500.2.2.2.2 == 0)) else (some false))) else (some false)) else (some false)) else (some false)) else (some false)))))))
theorem platformfwlaw08_awake.mono : ∀ k, LeO (platformfwlaw08_awake.f k ) (platformfwlaw08_awake.f (k + 1) ) := by
 intro  k
 unfold platformfwlaw08_awake.f
 repeat' first
   | (with_reducible exact value_Binary.mono _ _ _ _ _ _ _ _ _ _)
   | (with_reducible exact value_Integer.mono _ _ _ _ _)
   | (with_reducible exact LeO.refl _)
   | (with_reducible exact LeO.none _)
   | (with_reducible refine LeO.ite ?_ ?_)
   | (with_reducible refine LeO.bind ?_ (fun _ => ?_))
   | exact value_Binary.mono _ _ _ _ _ _ _ _ _ _
   | exact value_Integer.mono _ _ _ _ _
   | exact LeO.none _
   | refine LeO.ite ?_ ?_
   | refine LeO.bind ?_ (fun _ => ?_)
def platformfwlaw08_awake.T4 : Bool × List (List Nat × List Nat) := (true, [([], []), ([0], [0]), ([1], [1]), ([2], [2]), ([3, 2], [2, 3]), ([2, 4], [2, 4]), ([5, 2], [5]), ([6], [6]), ([6], [6]), ([7, 8, 6], [6, 7, 8]), ([6, 9], [6, 9]), ([10, 6], [10]), ([11], [11]), ([12, 11], [11, 12]), ([11, 13], [11, 13]), ([14, 11], [14]), ([15], [15]), ([15, 15], [15]), ([16, 17, 15], [15, 16, 17]), ([15, 18], [15, 18]), ([19, 17], [19]), ([20], [20]), ([21, 20], [20, 21]), ([20, 22], [20, 22]), ([23, 20, 0, 1, 2, 3, 4, 5, 6, 7, 8, 9, 10, 11, 12, 13, 14, 15, 16, 17, 18, 19, 20, 21, 22, 23], [23])])
def platformfwlaw08_awake.B4 : List Nat := [0, 1, 3, 7, 15, 31, 63, 127, 127, 511, 1023, 2047, 4095, 8191, 16383, 32767, 65535, 65535, 262143, 524287, 1048575, 2097151, 4194303, 8388607, 16777215]
theorem platformfwlaw08_awake.tab4 : rtab .any (opsOf Tryd.f12 4) = platformfwlaw08_awake.T4 := by kernel_rfl
theorem platformfwlaw08_awake.bits4 : waitsOk platformfwlaw08_awake.T4.2 platformfwlaw08_awake.B4 = true := by kernel_rfl
set_option maxHeartbeats 8000000 in
set_option maxRecDepth 100000 in
theorem platformfwlaw08_awake.calls (k : Nat)  (r : Bool) (w : World) (hT_ : w.cell? ⟨6, 15, none⟩ = some (.int .u8 4)) (hr_ : Aside0 (r = true)) (h : platformfwlaw08_awake.f k  = some r) :
  Calls Tryd.prog 12 #[] w fun e w' => e = .returned (.bool r) ∧ Below w.heap.size w w' := by
 have HTT_ := Aside0.mk hT_
 clear hT_
 have hu24 := Tryd.underlying24
 have HB := Aside0.mk (Below.refl w.heap.size w)
 have H : ((value_Integer.f k 2 0 (⟨#[49, 70, 122]⟩ : ByteArray) 0).bind fun bt480 => ((platformfwref08_Number.f 255).bind fun bt482 => ((value_Binary.f k 75 2 0 (⟨#[97]⟩ : ByteArray) 0 bt482.1 bt482.2.1 bt482.2.2.1 bt482.2.2.2).bind fun bt486 => ((platformfwref08_Number.f 1).bind fun bt492 => ((platformfwref08_Number.f 64).bind fun bt496 => ((value_Binary.f k 68 bt492.1 bt492.2.1 bt492.2.2.1 bt492.2.2.2 bt496.1 bt496.2.1 bt496.2.2.1 bt496.2.2.2).bind fun bt500 => (if bt480.1 = 31 then (if bt480.2 = 0 then (if (bt486.1 == 2 && (bt486.2.1 == 0 && (bt486.2.2.1.toList == ([97, 48, 48, 48, 48, 48, 48, 48, 48, 48, 48, 48, 48, 48, 48, 70, 70] : List UInt8) && (bt486.2.2.2.1 == 0)))) = true then (if bt486.2.2.2.2 = 0 then ((platformfwref08_Number.f 0).bind fun bt506 => (if (bt500.1 == bt506.1 && (bt500.2.1 == bt506.2.1 && (bt500.2.2.1.toList == bt506.2.2.1.toList && (bt500.2.2.2.1 == bt506.2.2.2)))) = true then (some (bt500.2.2.2.2 == 0)) else (some false))) else (some false)) else (some false)) else (some false)) else (some false)))))))) = some r := h
 clear h
 replace H := Option.bind_eq_some_iff.mp H
 obtain ⟨⟨t480, t481⟩, A10, H⟩ := H
 replace H : ((platformfwref08_Number.f 255).bind fun bt482 => ((value_Binary.f k 75 2 0 (⟨#[97]⟩ : ByteArray) 0 bt482.1 bt482.2.1 bt482.2.2.1 bt482.2.2.2).bind fun bt486 => ((platformfwref08_Number.f 1).bind fun bt492 => ((platformfwref08_Number.f 64).bind fun bt496 => ((value_Binary.f k 68 bt492.1 bt492.2.1 bt492.2.2.1 bt492.2.2.2 bt496.1 bt496.2.1 bt496.2.2.1 bt496.2.2.2).bind fun bt500 => (if t480 = 31 then (if t481 = 0 then (if (bt486.1 == 2 && (bt486.2.1 == 0 && (bt486.2.2.1.toList == ([97, 48, 48, 48, 48, 48, 48, 48, 48, 48, 48, 48, 48, 48, 48, 70, 70] : List UInt8) && (bt486.2.2.2.1 == 0)))) = true then (if bt486.2.2.2.2 = 0 then ((platformfwref08_Number.f 0).bind fun bt506 => (if (bt500.1 == bt506.1 && (bt500.2.1 == bt506.2.1 && (bt500.2.2.1.toList == bt506.2.2.1.toList && (bt500.2.2.2.1 == bt506.2.2.2)))) = true then (some (bt500.2.2.2.2 == 0)) else (some false))) else (some false)) else (some false)) else (some false)) else (some false))))))) = some r := H
 have A1 := Aside0.mk A10
 clear A10
 replace H := Option.bind_eq_some_iff.mp H
 obtain ⟨⟨t482, t483, t484, t485⟩, A20, H⟩ := H
 replace H : ((value_Binary.f k 75 2 0 (⟨#[97]⟩ : ByteArray) 0 t482 t483 t484 t485).bind fun bt486 => ((platformfwref08_Number.f 1).bind fun bt492 => ((platformfwref08_Number.f 64).bind fun bt496 => ((value_Binary.f k 68 bt492.1 bt492.2.1 bt492.2.2.1 bt492.2.2.2 bt496.1 bt496.2.1 bt496.2.2.1 bt496.2.2.2).bind fun bt500 => (if t480 = 31 then (if t481 = 0 then (if (bt486.1 == 2 && (bt486.2.1 == 0 && (bt486.2.2.1.toList == ([97, 48, 48, 48, 48, 48, 48, 48, 48, 48, 48, 48, 48, 48, 48, 70, 70] : List UInt8) && (bt486.2.2.2.1 == 0)))) = true then (if bt486.2.2.2.2 = 0 then ((platformfwref08_Number.f 0).bind fun bt506 => (if (bt500.1 == bt506.1 && (bt500.2.1 == bt506.2.1 && (bt500.2.2.1.toList == bt506.2.2.1.toList && (bt500.2.2.2.1 == bt506.2.2.2)))) = true then (some (bt500.2.2.2.2 == 0)) else (some false))) else (some false)) else (some false)) else (some false)) else (some false)))))) = some r := H
 have A2 := Aside0.mk A20
 clear A20
 replace H := Option.bind_eq_some_iff.mp H
 obtain ⟨⟨t486, t487, t488, t489, t490⟩, A30, H⟩ := H
 replace H : ((platformfwref08_Number.f 1).bind fun bt492 => ((platformfwref08_Number.f 64).bind fun bt496 => ((value_Binary.f k 68 bt492.1 bt492.2.1 bt492.2.2.1 bt492.2.2.2 bt496.1 bt496.2.1 bt496.2.2.1 bt496.2.2.2).bind fun bt500 => (if t480 = 31 then (if t481 = 0 then (if (t486 == 2 && (t487 == 0 && (t488.toList == ([97, 48, 48, 48, 48, 48, 48, 48, 48, 48, 48, 48, 48, 48, 48, 70, 70] : List UInt8) && (t489 == 0)))) = true then (if t490 = 0 then ((platformfwref08_Number.f 0).bind fun bt506 => (if (bt500.1 == bt506.1 && (bt500.2.1 == bt506.2.1 && (bt500.2.2.1.toList == bt506.2.2.1.toList && (bt500.2.2.2.1 == bt506.2.2.2)))) = true then (some (bt500.2.2.2.2 == 0)) else (some false))) else (some false)) else (some false)) else (some false)) else (some false))))) = some r := H
 have A3 := Aside0.mk A30
 clear A30
 replace H := Option.bind_eq_some_iff.mp H
 obtain ⟨⟨t492, t493, t494, t495⟩, A40, H⟩ := H
 replace H : ((platformfwref08_Number.f 64).bind fun bt496 => ((value_Binary.f k 68 t492 t493 t494 t495 bt496.1 bt496.2.1 bt496.2.2.1 bt496.2.2.2).bind fun bt500 => (if t480 = 31 then (if t481 = 0 then (if (t486 == 2 && (t487 == 0 && (t488.toList == ([97, 48, 48, 48, 48, 48, 48, 48, 48, 48, 48, 48, 48, 48, 48, 70, 70] : List UInt8) && (t489 == 0)))) = true then (if t490 = 0 then ((platformfwref08_Number.f 0).bind fun bt506 => (if (bt500.1 == bt506.1 && (bt500.2.1 == bt506.2.1 && (bt500.2.2.1.toList == bt506.2.2.1.toList && (bt500.2.2.2.1 == bt506.2.2.2)))) = true then (some (bt500.2.2.2.2 == 0)) else (some false))) else (some false)) else (some false)) else (some false)) else (some false)))) = some r := H
 have A4 := Aside0.mk A40
 clear A40
 replace H := Option.bind_eq_some_iff.mp H
 obtain ⟨⟨t496, t497, t498, t499⟩, A50, H⟩ := H
 replace H : ((value_Binary.f k 68 t492 t493 t494 t495 t496 t497 t498 t499).bind fun bt500 => (if t480 = 31 then (if t481 = 0 then (if (t486 == 2 && (t487 == 0 && (t488.toList == ([97, 48, 48, 48, 48, 48, 48, 48, 48, 48, 48, 48, 48, 48, 48, 70, 70] : List UInt8) && (t489 == 0)))) = true then (if t490 = 0 then ((platformfwref08_Number.f 0).bind fun bt506 => (if (bt500.1 == bt506.1 && (bt500.2.1 == bt506.2.1 && (bt500.2.2.1.toList == bt506.2.2.1.toList && (bt500.2.2.2.1 == bt506.2.2.2)))) = true then (some (bt500.2.2.2.2 == 0)) else (some false))) else (some false)) else (some false)) else (some false)) else (some false))) = some r := H
 have A5 := Aside0.mk A50
 clear A50
 replace H := Option.bind_eq_some_iff.mp H
 obtain ⟨⟨t500, t501, t502, t503, t504⟩, A60, H⟩ := H
 replace H : (if t480 = 31 then (if t481 = 0 then (if (t486 == 2 && (t487 == 0 && (t488.toList == ([97, 48, 48, 48, 48, 48, 48, 48, 48, 48, 48, 48, 48, 48, 48, 70, 70] : List UInt8) && (t489 == 0)))) = true then (if t490 = 0 then ((platformfwref08_Number.f 0).bind fun bt506 => (if (t500 == bt506.1 && (t501 == bt506.2.1 && (t502.toList == bt506.2.2.1.toList && (t503 == bt506.2.2.2)))) = true then (some (t504 == 0)) else (some false))) else (some false)) else (some false)) else (some false)) else (some false)) = some r := H
 have A6 := Aside0.mk A60
 clear A60
 by_cases c7 : t480 = 31
 ·rw [if_pos c7] at H
  have c7b0 : (t480 == 31) = true := beq_iff_eq.mpr c7
  have c7b1 : (t480 != 31) = false := bne_eq_false_iff_eq.mpr c7
  clear c7
  by_cases c8 : t481 = 0
  ·rw [if_pos c8] at H
   have c8b0 : (t481 == 0) = true := beq_iff_eq.mpr c8
   have c8b1 : (t481 != 0) = false := bne_eq_false_iff_eq.mpr c8
   clear c8
   by_cases c9 : (t486 == 2 && (t487 == 0 && (t488.toList == ([97, 48, 48, 48, 48, 48, 48, 48, 48, 48, 48, 48, 48, 48, 48, 70, 70] : List UInt8) && (t489 == 0)))) = true
   ·rw [if_pos c9] at H
    have c9b0 : (t486 == 2 && (t487 == 0 && (t488.toList == ([97, 48, 48, 48, 48, 48, 48, 48, 48, 48, 48, 48, 48, 48, 48, 70, 70] : List UInt8) && (t489 == 0)))) = true := c9
    (try (have c9b1 : decide (t486 = 2 && (t487 == 0 && (t488.toList == ([97, 48, 48, 48, 48, 48, 48, 48, 48, 48, 48, 48, 48, 48, 48, 70, 70] : List UInt8) && (t489 == 0)))) = true := by simpa using c9))
    (try (have c9b2 : (t486 == 2 && (t487 == 0 && (t488.toList == ([97, 48, 48, 48, 48, 48, 48, 48, 48, 48, 48, 48, 48, 48, 48, 70, 70] : List UInt8) && (t489 == 0)))) = true := by simpa using c9))
    clear c9
    by_cases c10 : t490 = 0
    ·rw [if_pos c10] at H
     have c10b0 : (t490 == 0) = true := beq_iff_eq.mpr c10
     have c10b1 : (t490 != 0) = false := bne_eq_false_iff_eq.mpr c10
     clear c10
     replace H := Option.bind_eq_some_iff.mp H
     obtain ⟨⟨t506, t507, t508, t509⟩, A110, H⟩ := H
     replace H : (if (t500 == t506 && (t501 == t507 && (t502.toList == t508.toList && (t503 == t509)))) = true then (some (t504 == 0)) else (some false)) = some r := H
     have A11 := Aside0.mk A110
     clear A110
     by_cases c12 : (t500 == t506 && (t501 == t507 && (t502.toList == t508.toList && (t503 == t509)))) = true
     ·rw [if_pos c12] at H
      have c12b0 : (t500 == t506 && (t501 == t507 && (t502.toList == t508.toList && (t503 == t509)))) = true := c12
      (try (have c12b1 : decide (t500 = t506 && (t501 == t507 && (t502.toList == t508.toList && (t503 == t509)))) = true := by simpa using c12))
      (try (have c12b2 : (t500 == t506 && (t501 == t507 && (t502.toList == t508.toList && (t503 == t509)))) = true := by simpa using c12))
      clear c12
      obtain rfl := Option.some.inj H
      go_enter Tryd.func12, Tryd.ntmps12
      try go_wp2_with (first | ((with_reducible refine gate_callee (f := 22) rfl ?_); refine goesL_ (some 9) rfl rfl Tryd.func22 (by kernel_rfl) rfl #[.agg #[.int .i64 2, .int .u64 0, .string (⟨#[49, 70, 122]⟩ : ByteArray), .int .i64 0]] rfl (by (try simp only [List.map_toArray, List.map_cons, List.map_nil]); first | done | rfl | (simp only [List.length_drop, List.length_take]; rfl)) ?_; (with_reducible refine (value_Integer.calls k 2 0 (⟨#[49, 70, 122]⟩ : ByteArray) 0 t480 t481 _ A1.out).mono ?_); rintro e w13 ⟨rfl, hb⟩; refine ⟨_, rfl, ?_⟩; have n0_ := Aside0.mk (below_step (by repeat (first | (with_reducible first | exact HB.out | apply bA_ | apply bN_ | apply bD_) | exact HB.out)) hb); clear HB; have HB := n0_; clear n0_; (try clear hb); (try clear hb2); (try clear hk); (try clear hi)) | ((with_reducible refine gate_callee (f := 19) rfl ?_); refine goesL_ (some 14) rfl rfl Tryd.func19 (by kernel_rfl) rfl #[.int .u64 255] rfl (by (try simp only [List.map_toArray, List.map_cons, List.map_nil]); first | done | rfl | (simp only [List.length_drop, List.length_take]; rfl)) ?_; (with_reducible refine (platformfwref08_Number.calls 255 t482 t483 t484 t485 _ A2.out).mono ?_); rintro e w14 ⟨rfl, hb⟩; refine ⟨_, rfl, ?_⟩; have n0_ := Aside0.mk (below_step (by repeat (first | (with_reducible first | exact HB.out | apply bA_ | apply bN_ | apply bD_) | exact HB.out)) hb); clear HB; have HB := n0_; clear n0_; (try clear hb); (try clear hb2); (try clear hk); (try clear hi)) | ((with_reducible refine gate_callee (f := 8) rfl ?_); refine goesL_ (some 15) rfl rfl Tryd.func8 (by kernel_rfl) rfl #[.int .i64 75, .agg #[.int .i64 2, .int .u64 0, .string (⟨#[97]⟩ : ByteArray), .int .i64 0], .agg #[.int .i64 t482, .int .u64 t483, .string t484, .int .i64 t485]] rfl (by (try simp only [List.map_toArray, List.map_cons, List.map_nil]); first | done | rfl | (simp only [List.length_drop, List.length_take]; rfl)) ?_; (with_reducible refine (value_Binary.calls k 75 2 0 (⟨#[97]⟩ : ByteArray) 0 t482 t483 t484 t485 t486 t487 t488 t489 t490 _ ?hTT_ A3.out).mono ?_); (case hTT_ => exact tb_below HTT_.out (by repeat (first | (with_reducible first | exact HB.out | apply bA_ | apply bN_ | apply bD_) | exact HB.out))); rintro e w15 ⟨rfl, hb⟩; refine ⟨_, rfl, ?_⟩; have n0_ := Aside0.mk (below_step (by repeat (first | (with_reducible first | exact HB.out | apply bA_ | apply bN_ | apply bD_) | exact HB.out)) hb); clear HB; have HB := n0_; clear n0_; (try clear hb); (try clear hb2); (try clear hk); (try clear hi)) | ((with_reducible refine gate_dst (N := 3) rfl ?_); refine box_event ?hg (N := 3) ?hd (cs := #[.int .i64 0, .int .u64 0, .string (⟨#[]⟩ : ByteArray), .int .i64 0]) (t := 24) ?hr ?_; (case hd => rfl); (case hg => rfl); (case hr => first | (go_simp; done) | (go_simp; rfl)); intro gb491 hg w16 hbox hb; have n0_ := Aside0.mk (below_step (by repeat (first | (with_reducible first | exact HB.out | apply bA_ | apply bN_ | apply bD_) | exact HB.out)) hb); have n1_ := Aside0.mk (hbox); have n2_ := Aside0.mk ((by rw [hg]; exact (below_size (by repeat (first | (with_reducible first | exact HB.out | apply bA_ | apply bN_ | apply bD_) | exact HB.out))) : w.heap.size ≤ gb491)); have n3_ := Aside0.mk ((by rw [hg]; exact (below_size (by repeat (first | (with_reducible first | exact HB.out | apply bA_ | apply bN_ | apply bD_) | exact HB.out))) : w.heap.size ≤ gb491)); clear HB; have HB := n0_; have BK491 := n1_; have GW491 := n2_; have GE491 := n3_; clear n0_ n1_ n2_ n3_; clear hb hbox hg; obtain ⟨hcz17_0, hcz17_1, hcz17_2, hcz17_3⟩ := cells4_ BK491.out; obtain ⟨hfz17_0, hfz17_1, hfz17_2, hfz17_3⟩ := froz4_ BK491.out) | ((with_reducible refine gate_callee (f := 19) rfl ?_); refine goesL_ (some 19) rfl rfl Tryd.func19 (by kernel_rfl) rfl #[.int .u64 1] rfl (by (try simp only [List.map_toArray, List.map_cons, List.map_nil]); first | done | rfl | (simp only [List.length_drop, List.length_take]; rfl)) ?_; (with_reducible refine (platformfwref08_Number.calls 1 t492 t493 t494 t495 _ A4.out).mono ?_); rintro e w18 ⟨rfl, hb⟩; refine ⟨_, rfl, ?_⟩; have n0_ := Aside0.mk (blk_below (g := gb491) (o := .cells #[.int .i64 t486, .int .u64 t487, .string t488, .int .i64 t489] 24 (0, 0)) (by (with_reducible repeat (first | apply kN_ | apply kD_ | apply kA_)); refine blk_put (cs := #[.int .i64 t486, .int .u64 t487, .string t488, .int .i64 0]) ?_ 3 _ rfl; (with_reducible repeat (first | apply kN_ | apply kD_ | apply kA_)); refine blk_put (cs := #[.int .i64 t486, .int .u64 t487, .string (⟨#[]⟩ : ByteArray), .int .i64 0]) ?_ 2 _ rfl; (with_reducible repeat (first | apply kN_ | apply kD_ | apply kA_)); refine blk_put (cs := #[.int .i64 t486, .int .u64 0, .string (⟨#[]⟩ : ByteArray), .int .i64 0]) ?_ 1 _ rfl; (with_reducible repeat (first | apply kN_ | apply kD_ | apply kA_)); refine blk_put (cs := #[.int .i64 0, .int .u64 0, .string (⟨#[]⟩ : ByteArray), .int .i64 0]) ?_ 0 _ rfl; (with_reducible repeat (first | apply kN_ | apply kD_ | apply kA_)); exact BK491.out) hb); have n1_ := Aside0.mk (below_step (by repeat (first | (with_reducible first | exact HB.out | apply bA_ | apply bN_ | apply bD_ | refine bS_ ?_ GE491.out) | exact HB.out)) hb); clear BK491; clear HB; have BK491 := n0_; have HB := n1_; clear n0_ n1_; (try clear hb); (try clear hb2); (try clear hk); (try clear hi)) | ((with_reducible refine gate_callee (f := 19) rfl ?_); refine goesL_ (some 20) rfl rfl Tryd.func19 (by kernel_rfl) rfl #[.int .u64 64] rfl (by (try simp only [List.map_toArray, List.map_cons, List.map_nil]); first | done | rfl | (simp only [List.length_drop, List.length_take]; rfl)) ?_; (with_reducible refine (platformfwref08_Number.calls 64 t496 t497 t498 t499 _ A5.out).mono ?_); rintro e w19 ⟨rfl, hb⟩; refine ⟨_, rfl, ?_⟩; have n0_ := Aside0.mk (blk_below (g := gb491) (o := .cells #[.int .i64 t486, .int .u64 t487, .string t488, .int .i64 t489] 24 (0, 0)) (by (with_reducible repeat (first | apply kN_ | apply kD_ | apply kA_)); exact BK491.out) hb); have n1_ := Aside0.mk (below_step (by repeat (first | (with_reducible first | exact HB.out | apply bA_ | apply bN_ | apply bD_ | refine bS_ ?_ GE491.out) | exact HB.out)) hb); clear BK491; clear HB; have BK491 := n0_; have HB := n1_; clear n0_ n1_; (try clear hb); (try clear hb2); (try clear hk); (try clear hi)) | ((with_reducible refine gate_callee (f := 8) rfl ?_); refine goesL_ (some 21) rfl rfl Tryd.func8 (by kernel_rfl) rfl #[.int .i64 68, .agg #[.int .i64 t492, .int .u64 t493, .string t494, .int .i64 t495], .agg #[.int .i64 t496, .int .u64 t497, .string t498, .int .i64 t499]] rfl (by (try simp only [List.map_toArray, List.map_cons, List.map_nil]); first | done | rfl | (simp only [List.length_drop, List.length_take]; rfl)) ?_; (with_reducible refine (value_Binary.calls k 68 t492 t493 t494 t495 t496 t497 t498 t499 t500 t501 t502 t503 t504 _ ?hTT_ A6.out).mono ?_); (case hTT_ => exact tb_below HTT_.out (by repeat (first | (with_reducible first | exact HB.out | apply bA_ | apply bN_ | apply bD_ | refine bS_ ?_ GE491.out) | exact HB.out))); rintro e w20 ⟨rfl, hb⟩; refine ⟨_, rfl, ?_⟩; have n0_ := Aside0.mk (blk_below (g := gb491) (o := .cells #[.int .i64 t486, .int .u64 t487, .string t488, .int .i64 t489] 24 (0, 0)) (by (with_reducible repeat (first | apply kN_ | apply kD_ | apply kA_)); exact BK491.out) hb); have n1_ := Aside0.mk (below_step (by repeat (first | (with_reducible first | exact HB.out | apply bA_ | apply bN_ | apply bD_ | refine bS_ ?_ GE491.out) | exact HB.out)) hb); clear BK491; clear HB; have BK491 := n0_; have HB := n1_; clear n0_ n1_; (try clear hb); (try clear hb2); (try clear hk); (try clear hi)) | ((with_reducible refine gate_dst (N := 5) rfl ?_); refine box_event ?hg (N := 5) ?hd (cs := #[.int .i64 0, .int .u64 0, .string (⟨#[]⟩ : ByteArray), .int .i64 0]) (t := 24) ?hr ?_; (case hd => rfl); (case hg => rfl); (case hr => first | (go_simp; done) | (go_simp; rfl)); intro gb505 hg w21 hbox hb; have n0_ := Aside0.mk (blk_below (g := gb491) (o := .cells #[.int .i64 t486, .int .u64 t487, .string t488, .int .i64 t489] 24 (0, 0)) (by (with_reducible repeat (first | apply kN_ | apply kD_ | apply kA_)); exact BK491.out) hb); have n1_ := Aside0.mk (below_step (by repeat (first | (with_reducible first | exact HB.out | apply bA_ | apply bN_ | apply bD_ | refine bS_ ?_ GE491.out) | exact HB.out)) hb); have n2_ := Aside0.mk (hbox); have n3_ := Aside0.mk ((by rw [hg]; exact (below_size (by repeat (first | (with_reducible first | exact HB.out | apply bA_ | apply bN_ | apply bD_ | refine bS_ ?_ GE491.out) | exact HB.out))) : w.heap.size ≤ gb505)); have n4_ := Aside0.mk ((by rw [hg]; exact (below_size (by repeat (first | (with_reducible first | exact HB.out | apply bA_ | apply bN_ | apply bD_ | refine bS_ ?_ GE491.out) | exact HB.out))) : w.heap.size ≤ gb505)); have n5_ := Aside0.mk ((by rw [hg]; exact Nat.ne_of_lt (blk_lt (g := gb491) (o := .cells #[.int .i64 t486, .int .u64 t487, .string t488, .int .i64 t489] 24 (0, 0)) (by (with_reducible repeat (first | apply kN_ | apply kD_ | apply kA_)); exact BK491.out)) : gb491 ≠ gb505)); have n6_ := Aside0.mk ((by rw [hg]; exact Nat.ne_of_gt (blk_lt (g := gb491) (o := .cells #[.int .i64 t486, .int .u64 t487, .string t488, .int .i64 t489] 24 (0, 0)) (by (with_reducible repeat (first | apply kN_ | apply kD_ | apply kA_)); exact BK491.out)) : gb505 ≠ gb491)); clear BK491; clear HB; have BK491 := n0_; have HB := n1_; have BK505 := n2_; have GW505 := n3_; have GE505 := n4_; have NB491_505 := n5_; have NB505_491 := n6_; clear n0_ n1_ n2_ n3_ n4_ n5_ n6_; clear hb hbox hg; have hnb22 := NB505_491.out; have hnc22 := NB491_505.out; obtain ⟨hcz23_0, hcz23_1, hcz23_2, hcz23_3⟩ := cells4_ BK505.out; obtain ⟨hfz23_0, hfz23_1, hfz23_2, hfz23_3⟩ := froz4_ BK505.out))
      have n0_ : Aside0 (((((w21.setCell ⟨gb505, 0, none⟩ (.int .i64 t500)).setCell ⟨gb505, 1, none⟩ (.int .u64 t501)).setCell ⟨gb505, 2, none⟩ (.string t502)).setCell ⟨gb505, 3, none⟩ (.int .i64 t503)).heap[gb491]? = some (.cells #[.int .i64 t486, .int .u64 t487, .string t488, .int .i64 t489] 24 (0, 0))) := ⟨by (with_reducible repeat (first | apply kN_ | apply kD_ | apply kA_)); refine blk_far ?_ NB491_505.out _; (with_reducible repeat (first | apply kN_ | apply kD_ | apply kA_)); refine blk_far ?_ NB491_505.out _; (with_reducible repeat (first | apply kN_ | apply kD_ | apply kA_)); refine blk_far ?_ NB491_505.out _; (with_reducible repeat (first | apply kN_ | apply kD_ | apply kA_)); refine blk_far ?_ NB491_505.out _; (with_reducible repeat (first | apply kN_ | apply kD_ | apply kA_)); exact BK491.out⟩
      have n1_ : Aside0 (((((w21.setCell ⟨gb505, 0, none⟩ (.int .i64 t500)).setCell ⟨gb505, 1, none⟩ (.int .u64 t501)).setCell ⟨gb505, 2, none⟩ (.string t502)).setCell ⟨gb505, 3, none⟩ (.int .i64 t503)).heap[gb505]? = some (.cells #[.int .i64 t500, .int .u64 t501, .string t502, .int .i64 t503] 24 (0, 0))) := ⟨by (with_reducible repeat (first | apply kN_ | apply kD_ | apply kA_)); refine blk_put (cs := #[.int .i64 t500, .int .u64 t501, .string t502, .int .i64 0]) ?_ 3 _ rfl; (with_reducible repeat (first | apply kN_ | apply kD_ | apply kA_)); refine blk_put (cs := #[.int .i64 t500, .int .u64 t501, .string (⟨#[]⟩ : ByteArray), .int .i64 0]) ?_ 2 _ rfl; (with_reducible repeat (first | apply kN_ | apply kD_ | apply kA_)); refine blk_put (cs := #[.int .i64 t500, .int .u64 0, .string (⟨#[]⟩ : ByteArray), .int .i64 0]) ?_ 1 _ rfl; (with_reducible repeat (first | apply kN_ | apply kD_ | apply kA_)); refine blk_put (cs := #[.int .i64 0, .int .u64 0, .string (⟨#[]⟩ : ByteArray), .int .i64 0]) ?_ 0 _ rfl; (with_reducible repeat (first | apply kN_ | apply kD_ | apply kA_)); exact BK505.out⟩
      have n2_ : Aside0 (Below w.heap.size w ((((w21.setCell ⟨gb505, 0, none⟩ (.int .i64 t500)).setCell ⟨gb505, 1, none⟩ (.int .u64 t501)).setCell ⟨gb505, 2, none⟩ (.string t502)).setCell ⟨gb505, 3, none⟩ (.int .i64 t503))) := ⟨by repeat (first | (with_reducible first | exact HB.out | apply bA_ | apply bN_ | apply bD_ | refine bS_ ?_ GE491.out | refine bS_ ?_ GE505.out) | exact HB.out)⟩
      (try clear BK491)
      (try clear BK505)
      (try clear HB)
      generalize ((((w21.setCell ⟨gb505, 0, none⟩ (.int .i64 t500)).setCell ⟨gb505, 1, none⟩ (.int .u64 t501)).setCell ⟨gb505, 2, none⟩ (.string t502)).setCell ⟨gb505, 3, none⟩ (.int .i64 t503)) = w24 at n0_ n1_ n2_ ⊢
      have BK491 := n0_
      have BK505 := n1_
      have HB := n2_
      clear n0_ n1_ n2_
      have n0_ := Aside0.mk (kD_ BK491.out)
      have n1_ := Aside0.mk (kD_ BK505.out)
      have n2_ := Aside0.mk (bD_ HB.out)
      clear BK491
      clear BK505
      clear HB
      have BK491 := n0_
      have BK505 := n1_
      have HB := n2_
      clear n0_ n1_ n2_
      refine start_ (n := 25) (S := fun w' => w'.cell? ⟨gb491, 0, none⟩ = some (.int .i64 t486) ∧ w'.cell? ⟨gb491, 1, none⟩ = some (.int .u64 t487) ∧ w'.cell? ⟨gb491, 2, none⟩ = some (.string t488) ∧ w'.cell? ⟨gb491, 3, none⟩ = some (.int .i64 t489) ∧ w'.cell? ⟨gb505, 0, none⟩ = some (.int .i64 t500) ∧ w'.cell? ⟨gb505, 1, none⟩ = some (.int .u64 t501) ∧ w'.cell? ⟨gb505, 2, none⟩ = some (.string t502) ∧ w'.cell? ⟨gb505, 3, none⟩ = some (.int .i64 t503)) (ds := []) #[false, false, false, false, false, false, false, false, false, false, false, false, false, false, false, false, false, false, false, false, false, false, false, false, false] (by kernel_rfl) rfl rfl ⟨(blk_cell BK491.out 0).trans rfl, (blk_cell BK491.out 1).trans rfl, (blk_cell BK491.out 2).trans rfl, (blk_cell BK491.out 3).trans rfl, (blk_cell BK505.out 0).trans rfl, (blk_cell BK505.out 1).trans rfl, (blk_cell BK505.out 2).trans rfl, (blk_cell BK505.out 3).trans rfl⟩ (fun hHeld => ?_); refine with_tabW platformfwlaw08_awake.tab4 platformfwlaw08_awake.bits4 (fun HT_ HW_ => ?_)
      generalize w24.drew = w25 at BK491 BK505 HB hHeld ⊢
      refine pure_ (i := 0) (N := some 24) (v := ?_) (a' := ?_) (tf 25 1) rfl rfl (any_of HT_.out (by kernel_rfl)) (fun _ _ _ h => h) (Or.inl ⟨by rfl, ?_⟩) ?_ ?_
      rotate_left
      ·intro w'
       go_simp
       with_reducible rfl
      rotate_left
      ·simp only [Act.put, sA_, sB_, sC_, i64_w, i32_w]
       rfl
      refine pure_ (i := 1) (N := some 25) (v := ?_) (a' := ?_) (tf 25 3) rfl rfl (any_of HT_.out (by kernel_rfl)) (fun _ _ _ h => h) (Or.inl ⟨by rfl, ?_⟩) ?_ ?_
      rotate_left
      ·intro w'
       go_simp
       with_reducible rfl
      rotate_left
      ·simp only [Act.put, sA_, sB_, sC_, i64_w, i32_w]
       rfl
      refine pure_ (i := 2) (N := some 26) (v := ?_) (a' := ?_) (tf 25 7) rfl rfl (any_of HT_.out (by kernel_rfl)) (fun _ _ _ h => h) (Or.inl ⟨by rfl, ?_⟩) ?_ ?_
      rotate_left
      ·intro w'
       go_simp
       with_reducible rfl
      rotate_left
      ·simp only [Act.put, sA_, sB_, sC_, i64_w, i32_w]
       rfl
      refine pure_ (i := 3) (N := some 27) (v := ?_) (a' := ?_) (tf 25 15) rfl rfl (any_of HT_.out (by kernel_rfl)) (fun _ _ _ h => h) (Or.inl ⟨by rfl, ?_⟩) ?_ ?_
      rotate_left
      ·intro w'
       go_simp
       with_reducible rfl
      rotate_left
      ·simp only [Act.put, sA_, sB_, sC_, i64_w, i32_w]
       rfl
      refine pure_ (i := 4) (N := some 28) (v := ?_) (a' := ?_) (tf 25 31) rfl rfl (any_of HT_.out (by kernel_rfl)) (fun _ _ _ h => h) (Or.inl ⟨by rfl, ?_⟩) ?_ ?_
      rotate_left
      ·intro w'
       go_simp
       with_reducible rfl
      rotate_left
      ·simp only [Act.put, sA_, sB_, sC_, i64_w, i32_w]
       rfl
      refine pure_ (i := 5) (N := some 29) (v := ?_) (a' := ?_) (tf 25 63) rfl rfl (any_of HT_.out (by kernel_rfl)) (fun _ _ _ h => h) (Or.inl ⟨by rfl, ?_⟩) ?_ ?_
      rotate_left
      ·intro w'
       go_simp
       with_reducible rfl
      rotate_left
      ·simp only [Act.put, sA_, sB_, sC_, i64_w, i32_w]
       rfl
      refine pure_ (i := 6) (N := some 30) (v := ?_) (a' := ?_) (tf 25 127) rfl rfl (any_of HT_.out (by kernel_rfl)) (fun _ _ _ h => h) (Or.inl ⟨by rfl, ?_⟩) ?_ ?_
      rotate_left
      ·intro w'
       go_simp
       with_reducible rfl
      rotate_left
      ·simp only [Act.put, sA_, sB_, sC_, i64_w, i32_w]
       rfl
      refine pure_ (i := 8) (N := some 32) (v := ?_) (a' := ?_) (tf 25 383) rfl rfl (any_of HT_.out (by kernel_rfl)) (fun _ _ _ h => h) (Or.inl ⟨by rfl, ?_⟩) ?_ ?_
      rotate_left
      ·intro w'
       go_simp
       with_reducible rfl
      rotate_left
      ·simp only [Act.put, sA_, sB_, sC_, i64_w, i32_w]
       rfl
      refine take_ (i := 7) (N := some 31) (v := ?_) (a' := ?_) (tf 25 511) rfl rfl (take_ofW HT_.out HW_.out (by kernel_rfl)) (fun _ _ _ h => h) (Or.inl ⟨by rfl, ?_⟩) hHeld ?_ ?_
      rotate_left
      ·rintro w' ⟨s0, s1, s2, s3, s4, s5, s6, s7⟩
       go_simp
       with_reducible rfl
      rotate_left
      ·simp only [Act.put, sA_, sB_, sC_, i64_w, i32_w]
       rfl
      refine pure_ (i := 9) (N := some 33) (v := ?_) (a' := ?_) (tf 25 1023) rfl rfl (any_of HT_.out (by kernel_rfl)) (fun _ _ _ h => h) (Or.inl ⟨by rfl, ?_⟩) ?_ ?_
      rotate_left
      ·intro w'
       go_simp
       with_reducible rfl
      rotate_left
      ·simp only [Act.put, sA_, sB_, sC_, i64_w, i32_w]
       rfl
      refine pure_ (i := 10) (N := some 34) (v := ?_) (a' := ?_) (tf 25 2047) rfl rfl (any_of HT_.out (by kernel_rfl)) (fun _ _ _ h => h) (Or.inl ⟨by rfl, ?_⟩) ?_ ?_
      rotate_left
      ·intro w'
       go_simp
       with_reducible rfl
      rotate_left
      ·simp only [Act.put, sA_, sB_, sC_, i64_w, i32_w]
       rfl
      refine pure_ (i := 11) (N := some 35) (v := ?_) (a' := ?_) (tf 25 4095) rfl rfl (any_of HT_.out (by kernel_rfl)) (fun _ _ _ h => h) (Or.inl ⟨by rfl, ?_⟩) ?_ ?_
      rotate_left
      ·intro w'
       go_simp
       with_reducible rfl
      rotate_left
      ·simp only [Act.put, sA_, sB_, sC_, i64_w, i32_w]
       rfl
      refine pure_ (i := 12) (N := some 36) (v := ?_) (a' := ?_) (tf 25 8191) rfl rfl (any_of HT_.out (by kernel_rfl)) (fun _ _ _ h => h) (Or.inl ⟨by rfl, ?_⟩) ?_ ?_
      rotate_left
      ·intro w'
       go_simp
       with_reducible rfl
      rotate_left
      ·simp only [Act.put, sA_, sB_, sC_, i64_w, i32_w]
       rfl
      refine pure_ (i := 13) (N := some 37) (v := ?_) (a' := ?_) (tf 25 16383) rfl rfl (any_of HT_.out (by kernel_rfl)) (fun _ _ _ h => h) (Or.inl ⟨by rfl, ?_⟩) ?_ ?_
      rotate_left
      ·intro w'
       go_simp
       with_reducible rfl
      rotate_left
      ·simp only [Act.put, sA_, sB_, sC_, i64_w, i32_w]
       rfl
      refine pure_ (i := 14) (N := some 38) (v := ?_) (a' := ?_) (tf 25 32767) rfl rfl (any_of HT_.out (by kernel_rfl)) (fun _ _ _ h => h) (Or.inl ⟨by rfl, ?_⟩) ?_ ?_
      rotate_left
      ·intro w'
       go_simp
       with_reducible rfl
      rotate_left
      ·simp only [Act.put, sA_, sB_, sC_, i64_w, i32_w]
       rfl
      refine pure_ (i := 15) (N := some 39) (v := ?_) (a' := ?_) (tf 25 65535) rfl rfl (any_of HT_.out (by kernel_rfl)) (fun _ _ _ h => h) (Or.inl ⟨by rfl, ?_⟩) ?_ ?_
      rotate_left
      ·intro w'
       go_simp
       with_reducible rfl
      rotate_left
      ·simp only [Act.put, sA_, sB_, sC_, i64_w, i32_w]
       rfl
      refine take_ (i := 16) (N := some 40) (v := ?_) (a' := ?_) (tf 25 131071) rfl rfl (take_ofW HT_.out HW_.out (by kernel_rfl)) (fun _ _ _ h => h) (Or.inl ⟨by rfl, ?_⟩) hHeld ?_ ?_
      rotate_left
      ·rintro w' ⟨s0, s1, s2, s3, s4, s5, s6, s7⟩
       go_simp
       with_reducible rfl
      rotate_left
      ·simp only [Act.put, sA_, sB_, sC_, i64_w, i32_w]
       rfl
      refine one_ (i := 17) (N := some 41) (tf 25 262143) rfl rfl (one_of HT_.out (by kernel_rfl)) (by decide) (fun K hK => ?_)
      refine goes_ Tryd.func19 (by kernel_rfl) rfl #[.int .u64 0] (by rfl) rfl rfl (by (try simp only [List.map_toArray, List.map_cons, List.map_nil]); first | done | rfl | (simp only [List.length_drop, List.length_take]; rfl)) ?_
      with_reducible refine (platformfwref08_Number.calls 0 t506 t507 t508 t509 _ A11.out).mono ?_
      rintro e w26 ⟨rfl, hb⟩
      refine ⟨_, rfl, ?_⟩
      have n0_ := Aside0.mk (blk_below (g := gb491) (o := .cells #[.int .i64 t486, .int .u64 t487, .string t488, .int .i64 t489] 24 (0, 0)) (by (with_reducible repeat (first | apply kN_ | apply kD_ | apply kA_)); exact BK491.out) hb)
      have n1_ := Aside0.mk (blk_below (g := gb505) (o := .cells #[.int .i64 t500, .int .u64 t501, .string t502, .int .i64 t503] 24 (0, 0)) (by (with_reducible repeat (first | apply kN_ | apply kD_ | apply kA_)); exact BK505.out) hb)
      have n2_ := Aside0.mk (below_step (by repeat (first | (with_reducible first | exact HB.out | apply bA_ | apply bN_ | apply bD_ | refine bS_ ?_ GE491.out | refine bS_ ?_ GE505.out) | exact HB.out)) hb)
      clear BK491
      clear BK505
      clear HB
      have BK491 := n0_
      have BK505 := n1_
      have HB := n2_
      clear n0_ n1_ n2_
      (try clear hb)
      (try clear hb2)
      (try clear hk)
      (try clear hi)
      refine hK.out _ _ ⟨(blk_cell BK491.out 0).trans rfl, (blk_cell BK491.out 1).trans rfl, (blk_cell BK491.out 2).trans rfl, (blk_cell BK491.out 3).trans rfl, (blk_cell BK505.out 0).trans rfl, (blk_cell BK505.out 1).trans rfl, (blk_cell BK505.out 2).trans rfl, (blk_cell BK505.out 3).trans rfl⟩ (fun hHeld => ?_)
      clear hK K
      refine norm_ (a' := ?_) ?_ ?_
      rotate_left
      ·show Act.put _ (some 41) _ = _
       simp only [Act.put, sA_, sB_, sC_, i64_w, i32_w]
       rfl
      refine pure_ (i := 18) (N := some 42) (v := ?_) (a' := ?_) (tf 25 524287) rfl rfl (any_of HT_.out (by kernel_rfl)) (fun _ _ _ h => h) (Or.inl ⟨by rfl, ?_⟩) ?_ ?_
      rotate_left
      ·intro w'
       go_simp
       with_reducible rfl
      rotate_left
      ·simp only [Act.put, sA_, sB_, sC_, i64_w, i32_w]
       rfl
      refine pure_ (i := 19) (N := some 43) (v := ?_) (a' := ?_) (tf 25 1048575) rfl rfl (any_of HT_.out (by kernel_rfl)) (fun _ _ _ h => h) (Or.inl ⟨by rfl, ?_⟩) ?_ ?_
      rotate_left
      ·intro w'
       go_simp
       with_reducible rfl
      rotate_left
      ·simp only [Act.put, sA_, sB_, sC_, i64_w, i32_w]
       rfl
      refine pure_ (i := 20) (N := some 44) (v := ?_) (a' := ?_) (tf 25 2097151) rfl rfl (any_of HT_.out (by kernel_rfl)) (fun _ _ _ h => h) (Or.inl ⟨by rfl, ?_⟩) ?_ ?_
      rotate_left
      ·intro w'
       go_simp
       with_reducible rfl
      rotate_left
      ·simp only [Act.put, sA_, sB_, sC_, i64_w, i32_w]
       rfl
      refine pure_ (i := 21) (N := some 45) (v := ?_) (a' := ?_) (tf 25 4194303) rfl rfl (any_of HT_.out (by kernel_rfl)) (fun _ _ _ h => h) (Or.inl ⟨by rfl, ?_⟩) ?_ ?_
      rotate_left
      ·intro w'
       go_simp
       with_reducible rfl
      rotate_left
      ·simp only [Act.put, sA_, sB_, sC_, i64_w, i32_w]
       rfl
      refine pure_ (i := 22) (N := some 46) (v := ?_) (a' := ?_) (tf 25 8388607) rfl rfl (any_of HT_.out (by kernel_rfl)) (fun _ _ _ h => h) (Or.inl ⟨by rfl, ?_⟩) ?_ ?_
      rotate_left
      ·intro w'
       go_simp
       with_reducible rfl
      rotate_left
      ·simp only [Act.put, sA_, sB_, sC_, i64_w, i32_w]
       rfl
      refine pure_ (i := 23) (N := some 47) (v := ?_) (a' := ?_) (tf 25 16777215) rfl rfl (any_of HT_.out (by kernel_rfl)) (fun _ _ _ h => h) (Or.inl ⟨by rfl, ?_⟩) ?_ ?_
      rotate_left
      ·intro w'
       go_simp
       with_reducible rfl
      rotate_left
      ·simp only [Act.put, sA_, sB_, sC_, i64_w, i32_w]
       rfl
      refine pure_ (i := 24) (N := some 0) (v := ?_) (a' := ?_) (tf 25 33554431) rfl rfl (any_of HT_.out (by kernel_rfl)) (fun _ _ _ h => h) (Or.inl ⟨by rfl, ?_⟩) ?_ ?_
      rotate_left
      ·intro w'
       go_simp
       with_reducible rfl
      rotate_left
      ·simp only [Act.put, sA_, sB_, sC_, i64_w, i32_w]
       rfl
      refine done_ (done_of HT_.out (by kernel_rfl)) ?_
      try go_wp2
      go_ret
      exact ⟨by first | rfl | (simp [errW_none, errW_some] <;> rfl) | (simp [*, errW_none, errW_some] <;> rfl), by repeat (first | (with_reducible first | exact HB.out | apply bA_ | apply bN_ | apply bD_ | refine bS_ ?_ GE491.out | refine bS_ ?_ GE505.out) | exact HB.out)⟩
     ·rw [if_neg c12] at H
      have c12b0 : (t500 == t506 && (t501 == t507 && (t502.toList == t508.toList && (t503 == t509)))) = false := by simpa using c12
      (try (have c12b1 : decide (t500 = t506 && (t501 == t507 && (t502.toList == t508.toList && (t503 == t509)))) = false := by simpa using c12))
      (try (have c12b2 : (t500 == t506 && (t501 == t507 && (t502.toList == t508.toList && (t503 == t509)))) = false := by simpa using c12))
      (try (have c12b3 : ¬ (t500 = t506 && (t501 == t507 && (t502.toList == t508.toList && (t503 == t509)))) := by simpa using c12))
      clear c12
      obtain rfl := Option.some.inj H
      exact absurd hr_.out (by simp)
    ·rw [if_neg c10] at H
     have c10b0 : (t490 == 0) = false := beq_eq_false_iff_ne.mpr c10
     have c10b1 : (t490 != 0) = true := bne_iff_ne.mpr c10
     obtain rfl := Option.some.inj H
     exact absurd hr_.out (by simp)
   ·rw [if_neg c9] at H
    have c9b0 : (t486 == 2 && (t487 == 0 && (t488.toList == ([97, 48, 48, 48, 48, 48, 48, 48, 48, 48, 48, 48, 48, 48, 48, 70, 70] : List UInt8) && (t489 == 0)))) = false := by simpa using c9
    (try (have c9b1 : decide (t486 = 2 && (t487 == 0 && (t488.toList == ([97, 48, 48, 48, 48, 48, 48, 48, 48, 48, 48, 48, 48, 48, 48, 70, 70] : List UInt8) && (t489 == 0)))) = false := by simpa using c9))
    (try (have c9b2 : (t486 == 2 && (t487 == 0 && (t488.toList == ([97, 48, 48, 48, 48, 48, 48, 48, 48, 48, 48, 48, 48, 48, 48, 70, 70] : List UInt8) && (t489 == 0)))) = false := by simpa using c9))
    (try (have c9b3 : ¬ (t486 = 2 && (t487 == 0 && (t488.toList == ([97, 48, 48, 48, 48, 48, 48, 48, 48, 48, 48, 48, 48, 48, 48, 70, 70] : List UInt8) && (t489 == 0)))) := by simpa using c9))
    clear c9
    obtain rfl := Option.some.inj H
    exact absurd hr_.out (by simp)
  ·rw [if_neg c8] at H
   have c8b0 : (t481 == 0) = false := beq_eq_false_iff_ne.mpr c8
   have c8b1 : (t481 != 0) = true := bne_iff_ne.mpr c8
   obtain rfl := Option.some.inj H
   exact absurd hr_.out (by simp)
 ·rw [if_neg c7] at H
  have c7b0 : (t480 == 31) = false := beq_eq_false_iff_ne.mpr c7
  have c7b1 : (t480 != 31) = true := bne_iff_ne.mpr c7
  obtain rfl := Option.some.inj H
  exact absurd hr_.out (by simp)

end Go.Proofs.YtdmeglmmihaonaaDoor.PValueBinary
