-- Written by a program of this session's (wip/print_patch.py over the kit's print) out of the translation; Lean checks it.
import Derived.Test.YtdmeglmmihaonaaDoorPValueArithmeticx0
import Derived.Test.YtdmeglmmihaonaaDoorPValueArithmeticx1
import Derived.Test.YtdmeglmmihaonaaDoorPValueArithmeticx2
import Derived.Test.YtdmeglmmihaonaaDoorPValueArithmeticx5
import Derived.Test.YtdmeglmmihaonaaDoorVValueArithmeticExtP
namespace Go.Proofs.YtdmeglmmihaonaaDoor.PValueArithmetic
open Go.RowKit Go.Proofs.YtdmeglmmihaonaaDoor.Ext Go.Proofs.YtdmeglmmihaonaaDoorW.PrintWords Go.Proofs.YtdmeglmmihaonaaDoorW.PrintLast Go.Proofs.YtdmeglmmihaonaaDoorW.PrintMore
attribute [local go_sem] max2_int min2_int max_two min_two max_three min_three max_four min_four   -- for this text's walks alone
set_option linter.unusedVariables false
set_option linter.unusedSimpArgs false

attribute [local go_sem high] eqA24
/-! ### platformfwlaw08_awake: function 12 -/
def platformfwlaw08_awake.f (k : Nat)  : Option (Bool) := (value_Integer.f k 2 0 (⟨#[49, 70, 122]⟩ : ByteArray) 0).bind fun bt285 => ((platformfwref08_Number.f 255).bind fun bt287 => ((value_Binary.f k 75 2 0 (⟨#[97]⟩ : ByteArray) 0 bt287.1 bt287.2.1 bt287.2.2.1 bt287.2.2.2).bind fun bt291 => ((platformfwref08_Number.f 1).bind fun bt297 => ((platformfwref08_Number.f 64).bind fun bt301 => ((value_Binary.f k 68 bt297.1 bt297.2.1 bt297.2.2.1 bt297.2.2.2 bt301.1 bt301.2.1 bt301.2.2.1 bt301.2.2.2).bind fun bt305 => (if bt285.1 = 31 then (if bt285.2 = 0 then (if (bt291.1 == 2 && (bt291.2.1 == 0 && (bt291.2.2.1.toList == ([97, 48, 48, 48, 48, 48, 48, 48, 48, 48, 48, 48, 48, 48, 48, 70, 70] : List UInt8) && (bt291.2.2.2.1 == 0)))) = true then (if bt291.2.2.2.2 = 0 then ((platformfwref08_Number.f 0).bind fun bt311 => (if (bt305.1 == bt311.1 && (bt305.2.1 == bt311.2.1 && (bt305.2.2.1.toList == bt311.2.2.1.toList && (bt305.2.2.2.1 == bt311.2.2.2)))) = true then (some (bt305.2.2.2.2 == 0)) else (some false))) else (some false)) else (some false)) else (some false)) else (some false)))))))
theorem platformfwlaw08_awake.mono : ∀ k, LeO (platformfwlaw08_awake.f k ) (platformfwlaw08_awake.f (k + 1) ) := by
 intro  k
 unfold platformfwlaw08_awake.f
 repeat' first
   | (with_reducible exact value_Binary.mono _ _ _ _ _ _ _ _ _ _)
   | (with_reducible exact value_Integer.mono _ _ _ _ _)
   | (with_reducible exact LeO.refl _)
   | (with_reducible exact LeO.none _)
   | (with_reducible refine LeO.ite ?_ ?_)
   | (with_reducible refine LeO.bind ?_ (fun _ => ?_))
   | exact value_Binary.mono _ _ _ _ _ _ _ _ _ _
   | exact value_Integer.mono _ _ _ _ _
   | exact LeO.none _
   | refine LeO.ite ?_ ?_
   | refine LeO.bind ?_ (fun _ => ?_)
def platformfwlaw08_awake.T4 : Bool × List (List Nat × List Nat) := (true, [([], []), ([0], [0]), ([1], [1]), ([2], [2]), ([3, 2], [2, 3]), ([2, 4], [2, 4]), ([5, 2], [5]), ([6], [6]), ([6], [6]), ([7, 8, 6], [6, 7, 8]), ([6, 9], [6, 9]), ([10, 6], [10]), ([11], [11]), ([12, 11], [11, 12]), ([11, 13], [11, 13]), ([14, 11], [14]), ([15], [15]), ([15, 15], [15]), ([16, 17, 15], [15, 16, 17]), ([15, 18], [15, 18]), ([19, 17], [19]), ([20], [20]), ([21, 20], [20, 21]), ([20, 22], [20, 22]), ([23, 20, 0, 1, 2, 3, 4, 5, 6, 7, 8, 9, 10, 11, 12, 13, 14, 15, 16, 17, 18, 19, 20, 21, 22, 23], [23])])
def platformfwlaw08_awake.B4 : List Nat := [0, 1, 3, 7, 15, 31, 63, 127, 127, 511, 1023, 2047, 4095, 8191, 16383, 32767, 65535, 65535, 262143, 524287, 1048575, 2097151, 4194303, 8388607, 16777215]
theorem platformfwlaw08_awake.tab4 : rtab .any (opsOf Tryd.f12 4) = platformfwlaw08_awake.T4 := by kernel_rfl
theorem platformfwlaw08_awake.bits4 : waitsOk platformfwlaw08_awake.T4.2 platformfwlaw08_awake.B4 = true := by kernel_rfl
set_option maxHeartbeats 8000000 in
set_option maxRecDepth 100000 in
theorem platformfwlaw08_awake.calls (k : Nat)  (r : Bool) (w : World) (hT_ : w.cell? ⟨6, 15, none⟩ = some (.int .u8 4)) (h : platformfwlaw08_awake.f k  = some r) :
  Calls Tryd.prog 12 #[] w fun e w' => e = .returned (.bool r) ∧ Below w.heap.size w w' := by
 have HTT_ := Aside0.mk hT_
 clear hT_
 have hu24 := Tryd.underlying24
 have HB := Aside0.mk (Below.refl w.heap.size w)
 have H : ((value_Integer.f k 2 0 (⟨#[49, 70, 122]⟩ : ByteArray) 0).bind fun bt285 => ((platformfwref08_Number.f 255).bind fun bt287 => ((value_Binary.f k 75 2 0 (⟨#[97]⟩ : ByteArray) 0 bt287.1 bt287.2.1 bt287.2.2.1 bt287.2.2.2).bind fun bt291 => ((platformfwref08_Number.f 1).bind fun bt297 => ((platformfwref08_Number.f 64).bind fun bt301 => ((value_Binary.f k 68 bt297.1 bt297.2.1 bt297.2.2.1 bt297.2.2.2 bt301.1 bt301.2.1 bt301.2.2.1 bt301.2.2.2).bind fun bt305 => (if bt285.1 = 31 then (if bt285.2 = 0 then (if (bt291.1 == 2 && (bt291.2.1 == 0 && (bt291.2.2.1.toList == ([97, 48, 48, 48, 48, 48, 48, 48, 48, 48, 48, 48, 48, 48, 48, 70, 70] : List UInt8) && (bt291.2.2.2.1 == 0)))) = true then (if bt291.2.2.2.2 = 0 then ((platformfwref08_Number.f 0).bind fun bt311 => (if (bt305.1 == bt311.1 && (bt305.2.1 == bt311.2.1 && (bt305.2.2.1.toList == bt311.2.2.1.toList && (bt305.2.2.2.1 == bt311.2.2.2)))) = true then (some (bt305.2.2.2.2 == 0)) else (some false))) else (some false)) else (some false)) else (some false)) else (some false)))))))) = some r := h
 clear h
 replace H := Option.bind_eq_some_iff.mp H
 obtain ⟨⟨t285, t286⟩, A10, H⟩ := H
 replace H : ((platformfwref08_Number.f 255).bind fun bt287 => ((value_Binary.f k 75 2 0 (⟨#[97]⟩ : ByteArray) 0 bt287.1 bt287.2.1 bt287.2.2.1 bt287.2.2.2).bind fun bt291 => ((platformfwref08_Number.f 1).bind fun bt297 => ((platformfwref08_Number.f 64).bind fun bt301 => ((value_Binary.f k 68 bt297.1 bt297.2.1 bt297.2.2.1 bt297.2.2.2 bt301.1 bt301.2.1 bt301.2.2.1 bt301.2.2.2).bind fun bt305 => (if t285 = 31 then (if t286 = 0 then (if (bt291.1 == 2 && (bt291.2.1 == 0 && (bt291.2.2.1.toList == ([97, 48, 48, 48, 48, 48, 48, 48, 48, 48, 48, 48, 48, 48, 48, 70, 70] : List UInt8) && (bt291.2.2.2.1 == 0)))) = true then (if bt291.2.2.2.2 = 0 then ((platformfwref08_Number.f 0).bind fun bt311 => (if (bt305.1 == bt311.1 && (bt305.2.1 == bt311.2.1 && (bt305.2.2.1.toList == bt311.2.2.1.toList && (bt305.2.2.2.1 == bt311.2.2.2)))) = true then (some (bt305.2.2.2.2 == 0)) else (some false))) else (some false)) else (some false)) else (some false)) else (some false))))))) = some r := H
 have A1 := Aside0.mk A10
 clear A10
 replace H := Option.bind_eq_some_iff.mp H
 obtain ⟨⟨t287, t288, t289, t290⟩, A20, H⟩ := H
 replace H : ((value_Binary.f k 75 2 0 (⟨#[97]⟩ : ByteArray) 0 t287 t288 t289 t290).bind fun bt291 => ((platformfwref08_Number.f 1).bind fun bt297 => ((platformfwref08_Number.f 64).bind fun bt301 => ((value_Binary.f k 68 bt297.1 bt297.2.1 bt297.2.2.1 bt297.2.2.2 bt301.1 bt301.2.1 bt301.2.2.1 bt301.2.2.2).bind fun bt305 => (if t285 = 31 then (if t286 = 0 then (if (bt291.1 == 2 && (bt291.2.1 == 0 && (bt291.2.2.1.toList == ([97, 48, 48, 48, 48, 48, 48, 48, 48, 48, 48, 48, 48, 48, 48, 70, 70] : List UInt8) && (bt291.2.2.2.1 == 0)))) = true then (if bt291.2.2.2.2 = 0 then ((platformfwref08_Number.f 0).bind fun bt311 => (if (bt305.1 == bt311.1 && (bt305.2.1 == bt311.2.1 && (bt305.2.2.1.toList == bt311.2.2.1.toList && (bt305.2.2.2.1 == bt311.2.2.2)))) = true then (some (bt305.2.2.2.2 == 0)) else (some false))) else (some false)) else (some false)) else (some false)) else (some false)))))) = some r := H
 have A2 := Aside0.mk A20
 clear A20
 replace H := Option.bind_eq_some_iff.mp H
 obtain ⟨⟨t291, t292, t293, t294, t295⟩, A30, H⟩ := H
 replace H : ((platformfwref08_Number.f 1).bind fun bt297 => ((platformfwref08_Number.f 64).bind fun bt301 => ((value_Binary.f k 68 bt297.1 bt297.2.1 bt297.2.2.1 bt297.2.2.2 bt301.1 bt301.2.1 bt301.2.2.1 bt301.2.2.2).bind fun bt305 => (if t285 = 31 then (if t286 = 0 then (if (t291 == 2 && (t292 == 0 && (t293.toList == ([97, 48, 48, 48, 48, 48, 48, 48, 48, 48, 48, 48, 48, 48, 48, 70, 70] : List UInt8) && (t294 == 0)))) = true then (if t295 = 0 then ((platformfwref08_Number.f 0).bind fun bt311 => (if (bt305.1 == bt311.1 && (bt305.2.1 == bt311.2.1 && (bt305.2.2.1.toList == bt311.2.2.1.toList && (bt305.2.2.2.1 == bt311.2.2.2)))) = true then (some (bt305.2.2.2.2 == 0)) else (some false))) else (some false)) else (some false)) else (some false)) else (some false))))) = some r := H
 have A3 := Aside0.mk A30
 clear A30
 replace H := Option.bind_eq_some_iff.mp H
 obtain ⟨⟨t297, t298, t299, t300⟩, A40, H⟩ := H
 replace H : ((platformfwref08_Number.f 64).bind fun bt301 => ((value_Binary.f k 68 t297 t298 t299 t300 bt301.1 bt301.2.1 bt301.2.2.1 bt301.2.2.2).bind fun bt305 => (if t285 = 31 then (if t286 = 0 then (if (t291 == 2 && (t292 == 0 && (t293.toList == ([97, 48, 48, 48, 48, 48, 48, 48, 48, 48, 48, 48, 48, 48, 48, 70, 70] : List UInt8) && (t294 == 0)))) = true then (if t295 = 0 then ((platformfwref08_Number.f 0).bind fun bt311 => (if (bt305.1 == bt311.1 && (bt305.2.1 == bt311.2.1 && (bt305.2.2.1.toList == bt311.2.2.1.toList && (bt305.2.2.2.1 == bt311.2.2.2)))) = true then (some (bt305.2.2.2.2 == 0)) else (some false))) else (some false)) else (some false)) else (some false)) else (some false)))) = some r := H
 have A4 := Aside0.mk A40
 clear A40
 replace H := Option.bind_eq_some_iff.mp H
 obtain ⟨⟨t301, t302, t303, t304⟩, A50, H⟩ := H
 replace H : ((value_Binary.f k 68 t297 t298 t299 t300 t301 t302 t303 t304).bind fun bt305 => (if t285 = 31 then (if t286 = 0 then (if (t291 == 2 && (t292 == 0 && (t293.toList == ([97, 48, 48, 48, 48, 48, 48, 48, 48, 48, 48, 48, 48, 48, 48, 70, 70] : List UInt8) && (t294 == 0)))) = true then (if t295 = 0 then ((platformfwref08_Number.f 0).bind fun bt311 => (if (bt305.1 == bt311.1 && (bt305.2.1 == bt311.2.1 && (bt305.2.2.1.toList == bt311.2.2.1.toList && (bt305.2.2.2.1 == bt311.2.2.2)))) = true then (some (bt305.2.2.2.2 == 0)) else (some false))) else (some false)) else (some false)) else (some false)) else (some false))) = some r := H
 have A5 := Aside0.mk A50
 clear A50
 replace H := Option.bind_eq_some_iff.mp H
 obtain ⟨⟨t305, t306, t307, t308, t309⟩, A60, H⟩ := H
 replace H : (if t285 = 31 then (if t286 = 0 then (if (t291 == 2 && (t292 == 0 && (t293.toList == ([97, 48, 48, 48, 48, 48, 48, 48, 48, 48, 48, 48, 48, 48, 48, 70, 70] : List UInt8) && (t294 == 0)))) = true then (if t295 = 0 then ((platformfwref08_Number.f 0).bind fun bt311 => (if (t305 == bt311.1 && (t306 == bt311.2.1 && (t307.toList == bt311.2.2.1.toList && (t308 == bt311.2.2.2)))) = true then (some (t309 == 0)) else (some false))) else (some false)) else (some false)) else (some false)) else (some false)) = some r := H
 have A6 := Aside0.mk A60
 clear A60
 by_cases c7 : t285 = 31
 ·rw [if_pos c7] at H
  have c7b0 : (t285 == 31) = true := beq_iff_eq.mpr c7
  have c7b1 : (t285 != 31) = false := bne_eq_false_iff_eq.mpr c7
  clear c7
  by_cases c8 : t286 = 0
  ·rw [if_pos c8] at H
   have c8b0 : (t286 == 0) = true := beq_iff_eq.mpr c8
   have c8b1 : (t286 != 0) = false := bne_eq_false_iff_eq.mpr c8
   clear c8
   by_cases c9 : (t291 == 2 && (t292 == 0 && (t293.toList == ([97, 48, 48, 48, 48, 48, 48, 48, 48, 48, 48, 48, 48, 48, 48, 70, 70] : List UInt8) && (t294 == 0)))) = true
   ·rw [if_pos c9] at H
    have c9b0 : (t291 == 2 && (t292 == 0 && (t293.toList == ([97, 48, 48, 48, 48, 48, 48, 48, 48, 48, 48, 48, 48, 48, 48, 70, 70] : List UInt8) && (t294 == 0)))) = true := c9
    (try (have c9b1 : decide (t291 = 2 && (t292 == 0 && (t293.toList == ([97, 48, 48, 48, 48, 48, 48, 48, 48, 48, 48, 48, 48, 48, 48, 70, 70] : List UInt8) && (t294 == 0)))) = true := by simpa using c9))
    (try (have c9b2 : (t291 == 2 && (t292 == 0 && (t293.toList == ([97, 48, 48, 48, 48, 48, 48, 48, 48, 48, 48, 48, 48, 48, 48, 70, 70] : List UInt8) && (t294 == 0)))) = true := by simpa using c9))
    clear c9
    by_cases c10 : t295 = 0
    ·rw [if_pos c10] at H
     have c10b0 : (t295 == 0) = true := beq_iff_eq.mpr c10
     have c10b1 : (t295 != 0) = false := bne_eq_false_iff_eq.mpr c10
     clear c10
     replace H := Option.bind_eq_some_iff.mp H
     obtain ⟨⟨t311, t312, t313, t314⟩, A110, H⟩ := H
     replace H : (if (t305 == t311 && (t306 == t312 && (t307.toList == t313.toList && (t308 == t314)))) = true then (some (t309 == 0)) else (some false)) = some r := H
     have A11 := Aside0.mk A110
     clear A110
     by_cases c12 : (t305 == t311 && (t306 == t312 && (t307.toList == t313.toList && (t308 == t314)))) = true
     ·rw [if_pos c12] at H
      have c12b0 : (t305 == t311 && (t306 == t312 && (t307.toList == t313.toList && (t308 == t314)))) = true := c12
      (try (have c12b1 : decide (t305 = t311 && (t306 == t312 && (t307.toList == t313.toList && (t308 == t314)))) = true := by simpa using c12))
      (try (have c12b2 : (t305 == t311 && (t306 == t312 && (t307.toList == t313.toList && (t308 == t314)))) = true := by simpa using c12))
      clear c12
      obtain rfl := Option.some.inj H
      go_enter Tryd.func12, Tryd.ntmps12
      try go_wp2_with (first | ((with_reducible refine gate_callee (f := 22) rfl ?_); refine goesL_ (some 9) rfl rfl Tryd.func22 (by kernel_rfl) rfl #[.agg #[.int .i64 2, .int .u64 0, .string (⟨#[49, 70, 122]⟩ : ByteArray), .int .i64 0]] rfl (by (try simp only [List.map_toArray, List.map_cons, List.map_nil]); first | done | rfl | (simp only [List.length_drop, List.length_take]; rfl)) ?_; (with_reducible refine (value_Integer.calls k 2 0 (⟨#[49, 70, 122]⟩ : ByteArray) 0 t285 t286 _ A1.out).mono ?_); rintro e w13 ⟨rfl, hb⟩; refine ⟨_, rfl, ?_⟩; have n0_ := Aside0.mk (below_step (by repeat (first | (with_reducible first | exact HB.out | apply bA_ | apply bN_ | apply bD_) | exact HB.out)) hb); clear HB; have HB := n0_; clear n0_; (try clear hb); (try clear hb2); (try clear hk); (try clear hi)) | ((with_reducible refine gate_callee (f := 19) rfl ?_); refine goesL_ (some 14) rfl rfl Tryd.func19 (by kernel_rfl) rfl #[.int .u64 255] rfl (by (try simp only [List.map_toArray, List.map_cons, List.map_nil]); first | done | rfl | (simp only [List.length_drop, List.length_take]; rfl)) ?_; (with_reducible refine (platformfwref08_Number.calls 255 t287 t288 t289 t290 _ A2.out).mono ?_); rintro e w14 ⟨rfl, hb⟩; refine ⟨_, rfl, ?_⟩; have n0_ := Aside0.mk (below_step (by repeat (first | (with_reducible first | exact HB.out | apply bA_ | apply bN_ | apply bD_) | exact HB.out)) hb); clear HB; have HB := n0_; clear n0_; (try clear hb); (try clear hb2); (try clear hk); (try clear hi)) | ((with_reducible refine gate_callee (f := 8) rfl ?_); refine goesL_ (some 15) rfl rfl Tryd.func8 (by kernel_rfl) rfl #[.int .i64 75, .agg #[.int .i64 2, .int .u64 0, .string (⟨#[97]⟩ : ByteArray), .int .i64 0], .agg #[.int .i64 t287, .int .u64 t288, .string t289, .int .i64 t290]] rfl (by (try simp only [List.map_toArray, List.map_cons, List.map_nil]); first | done | rfl | (simp only [List.length_drop, List.length_take]; rfl)) ?_; (with_reducible refine (value_Binary.calls k 75 2 0 (⟨#[97]⟩ : ByteArray) 0 t287 t288 t289 t290 t291 t292 t293 t294 t295 _ ?hTT_ A3.out).mono ?_); (case hTT_ => exact tb_below HTT_.out (by repeat (first | (with_reducible first | exact HB.out | apply bA_ | apply bN_ | apply bD_) | exact HB.out))); rintro e w15 ⟨rfl, hb⟩; refine ⟨_, rfl, ?_⟩; have n0_ := Aside0.mk (below_step (by repeat (first | (with_reducible first | exact HB.out | apply bA_ | apply bN_ | apply bD_) | exact HB.out)) hb); clear HB; have HB := n0_; clear n0_; (try clear hb); (try clear hb2); (try clear hk); (try clear hi)) | ((with_reducible refine gate_dst (N := 3) rfl ?_); refine box_event ?hg (N := 3) ?hd (cs := #[.int .i64 0, .int .u64 0, .string (⟨#[]⟩ : ByteArray), .int .i64 0]) (t := 24) ?hr ?_; (case hd => rfl); (case hg => rfl); (case hr => first | (go_simp; done) | (go_simp; rfl)); intro gb296 hg w16 hbox hb; have n0_ := Aside0.mk (below_step (by repeat (first | (with_reducible first | exact HB.out | apply bA_ | apply bN_ | apply bD_) | exact HB.out)) hb); have n1_ := Aside0.mk (hbox); have n2_ := Aside0.mk ((by rw [hg]; exact (below_size (by repeat (first | (with_reducible first | exact HB.out | apply bA_ | apply bN_ | apply bD_) | exact HB.out))) : w.heap.size ≤ gb296)); have n3_ := Aside0.mk ((by rw [hg]; exact (below_size (by repeat (first | (with_reducible first | exact HB.out | apply bA_ | apply bN_ | apply bD_) | exact HB.out))) : w.heap.size ≤ gb296)); clear HB; have HB := n0_; have BK296 := n1_; have GW296 := n2_; have GE296 := n3_; clear n0_ n1_ n2_ n3_; clear hb hbox hg; obtain ⟨hcz17_0, hcz17_1, hcz17_2, hcz17_3⟩ := cells4_ BK296.out; obtain ⟨hfz17_0, hfz17_1, hfz17_2, hfz17_3⟩ := froz4_ BK296.out) | ((with_reducible refine gate_callee (f := 19) rfl ?_); refine goesL_ (some 19) rfl rfl Tryd.func19 (by kernel_rfl) rfl #[.int .u64 1] rfl (by (try simp only [List.map_toArray, List.map_cons, List.map_nil]); first | done | rfl | (simp only [List.length_drop, List.length_take]; rfl)) ?_; (with_reducible refine (platformfwref08_Number.calls 1 t297 t298 t299 t300 _ A4.out).mono ?_); rintro e w18 ⟨rfl, hb⟩; refine ⟨_, rfl, ?_⟩; have n0_ := Aside0.mk (blk_below (g := gb296) (o := .cells #[.int .i64 t291, .int .u64 t292, .string t293, .int .i64 t294] 24 (0, 0)) (by (with_reducible repeat (first | apply kN_ | apply kD_ | apply kA_)); refine blk_put (cs := #[.int .i64 t291, .int .u64 t292, .string t293, .int .i64 0]) ?_ 3 _ rfl; (with_reducible repeat (first | apply kN_ | apply kD_ | apply kA_)); refine blk_put (cs := #[.int .i64 t291, .int .u64 t292, .string (⟨#[]⟩ : ByteArray), .int .i64 0]) ?_ 2 _ rfl; (with_reducible repeat (first | apply kN_ | apply kD_ | apply kA_)); refine blk_put (cs := #[.int .i64 t291, .int .u64 0, .string (⟨#[]⟩ : ByteArray), .int .i64 0]) ?_ 1 _ rfl; (with_reducible repeat (first | apply kN_ | apply kD_ | apply kA_)); refine blk_put (cs := #[.int .i64 0, .int .u64 0, .string (⟨#[]⟩ : ByteArray), .int .i64 0]) ?_ 0 _ rfl; (with_reducible repeat (first | apply kN_ | apply kD_ | apply kA_)); exact BK296.out) hb); have n1_ := Aside0.mk (below_step (by repeat (first | (with_reducible first | exact HB.out | apply bA_ | apply bN_ | apply bD_ | refine bS_ ?_ GE296.out) | exact HB.out)) hb); clear BK296; clear HB; have BK296 := n0_; have HB := n1_; clear n0_ n1_; (try clear hb); (try clear hb2); (try clear hk); (try clear hi)) | ((with_reducible refine gate_callee (f := 19) rfl ?_); refine goesL_ (some 20) rfl rfl Tryd.func19 (by kernel_rfl) rfl #[.int .u64 64] rfl (by (try simp only [List.map_toArray, List.map_cons, List.map_nil]); first | done | rfl | (simp only [List.length_drop, List.length_take]; rfl)) ?_; (with_reducible refine (platformfwref08_Number.calls 64 t301 t302 t303 t304 _ A5.out).mono ?_); rintro e w19 ⟨rfl, hb⟩; refine ⟨_, rfl, ?_⟩; have n0_ := Aside0.mk (blk_below (g := gb296) (o := .cells #[.int .i64 t291, .int .u64 t292, .string t293, .int .i64 t294] 24 (0, 0)) (by (with_reducible repeat (first | apply kN_ | apply kD_ | apply kA_)); exact BK296.out) hb); have n1_ := Aside0.mk (below_step (by repeat (first | (with_reducible first | exact HB.out | apply bA_ | apply bN_ | apply bD_ | refine bS_ ?_ GE296.out) | exact HB.out)) hb); clear BK296; clear HB; have BK296 := n0_; have HB := n1_; clear n0_ n1_; (try clear hb); (try clear hb2); (try clear hk); (try clear hi)) | ((with_reducible refine gate_callee (f := 8) rfl ?_); refine goesL_ (some 21) rfl rfl Tryd.func8 (by kernel_rfl) rfl #[.int .i64 68, .agg #[.int .i64 t297, .int .u64 t298, .string t299, .int .i64 t300], .agg #[.int .i64 t301, .int .u64 t302, .string t303, .int .i64 t304]] rfl (by (try simp only [List.map_toArray, List.map_cons, List.map_nil]); first | done | rfl | (simp only [List.length_drop, List.length_take]; rfl)) ?_; (with_reducible refine (value_Binary.calls k 68 t297 t298 t299 t300 t301 t302 t303 t304 t305 t306 t307 t308 t309 _ ?hTT_ A6.out).mono ?_); (case hTT_ => exact tb_below HTT_.out (by repeat (first | (with_reducible first | exact HB.out | apply bA_ | apply bN_ | apply bD_ | refine bS_ ?_ GE296.out) | exact HB.out))); rintro e w20 ⟨rfl, hb⟩; refine ⟨_, rfl, ?_⟩; have n0_ := Aside0.mk (blk_below (g := gb296) (o := .cells #[.int .i64 t291, .int .u64 t292, .string t293, .int .i64 t294] 24 (0, 0)) (by (with_reducible repeat (first | apply kN_ | apply kD_ | apply kA_)); exact BK296.out) hb); have n1_ := Aside0.mk (below_step (by repeat (first | (with_reducible first | exact HB.out | apply bA_ | apply bN_ | apply bD_ | refine bS_ ?_ GE296.out) | exact HB.out)) hb); clear BK296; clear HB; have BK296 := n0_; have HB := n1_; clear n0_ n1_; (try clear hb); (try clear hb2); (try clear hk); (try clear hi)) | ((with_reducible refine gate_dst (N := 5) rfl ?_); refine box_event ?hg (N := 5) ?hd (cs := #[.int .i64 0, .int .u64 0, .string (⟨#[]⟩ : ByteArray), .int .i64 0]) (t := 24) ?hr ?_; (case hd => rfl); (case hg => rfl); (case hr => first | (go_simp; done) | (go_simp; rfl)); intro gb310 hg w21 hbox hb; have n0_ := Aside0.mk (blk_below (g := gb296) (o := .cells #[.int .i64 t291, .int .u64 t292, .string t293, .int .i64 t294] 24 (0, 0)) (by (with_reducible repeat (first | apply kN_ | apply kD_ | apply kA_)); exact BK296.out) hb); have n1_ := Aside0.mk (below_step (by repeat (first | (with_reducible first | exact HB.out | apply bA_ | apply bN_ | apply bD_ | refine bS_ ?_ GE296.out) | exact HB.out)) hb); have n2_ := Aside0.mk (hbox); have n3_ := Aside0.mk ((by rw [hg]; exact (below_size (by repeat (first | (with_reducible first | exact HB.out | apply bA_ | apply bN_ | apply bD_ | refine bS_ ?_ GE296.out) | exact HB.out))) : w.heap.size ≤ gb310)); have n4_ := Aside0.mk ((by rw [hg]; exact (below_size (by repeat (first | (with_reducible first | exact HB.out | apply bA_ | apply bN_ | apply bD_ | refine bS_ ?_ GE296.out) | exact HB.out))) : w.heap.size ≤ gb310)); have n5_ := Aside0.mk ((by rw [hg]; exact Nat.ne_of_lt (blk_lt (g := gb296) (o := .cells #[.int .i64 t291, .int .u64 t292, .string t293, .int .i64 t294] 24 (0, 0)) (by (with_reducible repeat (first | apply kN_ | apply kD_ | apply kA_)); exact BK296.out)) : gb296 ≠ gb310)); have n6_ := Aside0.mk ((by rw [hg]; exact Nat.ne_of_gt (blk_lt (g := gb296) (o := .cells #[.int .i64 t291, .int .u64 t292, .string t293, .int .i64 t294] 24 (0, 0)) (by (with_reducible repeat (first | apply kN_ | apply kD_ | apply kA_)); exact BK296.out)) : gb310 ≠ gb296)); clear BK296; clear HB; have BK296 := n0_; have HB := n1_; have BK310 := n2_; have GW310 := n3_; have GE310 := n4_; have NB296_310 := n5_; have NB310_296 := n6_; clear n0_ n1_ n2_ n3_ n4_ n5_ n6_; clear hb hbox hg; have hnb22 := NB310_296.out; have hnc22 := NB296_310.out; obtain ⟨hcz23_0, hcz23_1, hcz23_2, hcz23_3⟩ := cells4_ BK310.out; obtain ⟨hfz23_0, hfz23_1, hfz23_2, hfz23_3⟩ := froz4_ BK310.out))
      have n0_ : Aside0 (((((w21.setCell ⟨gb310, 0, none⟩ (.int .i64 t305)).setCell ⟨gb310, 1, none⟩ (.int .u64 t306)).setCell ⟨gb310, 2, none⟩ (.string t307)).setCell ⟨gb310, 3, none⟩ (.int .i64 t308)).heap[gb296]? = some (.cells #[.int .i64 t291, .int .u64 t292, .string t293, .int .i64 t294] 24 (0, 0))) := ⟨by (with_reducible repeat (first | apply kN_ | apply kD_ | apply kA_)); refine blk_far ?_ NB296_310.out _; (with_reducible repeat (first | apply kN_ | apply kD_ | apply kA_)); refine blk_far ?_ NB296_310.out _; (with_reducible repeat (first | apply kN_ | apply kD_ | apply kA_)); refine blk_far ?_ NB296_310.out _; (with_reducible repeat (first | apply kN_ | apply kD_ | apply kA_)); refine blk_far ?_ NB296_310.out _; (with_reducible repeat (first | apply kN_ | apply kD_ | apply kA_)); exact BK296.out⟩
      have n1_ : Aside0 (((((w21.setCell ⟨gb310, 0, none⟩ (.int .i64 t305)).setCell ⟨gb310, 1, none⟩ (.int .u64 t306)).setCell ⟨gb310, 2, none⟩ (.string t307)).setCell ⟨gb310, 3, none⟩ (.int .i64 t308)).heap[gb310]? = some (.cells #[.int .i64 t305, .int .u64 t306, .string t307, .int .i64 t308] 24 (0, 0))) := ⟨by (with_reducible repeat (first | apply kN_ | apply kD_ | apply kA_)); refine blk_put (cs := #[.int .i64 t305, .int .u64 t306, .string t307, .int .i64 0]) ?_ 3 _ rfl; (with_reducible repeat (first | apply kN_ | apply kD_ | apply kA_)); refine blk_put (cs := #[.int .i64 t305, .int .u64 t306, .string (⟨#[]⟩ : ByteArray), .int .i64 0]) ?_ 2 _ rfl; (with_reducible repeat (first | apply kN_ | apply kD_ | apply kA_)); refine blk_put (cs := #[.int .i64 t305, .int .u64 0, .string (⟨#[]⟩ : ByteArray), .int .i64 0]) ?_ 1 _ rfl; (with_reducible repeat (first | apply kN_ | apply kD_ | apply kA_)); refine blk_put (cs := #[.int .i64 0, .int .u64 0, .string (⟨#[]⟩ : ByteArray), .int .i64 0]) ?_ 0 _ rfl; (with_reducible repeat (first | apply kN_ | apply kD_ | apply kA_)); exact BK310.out⟩
      have n2_ : Aside0 (Below w.heap.size w ((((w21.setCell ⟨gb310, 0, none⟩ (.int .i64 t305)).setCell ⟨gb310, 1, none⟩ (.int .u64 t306)).setCell ⟨gb310, 2, none⟩ (.string t307)).setCell ⟨gb310, 3, none⟩ (.int .i64 t308))) := ⟨by repeat (first | (with_reducible first | exact HB.out | apply bA_ | apply bN_ | apply bD_ | refine bS_ ?_ GE296.out | refine bS_ ?_ GE310.out) | exact HB.out)⟩
      (try clear BK296)
      (try clear BK310)
      (try clear HB)
      generalize ((((w21.setCell ⟨gb310, 0, none⟩ (.int .i64 t305)).setCell ⟨gb310, 1, none⟩ (.int .u64 t306)).setCell ⟨gb310, 2, none⟩ (.string t307)).setCell ⟨gb310, 3, none⟩ (.int .i64 t308)) = w24 at n0_ n1_ n2_ ⊢
      have BK296 := n0_
      have BK310 := n1_
      have HB := n2_
      clear n0_ n1_ n2_
      have n0_ := Aside0.mk (kD_ BK296.out)
      have n1_ := Aside0.mk (kD_ BK310.out)
      have n2_ := Aside0.mk (bD_ HB.out)
      clear BK296
      clear BK310
      clear HB
      have BK296 := n0_
      have BK310 := n1_
      have HB := n2_
      clear n0_ n1_ n2_
      refine start_ (n := 25) (S := fun w' => w'.cell? ⟨gb296, 0, none⟩ = some (.int .i64 t291) ∧ w'.cell? ⟨gb296, 1, none⟩ = some (.int .u64 t292) ∧ w'.cell? ⟨gb296, 2, none⟩ = some (.string t293) ∧ w'.cell? ⟨gb296, 3, none⟩ = some (.int .i64 t294) ∧ w'.cell? ⟨gb310, 0, none⟩ = some (.int .i64 t305) ∧ w'.cell? ⟨gb310, 1, none⟩ = some (.int .u64 t306) ∧ w'.cell? ⟨gb310, 2, none⟩ = some (.string t307) ∧ w'.cell? ⟨gb310, 3, none⟩ = some (.int .i64 t308)) (ds := []) #[false, false, false, false, false, false, false, false, false, false, false, false, false, false, false, false, false, false, false, false, false, false, false, false, false] (by kernel_rfl) rfl rfl ⟨(blk_cell BK296.out 0).trans rfl, (blk_cell BK296.out 1).trans rfl, (blk_cell BK296.out 2).trans rfl, (blk_cell BK296.out 3).trans rfl, (blk_cell BK310.out 0).trans rfl, (blk_cell BK310.out 1).trans rfl, (blk_cell BK310.out 2).trans rfl, (blk_cell BK310.out 3).trans rfl⟩ (fun hHeld => ?_); refine with_tabW platformfwlaw08_awake.tab4 platformfwlaw08_awake.bits4 (fun HT_ HW_ => ?_)
      generalize w24.drew = w25 at BK296 BK310 HB hHeld ⊢
      refine pure_ (i := 0) (N := some 24) (v := ?_) (a' := ?_) (tf 25 1) rfl rfl (any_of HT_.out (by kernel_rfl)) (fun _ _ _ h => h) (Or.inl ⟨by rfl, ?_⟩) ?_ ?_
      rotate_left
      ·intro w'
       go_simp
       with_reducible rfl
      rotate_left
      ·simp only [Act.put, sA_, sB_, sC_, i64_w, i32_w]
       rfl
      refine pure_ (i := 1) (N := some 25) (v := ?_) (a' := ?_) (tf 25 3) rfl rfl (any_of HT_.out (by kernel_rfl)) (fun _ _ _ h => h) (Or.inl ⟨by rfl, ?_⟩) ?_ ?_
      rotate_left
      ·intro w'
       go_simp
       with_reducible rfl
      rotate_left
      ·simp only [Act.put, sA_, sB_, sC_, i64_w, i32_w]
       rfl
      refine pure_ (i := 2) (N := some 26) (v := ?_) (a' := ?_) (tf 25 7) rfl rfl (any_of HT_.out (by kernel_rfl)) (fun _ _ _ h => h) (Or.inl ⟨by rfl, ?_⟩) ?_ ?_
      rotate_left
      ·intro w'
       go_simp
       with_reducible rfl
      rotate_left
      ·simp only [Act.put, sA_, sB_, sC_, i64_w, i32_w]
       rfl
      refine pure_ (i := 3) (N := some 27) (v := ?_) (a' := ?_) (tf 25 15) rfl rfl (any_of HT_.out (by kernel_rfl)) (fun _ _ _ h => h) (Or.inl ⟨by rfl, ?_⟩) ?_ ?_
      rotate_left
      ·intro w'
       go_simp
       with_reducible rfl
      rotate_left
      ·simp only [Act.put, sA_, sB_, sC_, i64_w, i32_w]
       rfl
      refine pure_ (i := 4) (N := some 28) (v := ?_) (a' := ?_) (tf 25 31) rfl rfl (any_of HT_.out (by kernel_rfl)) (fun _ _ _ h => h) (Or.inl ⟨by rfl, ?_⟩) ?_ ?_
      rotate_left
      ·intro w'
       go_simp
       with_reducible rfl
      rotate_left
      ·simp only [Act.put, sA_, sB_, sC_, i64_w, i32_w]
       rfl
      refine pure_ (i := 5) (N := some 29) (v := ?_) (a' := ?_) (tf 25 63) rfl rfl (any_of HT_.out (by kernel_rfl)) (fun _ _ _ h => h) (Or.inl ⟨by rfl, ?_⟩) ?_ ?_
      rotate_left
      ·intro w'
       go_simp
       with_reducible rfl
      rotate_left
      ·simp only [Act.put, sA_, sB_, sC_, i64_w, i32_w]
       rfl
      refine pure_ (i := 6) (N := some 30) (v := ?_) (a' := ?_) (tf 25 127) rfl rfl (any_of HT_.out (by kernel_rfl)) (fun _ _ _ h => h) (Or.inl ⟨by rfl, ?_⟩) ?_ ?_
      rotate_left
      ·intro w'
       go_simp
       with_reducible rfl
      rotate_left
      ·simp only [Act.put, sA_, sB_, sC_, i64_w, i32_w]
       rfl
      refine pure_ (i := 8) (N := some 32) (v := ?_) (a' := ?_) (tf 25 383) rfl rfl (any_of HT_.out (by kernel_rfl)) (fun _ _ _ h => h) (Or.inl ⟨by rfl, ?_⟩) ?_ ?_
      rotate_left
      ·intro w'
       go_simp
       with_reducible rfl
      rotate_left
      ·simp only [Act.put, sA_, sB_, sC_, i64_w, i32_w]
       rfl
      refine take_ (i := 7) (N := some 31) (v := ?_) (a' := ?_) (tf 25 511) rfl rfl (take_ofW HT_.out HW_.out (by kernel_rfl)) (fun _ _ _ h => h) (Or.inl ⟨by rfl, ?_⟩) hHeld ?_ ?_
      rotate_left
      ·rintro w' ⟨s0, s1, s2, s3, s4, s5, s6, s7⟩
       go_simp
       with_reducible rfl
      rotate_left
      ·simp only [Act.put, sA_, sB_, sC_, i64_w, i32_w]
       rfl
      refine pure_ (i := 9) (N := some 33) (v := ?_) (a' := ?_) (tf 25 1023) rfl rfl (any_of HT_.out (by kernel_rfl)) (fun _ _ _ h => h) (Or.inl ⟨by rfl, ?_⟩) ?_ ?_
      rotate_left
      ·intro w'
       go_simp
       with_reducible rfl
      rotate_left
      ·simp only [Act.put, sA_, sB_, sC_, i64_w, i32_w]
       rfl
      refine pure_ (i := 10) (N := some 34) (v := ?_) (a' := ?_) (tf 25 2047) rfl rfl (any_of HT_.out (by kernel_rfl)) (fun _ _ _ h => h) (Or.inl ⟨by rfl, ?_⟩) ?_ ?_
      rotate_left
      ·intro w'
       go_simp
       with_reducible rfl
      rotate_left
      ·simp only [Act.put, sA_, sB_, sC_, i64_w, i32_w]
       rfl
      refine pure_ (i := 11) (N := some 35) (v := ?_) (a' := ?_) (tf 25 4095) rfl rfl (any_of HT_.out (by kernel_rfl)) (fun _ _ _ h => h) (Or.inl ⟨by rfl, ?_⟩) ?_ ?_
      rotate_left
      ·intro w'
       go_simp
       with_reducible rfl
      rotate_left
      ·simp only [Act.put, sA_, sB_, sC_, i64_w, i32_w]
       rfl
      refine pure_ (i := 12) (N := some 36) (v := ?_) (a' := ?_) (tf 25 8191) rfl rfl (any_of HT_.out (by kernel_rfl)) (fun _ _ _ h => h) (Or.inl ⟨by rfl, ?_⟩) ?_ ?_
      rotate_left
      ·intro w'
       go_simp
       with_reducible rfl
      rotate_left
      ·simp only [Act.put, sA_, sB_, sC_, i64_w, i32_w]
       rfl
      refine pure_ (i := 13) (N := some 37) (v := ?_) (a' := ?_) (tf 25 16383) rfl rfl (any_of HT_.out (by kernel_rfl)) (fun _ _ _ h => h) (Or.inl ⟨by rfl, ?_⟩) ?_ ?_
      rotate_left
      ·intro w'
       go_simp
       with_reducible rfl
      rotate_left
      ·simp only [Act.put, sA_, sB_, sC_, i64_w, i32_w]
       rfl
      refine pure_ (i := 14) (N := some 38) (v := ?_) (a' := ?_) (tf 25 32767) rfl rfl (any_of HT_.out (by kernel_rfl)) (fun _ _ _ h => h) (Or.inl ⟨by rfl, ?_⟩) ?_ ?_
      rotate_left
      ·intro w'
       go_simp
       with_reducible rfl
      rotate_left
      ·simp only [Act.put, sA_, sB_, sC_, i64_w, i32_w]
       rfl
      refine pure_ (i := 15) (N := some 39) (v := ?_) (a' := ?_) (tf 25 65535) rfl rfl (any_of HT_.out (by kernel_rfl)) (fun _ _ _ h => h) (Or.inl ⟨by rfl, ?_⟩) ?_ ?_
      rotate_left
      ·intro w'
       go_simp
       with_reducible rfl
      rotate_left
      ·simp only [Act.put, sA_, sB_, sC_, i64_w, i32_w]
       rfl
      refine take_ (i := 16) (N := some 40) (v := ?_) (a' := ?_) (tf 25 131071) rfl rfl (take_ofW HT_.out HW_.out (by kernel_rfl)) (fun _ _ _ h => h) (Or.inl ⟨by rfl, ?_⟩) hHeld ?_ ?_
      rotate_left
      ·rintro w' ⟨s0, s1, s2, s3, s4, s5, s6, s7⟩
       go_simp
       with_reducible rfl
      rotate_left
      ·simp only [Act.put, sA_, sB_, sC_, i64_w, i32_w]
       rfl
      refine one_ (i := 17) (N := some 41) (tf 25 262143) rfl rfl (one_of HT_.out (by kernel_rfl)) (by decide) (fun K hK => ?_)
      refine goes_ Tryd.func19 (by kernel_rfl) rfl #[.int .u64 0] (by rfl) rfl rfl (by (try simp only [List.map_toArray, List.map_cons, List.map_nil]); first | done | rfl | (simp only [List.length_drop, List.length_take]; rfl)) ?_
      with_reducible refine (platformfwref08_Number.calls 0 t311 t312 t313 t314 _ A11.out).mono ?_
      rintro e w26 ⟨rfl, hb⟩
      refine ⟨_, rfl, ?_⟩
      have n0_ := Aside0.mk (blk_below (g := gb296) (o := .cells #[.int .i64 t291, .int .u64 t292, .string t293, .int .i64 t294] 24 (0, 0)) (by (with_reducible repeat (first | apply kN_ | apply kD_ | apply kA_)); exact BK296.out) hb)
      have n1_ := Aside0.mk (blk_below (g := gb310) (o := .cells #[.int .i64 t305, .int .u64 t306, .string t307, .int .i64 t308] 24 (0, 0)) (by (with_reducible repeat (first | apply kN_ | apply kD_ | apply kA_)); exact BK310.out) hb)
      have n2_ := Aside0.mk (below_step (by repeat (first | (with_reducible first | exact HB.out | apply bA_ | apply bN_ | apply bD_ | refine bS_ ?_ GE296.out | refine bS_ ?_ GE310.out) | exact HB.out)) hb)
      clear BK296
      clear BK310
      clear HB
      have BK296 := n0_
      have BK310 := n1_
      have HB := n2_
      clear n0_ n1_ n2_
      (try clear hb)
      (try clear hb2)
      (try clear hk)
      (try clear hi)
      refine hK.out _ _ ⟨(blk_cell BK296.out 0).trans rfl, (blk_cell BK296.out 1).trans rfl, (blk_cell BK296.out 2).trans rfl, (blk_cell BK296.out 3).trans rfl, (blk_cell BK310.out 0).trans rfl, (blk_cell BK310.out 1).trans rfl, (blk_cell BK310.out 2).trans rfl, (blk_cell BK310.out 3).trans rfl⟩ (fun hHeld => ?_)
      clear hK K
      refine norm_ (a' := ?_) ?_ ?_
      rotate_left
      ·show Act.put _ (some 41) _ = _
       simp only [Act.put, sA_, sB_, sC_, i64_w, i32_w]
       rfl
      refine pure_ (i := 18) (N := some 42) (v := ?_) (a' := ?_) (tf 25 524287) rfl rfl (any_of HT_.out (by kernel_rfl)) (fun _ _ _ h => h) (Or.inl ⟨by rfl, ?_⟩) ?_ ?_
      rotate_left
      ·intro w'
       go_simp
       with_reducible rfl
      rotate_left
      ·simp only [Act.put, sA_, sB_, sC_, i64_w, i32_w]
       rfl
      refine pure_ (i := 19) (N := some 43) (v := ?_) (a' := ?_) (tf 25 1048575) rfl rfl (any_of HT_.out (by kernel_rfl)) (fun _ _ _ h => h) (Or.inl ⟨by rfl, ?_⟩) ?_ ?_
      rotate_left
      ·intro w'
       go_simp
       with_reducible rfl
      rotate_left
      ·simp only [Act.put, sA_, sB_, sC_, i64_w, i32_w]
       rfl
      refine pure_ (i := 20) (N := some 44) (v := ?_) (a' := ?_) (tf 25 2097151) rfl rfl (any_of HT_.out (by kernel_rfl)) (fun _ _ _ h => h) (Or.inl ⟨by rfl, ?_⟩) ?_ ?_
      rotate_left
      ·intro w'
       go_simp
       with_reducible rfl
      rotate_left
      ·simp only [Act.put, sA_, sB_, sC_, i64_w, i32_w]
       rfl
      refine pure_ (i := 21) (N := some 45) (v := ?_) (a' := ?_) (tf 25 4194303) rfl rfl (any_of HT_.out (by kernel_rfl)) (fun _ _ _ h => h) (Or.inl ⟨by rfl, ?_⟩) ?_ ?_
      rotate_left
      ·intro w'
       go_simp
       with_reducible rfl
      rotate_left
      ·simp only [Act.put, sA_, sB_, sC_, i64_w, i32_w]
       rfl
      refine pure_ (i := 22) (N := some 46) (v := ?_) (a' := ?_) (tf 25 8388607) rfl rfl (any_of HT_.out (by kernel_rfl)) (fun _ _ _ h => h) (Or.inl ⟨by rfl, ?_⟩) ?_ ?_
      rotate_left
      ·intro w'
       go_simp
       with_reducible rfl
      rotate_left
      ·simp only [Act.put, sA_, sB_, sC_, i64_w, i32_w]
       rfl
      refine pure_ (i := 23) (N := some 47) (v := ?_) (a' := ?_) (tf 25 16777215) rfl rfl (any_of HT_.out (by kernel_rfl)) (fun _ _ _ h => h) (Or.inl ⟨by rfl, ?_⟩) ?_ ?_
      rotate_left
      ·intro w'
       go_simp
       with_reducible rfl
      rotate_left
      ·simp only [Act.put, sA_, sB_, sC_, i64_w, i32_w]
       rfl
      refine pure_ (i := 24) (N := some 0) (v := ?_) (a' := ?_) (tf 25 33554431) rfl rfl (any_of HT_.out (by kernel_rfl)) (fun _ _ _ h => h) (Or.inl ⟨by rfl, ?_⟩) ?_ ?_
      rotate_left
      ·intro w'
       go_simp
       with_reducible rfl
      rotate_left
      ·simp only [Act.put, sA_, sB_, sC_, i64_w, i32_w]
       rfl
      refine done_ (done_of HT_.out (by kernel_rfl)) ?_
      try go_wp2
      go_ret
      exact ⟨by first | rfl | (simp [errW_none, errW_some] <;> rfl) | (simp [*, errW_none, errW_some] <;> rfl), by repeat (first | (with_reducible first | exact HB.out | apply bA_ | apply bN_ | apply bD_ | refine bS_ ?_ GE296.out | refine bS_ ?_ GE310.out) | exact HB.out)⟩
     ·rw [if_neg c12] at H
      have c12b0 : (t305 == t311 && (t306 == t312 && (t307.toList == t313.toList && (t308 == t314)))) = false := by simpa using c12
      (try (have c12b1 : decide (t305 = t311 && (t306 == t312 && (t307.toList == t313.toList && (t308 == t314)))) = false := by simpa using c12))
      (try (have c12b2 : (t305 == t311 && (t306 == t312 && (t307.toList == t313.toList && (t308 == t314)))) = false := by simpa using c12))
      (try (have c12b3 : ¬ (t305 = t311 && (t306 == t312 && (t307.toList == t313.toList && (t308 == t314)))) := by simpa using c12))
      clear c12
      obtain rfl := Option.some.inj H
      go_enter Tryd.func12, Tryd.ntmps12
      try go_wp2_with (first | ((with_reducible refine gate_callee (f := 22) rfl ?_); refine goesL_ (some 9) rfl rfl Tryd.func22 (by kernel_rfl) rfl #[.agg #[.int .i64 2, .int .u64 0, .string (⟨#[49, 70, 122]⟩ : ByteArray), .int .i64 0]] rfl (by (try simp only [List.map_toArray, List.map_cons, List.map_nil]); first | done | rfl | (simp only [List.length_drop, List.length_take]; rfl)) ?_; (with_reducible refine (value_Integer.calls k 2 0 (⟨#[49, 70, 122]⟩ : ByteArray) 0 t285 t286 _ A1.out).mono ?_); rintro e w27 ⟨rfl, hb⟩; refine ⟨_, rfl, ?_⟩; have n0_ := Aside0.mk (below_step (by repeat (first | (with_reducible first | exact HB.out | apply bA_ | apply bN_ | apply bD_) | exact HB.out)) hb); clear HB; have HB := n0_; clear n0_; (try clear hb); (try clear hb2); (try clear hk); (try clear hi)) | ((with_reducible refine gate_callee (f := 19) rfl ?_); refine goesL_ (some 14) rfl rfl Tryd.func19 (by kernel_rfl) rfl #[.int .u64 255] rfl (by (try simp only [List.map_toArray, List.map_cons, List.map_nil]); first | done | rfl | (simp only [List.length_drop, List.length_take]; rfl)) ?_; (with_reducible refine (platformfwref08_Number.calls 255 t287 t288 t289 t290 _ A2.out).mono ?_); rintro e w28 ⟨rfl, hb⟩; refine ⟨_, rfl, ?_⟩; have n0_ := Aside0.mk (below_step (by repeat (first | (with_reducible first | exact HB.out | apply bA_ | apply bN_ | apply bD_) | exact HB.out)) hb); clear HB; have HB := n0_; clear n0_; (try clear hb); (try clear hb2); (try clear hk); (try clear hi)) | ((with_reducible refine gate_callee (f := 8) rfl ?_); refine goesL_ (some 15) rfl rfl Tryd.func8 (by kernel_rfl) rfl #[.int .i64 75, .agg #[.int .i64 2, .int .u64 0, .string (⟨#[97]⟩ : ByteArray), .int .i64 0], .agg #[.int .i64 t287, .int .u64 t288, .string t289, .int .i64 t290]] rfl (by (try simp only [List.map_toArray, List.map_cons, List.map_nil]); first | done | rfl | (simp only [List.length_drop, List.length_take]; rfl)) ?_; (with_reducible refine (value_Binary.calls k 75 2 0 (⟨#[97]⟩ : ByteArray) 0 t287 t288 t289 t290 t291 t292 t293 t294 t295 _ ?hTT_ A3.out).mono ?_); (case hTT_ => exact tb_below HTT_.out (by repeat (first | (with_reducible first | exact HB.out | apply bA_ | apply bN_ | apply bD_) | exact HB.out))); rintro e w29 ⟨rfl, hb⟩; refine ⟨_, rfl, ?_⟩; have n0_ := Aside0.mk (below_step (by repeat (first | (with_reducible first | exact HB.out | apply bA_ | apply bN_ | apply bD_) | exact HB.out)) hb); clear HB; have HB := n0_; clear n0_; (try clear hb); (try clear hb2); (try clear hk); (try clear hi)) | ((with_reducible refine gate_dst (N := 3) rfl ?_); refine box_event ?hg (N := 3) ?hd (cs := #[.int .i64 0, .int .u64 0, .string (⟨#[]⟩ : ByteArray), .int .i64 0]) (t := 24) ?hr ?_; (case hd => rfl); (case hg => rfl); (case hr => first | (go_simp; done) | (go_simp; rfl)); intro gb296 hg w30 hbox hb; have n0_ := Aside0.mk (below_step (by repeat (first | (with_reducible first | exact HB.out | apply bA_ | apply bN_ | apply bD_) | exact HB.out)) hb); have n1_ := Aside0.mk (hbox); have n2_ := Aside0.mk ((by rw [hg]; exact (below_size (by repeat (first | (with_reducible first | exact HB.out | apply bA_ | apply bN_ | apply bD_) | exact HB.out))) : w.heap.size ≤ gb296)); have n3_ := Aside0.mk ((by rw [hg]; exact (below_size (by repeat (first | (with_reducible first | exact HB.out | apply bA_ | apply bN_ | apply bD_) | exact HB.out))) : w.heap.size ≤ gb296)); clear HB; have HB := n0_; have BK296 := n1_; have GW296 := n2_; have GE296 := n3_; clear n0_ n1_ n2_ n3_; clear hb hbox hg; obtain ⟨hcz31_0, hcz31_1, hcz31_2, hcz31_3⟩ := cells4_ BK296.out; obtain ⟨hfz31_0, hfz31_1, hfz31_2, hfz31_3⟩ := froz4_ BK296.out) | ((with_reducible refine gate_callee (f := 19) rfl ?_); refine goesL_ (some 19) rfl rfl Tryd.func19 (by kernel_rfl) rfl #[.int .u64 1] rfl (by (try simp only [List.map_toArray, List.map_cons, List.map_nil]); first | done | rfl | (simp only [List.length_drop, List.length_take]; rfl)) ?_; (with_reducible refine (platformfwref08_Number.calls 1 t297 t298 t299 t300 _ A4.out).mono ?_); rintro e w32 ⟨rfl, hb⟩; refine ⟨_, rfl, ?_⟩; have n0_ := Aside0.mk (blk_below (g := gb296) (o := .cells #[.int .i64 t291, .int .u64 t292, .string t293, .int .i64 t294] 24 (0, 0)) (by (with_reducible repeat (first | apply kN_ | apply kD_ | apply kA_)); refine blk_put (cs := #[.int .i64 t291, .int .u64 t292, .string t293, .int .i64 0]) ?_ 3 _ rfl; (with_reducible repeat (first | apply kN_ | apply kD_ | apply kA_)); refine blk_put (cs := #[.int .i64 t291, .int .u64 t292, .string (⟨#[]⟩ : ByteArray), .int .i64 0]) ?_ 2 _ rfl; (with_reducible repeat (first | apply kN_ | apply kD_ | apply kA_)); refine blk_put (cs := #[.int .i64 t291, .int .u64 0, .string (⟨#[]⟩ : ByteArray), .int .i64 0]) ?_ 1 _ rfl; (with_reducible repeat (first | apply kN_ | apply kD_ | apply kA_)); refine blk_put (cs := #[.int .i64 0, .int .u64 0, .string (⟨#[]⟩ : ByteArray), .int .i64 0]) ?_ 0 _ rfl; (with_reducible repeat (first | apply kN_ | apply kD_ | apply kA_)); exact BK296.out) hb); have n1_ := Aside0.mk (below_step (by repeat (first | (with_reducible first | exact HB.out | apply bA_ | apply bN_ | apply bD_ | refine bS_ ?_ GE296.out) | exact HB.out)) hb); clear BK296; clear HB; have BK296 := n0_; have HB := n1_; clear n0_ n1_; (try clear hb); (try clear hb2); (try clear hk); (try clear hi)) | ((with_reducible refine gate_callee (f := 19) rfl ?_); refine goesL_ (some 20) rfl rfl Tryd.func19 (by kernel_rfl) rfl #[.int .u64 64] rfl (by (try simp only [List.map_toArray, List.map_cons, List.map_nil]); first | done | rfl | (simp only [List.length_drop, List.length_take]; rfl)) ?_; (with_reducible refine (platformfwref08_Number.calls 64 t301 t302 t303 t304 _ A5.out).mono ?_); rintro e w33 ⟨rfl, hb⟩; refine ⟨_, rfl, ?_⟩; have n0_ := Aside0.mk (blk_below (g := gb296) (o := .cells #[.int .i64 t291, .int .u64 t292, .string t293, .int .i64 t294] 24 (0, 0)) (by (with_reducible repeat (first | apply kN_ | apply kD_ | apply kA_)); exact BK296.out) hb); have n1_ := Aside0.mk (below_step (by repeat (first | (with_reducible first | exact HB.out | apply bA_ | apply bN_ | apply bD_ | refine bS_ ?_ GE296.out) | exact HB.out)) hb); clear BK296; clear HB; have BK296 := n0_; have HB := n1_; clear n0_ n1_; (try clear hb); (try clear hb2); (try clear hk); (try clear hi)) | ((with_reducible refine gate_callee (f := 8) rfl ?_); refine goesL_ (some 21) rfl rfl Tryd.func8 (by kernel_rfl) rfl #[.int .i64 68, .agg #[.int .i64 t297, .int .u64 t298, .string t299, .int .i64 t300], .agg #[.int .i64 t301, .int .u64 t302, .string t303, .int .i64 t304]] rfl (by (try simp only [List.map_toArray, List.map_cons, List.map_nil]); first | done | rfl | (simp only [List.length_drop, List.length_take]; rfl)) ?_; (with_reducible refine (value_Binary.calls k 68 t297 t298 t299 t300 t301 t302 t303 t304 t305 t306 t307 t308 t309 _ ?hTT_ A6.out).mono ?_); (case hTT_ => exact tb_below HTT_.out (by repeat (first | (with_reducible first | exact HB.out | apply bA_ | apply bN_ | apply bD_ | refine bS_ ?_ GE296.out) | exact HB.out))); rintro e w34 ⟨rfl, hb⟩; refine ⟨_, rfl, ?_⟩; have n0_ := Aside0.mk (blk_below (g := gb296) (o := .cells #[.int .i64 t291, .int .u64 t292, .string t293, .int .i64 t294] 24 (0, 0)) (by (with_reducible repeat (first | apply kN_ | apply kD_ | apply kA_)); exact BK296.out) hb); have n1_ := Aside0.mk (below_step (by repeat (first | (with_reducible first | exact HB.out | apply bA_ | apply bN_ | apply bD_ | refine bS_ ?_ GE296.out) | exact HB.out)) hb); clear BK296; clear HB; have BK296 := n0_; have HB := n1_; clear n0_ n1_; (try clear hb); (try clear hb2); (try clear hk); (try clear hi)) | ((with_reducible refine gate_dst (N := 5) rfl ?_); refine box_event ?hg (N := 5) ?hd (cs := #[.int .i64 0, .int .u64 0, .string (⟨#[]⟩ : ByteArray), .int .i64 0]) (t := 24) ?hr ?_; (case hd => rfl); (case hg => rfl); (case hr => first | (go_simp; done) | (go_simp; rfl)); intro gb310 hg w35 hbox hb; have n0_ := Aside0.mk (blk_below (g := gb296) (o := .cells #[.int .i64 t291, .int .u64 t292, .string t293, .int .i64 t294] 24 (0, 0)) (by (with_reducible repeat (first | apply kN_ | apply kD_ | apply kA_)); exact BK296.out) hb); have n1_ := Aside0.mk (below_step (by repeat (first | (with_reducible first | exact HB.out | apply bA_ | apply bN_ | apply bD_ | refine bS_ ?_ GE296.out) | exact HB.out)) hb); have n2_ := Aside0.mk (hbox); have n3_ := Aside0.mk ((by rw [hg]; exact (below_size (by repeat (first | (with_reducible first | exact HB.out | apply bA_ | apply bN_ | apply bD_ | refine bS_ ?_ GE296.out) | exact HB.out))) : w.heap.size ≤ gb310)); have n4_ := Aside0.mk ((by rw [hg]; exact (below_size (by repeat (first | (with_reducible first | exact HB.out | apply bA_ | apply bN_ | apply bD_ | refine bS_ ?_ GE296.out) | exact HB.out))) : w.heap.size ≤ gb310)); have n5_ := Aside0.mk ((by rw [hg]; exact Nat.ne_of_lt (blk_lt (g := gb296) (o := .cells #[.int .i64 t291, .int .u64 t292, .string t293, .int .i64 t294] 24 (0, 0)) (by (with_reducible repeat (first | apply kN_ | apply kD_ | apply kA_)); exact BK296.out)) : gb296 ≠ gb310)); have n6_ := Aside0.mk ((by rw [hg]; exact Nat.ne_of_gt (blk_lt (g := gb296) (o := .cells #[.int .i64 t291, .int .u64 t292, .string t293, .int .i64 t294] 24 (0, 0)) (by (with_reducible repeat (first | apply kN_ | apply kD_ | apply kA_)); exact BK296.out)) : gb310 ≠ gb296)); clear BK296; clear HB; have BK296 := n0_; have HB := n1_; have BK310 := n2_; have GW310 := n3_; have GE310 := n4_; have NB296_310 := n5_; have NB310_296 := n6_; clear n0_ n1_ n2_ n3_ n4_ n5_ n6_; clear hb hbox hg; have hnb36 := NB310_296.out; have hnc36 := NB296_310.out; obtain ⟨hcz37_0, hcz37_1, hcz37_2, hcz37_3⟩ := cells4_ BK310.out; obtain ⟨hfz37_0, hfz37_1, hfz37_2, hfz37_3⟩ := froz4_ BK310.out))
      have n0_ : Aside0 (((((w35.setCell ⟨gb310, 0, none⟩ (.int .i64 t305)).setCell ⟨gb310, 1, none⟩ (.int .u64 t306)).setCell ⟨gb310, 2, none⟩ (.string t307)).setCell ⟨gb310, 3, none⟩ (.int .i64 t308)).heap[gb296]? = some (.cells #[.int .i64 t291, .int .u64 t292, .string t293, .int .i64 t294] 24 (0, 0))) := ⟨by (with_reducible repeat (first | apply kN_ | apply kD_ | apply kA_)); refine blk_far ?_ NB296_310.out _; (with_reducible repeat (first | apply kN_ | apply kD_ | apply kA_)); refine blk_far ?_ NB296_310.out _; (with_reducible repeat (first | apply kN_ | apply kD_ | apply kA_)); refine blk_far ?_ NB296_310.out _; (with_reducible repeat (first | apply kN_ | apply kD_ | apply kA_)); refine blk_far ?_ NB296_310.out _; (with_reducible repeat (first | apply kN_ | apply kD_ | apply kA_)); exact BK296.out⟩
      have n1_ : Aside0 (((((w35.setCell ⟨gb310, 0, none⟩ (.int .i64 t305)).setCell ⟨gb310, 1, none⟩ (.int .u64 t306)).setCell ⟨gb310, 2, none⟩ (.string t307)).setCell ⟨gb310, 3, none⟩ (.int .i64 t308)).heap[gb310]? = some (.cells #[.int .i64 t305, .int .u64 t306, .string t307, .int .i64 t308] 24 (0, 0))) := ⟨by (with_reducible repeat (first | apply kN_ | apply kD_ | apply kA_)); refine blk_put (cs := #[.int .i64 t305, .int .u64 t306, .string t307, .int .i64 0]) ?_ 3 _ rfl; (with_reducible repeat (first | apply kN_ | apply kD_ | apply kA_)); refine blk_put (cs := #[.int .i64 t305, .int .u64 t306, .string (⟨#[]⟩ : ByteArray), .int .i64 0]) ?_ 2 _ rfl; (with_reducible repeat (first | apply kN_ | apply kD_ | apply kA_)); refine blk_put (cs := #[.int .i64 t305, .int .u64 0, .string (⟨#[]⟩ : ByteArray), .int .i64 0]) ?_ 1 _ rfl; (with_reducible repeat (first | apply kN_ | apply kD_ | apply kA_)); refine blk_put (cs := #[.int .i64 0, .int .u64 0, .string (⟨#[]⟩ : ByteArray), .int .i64 0]) ?_ 0 _ rfl; (with_reducible repeat (first | apply kN_ | apply kD_ | apply kA_)); exact BK310.out⟩
      have n2_ : Aside0 (Below w.heap.size w ((((w35.setCell ⟨gb310, 0, none⟩ (.int .i64 t305)).setCell ⟨gb310, 1, none⟩ (.int .u64 t306)).setCell ⟨gb310, 2, none⟩ (.string t307)).setCell ⟨gb310, 3, none⟩ (.int .i64 t308))) := ⟨by repeat (first | (with_reducible first | exact HB.out | apply bA_ | apply bN_ | apply bD_ | refine bS_ ?_ GE296.out | refine bS_ ?_ GE310.out) | exact HB.out)⟩
      (try clear BK296)
      (try clear BK310)
      (try clear HB)
      generalize ((((w35.setCell ⟨gb310, 0, none⟩ (.int .i64 t305)).setCell ⟨gb310, 1, none⟩ (.int .u64 t306)).setCell ⟨gb310, 2, none⟩ (.string t307)).setCell ⟨gb310, 3, none⟩ (.int .i64 t308)) = w38 at n0_ n1_ n2_ ⊢
      have BK296 := n0_
      have BK310 := n1_
      have HB := n2_
      clear n0_ n1_ n2_
      have n0_ := Aside0.mk (kD_ BK296.out)
      have n1_ := Aside0.mk (kD_ BK310.out)
      have n2_ := Aside0.mk (bD_ HB.out)
      clear BK296
      clear BK310
      clear HB
      have BK296 := n0_
      have BK310 := n1_
      have HB := n2_
      clear n0_ n1_ n2_
      refine start_ (n := 25) (S := fun w' => w'.cell? ⟨gb296, 0, none⟩ = some (.int .i64 t291) ∧ w'.cell? ⟨gb296, 1, none⟩ = some (.int .u64 t292) ∧ w'.cell? ⟨gb296, 2, none⟩ = some (.string t293) ∧ w'.cell? ⟨gb296, 3, none⟩ = some (.int .i64 t294) ∧ w'.cell? ⟨gb310, 0, none⟩ = some (.int .i64 t305) ∧ w'.cell? ⟨gb310, 1, none⟩ = some (.int .u64 t306) ∧ w'.cell? ⟨gb310, 2, none⟩ = some (.string t307) ∧ w'.cell? ⟨gb310, 3, none⟩ = some (.int .i64 t308)) (ds := []) #[false, false, false, false, false, false, false, false, false, false, false, false, false, false, false, false, false, false, false, false, false, false, false, false, false] (by kernel_rfl) rfl rfl ⟨(blk_cell BK296.out 0).trans rfl, (blk_cell BK296.out 1).trans rfl, (blk_cell BK296.out 2).trans rfl, (blk_cell BK296.out 3).trans rfl, (blk_cell BK310.out 0).trans rfl, (blk_cell BK310.out 1).trans rfl, (blk_cell BK310.out 2).trans rfl, (blk_cell BK310.out 3).trans rfl⟩ (fun hHeld => ?_); refine with_tabW platformfwlaw08_awake.tab4 platformfwlaw08_awake.bits4 (fun HT_ HW_ => ?_)
      generalize w38.drew = w39 at BK296 BK310 HB hHeld ⊢
      refine pure_ (i := 0) (N := some 24) (v := ?_) (a' := ?_) (tf 25 1) rfl rfl (any_of HT_.out (by kernel_rfl)) (fun _ _ _ h => h) (Or.inl ⟨by rfl, ?_⟩) ?_ ?_
      rotate_left
      ·intro w'
       go_simp
       with_reducible rfl
      rotate_left
      ·simp only [Act.put, sA_, sB_, sC_, i64_w, i32_w]
       rfl
      refine pure_ (i := 1) (N := some 25) (v := ?_) (a' := ?_) (tf 25 3) rfl rfl (any_of HT_.out (by kernel_rfl)) (fun _ _ _ h => h) (Or.inl ⟨by rfl, ?_⟩) ?_ ?_
      rotate_left
      ·intro w'
       go_simp
       with_reducible rfl
      rotate_left
      ·simp only [Act.put, sA_, sB_, sC_, i64_w, i32_w]
       rfl
      refine pure_ (i := 2) (N := some 26) (v := ?_) (a' := ?_) (tf 25 7) rfl rfl (any_of HT_.out (by kernel_rfl)) (fun _ _ _ h => h) (Or.inl ⟨by rfl, ?_⟩) ?_ ?_
      rotate_left
      ·intro w'
       go_simp
       with_reducible rfl
      rotate_left
      ·simp only [Act.put, sA_, sB_, sC_, i64_w, i32_w]
       rfl
      refine pure_ (i := 3) (N := some 27) (v := ?_) (a' := ?_) (tf 25 15) rfl rfl (any_of HT_.out (by kernel_rfl)) (fun _ _ _ h => h) (Or.inl ⟨by rfl, ?_⟩) ?_ ?_
      rotate_left
      ·intro w'
       go_simp
       with_reducible rfl
      rotate_left
      ·simp only [Act.put, sA_, sB_, sC_, i64_w, i32_w]
       rfl
      refine pure_ (i := 4) (N := some 28) (v := ?_) (a' := ?_) (tf 25 31) rfl rfl (any_of HT_.out (by kernel_rfl)) (fun _ _ _ h => h) (Or.inl ⟨by rfl, ?_⟩) ?_ ?_
      rotate_left
      ·intro w'
       go_simp
       with_reducible rfl
      rotate_left
      ·simp only [Act.put, sA_, sB_, sC_, i64_w, i32_w]
       rfl
      refine pure_ (i := 5) (N := some 29) (v := ?_) (a' := ?_) (tf 25 63) rfl rfl (any_of HT_.out (by kernel_rfl)) (fun _ _ _ h => h) (Or.inl ⟨by rfl, ?_⟩) ?_ ?_
      rotate_left
      ·intro w'
       go_simp
       with_reducible rfl
      rotate_left
      ·simp only [Act.put, sA_, sB_, sC_, i64_w, i32_w]
       rfl
      refine pure_ (i := 6) (N := some 30) (v := ?_) (a' := ?_) (tf 25 127) rfl rfl (any_of HT_.out (by kernel_rfl)) (fun _ _ _ h => h) (Or.inl ⟨by rfl, ?_⟩) ?_ ?_
      rotate_left
      ·intro w'
       go_simp
       with_reducible rfl
      rotate_left
      ·simp only [Act.put, sA_, sB_, sC_, i64_w, i32_w]
       rfl
      refine pure_ (i := 8) (N := some 32) (v := ?_) (a' := ?_) (tf 25 383) rfl rfl (any_of HT_.out (by kernel_rfl)) (fun _ _ _ h => h) (Or.inl ⟨by rfl, ?_⟩) ?_ ?_
      rotate_left
      ·intro w'
       go_simp
       with_reducible rfl
      rotate_left
      ·simp only [Act.put, sA_, sB_, sC_, i64_w, i32_w]
       rfl
      refine take_ (i := 7) (N := some 31) (v := ?_) (a' := ?_) (tf 25 511) rfl rfl (take_ofW HT_.out HW_.out (by kernel_rfl)) (fun _ _ _ h => h) (Or.inl ⟨by rfl, ?_⟩) hHeld ?_ ?_
      rotate_left
      ·rintro w' ⟨s0, s1, s2, s3, s4, s5, s6, s7⟩
       go_simp
       with_reducible rfl
      rotate_left
      ·simp only [Act.put, sA_, sB_, sC_, i64_w, i32_w]
       rfl
      refine pure_ (i := 9) (N := some 33) (v := ?_) (a' := ?_) (tf 25 1023) rfl rfl (any_of HT_.out (by kernel_rfl)) (fun _ _ _ h => h) (Or.inl ⟨by rfl, ?_⟩) ?_ ?_
      rotate_left
      ·intro w'
       go_simp
       with_reducible rfl
      rotate_left
      ·simp only [Act.put, sA_, sB_, sC_, i64_w, i32_w]
       rfl
      refine pure_ (i := 10) (N := some 34) (v := ?_) (a' := ?_) (tf 25 2047) rfl rfl (any_of HT_.out (by kernel_rfl)) (fun _ _ _ h => h) (Or.inl ⟨by rfl, ?_⟩) ?_ ?_
      rotate_left
      ·intro w'
       go_simp
       with_reducible rfl
      rotate_left
      ·simp only [Act.put, sA_, sB_, sC_, i64_w, i32_w]
       rfl
      refine pure_ (i := 11) (N := some 35) (v := ?_) (a' := ?_) (tf 25 4095) rfl rfl (any_of HT_.out (by kernel_rfl)) (fun _ _ _ h => h) (Or.inl ⟨by rfl, ?_⟩) ?_ ?_
      rotate_left
      ·intro w'
       go_simp
       with_reducible rfl
      rotate_left
      ·simp only [Act.put, sA_, sB_, sC_, i64_w, i32_w]
       rfl
      refine pure_ (i := 12) (N := some 36) (v := ?_) (a' := ?_) (tf 25 8191) rfl rfl (any_of HT_.out (by kernel_rfl)) (fun _ _ _ h => h) (Or.inl ⟨by rfl, ?_⟩) ?_ ?_
      rotate_left
      ·intro w'
       go_simp
       with_reducible rfl
      rotate_left
      ·simp only [Act.put, sA_, sB_, sC_, i64_w, i32_w]
       rfl
      refine pure_ (i := 13) (N := some 37) (v := ?_) (a' := ?_) (tf 25 16383) rfl rfl (any_of HT_.out (by kernel_rfl)) (fun _ _ _ h => h) (Or.inl ⟨by rfl, ?_⟩) ?_ ?_
      rotate_left
      ·intro w'
       go_simp
       with_reducible rfl
      rotate_left
      ·simp only [Act.put, sA_, sB_, sC_, i64_w, i32_w]
       rfl
      refine pure_ (i := 14) (N := some 38) (v := ?_) (a' := ?_) (tf 25 32767) rfl rfl (any_of HT_.out (by kernel_rfl)) (fun _ _ _ h => h) (Or.inl ⟨by rfl, ?_⟩) ?_ ?_
      rotate_left
      ·intro w'
       go_simp
       with_reducible rfl
      rotate_left
      ·simp only [Act.put, sA_, sB_, sC_, i64_w, i32_w]
       rfl
      refine pure_ (i := 15) (N := some 39) (v := ?_) (a' := ?_) (tf 25 65535) rfl rfl (any_of HT_.out (by kernel_rfl)) (fun _ _ _ h => h) (Or.inl ⟨by rfl, ?_⟩) ?_ ?_
      rotate_left
      ·intro w'
       go_simp
       with_reducible rfl
      rotate_left
      ·simp only [Act.put, sA_, sB_, sC_, i64_w, i32_w]
       rfl
      refine take_ (i := 16) (N := some 40) (v := ?_) (a' := ?_) (tf 25 131071) rfl rfl (take_ofW HT_.out HW_.out (by kernel_rfl)) (fun _ _ _ h => h) (Or.inl ⟨by rfl, ?_⟩) hHeld ?_ ?_
      rotate_left
      ·rintro w' ⟨s0, s1, s2, s3, s4, s5, s6, s7⟩
       go_simp
       with_reducible rfl
      rotate_left
      ·simp only [Act.put, sA_, sB_, sC_, i64_w, i32_w]
       rfl
      refine one_ (i := 17) (N := some 41) (tf 25 262143) rfl rfl (one_of HT_.out (by kernel_rfl)) (by decide) (fun K hK => ?_)
      refine goes_ Tryd.func19 (by kernel_rfl) rfl #[.int .u64 0] (by rfl) rfl rfl (by (try simp only [List.map_toArray, List.map_cons, List.map_nil]); first | done | rfl | (simp only [List.length_drop, List.length_take]; rfl)) ?_
      with_reducible refine (platformfwref08_Number.calls 0 t311 t312 t313 t314 _ A11.out).mono ?_
      rintro e w40 ⟨rfl, hb⟩
      refine ⟨_, rfl, ?_⟩
      have n0_ := Aside0.mk (blk_below (g := gb296) (o := .cells #[.int .i64 t291, .int .u64 t292, .string t293, .int .i64 t294] 24 (0, 0)) (by (with_reducible repeat (first | apply kN_ | apply kD_ | apply kA_)); exact BK296.out) hb)
      have n1_ := Aside0.mk (blk_below (g := gb310) (o := .cells #[.int .i64 t305, .int .u64 t306, .string t307, .int .i64 t308] 24 (0, 0)) (by (with_reducible repeat (first | apply kN_ | apply kD_ | apply kA_)); exact BK310.out) hb)
      have n2_ := Aside0.mk (below_step (by repeat (first | (with_reducible first | exact HB.out | apply bA_ | apply bN_ | apply bD_ | refine bS_ ?_ GE296.out | refine bS_ ?_ GE310.out) | exact HB.out)) hb)
      clear BK296
      clear BK310
      clear HB
      have BK296 := n0_
      have BK310 := n1_
      have HB := n2_
      clear n0_ n1_ n2_
      (try clear hb)
      (try clear hb2)
      (try clear hk)
      (try clear hi)
      refine hK.out _ _ ⟨(blk_cell BK296.out 0).trans rfl, (blk_cell BK296.out 1).trans rfl, (blk_cell BK296.out 2).trans rfl, (blk_cell BK296.out 3).trans rfl, (blk_cell BK310.out 0).trans rfl, (blk_cell BK310.out 1).trans rfl, (blk_cell BK310.out 2).trans rfl, (blk_cell BK310.out 3).trans rfl⟩ (fun hHeld => ?_)
      clear hK K
      refine norm_ (a' := ?_) ?_ ?_
      rotate_left
      ·show Act.put _ (some 41) _ = _
       simp only [Act.put, sA_, sB_, sC_, i64_w, i32_w]
       rfl
      refine pure_ (i := 18) (N := some 42) (v := ?_) (a' := ?_) (tf 25 524287) rfl rfl (any_of HT_.out (by kernel_rfl)) (fun _ _ _ h => h) (Or.inl ⟨by rfl, ?_⟩) ?_ ?_
      rotate_left
      ·intro w'
       go_simp
       with_reducible rfl
      rotate_left
      ·simp only [Act.put, sA_, sB_, sC_, i64_w, i32_w]
       rfl
      refine pure_ (i := 19) (N := some 43) (v := ?_) (a' := ?_) (tf 25 1048575) rfl rfl (any_of HT_.out (by kernel_rfl)) (fun _ _ _ h => h) (Or.inl ⟨by rfl, ?_⟩) ?_ ?_
      rotate_left
      ·intro w'
       go_simp
       with_reducible rfl
      rotate_left
      ·simp only [Act.put, sA_, sB_, sC_, i64_w, i32_w]
       rfl
      refine pure_ (i := 20) (N := some 44) (v := ?_) (a' := ?_) (tf 25 2097151) rfl rfl (any_of HT_.out (by kernel_rfl)) (fun _ _ _ h => h) (Or.inl ⟨by rfl, ?_⟩) ?_ ?_
      rotate_left
      ·intro w'
       go_simp
       with_reducible rfl
      rotate_left
      ·simp only [Act.put, sA_, sB_, sC_, i64_w, i32_w]
       rfl
      refine pure_ (i := 21) (N := some 45) (v := undef) (a' := ?_) (tf 25 4194303) rfl rfl (any_of HT_.out (by kernel_rfl)) (fun _ _ _ h => h) (Or.inr ⟨by rfl, rfl⟩) ?_ ?_
      rotate_left
      ·simp only [Act.put, sA_, sB_, sC_, i64_w, i32_w]
       rfl
      refine pure_ (i := 22) (N := some 46) (v := undef) (a' := ?_) (tf 25 8388607) rfl rfl (any_of HT_.out (by kernel_rfl)) (fun _ _ _ h => h) (Or.inr ⟨by rfl, rfl⟩) ?_ ?_
      rotate_left
      ·simp only [Act.put, sA_, sB_, sC_, i64_w, i32_w]
       rfl
      refine pure_ (i := 23) (N := some 47) (v := ?_) (a' := ?_) (tf 25 16777215) rfl rfl (any_of HT_.out (by kernel_rfl)) (fun _ _ _ h => h) (Or.inl ⟨by rfl, ?_⟩) ?_ ?_
      rotate_left
      ·intro w'
       go_simp
       with_reducible rfl
      rotate_left
      ·simp only [Act.put, sA_, sB_, sC_, i64_w, i32_w]
       rfl
      refine pure_ (i := 24) (N := some 0) (v := ?_) (a' := ?_) (tf 25 33554431) rfl rfl (any_of HT_.out (by kernel_rfl)) (fun _ _ _ h => h) (Or.inl ⟨by rfl, ?_⟩) ?_ ?_
      rotate_left
      ·intro w'
       go_simp
       with_reducible rfl
      rotate_left
      ·simp only [Act.put, sA_, sB_, sC_, i64_w, i32_w]
       rfl
      refine done_ (done_of HT_.out (by kernel_rfl)) ?_
      try go_wp2
      go_ret
      exact ⟨by first | rfl | (simp [errW_none, errW_some] <;> rfl) | (simp [*, errW_none, errW_some] <;> rfl), by repeat (first | (with_reducible first | exact HB.out | apply bA_ | apply bN_ | apply bD_ | refine bS_ ?_ GE296.out | refine bS_ ?_ GE310.out) | exact HB.out)⟩
    ·rw [if_neg c10] at H
     have c10b0 : (t295 == 0) = false := beq_eq_false_iff_ne.mpr c10
     have c10b1 : (t295 != 0) = true := bne_iff_ne.mpr c10
     obtain rfl := Option.some.inj H
     go_enter Tryd.func12, Tryd.ntmps12
     try go_wp2_with (first | ((with_reducible refine gate_callee (f := 22) rfl ?_); refine goesL_ (some 9) rfl rfl Tryd.func22 (by kernel_rfl) rfl #[.agg #[.int .i64 2, .int .u64 0, .string (⟨#[49, 70, 122]⟩ : ByteArray), .int .i64 0]] rfl (by (try simp only [List.map_toArray, List.map_cons, List.map_nil]); first | done | rfl | (simp only [List.length_drop, List.length_take]; rfl)) ?_; (with_reducible refine (value_Integer.calls k 2 0 (⟨#[49, 70, 122]⟩ : ByteArray) 0 t285 t286 _ A1.out).mono ?_); rintro e w41 ⟨rfl, hb⟩; refine ⟨_, rfl, ?_⟩; have n0_ := Aside0.mk (below_step (by repeat (first | (with_reducible first | exact HB.out | apply bA_ | apply bN_ | apply bD_) | exact HB.out)) hb); clear HB; have HB := n0_; clear n0_; (try clear hb); (try clear hb2); (try clear hk); (try clear hi)) | ((with_reducible refine gate_callee (f := 19) rfl ?_); refine goesL_ (some 14) rfl rfl Tryd.func19 (by kernel_rfl) rfl #[.int .u64 255] rfl (by (try simp only [List.map_toArray, List.map_cons, List.map_nil]); first | done | rfl | (simp only [List.length_drop, List.length_take]; rfl)) ?_; (with_reducible refine (platformfwref08_Number.calls 255 t287 t288 t289 t290 _ A2.out).mono ?_); rintro e w42 ⟨rfl, hb⟩; refine ⟨_, rfl, ?_⟩; have n0_ := Aside0.mk (below_step (by repeat (first | (with_reducible first | exact HB.out | apply bA_ | apply bN_ | apply bD_) | exact HB.out)) hb); clear HB; have HB := n0_; clear n0_; (try clear hb); (try clear hb2); (try clear hk); (try clear hi)) | ((with_reducible refine gate_callee (f := 8) rfl ?_); refine goesL_ (some 15) rfl rfl Tryd.func8 (by kernel_rfl) rfl #[.int .i64 75, .agg #[.int .i64 2, .int .u64 0, .string (⟨#[97]⟩ : ByteArray), .int .i64 0], .agg #[.int .i64 t287, .int .u64 t288, .string t289, .int .i64 t290]] rfl (by (try simp only [List.map_toArray, List.map_cons, List.map_nil]); first | done | rfl | (simp only [List.length_drop, List.length_take]; rfl)) ?_; (with_reducible refine (value_Binary.calls k 75 2 0 (⟨#[97]⟩ : ByteArray) 0 t287 t288 t289 t290 t291 t292 t293 t294 t295 _ ?hTT_ A3.out).mono ?_); (case hTT_ => exact tb_below HTT_.out (by repeat (first | (with_reducible first | exact HB.out | apply bA_ | apply bN_ | apply bD_) | exact HB.out))); rintro e w43 ⟨rfl, hb⟩; refine ⟨_, rfl, ?_⟩; have n0_ := Aside0.mk (below_step (by repeat (first | (with_reducible first | exact HB.out | apply bA_ | apply bN_ | apply bD_) | exact HB.out)) hb); clear HB; have HB := n0_; clear n0_; (try clear hb); (try clear hb2); (try clear hk); (try clear hi)) | ((with_reducible refine gate_dst (N := 3) rfl ?_); refine box_event ?hg (N := 3) ?hd (cs := #[.int .i64 0, .int .u64 0, .string (⟨#[]⟩ : ByteArray), .int .i64 0]) (t := 24) ?hr ?_; (case hd => rfl); (case hg => rfl); (case hr => first | (go_simp; done) | (go_simp; rfl)); intro gb296 hg w44 hbox hb; have n0_ := Aside0.mk (below_step (by repeat (first | (with_reducible first | exact HB.out | apply bA_ | apply bN_ | apply bD_) | exact HB.out)) hb); have n1_ := Aside0.mk (hbox); have n2_ := Aside0.mk ((by rw [hg]; exact (below_size (by repeat (first | (with_reducible first | exact HB.out | apply bA_ | apply bN_ | apply bD_) | exact HB.out))) : w.heap.size ≤ gb296)); have n3_ := Aside0.mk ((by rw [hg]; exact (below_size (by repeat (first | (with_reducible first | exact HB.out | apply bA_ | apply bN_ | apply bD_) | exact HB.out))) : w.heap.size ≤ gb296)); clear HB; have HB := n0_; have BK296 := n1_; have GW296 := n2_; have GE296 := n3_; clear n0_ n1_ n2_ n3_; clear hb hbox hg; obtain ⟨hcz45_0, hcz45_1, hcz45_2, hcz45_3⟩ := cells4_ BK296.out; obtain ⟨hfz45_0, hfz45_1, hfz45_2, hfz45_3⟩ := froz4_ BK296.out) | ((with_reducible refine gate_callee (f := 19) rfl ?_); refine goesL_ (some 19) rfl rfl Tryd.func19 (by kernel_rfl) rfl #[.int .u64 1] rfl (by (try simp only [List.map_toArray, List.map_cons, List.map_nil]); first | done | rfl | (simp only [List.length_drop, List.length_take]; rfl)) ?_; (with_reducible refine (platformfwref08_Number.calls 1 t297 t298 t299 t300 _ A4.out).mono ?_); rintro e w46 ⟨rfl, hb⟩; refine ⟨_, rfl, ?_⟩; have n0_ := Aside0.mk (blk_below (g := gb296) (o := .cells #[.int .i64 t291, .int .u64 t292, .string t293, .int .i64 t294] 24 (0, 0)) (by (with_reducible repeat (first | apply kN_ | apply kD_ | apply kA_)); refine blk_put (cs := #[.int .i64 t291, .int .u64 t292, .string t293, .int .i64 0]) ?_ 3 _ rfl; (with_reducible repeat (first | apply kN_ | apply kD_ | apply kA_)); refine blk_put (cs := #[.int .i64 t291, .int .u64 t292, .string (⟨#[]⟩ : ByteArray), .int .i64 0]) ?_ 2 _ rfl; (with_reducible repeat (first | apply kN_ | apply kD_ | apply kA_)); refine blk_put (cs := #[.int .i64 t291, .int .u64 0, .string (⟨#[]⟩ : ByteArray), .int .i64 0]) ?_ 1 _ rfl; (with_reducible repeat (first | apply kN_ | apply kD_ | apply kA_)); refine blk_put (cs := #[.int .i64 0, .int .u64 0, .string (⟨#[]⟩ : ByteArray), .int .i64 0]) ?_ 0 _ rfl; (with_reducible repeat (first | apply kN_ | apply kD_ | apply kA_)); exact BK296.out) hb); have n1_ := Aside0.mk (below_step (by repeat (first | (with_reducible first | exact HB.out | apply bA_ | apply bN_ | apply bD_ | refine bS_ ?_ GE296.out) | exact HB.out)) hb); clear BK296; clear HB; have BK296 := n0_; have HB := n1_; clear n0_ n1_; (try clear hb); (try clear hb2); (try clear hk); (try clear hi)) | ((with_reducible refine gate_callee (f := 19) rfl ?_); refine goesL_ (some 20) rfl rfl Tryd.func19 (by kernel_rfl) rfl #[.int .u64 64] rfl (by (try simp only [List.map_toArray, List.map_cons, List.map_nil]); first | done | rfl | (simp only [List.length_drop, List.length_take]; rfl)) ?_; (with_reducible refine (platformfwref08_Number.calls 64 t301 t302 t303 t304 _ A5.out).mono ?_); rintro e w47 ⟨rfl, hb⟩; refine ⟨_, rfl, ?_⟩; have n0_ := Aside0.mk (blk_below (g := gb296) (o := .cells #[.int .i64 t291, .int .u64 t292, .string t293, .int .i64 t294] 24 (0, 0)) (by (with_reducible repeat (first | apply kN_ | apply kD_ | apply kA_)); exact BK296.out) hb); have n1_ := Aside0.mk (below_step (by repeat (first | (with_reducible first | exact HB.out | apply bA_ | apply bN_ | apply bD_ | refine bS_ ?_ GE296.out) | exact HB.out)) hb); clear BK296; clear HB; have BK296 := n0_; have HB := n1_; clear n0_ n1_; (try clear hb); (try clear hb2); (try clear hk); (try clear hi)) | ((with_reducible refine gate_callee (f := 8) rfl ?_); refine goesL_ (some 21) rfl rfl Tryd.func8 (by kernel_rfl) rfl #[.int .i64 68, .agg #[.int .i64 t297, .int .u64 t298, .string t299, .int .i64 t300], .agg #[.int .i64 t301, .int .u64 t302, .string t303, .int .i64 t304]] rfl (by (try simp only [List.map_toArray, List.map_cons, List.map_nil]); first | done | rfl | (simp only [List.length_drop, List.length_take]; rfl)) ?_; (with_reducible refine (value_Binary.calls k 68 t297 t298 t299 t300 t301 t302 t303 t304 t305 t306 t307 t308 t309 _ ?hTT_ A6.out).mono ?_); (case hTT_ => exact tb_below HTT_.out (by repeat (first | (with_reducible first | exact HB.out | apply bA_ | apply bN_ | apply bD_ | refine bS_ ?_ GE296.out) | exact HB.out))); rintro e w48 ⟨rfl, hb⟩; refine ⟨_, rfl, ?_⟩; have n0_ := Aside0.mk (blk_below (g := gb296) (o := .cells #[.int .i64 t291, .int .u64 t292, .string t293, .int .i64 t294] 24 (0, 0)) (by (with_reducible repeat (first | apply kN_ | apply kD_ | apply kA_)); exact BK296.out) hb); have n1_ := Aside0.mk (below_step (by repeat (first | (with_reducible first | exact HB.out | apply bA_ | apply bN_ | apply bD_ | refine bS_ ?_ GE296.out) | exact HB.out)) hb); clear BK296; clear HB; have BK296 := n0_; have HB := n1_; clear n0_ n1_; (try clear hb); (try clear hb2); (try clear hk); (try clear hi)) | ((with_reducible refine gate_dst (N := 5) rfl ?_); refine box_event ?hg (N := 5) ?hd (cs := #[.int .i64 0, .int .u64 0, .string (⟨#[]⟩ : ByteArray), .int .i64 0]) (t := 24) ?hr ?_; (case hd => rfl); (case hg => rfl); (case hr => first | (go_simp; done) | (go_simp; rfl)); intro gb310 hg w49 hbox hb; have n0_ := Aside0.mk (blk_below (g := gb296) (o := .cells #[.int .i64 t291, .int .u64 t292, .string t293, .int .i64 t294] 24 (0, 0)) (by (with_reducible repeat (first | apply kN_ | apply kD_ | apply kA_)); exact BK296.out) hb); have n1_ := Aside0.mk (below_step (by repeat (first | (with_reducible first | exact HB.out | apply bA_ | apply bN_ | apply bD_ | refine bS_ ?_ GE296.out) | exact HB.out)) hb); have n2_ := Aside0.mk (hbox); have n3_ := Aside0.mk ((by rw [hg]; exact (below_size (by repeat (first | (with_reducible first | exact HB.out | apply bA_ | apply bN_ | apply bD_ | refine bS_ ?_ GE296.out) | exact HB.out))) : w.heap.size ≤ gb310)); have n4_ := Aside0.mk ((by rw [hg]; exact (below_size (by repeat (first | (with_reducible first | exact HB.out | apply bA_ | apply bN_ | apply bD_ | refine bS_ ?_ GE296.out) | exact HB.out))) : w.heap.size ≤ gb310)); have n5_ := Aside0.mk ((by rw [hg]; exact Nat.ne_of_lt (blk_lt (g := gb296) (o := .cells #[.int .i64 t291, .int .u64 t292, .string t293, .int .i64 t294] 24 (0, 0)) (by (with_reducible repeat (first | apply kN_ | apply kD_ | apply kA_)); exact BK296.out)) : gb296 ≠ gb310)); have n6_ := Aside0.mk ((by rw [hg]; exact Nat.ne_of_gt (blk_lt (g := gb296) (o := .cells #[.int .i64 t291, .int .u64 t292, .string t293, .int .i64 t294] 24 (0, 0)) (by (with_reducible repeat (first | apply kN_ | apply kD_ | apply kA_)); exact BK296.out)) : gb310 ≠ gb296)); clear BK296; clear HB; have BK296 := n0_; have HB := n1_; have BK310 := n2_; have GW310 := n3_; have GE310 := n4_; have NB296_310 := n5_; have NB310_296 := n6_; clear n0_ n1_ n2_ n3_ n4_ n5_ n6_; clear hb hbox hg; have hnb50 := NB310_296.out; have hnc50 := NB296_310.out; obtain ⟨hcz51_0, hcz51_1, hcz51_2, hcz51_3⟩ := cells4_ BK310.out; obtain ⟨hfz51_0, hfz51_1, hfz51_2, hfz51_3⟩ := froz4_ BK310.out))
     have n0_ : Aside0 (((((w49.setCell ⟨gb310, 0, none⟩ (.int .i64 t305)).setCell ⟨gb310, 1, none⟩ (.int .u64 t306)).setCell ⟨gb310, 2, none⟩ (.string t307)).setCell ⟨gb310, 3, none⟩ (.int .i64 t308)).heap[gb296]? = some (.cells #[.int .i64 t291, .int .u64 t292, .string t293, .int .i64 t294] 24 (0, 0))) := ⟨by (with_reducible repeat (first | apply kN_ | apply kD_ | apply kA_)); refine blk_far ?_ NB296_310.out _; (with_reducible repeat (first | apply kN_ | apply kD_ | apply kA_)); refine blk_far ?_ NB296_310.out _; (with_reducible repeat (first | apply kN_ | apply kD_ | apply kA_)); refine blk_far ?_ NB296_310.out _; (with_reducible repeat (first | apply kN_ | apply kD_ | apply kA_)); refine blk_far ?_ NB296_310.out _; (with_reducible repeat (first | apply kN_ | apply kD_ | apply kA_)); exact BK296.out⟩
     have n1_ : Aside0 (((((w49.setCell ⟨gb310, 0, none⟩ (.int .i64 t305)).setCell ⟨gb310, 1, none⟩ (.int .u64 t306)).setCell ⟨gb310, 2, none⟩ (.string t307)).setCell ⟨gb310, 3, none⟩ (.int .i64 t308)).heap[gb310]? = some (.cells #[.int .i64 t305, .int .u64 t306, .string t307, .int .i64 t308] 24 (0, 0))) := ⟨by (with_reducible repeat (first | apply kN_ | apply kD_ | apply kA_)); refine blk_put (cs := #[.int .i64 t305, .int .u64 t306, .string t307, .int .i64 0]) ?_ 3 _ rfl; (with_reducible repeat (first | apply kN_ | apply kD_ | apply kA_)); refine blk_put (cs := #[.int .i64 t305, .int .u64 t306, .string (⟨#[]⟩ : ByteArray), .int .i64 0]) ?_ 2 _ rfl; (with_reducible repeat (first | apply kN_ | apply kD_ | apply kA_)); refine blk_put (cs := #[.int .i64 t305, .int .u64 0, .string (⟨#[]⟩ : ByteArray), .int .i64 0]) ?_ 1 _ rfl; (with_reducible repeat (first | apply kN_ | apply kD_ | apply kA_)); refine blk_put (cs := #[.int .i64 0, .int .u64 0, .string (⟨#[]⟩ : ByteArray), .int .i64 0]) ?_ 0 _ rfl; (with_reducible repeat (first | apply kN_ | apply kD_ | apply kA_)); exact BK310.out⟩
     have n2_ : Aside0 (Below w.heap.size w ((((w49.setCell ⟨gb310, 0, none⟩ (.int .i64 t305)).setCell ⟨gb310, 1, none⟩ (.int .u64 t306)).setCell ⟨gb310, 2, none⟩ (.string t307)).setCell ⟨gb310, 3, none⟩ (.int .i64 t308))) := ⟨by repeat (first | (with_reducible first | exact HB.out | apply bA_ | apply bN_ | apply bD_ | refine bS_ ?_ GE296.out | refine bS_ ?_ GE310.out) | exact HB.out)⟩
     (try clear BK296)
     (try clear BK310)
     (try clear HB)
     generalize ((((w49.setCell ⟨gb310, 0, none⟩ (.int .i64 t305)).setCell ⟨gb310, 1, none⟩ (.int .u64 t306)).setCell ⟨gb310, 2, none⟩ (.string t307)).setCell ⟨gb310, 3, none⟩ (.int .i64 t308)) = w52 at n0_ n1_ n2_ ⊢
     have BK296 := n0_
     have BK310 := n1_
     have HB := n2_
     clear n0_ n1_ n2_
     have n0_ := Aside0.mk (kD_ BK296.out)
     have n1_ := Aside0.mk (kD_ BK310.out)
     have n2_ := Aside0.mk (bD_ HB.out)
     clear BK296
     clear BK310
     clear HB
     have BK296 := n0_
     have BK310 := n1_
     have HB := n2_
     clear n0_ n1_ n2_
     refine start_ (n := 25) (S := fun w' => w'.cell? ⟨gb296, 0, none⟩ = some (.int .i64 t291) ∧ w'.cell? ⟨gb296, 1, none⟩ = some (.int .u64 t292) ∧ w'.cell? ⟨gb296, 2, none⟩ = some (.string t293) ∧ w'.cell? ⟨gb296, 3, none⟩ = some (.int .i64 t294)) (ds := []) #[false, false, false, false, false, false, false, false, false, false, false, false, false, false, false, false, false, false, false, false, false, false, false, false, false] (by kernel_rfl) rfl rfl (cells4_ BK296.out) (fun hHeld => ?_); refine with_tabW platformfwlaw08_awake.tab4 platformfwlaw08_awake.bits4 (fun HT_ HW_ => ?_)
     generalize w52.drew = w53 at BK296 BK310 HB hHeld ⊢
     refine pure_ (i := 0) (N := some 24) (v := ?_) (a' := ?_) (tf 25 1) rfl rfl (any_of HT_.out (by kernel_rfl)) (fun _ _ _ h => h) (Or.inl ⟨by rfl, ?_⟩) ?_ ?_
     rotate_left
     ·intro w'
      go_simp
      with_reducible rfl
     rotate_left
     ·simp only [Act.put, sA_, sB_, sC_, i64_w, i32_w]
      rfl
     refine pure_ (i := 1) (N := some 25) (v := ?_) (a' := ?_) (tf 25 3) rfl rfl (any_of HT_.out (by kernel_rfl)) (fun _ _ _ h => h) (Or.inl ⟨by rfl, ?_⟩) ?_ ?_
     rotate_left
     ·intro w'
      go_simp
      with_reducible rfl
     rotate_left
     ·simp only [Act.put, sA_, sB_, sC_, i64_w, i32_w]
      rfl
     refine pure_ (i := 2) (N := some 26) (v := ?_) (a' := ?_) (tf 25 7) rfl rfl (any_of HT_.out (by kernel_rfl)) (fun _ _ _ h => h) (Or.inl ⟨by rfl, ?_⟩) ?_ ?_
     rotate_left
     ·intro w'
      go_simp
      with_reducible rfl
     rotate_left
     ·simp only [Act.put, sA_, sB_, sC_, i64_w, i32_w]
      rfl
     refine pure_ (i := 3) (N := some 27) (v := ?_) (a' := ?_) (tf 25 15) rfl rfl (any_of HT_.out (by kernel_rfl)) (fun _ _ _ h => h) (Or.inl ⟨by rfl, ?_⟩) ?_ ?_
     rotate_left
     ·intro w'
      go_simp
      with_reducible rfl
     rotate_left
     ·simp only [Act.put, sA_, sB_, sC_, i64_w, i32_w]
      rfl
     refine pure_ (i := 4) (N := some 28) (v := ?_) (a' := ?_) (tf 25 31) rfl rfl (any_of HT_.out (by kernel_rfl)) (fun _ _ _ h => h) (Or.inl ⟨by rfl, ?_⟩) ?_ ?_
     rotate_left
     ·intro w'
      go_simp
      with_reducible rfl
     rotate_left
     ·simp only [Act.put, sA_, sB_, sC_, i64_w, i32_w]
      rfl
     refine pure_ (i := 5) (N := some 29) (v := ?_) (a' := ?_) (tf 25 63) rfl rfl (any_of HT_.out (by kernel_rfl)) (fun _ _ _ h => h) (Or.inl ⟨by rfl, ?_⟩) ?_ ?_
     rotate_left
     ·intro w'
      go_simp
      with_reducible rfl
     rotate_left
     ·simp only [Act.put, sA_, sB_, sC_, i64_w, i32_w]
      rfl
     refine pure_ (i := 6) (N := some 30) (v := ?_) (a' := ?_) (tf 25 127) rfl rfl (any_of HT_.out (by kernel_rfl)) (fun _ _ _ h => h) (Or.inl ⟨by rfl, ?_⟩) ?_ ?_
     rotate_left
     ·intro w'
      go_simp
      with_reducible rfl
     rotate_left
     ·simp only [Act.put, sA_, sB_, sC_, i64_w, i32_w]
      rfl
     refine pure_ (i := 8) (N := some 32) (v := ?_) (a' := ?_) (tf 25 383) rfl rfl (any_of HT_.out (by kernel_rfl)) (fun _ _ _ h => h) (Or.inl ⟨by rfl, ?_⟩) ?_ ?_
     rotate_left
     ·intro w'
      go_simp
      with_reducible rfl
     rotate_left
     ·simp only [Act.put, sA_, sB_, sC_, i64_w, i32_w]
      rfl
     refine take_ (i := 7) (N := some 31) (v := ?_) (a' := ?_) (tf 25 511) rfl rfl (take_ofW HT_.out HW_.out (by kernel_rfl)) (fun _ _ _ h => h) (Or.inl ⟨by rfl, ?_⟩) hHeld ?_ ?_
     rotate_left
     ·rintro w' ⟨s0, s1, s2, s3⟩
      go_simp
      with_reducible rfl
     rotate_left
     ·simp only [Act.put, sA_, sB_, sC_, i64_w, i32_w]
      rfl
     refine pure_ (i := 9) (N := some 33) (v := ?_) (a' := ?_) (tf 25 1023) rfl rfl (any_of HT_.out (by kernel_rfl)) (fun _ _ _ h => h) (Or.inl ⟨by rfl, ?_⟩) ?_ ?_
     rotate_left
     ·intro w'
      go_simp
      with_reducible rfl
     rotate_left
     ·simp only [Act.put, sA_, sB_, sC_, i64_w, i32_w]
      rfl
     refine pure_ (i := 10) (N := some 34) (v := ?_) (a' := ?_) (tf 25 2047) rfl rfl (any_of HT_.out (by kernel_rfl)) (fun _ _ _ h => h) (Or.inl ⟨by rfl, ?_⟩) ?_ ?_
     rotate_left
     ·intro w'
      go_simp
      with_reducible rfl
     rotate_left
     ·simp only [Act.put, sA_, sB_, sC_, i64_w, i32_w]
      rfl
     refine pure_ (i := 11) (N := some 35) (v := ?_) (a' := ?_) (tf 25 4095) rfl rfl (any_of HT_.out (by kernel_rfl)) (fun _ _ _ h => h) (Or.inl ⟨by rfl, ?_⟩) ?_ ?_
     rotate_left
     ·intro w'
      go_simp
      with_reducible rfl
     rotate_left
     ·simp only [Act.put, sA_, sB_, sC_, i64_w, i32_w]
      rfl
     refine pure_ (i := 12) (N := some 36) (v := ?_) (a' := ?_) (tf 25 8191) rfl rfl (any_of HT_.out (by kernel_rfl)) (fun _ _ _ h => h) (Or.inl ⟨by rfl, ?_⟩) ?_ ?_
     rotate_left
     ·intro w'
      go_simp
      with_reducible rfl
     rotate_left
     ·simp only [Act.put, sA_, sB_, sC_, i64_w, i32_w]
      rfl
     refine pure_ (i := 13) (N := some 37) (v := ?_) (a' := ?_) (tf 25 16383) rfl rfl (any_of HT_.out (by kernel_rfl)) (fun _ _ _ h => h) (Or.inl ⟨by rfl, ?_⟩) ?_ ?_
     rotate_left
     ·intro w'
      go_simp
      with_reducible rfl
     rotate_left
     ·simp only [Act.put, sA_, sB_, sC_, i64_w, i32_w]
      rfl
     refine pure_ (i := 14) (N := some 38) (v := ?_) (a' := ?_) (tf 25 32767) rfl rfl (any_of HT_.out (by kernel_rfl)) (fun _ _ _ h => h) (Or.inl ⟨by rfl, ?_⟩) ?_ ?_
     rotate_left
     ·intro w'
      go_simp
      with_reducible rfl
     rotate_left
     ·simp only [Act.put, sA_, sB_, sC_, i64_w, i32_w]
      rfl
     refine pure_ (i := 15) (N := some 39) (v := ?_) (a' := ?_) (tf 25 65535) rfl rfl (any_of HT_.out (by kernel_rfl)) (fun _ _ _ h => h) (Or.inl ⟨by rfl, ?_⟩) ?_ ?_
     rotate_left
     ·intro w'
      go_simp
      with_reducible rfl
     rotate_left
     ·simp only [Act.put, sA_, sB_, sC_, i64_w, i32_w]
      rfl
     refine pure_ (i := 16) (N := some 40) (v := undef) (a' := ?_) (tf 25 131071) rfl rfl (any_of HT_.out (by kernel_rfl)) (fun _ _ _ h => h) (Or.inr ⟨by rfl, rfl⟩) ?_ ?_
     rotate_left
     ·simp only [Act.put, sA_, sB_, sC_, i64_w, i32_w]
      rfl
     refine pure_ (i := 17) (N := some 41) (v := undef) (a' := ?_) (tf 25 262143) rfl rfl (any_of HT_.out (by kernel_rfl)) (fun _ _ _ h => h) (Or.inr ⟨by rfl, rfl⟩) ?_ ?_
     rotate_left
     ·simp only [Act.put, sA_, sB_, sC_, i64_w, i32_w]
      rfl
     refine pure_ (i := 18) (N := some 42) (v := undef) (a' := ?_) (tf 25 524287) rfl rfl (any_of HT_.out (by kernel_rfl)) (fun _ _ _ h => h) (Or.inr ⟨by rfl, rfl⟩) ?_ ?_
     rotate_left
     ·simp only [Act.put, sA_, sB_, sC_, i64_w, i32_w]
      rfl
     refine pure_ (i := 19) (N := some 43) (v := ?_) (a' := ?_) (tf 25 1048575) rfl rfl (any_of HT_.out (by kernel_rfl)) (fun _ _ _ h => h) (Or.inl ⟨by rfl, ?_⟩) ?_ ?_
     rotate_left
     ·intro w'
      go_simp
      with_reducible rfl
     rotate_left
     ·simp only [Act.put, sA_, sB_, sC_, i64_w, i32_w]
      rfl
     refine pure_ (i := 20) (N := some 44) (v := ?_) (a' := ?_) (tf 25 2097151) rfl rfl (any_of HT_.out (by kernel_rfl)) (fun _ _ _ h => h) (Or.inl ⟨by rfl, ?_⟩) ?_ ?_
     rotate_left
     ·intro w'
      go_simp
      with_reducible rfl
     rotate_left
     ·simp only [Act.put, sA_, sB_, sC_, i64_w, i32_w]
      rfl
     refine pure_ (i := 21) (N := some 45) (v := undef) (a' := ?_) (tf 25 4194303) rfl rfl (any_of HT_.out (by kernel_rfl)) (fun _ _ _ h => h) (Or.inr ⟨by rfl, rfl⟩) ?_ ?_
     rotate_left
     ·simp only [Act.put, sA_, sB_, sC_, i64_w, i32_w]
      rfl
     refine pure_ (i := 22) (N := some 46) (v := undef) (a' := ?_) (tf 25 8388607) rfl rfl (any_of HT_.out (by kernel_rfl)) (fun _ _ _ h => h) (Or.inr ⟨by rfl, rfl⟩) ?_ ?_
     rotate_left
     ·simp only [Act.put, sA_, sB_, sC_, i64_w, i32_w]
      rfl
     refine pure_ (i := 23) (N := some 47) (v := ?_) (a' := ?_) (tf 25 16777215) rfl rfl (any_of HT_.out (by kernel_rfl)) (fun _ _ _ h => h) (Or.inl ⟨by rfl, ?_⟩) ?_ ?_
     rotate_left
     ·intro w'
      go_simp
      with_reducible rfl
     rotate_left
     ·simp only [Act.put, sA_, sB_, sC_, i64_w, i32_w]
      rfl
     refine pure_ (i := 24) (N := some 0) (v := ?_) (a' := ?_) (tf 25 33554431) rfl rfl (any_of HT_.out (by kernel_rfl)) (fun _ _ _ h => h) (Or.inl ⟨by rfl, ?_⟩) ?_ ?_
     rotate_left
     ·intro w'
      go_simp
      with_reducible rfl
     rotate_left
     ·simp only [Act.put, sA_, sB_, sC_, i64_w, i32_w]
      rfl
     refine done_ (done_of HT_.out (by kernel_rfl)) ?_
     try go_wp2
     go_ret
     exact ⟨by first | rfl | (simp [errW_none, errW_some] <;> rfl) | (simp [*, errW_none, errW_some] <;> rfl), by repeat (first | (with_reducible first | exact HB.out | apply bA_ | apply bN_ | apply bD_ | refine bS_ ?_ GE296.out | refine bS_ ?_ GE310.out) | exact HB.out)⟩
   ·rw [if_neg c9] at H
    have c9b0 : (t291 == 2 && (t292 == 0 && (t293.toList == ([97, 48, 48, 48, 48, 48, 48, 48, 48, 48, 48, 48, 48, 48, 48, 70, 70] : List UInt8) && (t294 == 0)))) = false := by simpa using c9
    (try (have c9b1 : decide (t291 = 2 && (t292 == 0 && (t293.toList == ([97, 48, 48, 48, 48, 48, 48, 48, 48, 48, 48, 48, 48, 48, 48, 70, 70] : List UInt8) && (t294 == 0)))) = false := by simpa using c9))
    (try (have c9b2 : (t291 == 2 && (t292 == 0 && (t293.toList == ([97, 48, 48, 48, 48, 48, 48, 48, 48, 48, 48, 48, 48, 48, 48, 70, 70] : List UInt8) && (t294 == 0)))) = false := by simpa using c9))
    (try (have c9b3 : ¬ (t291 = 2 && (t292 == 0 && (t293.toList == ([97, 48, 48, 48, 48, 48, 48, 48, 48, 48, 48, 48, 48, 48, 48, 70, 70] : List UInt8) && (t294 == 0)))) := by simpa using c9))
    clear c9
    obtain rfl := Option.some.inj H
    go_enter Tryd.func12, Tryd.ntmps12
    try go_wp2_with (first | ((with_reducible refine gate_callee (f := 22) rfl ?_); refine goesL_ (some 9) rfl rfl Tryd.func22 (by kernel_rfl) rfl #[.agg #[.int .i64 2, .int .u64 0, .string (⟨#[49, 70, 122]⟩ : ByteArray), .int .i64 0]] rfl (by (try simp only [List.map_toArray, List.map_cons, List.map_nil]); first | done | rfl | (simp only [List.length_drop, List.length_take]; rfl)) ?_; (with_reducible refine (value_Integer.calls k 2 0 (⟨#[49, 70, 122]⟩ : ByteArray) 0 t285 t286 _ A1.out).mono ?_); rintro e w54 ⟨rfl, hb⟩; refine ⟨_, rfl, ?_⟩; have n0_ := Aside0.mk (below_step (by repeat (first | (with_reducible first | exact HB.out | apply bA_ | apply bN_ | apply bD_) | exact HB.out)) hb); clear HB; have HB := n0_; clear n0_; (try clear hb); (try clear hb2); (try clear hk); (try clear hi)) | ((with_reducible refine gate_callee (f := 19) rfl ?_); refine goesL_ (some 14) rfl rfl Tryd.func19 (by kernel_rfl) rfl #[.int .u64 255] rfl (by (try simp only [List.map_toArray, List.map_cons, List.map_nil]); first | done | rfl | (simp only [List.length_drop, List.length_take]; rfl)) ?_; (with_reducible refine (platformfwref08_Number.calls 255 t287 t288 t289 t290 _ A2.out).mono ?_); rintro e w55 ⟨rfl, hb⟩; refine ⟨_, rfl, ?_⟩; have n0_ := Aside0.mk (below_step (by repeat (first | (with_reducible first | exact HB.out | apply bA_ | apply bN_ | apply bD_) | exact HB.out)) hb); clear HB; have HB := n0_; clear n0_; (try clear hb); (try clear hb2); (try clear hk); (try clear hi)) | ((with_reducible refine gate_callee (f := 8) rfl ?_); refine goesL_ (some 15) rfl rfl Tryd.func8 (by kernel_rfl) rfl #[.int .i64 75, .agg #[.int .i64 2, .int .u64 0, .string (⟨#[97]⟩ : ByteArray), .int .i64 0], .agg #[.int .i64 t287, .int .u64 t288, .string t289, .int .i64 t290]] rfl (by (try simp only [List.map_toArray, List.map_cons, List.map_nil]); first | done | rfl | (simp only [List.length_drop, List.length_take]; rfl)) ?_; (with_reducible refine (value_Binary.calls k 75 2 0 (⟨#[97]⟩ : ByteArray) 0 t287 t288 t289 t290 t291 t292 t293 t294 t295 _ ?hTT_ A3.out).mono ?_); (case hTT_ => exact tb_below HTT_.out (by repeat (first | (with_reducible first | exact HB.out | apply bA_ | apply bN_ | apply bD_) | exact HB.out))); rintro e w56 ⟨rfl, hb⟩; refine ⟨_, rfl, ?_⟩; have n0_ := Aside0.mk (below_step (by repeat (first | (with_reducible first | exact HB.out | apply bA_ | apply bN_ | apply bD_) | exact HB.out)) hb); clear HB; have HB := n0_; clear n0_; (try clear hb); (try clear hb2); (try clear hk); (try clear hi)) | ((with_reducible refine gate_dst (N := 3) rfl ?_); refine box_event ?hg (N := 3) ?hd (cs := #[.int .i64 0, .int .u64 0, .string (⟨#[]⟩ : ByteArray), .int .i64 0]) (t := 24) ?hr ?_; (case hd => rfl); (case hg => rfl); (case hr => first | (go_simp; done) | (go_simp; rfl)); intro gb296 hg w57 hbox hb; have n0_ := Aside0.mk (below_step (by repeat (first | (with_reducible first | exact HB.out | apply bA_ | apply bN_ | apply bD_) | exact HB.out)) hb); have n1_ := Aside0.mk (hbox); have n2_ := Aside0.mk ((by rw [hg]; exact (below_size (by repeat (first | (with_reducible first | exact HB.out | apply bA_ | apply bN_ | apply bD_) | exact HB.out))) : w.heap.size ≤ gb296)); have n3_ := Aside0.mk ((by rw [hg]; exact (below_size (by repeat (first | (with_reducible first | exact HB.out | apply bA_ | apply bN_ | apply bD_) | exact HB.out))) : w.heap.size ≤ gb296)); clear HB; have HB := n0_; have BK296 := n1_; have GW296 := n2_; have GE296 := n3_; clear n0_ n1_ n2_ n3_; clear hb hbox hg; obtain ⟨hcz58_0, hcz58_1, hcz58_2, hcz58_3⟩ := cells4_ BK296.out; obtain ⟨hfz58_0, hfz58_1, hfz58_2, hfz58_3⟩ := froz4_ BK296.out) | ((with_reducible refine gate_callee (f := 19) rfl ?_); refine goesL_ (some 19) rfl rfl Tryd.func19 (by kernel_rfl) rfl #[.int .u64 1] rfl (by (try simp only [List.map_toArray, List.map_cons, List.map_nil]); first | done | rfl | (simp only [List.length_drop, List.length_take]; rfl)) ?_; (with_reducible refine (platformfwref08_Number.calls 1 t297 t298 t299 t300 _ A4.out).mono ?_); rintro e w59 ⟨rfl, hb⟩; refine ⟨_, rfl, ?_⟩; have n0_ := Aside0.mk (blk_below (g := gb296) (o := .cells #[.int .i64 t291, .int .u64 t292, .string t293, .int .i64 t294] 24 (0, 0)) (by (with_reducible repeat (first | apply kN_ | apply kD_ | apply kA_)); refine blk_put (cs := #[.int .i64 t291, .int .u64 t292, .string t293, .int .i64 0]) ?_ 3 _ rfl; (with_reducible repeat (first | apply kN_ | apply kD_ | apply kA_)); refine blk_put (cs := #[.int .i64 t291, .int .u64 t292, .string (⟨#[]⟩ : ByteArray), .int .i64 0]) ?_ 2 _ rfl; (with_reducible repeat (first | apply kN_ | apply kD_ | apply kA_)); refine blk_put (cs := #[.int .i64 t291, .int .u64 0, .string (⟨#[]⟩ : ByteArray), .int .i64 0]) ?_ 1 _ rfl; (with_reducible repeat (first | apply kN_ | apply kD_ | apply kA_)); refine blk_put (cs := #[.int .i64 0, .int .u64 0, .string (⟨#[]⟩ : ByteArray), .int .i64 0]) ?_ 0 _ rfl; (with_reducible repeat (first | apply kN_ | apply kD_ | apply kA_)); exact BK296.out) hb); have n1_ := Aside0.mk (below_step (by repeat (first | (with_reducible first | exact HB.out | apply bA_ | apply bN_ | apply bD_ | refine bS_ ?_ GE296.out) | exact HB.out)) hb); clear BK296; clear HB; have BK296 := n0_; have HB := n1_; clear n0_ n1_; (try clear hb); (try clear hb2); (try clear hk); (try clear hi)) | ((with_reducible refine gate_callee (f := 19) rfl ?_); refine goesL_ (some 20) rfl rfl Tryd.func19 (by kernel_rfl) rfl #[.int .u64 64] rfl (by (try simp only [List.map_toArray, List.map_cons, List.map_nil]); first | done | rfl | (simp only [List.length_drop, List.length_take]; rfl)) ?_; (with_reducible refine (platformfwref08_Number.calls 64 t301 t302 t303 t304 _ A5.out).mono ?_); rintro e w60 ⟨rfl, hb⟩; refine ⟨_, rfl, ?_⟩; have n0_ := Aside0.mk (blk_below (g := gb296) (o := .cells #[.int .i64 t291, .int .u64 t292, .string t293, .int .i64 t294] 24 (0, 0)) (by (with_reducible repeat (first | apply kN_ | apply kD_ | apply kA_)); exact BK296.out) hb); have n1_ := Aside0.mk (below_step (by repeat (first | (with_reducible first | exact HB.out | apply bA_ | apply bN_ | apply bD_ | refine bS_ ?_ GE296.out) | exact HB.out)) hb); clear BK296; clear HB; have BK296 := n0_; have HB := n1_; clear n0_ n1_; (try clear hb); (try clear hb2); (try clear hk); (try clear hi)) | ((with_reducible refine gate_callee (f := 8) rfl ?_); refine goesL_ (some 21) rfl rfl Tryd.func8 (by kernel_rfl) rfl #[.int .i64 68, .agg #[.int .i64 t297, .int .u64 t298, .string t299, .int .i64 t300], .agg #[.int .i64 t301, .int .u64 t302, .string t303, .int .i64 t304]] rfl (by (try simp only [List.map_toArray, List.map_cons, List.map_nil]); first | done | rfl | (simp only [List.length_drop, List.length_take]; rfl)) ?_; (with_reducible refine (value_Binary.calls k 68 t297 t298 t299 t300 t301 t302 t303 t304 t305 t306 t307 t308 t309 _ ?hTT_ A6.out).mono ?_); (case hTT_ => exact tb_below HTT_.out (by repeat (first | (with_reducible first | exact HB.out | apply bA_ | apply bN_ | apply bD_ | refine bS_ ?_ GE296.out) | exact HB.out))); rintro e w61 ⟨rfl, hb⟩; refine ⟨_, rfl, ?_⟩; have n0_ := Aside0.mk (blk_below (g := gb296) (o := .cells #[.int .i64 t291, .int .u64 t292, .string t293, .int .i64 t294] 24 (0, 0)) (by (with_reducible repeat (first | apply kN_ | apply kD_ | apply kA_)); exact BK296.out) hb); have n1_ := Aside0.mk (below_step (by repeat (first | (with_reducible first | exact HB.out | apply bA_ | apply bN_ | apply bD_ | refine bS_ ?_ GE296.out) | exact HB.out)) hb); clear BK296; clear HB; have BK296 := n0_; have HB := n1_; clear n0_ n1_; (try clear hb); (try clear hb2); (try clear hk); (try clear hi)) | ((with_reducible refine gate_dst (N := 5) rfl ?_); refine box_event ?hg (N := 5) ?hd (cs := #[.int .i64 0, .int .u64 0, .string (⟨#[]⟩ : ByteArray), .int .i64 0]) (t := 24) ?hr ?_; (case hd => rfl); (case hg => rfl); (case hr => first | (go_simp; done) | (go_simp; rfl)); intro gb310 hg w62 hbox hb; have n0_ := Aside0.mk (blk_below (g := gb296) (o := .cells #[.int .i64 t291, .int .u64 t292, .string t293, .int .i64 t294] 24 (0, 0)) (by (with_reducible repeat (first | apply kN_ | apply kD_ | apply kA_)); exact BK296.out) hb); have n1_ := Aside0.mk (below_step (by repeat (first | (with_reducible first | exact HB.out | apply bA_ | apply bN_ | apply bD_ | refine bS_ ?_ GE296.out) | exact HB.out)) hb); have n2_ := Aside0.mk (hbox); have n3_ := Aside0.mk ((by rw [hg]; exact (below_size (by repeat (first | (with_reducible first | exact HB.out | apply bA_ | apply bN_ | apply bD_ | refine bS_ ?_ GE296.out) | exact HB.out))) : w.heap.size ≤ gb310)); have n4_ := Aside0.mk ((by rw [hg]; exact (below_size (by repeat (first | (with_reducible first | exact HB.out | apply bA_ | apply bN_ | apply bD_ | refine bS_ ?_ GE296.out) | exact HB.out))) : w.heap.size ≤ gb310)); have n5_ := Aside0.mk ((by rw [hg]; exact Nat.ne_of_lt (blk_lt (g := gb296) (o := .cells #[.int .i64 t291, .int .u64 t292, .string t293, .int .i64 t294] 24 (0, 0)) (by (with_reducible repeat (first | apply kN_ | apply kD_ | apply kA_)); exact BK296.out)) : gb296 ≠ gb310)); have n6_ := Aside0.mk ((by rw [hg]; exact Nat.ne_of_gt (blk_lt (g := gb296) (o := .cells #[.int .i64 t291, .int .u64 t292, .string t293, .int .i64 t294] 24 (0, 0)) (by (with_reducible repeat (first | apply kN_ | apply kD_ | apply kA_)); exact BK296.out)) : gb310 ≠ gb296)); clear BK296; clear HB; have BK296 := n0_; have HB := n1_; have BK310 := n2_; have GW310 := n3_; have GE310 := n4_; have NB296_310 := n5_; have NB310_296 := n6_; clear n0_ n1_ n2_ n3_ n4_ n5_ n6_; clear hb hbox hg; have hnb63 := NB310_296.out; have hnc63 := NB296_310.out; obtain ⟨hcz64_0, hcz64_1, hcz64_2, hcz64_3⟩ := cells4_ BK310.out; obtain ⟨hfz64_0, hfz64_1, hfz64_2, hfz64_3⟩ := froz4_ BK310.out))
    have n0_ : Aside0 (((((w62.setCell ⟨gb310, 0, none⟩ (.int .i64 t305)).setCell ⟨gb310, 1, none⟩ (.int .u64 t306)).setCell ⟨gb310, 2, none⟩ (.string t307)).setCell ⟨gb310, 3, none⟩ (.int .i64 t308)).heap[gb296]? = some (.cells #[.int .i64 t291, .int .u64 t292, .string t293, .int .i64 t294] 24 (0, 0))) := ⟨by (with_reducible repeat (first | apply kN_ | apply kD_ | apply kA_)); refine blk_far ?_ NB296_310.out _; (with_reducible repeat (first | apply kN_ | apply kD_ | apply kA_)); refine blk_far ?_ NB296_310.out _; (with_reducible repeat (first | apply kN_ | apply kD_ | apply kA_)); refine blk_far ?_ NB296_310.out _; (with_reducible repeat (first | apply kN_ | apply kD_ | apply kA_)); refine blk_far ?_ NB296_310.out _; (with_reducible repeat (first | apply kN_ | apply kD_ | apply kA_)); exact BK296.out⟩
    have n1_ : Aside0 (((((w62.setCell ⟨gb310, 0, none⟩ (.int .i64 t305)).setCell ⟨gb310, 1, none⟩ (.int .u64 t306)).setCell ⟨gb310, 2, none⟩ (.string t307)).setCell ⟨gb310, 3, none⟩ (.int .i64 t308)).heap[gb310]? = some (.cells #[.int .i64 t305, .int .u64 t306, .string t307, .int .i64 t308] 24 (0, 0))) := ⟨by (with_reducible repeat (first | apply kN_ | apply kD_ | apply kA_)); refine blk_put (cs := #[.int .i64 t305, .int .u64 t306, .string t307, .int .i64 0]) ?_ 3 _ rfl; (with_reducible repeat (first | apply kN_ | apply kD_ | apply kA_)); refine blk_put (cs := #[.int .i64 t305, .int .u64 t306, .string (⟨#[]⟩ : ByteArray), .int .i64 0]) ?_ 2 _ rfl; (with_reducible repeat (first | apply kN_ | apply kD_ | apply kA_)); refine blk_put (cs := #[.int .i64 t305, .int .u64 0, .string (⟨#[]⟩ : ByteArray), .int .i64 0]) ?_ 1 _ rfl; (with_reducible repeat (first | apply kN_ | apply kD_ | apply kA_)); refine blk_put (cs := #[.int .i64 0, .int .u64 0, .string (⟨#[]⟩ : ByteArray), .int .i64 0]) ?_ 0 _ rfl; (with_reducible repeat (first | apply kN_ | apply kD_ | apply kA_)); exact BK310.out⟩
    have n2_ : Aside0 (Below w.heap.size w ((((w62.setCell ⟨gb310, 0, none⟩ (.int .i64 t305)).setCell ⟨gb310, 1, none⟩ (.int .u64 t306)).setCell ⟨gb310, 2, none⟩ (.string t307)).setCell ⟨gb310, 3, none⟩ (.int .i64 t308))) := ⟨by repeat (first | (with_reducible first | exact HB.out | apply bA_ | apply bN_ | apply bD_ | refine bS_ ?_ GE296.out | refine bS_ ?_ GE310.out) | exact HB.out)⟩
    (try clear BK296)
    (try clear BK310)
    (try clear HB)
    generalize ((((w62.setCell ⟨gb310, 0, none⟩ (.int .i64 t305)).setCell ⟨gb310, 1, none⟩ (.int .u64 t306)).setCell ⟨gb310, 2, none⟩ (.string t307)).setCell ⟨gb310, 3, none⟩ (.int .i64 t308)) = w65 at n0_ n1_ n2_ ⊢
    have BK296 := n0_
    have BK310 := n1_
    have HB := n2_
    clear n0_ n1_ n2_
    have n0_ := Aside0.mk (kD_ BK296.out)
    have n1_ := Aside0.mk (kD_ BK310.out)
    have n2_ := Aside0.mk (bD_ HB.out)
    clear BK296
    clear BK310
    clear HB
    have BK296 := n0_
    have BK310 := n1_
    have HB := n2_
    clear n0_ n1_ n2_
    refine start_ (n := 25) (S := fun w' => w'.cell? ⟨gb296, 0, none⟩ = some (.int .i64 t291) ∧ w'.cell? ⟨gb296, 1, none⟩ = some (.int .u64 t292) ∧ w'.cell? ⟨gb296, 2, none⟩ = some (.string t293) ∧ w'.cell? ⟨gb296, 3, none⟩ = some (.int .i64 t294)) (ds := []) #[false, false, false, false, false, false, false, false, false, false, false, false, false, false, false, false, false, false, false, false, false, false, false, false, false] (by kernel_rfl) rfl rfl (cells4_ BK296.out) (fun hHeld => ?_); refine with_tabW platformfwlaw08_awake.tab4 platformfwlaw08_awake.bits4 (fun HT_ HW_ => ?_)
    generalize w65.drew = w66 at BK296 BK310 HB hHeld ⊢
    refine pure_ (i := 0) (N := some 24) (v := ?_) (a' := ?_) (tf 25 1) rfl rfl (any_of HT_.out (by kernel_rfl)) (fun _ _ _ h => h) (Or.inl ⟨by rfl, ?_⟩) ?_ ?_
    rotate_left
    ·intro w'
     go_simp
     with_reducible rfl
    rotate_left
    ·simp only [Act.put, sA_, sB_, sC_, i64_w, i32_w]
     rfl
    refine pure_ (i := 1) (N := some 25) (v := ?_) (a' := ?_) (tf 25 3) rfl rfl (any_of HT_.out (by kernel_rfl)) (fun _ _ _ h => h) (Or.inl ⟨by rfl, ?_⟩) ?_ ?_
    rotate_left
    ·intro w'
     go_simp
     with_reducible rfl
    rotate_left
    ·simp only [Act.put, sA_, sB_, sC_, i64_w, i32_w]
     rfl
    refine pure_ (i := 2) (N := some 26) (v := ?_) (a' := ?_) (tf 25 7) rfl rfl (any_of HT_.out (by kernel_rfl)) (fun _ _ _ h => h) (Or.inl ⟨by rfl, ?_⟩) ?_ ?_
    rotate_left
    ·intro w'
     go_simp
     with_reducible rfl
    rotate_left
    ·simp only [Act.put, sA_, sB_, sC_, i64_w, i32_w]
     rfl
    refine pure_ (i := 3) (N := some 27) (v := ?_) (a' := ?_) (tf 25 15) rfl rfl (any_of HT_.out (by kernel_rfl)) (fun _ _ _ h => h) (Or.inl ⟨by rfl, ?_⟩) ?_ ?_
    rotate_left
    ·intro w'
     go_simp
     with_reducible rfl
    rotate_left
    ·simp only [Act.put, sA_, sB_, sC_, i64_w, i32_w]
     rfl
    refine pure_ (i := 4) (N := some 28) (v := ?_) (a' := ?_) (tf 25 31) rfl rfl (any_of HT_.out (by kernel_rfl)) (fun _ _ _ h => h) (Or.inl ⟨by rfl, ?_⟩) ?_ ?_
    rotate_left
    ·intro w'
     go_simp
     with_reducible rfl
    rotate_left
    ·simp only [Act.put, sA_, sB_, sC_, i64_w, i32_w]
     rfl
    refine pure_ (i := 5) (N := some 29) (v := ?_) (a' := ?_) (tf 25 63) rfl rfl (any_of HT_.out (by kernel_rfl)) (fun _ _ _ h => h) (Or.inl ⟨by rfl, ?_⟩) ?_ ?_
    rotate_left
    ·intro w'
     go_simp
     with_reducible rfl
    rotate_left
    ·simp only [Act.put, sA_, sB_, sC_, i64_w, i32_w]
     rfl
    refine pure_ (i := 6) (N := some 30) (v := ?_) (a' := ?_) (tf 25 127) rfl rfl (any_of HT_.out (by kernel_rfl)) (fun _ _ _ h => h) (Or.inl ⟨by rfl, ?_⟩) ?_ ?_
    rotate_left
    ·intro w'
     go_simp
     with_reducible rfl
    rotate_left
    ·simp only [Act.put, sA_, sB_, sC_, i64_w, i32_w]
     rfl
    refine pure_ (i := 8) (N := some 32) (v := ?_) (a' := ?_) (tf 25 383) rfl rfl (any_of HT_.out (by kernel_rfl)) (fun _ _ _ h => h) (Or.inl ⟨by rfl, ?_⟩) ?_ ?_
    rotate_left
    ·intro w'
     go_simp
     with_reducible rfl
    rotate_left
    ·simp only [Act.put, sA_, sB_, sC_, i64_w, i32_w]
     rfl
    refine take_ (i := 7) (N := some 31) (v := ?_) (a' := ?_) (tf 25 511) rfl rfl (take_ofW HT_.out HW_.out (by kernel_rfl)) (fun _ _ _ h => h) (Or.inl ⟨by rfl, ?_⟩) hHeld ?_ ?_
    rotate_left
    ·rintro w' ⟨s0, s1, s2, s3⟩
     go_simp
     with_reducible rfl
    rotate_left
    ·simp only [Act.put, sA_, sB_, sC_, i64_w, i32_w]
     rfl
    refine pure_ (i := 9) (N := some 33) (v := ?_) (a' := ?_) (tf 25 1023) rfl rfl (any_of HT_.out (by kernel_rfl)) (fun _ _ _ h => h) (Or.inl ⟨by rfl, ?_⟩) ?_ ?_
    rotate_left
    ·intro w'
     go_simp
     with_reducible rfl
    rotate_left
    ·simp only [Act.put, sA_, sB_, sC_, i64_w, i32_w]
     rfl
    refine pure_ (i := 10) (N := some 34) (v := ?_) (a' := ?_) (tf 25 2047) rfl rfl (any_of HT_.out (by kernel_rfl)) (fun _ _ _ h => h) (Or.inl ⟨by rfl, ?_⟩) ?_ ?_
    rotate_left
    ·intro w'
     go_simp
     with_reducible rfl
    rotate_left
    ·simp only [Act.put, sA_, sB_, sC_, i64_w, i32_w]
     rfl
    refine pure_ (i := 11) (N := some 35) (v := ?_) (a' := ?_) (tf 25 4095) rfl rfl (any_of HT_.out (by kernel_rfl)) (fun _ _ _ h => h) (Or.inl ⟨by rfl, ?_⟩) ?_ ?_
    rotate_left
    ·intro w'
     go_simp
     with_reducible rfl
    rotate_left
    ·simp only [Act.put, sA_, sB_, sC_, i64_w, i32_w]
     rfl
    refine pure_ (i := 12) (N := some 36) (v := undef) (a' := ?_) (tf 25 8191) rfl rfl (any_of HT_.out (by kernel_rfl)) (fun _ _ _ h => h) (Or.inr ⟨by rfl, rfl⟩) ?_ ?_
    rotate_left
    ·simp only [Act.put, sA_, sB_, sC_, i64_w, i32_w]
     rfl
    refine pure_ (i := 13) (N := some 37) (v := undef) (a' := ?_) (tf 25 16383) rfl rfl (any_of HT_.out (by kernel_rfl)) (fun _ _ _ h => h) (Or.inr ⟨by rfl, rfl⟩) ?_ ?_
    rotate_left
    ·simp only [Act.put, sA_, sB_, sC_, i64_w, i32_w]
     rfl
    refine pure_ (i := 14) (N := some 38) (v := ?_) (a' := ?_) (tf 25 32767) rfl rfl (any_of HT_.out (by kernel_rfl)) (fun _ _ _ h => h) (Or.inl ⟨by rfl, ?_⟩) ?_ ?_
    rotate_left
    ·intro w'
     go_simp
     with_reducible rfl
    rotate_left
    ·simp only [Act.put, sA_, sB_, sC_, i64_w, i32_w]
     rfl
    refine pure_ (i := 15) (N := some 39) (v := ?_) (a' := ?_) (tf 25 65535) rfl rfl (any_of HT_.out (by kernel_rfl)) (fun _ _ _ h => h) (Or.inl ⟨by rfl, ?_⟩) ?_ ?_
    rotate_left
    ·intro w'
     go_simp
     with_reducible rfl
    rotate_left
    ·simp only [Act.put, sA_, sB_, sC_, i64_w, i32_w]
     rfl
    refine pure_ (i := 16) (N := some 40) (v := undef) (a' := ?_) (tf 25 131071) rfl rfl (any_of HT_.out (by kernel_rfl)) (fun _ _ _ h => h) (Or.inr ⟨by rfl, rfl⟩) ?_ ?_
    rotate_left
    ·simp only [Act.put, sA_, sB_, sC_, i64_w, i32_w]
     rfl
    refine pure_ (i := 17) (N := some 41) (v := undef) (a' := ?_) (tf 25 262143) rfl rfl (any_of HT_.out (by kernel_rfl)) (fun _ _ _ h => h) (Or.inr ⟨by rfl, rfl⟩) ?_ ?_
    rotate_left
    ·simp only [Act.put, sA_, sB_, sC_, i64_w, i32_w]
     rfl
    refine pure_ (i := 18) (N := some 42) (v := undef) (a' := ?_) (tf 25 524287) rfl rfl (any_of HT_.out (by kernel_rfl)) (fun _ _ _ h => h) (Or.inr ⟨by rfl, rfl⟩) ?_ ?_
    rotate_left
    ·simp only [Act.put, sA_, sB_, sC_, i64_w, i32_w]
     rfl
    refine pure_ (i := 19) (N := some 43) (v := ?_) (a' := ?_) (tf 25 1048575) rfl rfl (any_of HT_.out (by kernel_rfl)) (fun _ _ _ h => h) (Or.inl ⟨by rfl, ?_⟩) ?_ ?_
    rotate_left
    ·intro w'
     go_simp
     with_reducible rfl
    rotate_left
    ·simp only [Act.put, sA_, sB_, sC_, i64_w, i32_w]
     rfl
    refine pure_ (i := 20) (N := some 44) (v := ?_) (a' := ?_) (tf 25 2097151) rfl rfl (any_of HT_.out (by kernel_rfl)) (fun _ _ _ h => h) (Or.inl ⟨by rfl, ?_⟩) ?_ ?_
    rotate_left
    ·intro w'
     go_simp
     with_reducible rfl
    rotate_left
    ·simp only [Act.put, sA_, sB_, sC_, i64_w, i32_w]
     rfl
    refine pure_ (i := 21) (N := some 45) (v := undef) (a' := ?_) (tf 25 4194303) rfl rfl (any_of HT_.out (by kernel_rfl)) (fun _ _ _ h => h) (Or.inr ⟨by rfl, rfl⟩) ?_ ?_
    rotate_left
    ·simp only [Act.put, sA_, sB_, sC_, i64_w, i32_w]
     rfl
    refine pure_ (i := 22) (N := some 46) (v := undef) (a' := ?_) (tf 25 8388607) rfl rfl (any_of HT_.out (by kernel_rfl)) (fun _ _ _ h => h) (Or.inr ⟨by rfl, rfl⟩) ?_ ?_
    rotate_left
    ·simp only [Act.put, sA_, sB_, sC_, i64_w, i32_w]
     rfl
    refine pure_ (i := 23) (N := some 47) (v := ?_) (a' := ?_) (tf 25 16777215) rfl rfl (any_of HT_.out (by kernel_rfl)) (fun _ _ _ h => h) (Or.inl ⟨by rfl, ?_⟩) ?_ ?_
    rotate_left
    ·intro w'
     go_simp
     with_reducible rfl
    rotate_left
    ·simp only [Act.put, sA_, sB_, sC_, i64_w, i32_w]
     rfl
    refine pure_ (i := 24) (N := some 0) (v := ?_) (a' := ?_) (tf 25 33554431) rfl rfl (any_of HT_.out (by kernel_rfl)) (fun _ _ _ h => h) (Or.inl ⟨by rfl, ?_⟩) ?_ ?_
    rotate_left
    ·intro w'
     go_simp
     with_reducible rfl
    rotate_left
    ·simp only [Act.put, sA_, sB_, sC_, i64_w, i32_w]
     rfl
    refine done_ (done_of HT_.out (by kernel_rfl)) ?_
    try go_wp2
    go_ret
    exact ⟨by first | rfl | (simp [errW_none, errW_some] <;> rfl) | (simp [*, errW_none, errW_some] <;> rfl), by repeat (first | (with_reducible first | exact HB.out | apply bA_ | apply bN_ | apply bD_ | refine bS_ ?_ GE296.out | refine bS_ ?_ GE310.out) | exact HB.out)⟩
  ·rw [if_neg c8] at H
   have c8b0 : (t286 == 0) = false := beq_eq_false_iff_ne.mpr c8
   have c8b1 : (t286 != 0) = true := bne_iff_ne.mpr c8
   obtain rfl := Option.some.inj H
   go_enter Tryd.func12, Tryd.ntmps12
   try go_wp2_with (first | ((with_reducible refine gate_callee (f := 22) rfl ?_); refine goesL_ (some 9) rfl rfl Tryd.func22 (by kernel_rfl) rfl #[.agg #[.int .i64 2, .int .u64 0, .string (⟨#[49, 70, 122]⟩ : ByteArray), .int .i64 0]] rfl (by (try simp only [List.map_toArray, List.map_cons, List.map_nil]); first | done | rfl | (simp only [List.length_drop, List.length_take]; rfl)) ?_; (with_reducible refine (value_Integer.calls k 2 0 (⟨#[49, 70, 122]⟩ : ByteArray) 0 t285 t286 _ A1.out).mono ?_); rintro e w67 ⟨rfl, hb⟩; refine ⟨_, rfl, ?_⟩; have n0_ := Aside0.mk (below_step (by repeat (first | (with_reducible first | exact HB.out | apply bA_ | apply bN_ | apply bD_) | exact HB.out)) hb); clear HB; have HB := n0_; clear n0_; (try clear hb); (try clear hb2); (try clear hk); (try clear hi)) | ((with_reducible refine gate_callee (f := 19) rfl ?_); refine goesL_ (some 14) rfl rfl Tryd.func19 (by kernel_rfl) rfl #[.int .u64 255] rfl (by (try simp only [List.map_toArray, List.map_cons, List.map_nil]); first | done | rfl | (simp only [List.length_drop, List.length_take]; rfl)) ?_; (with_reducible refine (platformfwref08_Number.calls 255 t287 t288 t289 t290 _ A2.out).mono ?_); rintro e w68 ⟨rfl, hb⟩; refine ⟨_, rfl, ?_⟩; have n0_ := Aside0.mk (below_step (by repeat (first | (with_reducible first | exact HB.out | apply bA_ | apply bN_ | apply bD_) | exact HB.out)) hb); clear HB; have HB := n0_; clear n0_; (try clear hb); (try clear hb2); (try clear hk); (try clear hi)) | ((with_reducible refine gate_callee (f := 8) rfl ?_); refine goesL_ (some 15) rfl rfl Tryd.func8 (by kernel_rfl) rfl #[.int .i64 75, .agg #[.int .i64 2, .int .u64 0, .string (⟨#[97]⟩ : ByteArray), .int .i64 0], .agg #[.int .i64 t287, .int .u64 t288, .string t289, .int .i64 t290]] rfl (by (try simp only [List.map_toArray, List.map_cons, List.map_nil]); first | done | rfl | (simp only [List.length_drop, List.length_take]; rfl)) ?_; (with_reducible refine (value_Binary.calls k 75 2 0 (⟨#[97]⟩ : ByteArray) 0 t287 t288 t289 t290 t291 t292 t293 t294 t295 _ ?hTT_ A3.out).mono ?_); (case hTT_ => exact tb_below HTT_.out (by repeat (first | (with_reducible first | exact HB.out | apply bA_ | apply bN_ | apply bD_) | exact HB.out))); rintro e w69 ⟨rfl, hb⟩; refine ⟨_, rfl, ?_⟩; have n0_ := Aside0.mk (below_step (by repeat (first | (with_reducible first | exact HB.out | apply bA_ | apply bN_ | apply bD_) | exact HB.out)) hb); clear HB; have HB := n0_; clear n0_; (try clear hb); (try clear hb2); (try clear hk); (try clear hi)) | ((with_reducible refine gate_dst (N := 3) rfl ?_); refine box_event ?hg (N := 3) ?hd (cs := #[.int .i64 0, .int .u64 0, .string (⟨#[]⟩ : ByteArray), .int .i64 0]) (t := 24) ?hr ?_; (case hd => rfl); (case hg => rfl); (case hr => first | (go_simp; done) | (go_simp; rfl)); intro gb296 hg w70 hbox hb; have n0_ := Aside0.mk (below_step (by repeat (first | (with_reducible first | exact HB.out | apply bA_ | apply bN_ | apply bD_) | exact HB.out)) hb); have n1_ := Aside0.mk (hbox); have n2_ := Aside0.mk ((by rw [hg]; exact (below_size (by repeat (first | (with_reducible first | exact HB.out | apply bA_ | apply bN_ | apply bD_) | exact HB.out))) : w.heap.size ≤ gb296)); have n3_ := Aside0.mk ((by rw [hg]; exact (below_size (by repeat (first | (with_reducible first | exact HB.out | apply bA_ | apply bN_ | apply bD_) | exact HB.out))) : w.heap.size ≤ gb296)); clear HB; have HB := n0_; have BK296 := n1_; have GW296 := n2_; have GE296 := n3_; clear n0_ n1_ n2_ n3_; clear hb hbox hg; obtain ⟨hcz71_0, hcz71_1, hcz71_2, hcz71_3⟩ := cells4_ BK296.out; obtain ⟨hfz71_0, hfz71_1, hfz71_2, hfz71_3⟩ := froz4_ BK296.out) | ((with_reducible refine gate_callee (f := 19) rfl ?_); refine goesL_ (some 19) rfl rfl Tryd.func19 (by kernel_rfl) rfl #[.int .u64 1] rfl (by (try simp only [List.map_toArray, List.map_cons, List.map_nil]); first | done | rfl | (simp only [List.length_drop, List.length_take]; rfl)) ?_; (with_reducible refine (platformfwref08_Number.calls 1 t297 t298 t299 t300 _ A4.out).mono ?_); rintro e w72 ⟨rfl, hb⟩; refine ⟨_, rfl, ?_⟩; have n0_ := Aside0.mk (blk_below (g := gb296) (o := .cells #[.int .i64 t291, .int .u64 t292, .string t293, .int .i64 t294] 24 (0, 0)) (by (with_reducible repeat (first | apply kN_ | apply kD_ | apply kA_)); refine blk_put (cs := #[.int .i64 t291, .int .u64 t292, .string t293, .int .i64 0]) ?_ 3 _ rfl; (with_reducible repeat (first | apply kN_ | apply kD_ | apply kA_)); refine blk_put (cs := #[.int .i64 t291, .int .u64 t292, .string (⟨#[]⟩ : ByteArray), .int .i64 0]) ?_ 2 _ rfl; (with_reducible repeat (first | apply kN_ | apply kD_ | apply kA_)); refine blk_put (cs := #[.int .i64 t291, .int .u64 0, .string (⟨#[]⟩ : ByteArray), .int .i64 0]) ?_ 1 _ rfl; (with_reducible repeat (first | apply kN_ | apply kD_ | apply kA_)); refine blk_put (cs := #[.int .i64 0, .int .u64 0, .string (⟨#[]⟩ : ByteArray), .int .i64 0]) ?_ 0 _ rfl; (with_reducible repeat (first | apply kN_ | apply kD_ | apply kA_)); exact BK296.out) hb); have n1_ := Aside0.mk (below_step (by repeat (first | (with_reducible first | exact HB.out | apply bA_ | apply bN_ | apply bD_ | refine bS_ ?_ GE296.out) | exact HB.out)) hb); clear BK296; clear HB; have BK296 := n0_; have HB := n1_; clear n0_ n1_; (try clear hb); (try clear hb2); (try clear hk); (try clear hi)) | ((with_reducible refine gate_callee (f := 19) rfl ?_); refine goesL_ (some 20) rfl rfl Tryd.func19 (by kernel_rfl) rfl #[.int .u64 64] rfl (by (try simp only [List.map_toArray, List.map_cons, List.map_nil]); first | done | rfl | (simp only [List.length_drop, List.length_take]; rfl)) ?_; (with_reducible refine (platformfwref08_Number.calls 64 t301 t302 t303 t304 _ A5.out).mono ?_); rintro e w73 ⟨rfl, hb⟩; refine ⟨_, rfl, ?_⟩; have n0_ := Aside0.mk (blk_below (g := gb296) (o := .cells #[.int .i64 t291, .int .u64 t292, .string t293, .int .i64 t294] 24 (0, 0)) (by (with_reducible repeat (first | apply kN_ | apply kD_ | apply kA_)); exact BK296.out) hb); have n1_ := Aside0.mk (below_step (by repeat (first | (with_reducible first | exact HB.out | apply bA_ | apply bN_ | apply bD_ | refine bS_ ?_ GE296.out) | exact HB.out)) hb); clear BK296; clear HB; have BK296 := n0_; have HB := n1_; clear n0_ n1_; (try clear hb); (try clear hb2); (try clear hk); (try clear hi)) | ((with_reducible refine gate_callee (f := 8) rfl ?_); refine goesL_ (some 21) rfl rfl Tryd.func8 (by kernel_rfl) rfl #[.int .i64 68, .agg #[.int .i64 t297, .int .u64 t298, .string t299, .int .i64 t300], .agg #[.int .i64 t301, .int .u64 t302, .string t303, .int .i64 t304]] rfl (by (try simp only [List.map_toArray, List.map_cons, List.map_nil]); first | done | rfl | (simp only [List.length_drop, List.length_take]; rfl)) ?_; (with_reducible refine (value_Binary.calls k 68 t297 t298 t299 t300 t301 t302 t303 t304 t305 t306 t307 t308 t309 _ ?hTT_ A6.out).mono ?_); (case hTT_ => exact tb_below HTT_.out (by repeat (first | (with_reducible first | exact HB.out | apply bA_ | apply bN_ | apply bD_ | refine bS_ ?_ GE296.out) | exact HB.out))); rintro e w74 ⟨rfl, hb⟩; refine ⟨_, rfl, ?_⟩; have n0_ := Aside0.mk (blk_below (g := gb296) (o := .cells #[.int .i64 t291, .int .u64 t292, .string t293, .int .i64 t294] 24 (0, 0)) (by (with_reducible repeat (first | apply kN_ | apply kD_ | apply kA_)); exact BK296.out) hb); have n1_ := Aside0.mk (below_step (by repeat (first | (with_reducible first | exact HB.out | apply bA_ | apply bN_ | apply bD_ | refine bS_ ?_ GE296.out) | exact HB.out)) hb); clear BK296; clear HB; have BK296 := n0_; have HB := n1_; clear n0_ n1_; (try clear hb); (try clear hb2); (try clear hk); (try clear hi)) | ((with_reducible refine gate_dst (N := 5) rfl ?_); refine box_event ?hg (N := 5) ?hd (cs := #[.int .i64 0, .int .u64 0, .string (⟨#[]⟩ : ByteArray), .int .i64 0]) (t := 24) ?hr ?_; (case hd => rfl); (case hg => rfl); (case hr => first | (go_simp; done) | (go_simp; rfl)); intro gb310 hg w75 hbox hb; have n0_ := Aside0.mk (blk_below (g := gb296) (o := .cells #[.int .i64 t291, .int .u64 t292, .string t293, .int .i64 t294] 24 (0, 0)) (by (with_reducible repeat (first | apply kN_ | apply kD_ | apply kA_)); exact BK296.out) hb); have n1_ := Aside0.mk (below_step (by repeat (first | (with_reducible first | exact HB.out | apply bA_ | apply bN_ | apply bD_ | refine bS_ ?_ GE296.out) | exact HB.out)) hb); have n2_ := Aside0.mk (hbox); have n3_ := Aside0.mk ((by rw [hg]; exact (below_size (by repeat (first | (with_reducible first | exact HB.out | apply bA_ | apply bN_ | apply bD_ | refine bS_ ?_ GE296.out) | exact HB.out))) : w.heap.size ≤ gb310)); have n4_ := Aside0.mk ((by rw [hg]; exact (below_size (by repeat (first | (with_reducible first | exact HB.out | apply bA_ | apply bN_ | apply bD_ | refine bS_ ?_ GE296.out) | exact HB.out))) : w.heap.size ≤ gb310)); have n5_ := Aside0.mk ((by rw [hg]; exact Nat.ne_of_lt (blk_lt (g := gb296) (o := .cells #[.int .i64 t291, .int .u64 t292, .string t293, .int .i64 t294] 24 (0, 0)) (by (with_reducible repeat (first | apply kN_ | apply kD_ | apply kA_)); exact BK296.out)) : gb296 ≠ gb310)); have n6_ := Aside0.mk ((by rw [hg]; exact Nat.ne_of_gt (blk_lt (g := gb296) (o := .cells #[.int .i64 t291, .int .u64 t292, .string t293, .int .i64 t294] 24 (0, 0)) (by (with_reducible repeat (first | apply kN_ | apply kD_ | apply kA_)); exact BK296.out)) : gb310 ≠ gb296)); clear BK296; clear HB; have BK296 := n0_; have HB := n1_; have BK310 := n2_; have GW310 := n3_; have GE310 := n4_; have NB296_310 := n5_; have NB310_296 := n6_; clear n0_ n1_ n2_ n3_ n4_ n5_ n6_; clear hb hbox hg; have hnb76 := NB310_296.out; have hnc76 := NB296_310.out; obtain ⟨hcz77_0, hcz77_1, hcz77_2, hcz77_3⟩ := cells4_ BK310.out; obtain ⟨hfz77_0, hfz77_1, hfz77_2, hfz77_3⟩ := froz4_ BK310.out))
   have n0_ : Aside0 (((((w75.setCell ⟨gb310, 0, none⟩ (.int .i64 t305)).setCell ⟨gb310, 1, none⟩ (.int .u64 t306)).setCell ⟨gb310, 2, none⟩ (.string t307)).setCell ⟨gb310, 3, none⟩ (.int .i64 t308)).heap[gb296]? = some (.cells #[.int .i64 t291, .int .u64 t292, .string t293, .int .i64 t294] 24 (0, 0))) := ⟨by (with_reducible repeat (first | apply kN_ | apply kD_ | apply kA_)); refine blk_far ?_ NB296_310.out _; (with_reducible repeat (first | apply kN_ | apply kD_ | apply kA_)); refine blk_far ?_ NB296_310.out _; (with_reducible repeat (first | apply kN_ | apply kD_ | apply kA_)); refine blk_far ?_ NB296_310.out _; (with_reducible repeat (first | apply kN_ | apply kD_ | apply kA_)); refine blk_far ?_ NB296_310.out _; (with_reducible repeat (first | apply kN_ | apply kD_ | apply kA_)); exact BK296.out⟩
   have n1_ : Aside0 (((((w75.setCell ⟨gb310, 0, none⟩ (.int .i64 t305)).setCell ⟨gb310, 1, none⟩ (.int .u64 t306)).setCell ⟨gb310, 2, none⟩ (.string t307)).setCell ⟨gb310, 3, none⟩ (.int .i64 t308)).heap[gb310]? = some (.cells #[.int .i64 t305, .int .u64 t306, .string t307, .int .i64 t308] 24 (0, 0))) := ⟨by (with_reducible repeat (first | apply kN_ | apply kD_ | apply kA_)); refine blk_put (cs := #[.int .i64 t305, .int .u64 t306, .string t307, .int .i64 0]) ?_ 3 _ rfl; (with_reducible repeat (first | apply kN_ | apply kD_ | apply kA_)); refine blk_put (cs := #[.int .i64 t305, .int .u64 t306, .string (⟨#[]⟩ : ByteArray), .int .i64 0]) ?_ 2 _ rfl; (with_reducible repeat (first | apply kN_ | apply kD_ | apply kA_)); refine blk_put (cs := #[.int .i64 t305, .int .u64 0, .string (⟨#[]⟩ : ByteArray), .int .i64 0]) ?_ 1 _ rfl; (with_reducible repeat (first | apply kN_ | apply kD_ | apply kA_)); refine blk_put (cs := #[.int .i64 0, .int .u64 0, .string (⟨#[]⟩ : ByteArray), .int .i64 0]) ?_ 0 _ rfl; (with_reducible repeat (first | apply kN_ | apply kD_ | apply kA_)); exact BK310.out⟩
   have n2_ : Aside0 (Below w.heap.size w ((((w75.setCell ⟨gb310, 0, none⟩ (.int .i64 t305)).setCell ⟨gb310, 1, none⟩ (.int .u64 t306)).setCell ⟨gb310, 2, none⟩ (.string t307)).setCell ⟨gb310, 3, none⟩ (.int .i64 t308))) := ⟨by repeat (first | (with_reducible first | exact HB.out | apply bA_ | apply bN_ | apply bD_ | refine bS_ ?_ GE296.out | refine bS_ ?_ GE310.out) | exact HB.out)⟩
   (try clear BK296)
   (try clear BK310)
   (try clear HB)
   generalize ((((w75.setCell ⟨gb310, 0, none⟩ (.int .i64 t305)).setCell ⟨gb310, 1, none⟩ (.int .u64 t306)).setCell ⟨gb310, 2, none⟩ (.string t307)).setCell ⟨gb310, 3, none⟩ (.int .i64 t308)) = w78 at n0_ n1_ n2_ ⊢
   have BK296 := n0_
   have BK310 := n1_
   have HB := n2_
   clear n0_ n1_ n2_
   have n0_ := Aside0.mk (kD_ BK296.out)
   have n1_ := Aside0.mk (kD_ BK310.out)
   have n2_ := Aside0.mk (bD_ HB.out)
   clear BK296
   clear BK310
   clear HB
   have BK296 := n0_
   have BK310 := n1_
   have HB := n2_
   clear n0_ n1_ n2_
   refine start_ (n := 25) (S := fun w' => True) (ds := []) #[false, false, false, false, false, false, false, false, false, false, false, false, false, false, false, false, false, false, false, false, false, false, false, false, false] (by kernel_rfl) rfl rfl trivial (fun hHeld => ?_); refine with_tabW platformfwlaw08_awake.tab4 platformfwlaw08_awake.bits4 (fun HT_ HW_ => ?_)
   generalize w78.drew = w79 at BK296 BK310 HB hHeld ⊢
   refine pure_ (i := 0) (N := some 24) (v := ?_) (a' := ?_) (tf 25 1) rfl rfl (any_of HT_.out (by kernel_rfl)) (fun _ _ _ h => h) (Or.inl ⟨by rfl, ?_⟩) ?_ ?_
   rotate_left
   ·intro w'
    go_simp
    with_reducible rfl
   rotate_left
   ·simp only [Act.put, sA_, sB_, sC_, i64_w, i32_w]
    rfl
   refine pure_ (i := 1) (N := some 25) (v := ?_) (a' := ?_) (tf 25 3) rfl rfl (any_of HT_.out (by kernel_rfl)) (fun _ _ _ h => h) (Or.inl ⟨by rfl, ?_⟩) ?_ ?_
   rotate_left
   ·intro w'
    go_simp
    with_reducible rfl
   rotate_left
   ·simp only [Act.put, sA_, sB_, sC_, i64_w, i32_w]
    rfl
   refine pure_ (i := 2) (N := some 26) (v := ?_) (a' := ?_) (tf 25 7) rfl rfl (any_of HT_.out (by kernel_rfl)) (fun _ _ _ h => h) (Or.inl ⟨by rfl, ?_⟩) ?_ ?_
   rotate_left
   ·intro w'
    go_simp
    with_reducible rfl
   rotate_left
   ·simp only [Act.put, sA_, sB_, sC_, i64_w, i32_w]
    rfl
   refine pure_ (i := 3) (N := some 27) (v := ?_) (a' := ?_) (tf 25 15) rfl rfl (any_of HT_.out (by kernel_rfl)) (fun _ _ _ h => h) (Or.inl ⟨by rfl, ?_⟩) ?_ ?_
   rotate_left
   ·intro w'
    go_simp
    with_reducible rfl
   rotate_left
   ·simp only [Act.put, sA_, sB_, sC_, i64_w, i32_w]
    rfl
   refine pure_ (i := 4) (N := some 28) (v := ?_) (a' := ?_) (tf 25 31) rfl rfl (any_of HT_.out (by kernel_rfl)) (fun _ _ _ h => h) (Or.inl ⟨by rfl, ?_⟩) ?_ ?_
   rotate_left
   ·intro w'
    go_simp
    with_reducible rfl
   rotate_left
   ·simp only [Act.put, sA_, sB_, sC_, i64_w, i32_w]
    rfl
   refine pure_ (i := 5) (N := some 29) (v := ?_) (a' := ?_) (tf 25 63) rfl rfl (any_of HT_.out (by kernel_rfl)) (fun _ _ _ h => h) (Or.inl ⟨by rfl, ?_⟩) ?_ ?_
   rotate_left
   ·intro w'
    go_simp
    with_reducible rfl
   rotate_left
   ·simp only [Act.put, sA_, sB_, sC_, i64_w, i32_w]
    rfl
   refine pure_ (i := 6) (N := some 30) (v := ?_) (a' := ?_) (tf 25 127) rfl rfl (any_of HT_.out (by kernel_rfl)) (fun _ _ _ h => h) (Or.inl ⟨by rfl, ?_⟩) ?_ ?_
   rotate_left
   ·intro w'
    go_simp
    with_reducible rfl
   rotate_left
   ·simp only [Act.put, sA_, sB_, sC_, i64_w, i32_w]
    rfl
   refine pure_ (i := 7) (N := some 31) (v := undef) (a' := ?_) (tf 25 255) rfl rfl (any_of HT_.out (by kernel_rfl)) (fun _ _ _ h => h) (Or.inr ⟨by rfl, rfl⟩) ?_ ?_
   rotate_left
   ·simp only [Act.put, sA_, sB_, sC_, i64_w, i32_w]
    rfl
   refine pure_ (i := 8) (N := some 32) (v := undef) (a' := ?_) (tf 25 511) rfl rfl (any_of HT_.out (by kernel_rfl)) (fun _ _ _ h => h) (Or.inr ⟨by rfl, rfl⟩) ?_ ?_
   rotate_left
   ·simp only [Act.put, sA_, sB_, sC_, i64_w, i32_w]
    rfl
   refine pure_ (i := 9) (N := some 33) (v := undef) (a' := ?_) (tf 25 1023) rfl rfl (any_of HT_.out (by kernel_rfl)) (fun _ _ _ h => h) (Or.inr ⟨by rfl, rfl⟩) ?_ ?_
   rotate_left
   ·simp only [Act.put, sA_, sB_, sC_, i64_w, i32_w]
    rfl
   refine pure_ (i := 10) (N := some 34) (v := ?_) (a' := ?_) (tf 25 2047) rfl rfl (any_of HT_.out (by kernel_rfl)) (fun _ _ _ h => h) (Or.inl ⟨by rfl, ?_⟩) ?_ ?_
   rotate_left
   ·intro w'
    go_simp
    with_reducible rfl
   rotate_left
   ·simp only [Act.put, sA_, sB_, sC_, i64_w, i32_w]
    rfl
   refine pure_ (i := 11) (N := some 35) (v := ?_) (a' := ?_) (tf 25 4095) rfl rfl (any_of HT_.out (by kernel_rfl)) (fun _ _ _ h => h) (Or.inl ⟨by rfl, ?_⟩) ?_ ?_
   rotate_left
   ·intro w'
    go_simp
    with_reducible rfl
   rotate_left
   ·simp only [Act.put, sA_, sB_, sC_, i64_w, i32_w]
    rfl
   refine pure_ (i := 12) (N := some 36) (v := undef) (a' := ?_) (tf 25 8191) rfl rfl (any_of HT_.out (by kernel_rfl)) (fun _ _ _ h => h) (Or.inr ⟨by rfl, rfl⟩) ?_ ?_
   rotate_left
   ·simp only [Act.put, sA_, sB_, sC_, i64_w, i32_w]
    rfl
   refine pure_ (i := 13) (N := some 37) (v := undef) (a' := ?_) (tf 25 16383) rfl rfl (any_of HT_.out (by kernel_rfl)) (fun _ _ _ h => h) (Or.inr ⟨by rfl, rfl⟩) ?_ ?_
   rotate_left
   ·simp only [Act.put, sA_, sB_, sC_, i64_w, i32_w]
    rfl
   refine pure_ (i := 14) (N := some 38) (v := ?_) (a' := ?_) (tf 25 32767) rfl rfl (any_of HT_.out (by kernel_rfl)) (fun _ _ _ h => h) (Or.inl ⟨by rfl, ?_⟩) ?_ ?_
   rotate_left
   ·intro w'
    go_simp
    with_reducible rfl
   rotate_left
   ·simp only [Act.put, sA_, sB_, sC_, i64_w, i32_w]
    rfl
   refine pure_ (i := 15) (N := some 39) (v := ?_) (a' := ?_) (tf 25 65535) rfl rfl (any_of HT_.out (by kernel_rfl)) (fun _ _ _ h => h) (Or.inl ⟨by rfl, ?_⟩) ?_ ?_
   rotate_left
   ·intro w'
    go_simp
    with_reducible rfl
   rotate_left
   ·simp only [Act.put, sA_, sB_, sC_, i64_w, i32_w]
    rfl
   refine pure_ (i := 16) (N := some 40) (v := undef) (a' := ?_) (tf 25 131071) rfl rfl (any_of HT_.out (by kernel_rfl)) (fun _ _ _ h => h) (Or.inr ⟨by rfl, rfl⟩) ?_ ?_
   rotate_left
   ·simp only [Act.put, sA_, sB_, sC_, i64_w, i32_w]
    rfl
   refine pure_ (i := 17) (N := some 41) (v := undef) (a' := ?_) (tf 25 262143) rfl rfl (any_of HT_.out (by kernel_rfl)) (fun _ _ _ h => h) (Or.inr ⟨by rfl, rfl⟩) ?_ ?_
   rotate_left
   ·simp only [Act.put, sA_, sB_, sC_, i64_w, i32_w]
    rfl
   refine pure_ (i := 18) (N := some 42) (v := undef) (a' := ?_) (tf 25 524287) rfl rfl (any_of HT_.out (by kernel_rfl)) (fun _ _ _ h => h) (Or.inr ⟨by rfl, rfl⟩) ?_ ?_
   rotate_left
   ·simp only [Act.put, sA_, sB_, sC_, i64_w, i32_w]
    rfl
   refine pure_ (i := 19) (N := some 43) (v := ?_) (a' := ?_) (tf 25 1048575) rfl rfl (any_of HT_.out (by kernel_rfl)) (fun _ _ _ h => h) (Or.inl ⟨by rfl, ?_⟩) ?_ ?_
   rotate_left
   ·intro w'
    go_simp
    with_reducible rfl
   rotate_left
   ·simp only [Act.put, sA_, sB_, sC_, i64_w, i32_w]
    rfl
   refine pure_ (i := 20) (N := some 44) (v := ?_) (a' := ?_) (tf 25 2097151) rfl rfl (any_of HT_.out (by kernel_rfl)) (fun _ _ _ h => h) (Or.inl ⟨by rfl, ?_⟩) ?_ ?_
   rotate_left
   ·intro w'
    go_simp
    with_reducible rfl
   rotate_left
   ·simp only [Act.put, sA_, sB_, sC_, i64_w, i32_w]
    rfl
   refine pure_ (i := 21) (N := some 45) (v := undef) (a' := ?_) (tf 25 4194303) rfl rfl (any_of HT_.out (by kernel_rfl)) (fun _ _ _ h => h) (Or.inr ⟨by rfl, rfl⟩) ?_ ?_
   rotate_left
   ·simp only [Act.put, sA_, sB_, sC_, i64_w, i32_w]
    rfl
   refine pure_ (i := 22) (N := some 46) (v := undef) (a' := ?_) (tf 25 8388607) rfl rfl (any_of HT_.out (by kernel_rfl)) (fun _ _ _ h => h) (Or.inr ⟨by rfl, rfl⟩) ?_ ?_
   rotate_left
   ·simp only [Act.put, sA_, sB_, sC_, i64_w, i32_w]
    rfl
   refine pure_ (i := 23) (N := some 47) (v := ?_) (a' := ?_) (tf 25 16777215) rfl rfl (any_of HT_.out (by kernel_rfl)) (fun _ _ _ h => h) (Or.inl ⟨by rfl, ?_⟩) ?_ ?_
   rotate_left
   ·intro w'
    go_simp
    with_reducible rfl
   rotate_left
   ·simp only [Act.put, sA_, sB_, sC_, i64_w, i32_w]
    rfl
   refine pure_ (i := 24) (N := some 0) (v := ?_) (a' := ?_) (tf 25 33554431) rfl rfl (any_of HT_.out (by kernel_rfl)) (fun _ _ _ h => h) (Or.inl ⟨by rfl, ?_⟩) ?_ ?_
   rotate_left
   ·intro w'
    go_simp
    with_reducible rfl
   rotate_left
   ·simp only [Act.put, sA_, sB_, sC_, i64_w, i32_w]
    rfl
   refine done_ (done_of HT_.out (by kernel_rfl)) ?_
   try go_wp2
   go_ret
   exact ⟨by first | rfl | (simp [errW_none, errW_some] <;> rfl) | (simp [*, errW_none, errW_some] <;> rfl), by repeat (first | (with_reducible first | exact HB.out | apply bA_ | apply bN_ | apply bD_ | refine bS_ ?_ GE296.out | refine bS_ ?_ GE310.out) | exact HB.out)⟩
 ·rw [if_neg c7] at H
  have c7b0 : (t285 == 31) = false := beq_eq_false_iff_ne.mpr c7
  have c7b1 : (t285 != 31) = true := bne_iff_ne.mpr c7
  obtain rfl := Option.some.inj H
  go_enter Tryd.func12, Tryd.ntmps12
  try go_wp2_with (first | ((with_reducible refine gate_callee (f := 22) rfl ?_); refine goesL_ (some 9) rfl rfl Tryd.func22 (by kernel_rfl) rfl #[.agg #[.int .i64 2, .int .u64 0, .string (⟨#[49, 70, 122]⟩ : ByteArray), .int .i64 0]] rfl (by (try simp only [List.map_toArray, List.map_cons, List.map_nil]); first | done | rfl | (simp only [List.length_drop, List.length_take]; rfl)) ?_; (with_reducible refine (value_Integer.calls k 2 0 (⟨#[49, 70, 122]⟩ : ByteArray) 0 t285 t286 _ A1.out).mono ?_); rintro e w80 ⟨rfl, hb⟩; refine ⟨_, rfl, ?_⟩; have n0_ := Aside0.mk (below_step (by repeat (first | (with_reducible first | exact HB.out | apply bA_ | apply bN_ | apply bD_) | exact HB.out)) hb); clear HB; have HB := n0_; clear n0_; (try clear hb); (try clear hb2); (try clear hk); (try clear hi)) | ((with_reducible refine gate_callee (f := 19) rfl ?_); refine goesL_ (some 14) rfl rfl Tryd.func19 (by kernel_rfl) rfl #[.int .u64 255] rfl (by (try simp only [List.map_toArray, List.map_cons, List.map_nil]); first | done | rfl | (simp only [List.length_drop, List.length_take]; rfl)) ?_; (with_reducible refine (platformfwref08_Number.calls 255 t287 t288 t289 t290 _ A2.out).mono ?_); rintro e w81 ⟨rfl, hb⟩; refine ⟨_, rfl, ?_⟩; have n0_ := Aside0.mk (below_step (by repeat (first | (with_reducible first | exact HB.out | apply bA_ | apply bN_ | apply bD_) | exact HB.out)) hb); clear HB; have HB := n0_; clear n0_; (try clear hb); (try clear hb2); (try clear hk); (try clear hi)) | ((with_reducible refine gate_callee (f := 8) rfl ?_); refine goesL_ (some 15) rfl rfl Tryd.func8 (by kernel_rfl) rfl #[.int .i64 75, .agg #[.int .i64 2, .int .u64 0, .string (⟨#[97]⟩ : ByteArray), .int .i64 0], .agg #[.int .i64 t287, .int .u64 t288, .string t289, .int .i64 t290]] rfl (by (try simp only [List.map_toArray, List.map_cons, List.map_nil]); first | done | rfl | (simp only [List.length_drop, List.length_take]; rfl)) ?_; (with_reducible refine (value_Binary.calls k 75 2 0 (⟨#[97]⟩ : ByteArray) 0 t287 t288 t289 t290 t291 t292 t293 t294 t295 _ ?hTT_ A3.out).mono ?_); (case hTT_ => exact tb_below HTT_.out (by repeat (first | (with_reducible first | exact HB.out | apply bA_ | apply bN_ | apply bD_) | exact HB.out))); rintro e w82 ⟨rfl, hb⟩; refine ⟨_, rfl, ?_⟩; have n0_ := Aside0.mk (below_step (by repeat (first | (with_reducible first | exact HB.out | apply bA_ | apply bN_ | apply bD_) | exact HB.out)) hb); clear HB; have HB := n0_; clear n0_; (try clear hb); (try clear hb2); (try clear hk); (try clear hi)) | ((with_reducible refine gate_dst (N := 3) rfl ?_); refine box_event ?hg (N := 3) ?hd (cs := #[.int .i64 0, .int .u64 0, .string (⟨#[]⟩ : ByteArray), .int .i64 0]) (t := 24) ?hr ?_; (case hd => rfl); (case hg => rfl); (case hr => first | (go_simp; done) | (go_simp; rfl)); intro gb296 hg w83 hbox hb; have n0_ := Aside0.mk (below_step (by repeat (first | (with_reducible first | exact HB.out | apply bA_ | apply bN_ | apply bD_) | exact HB.out)) hb); have n1_ := Aside0.mk (hbox); have n2_ := Aside0.mk ((by rw [hg]; exact (below_size (by repeat (first | (with_reducible first | exact HB.out | apply bA_ | apply bN_ | apply bD_) | exact HB.out))) : w.heap.size ≤ gb296)); have n3_ := Aside0.mk ((by rw [hg]; exact (below_size (by repeat (first | (with_reducible first | exact HB.out | apply bA_ | apply bN_ | apply bD_) | exact HB.out))) : w.heap.size ≤ gb296)); clear HB; have HB := n0_; have BK296 := n1_; have GW296 := n2_; have GE296 := n3_; clear n0_ n1_ n2_ n3_; clear hb hbox hg; obtain ⟨hcz84_0, hcz84_1, hcz84_2, hcz84_3⟩ := cells4_ BK296.out; obtain ⟨hfz84_0, hfz84_1, hfz84_2, hfz84_3⟩ := froz4_ BK296.out) | ((with_reducible refine gate_callee (f := 19) rfl ?_); refine goesL_ (some 19) rfl rfl Tryd.func19 (by kernel_rfl) rfl #[.int .u64 1] rfl (by (try simp only [List.map_toArray, List.map_cons, List.map_nil]); first | done | rfl | (simp only [List.length_drop, List.length_take]; rfl)) ?_; (with_reducible refine (platformfwref08_Number.calls 1 t297 t298 t299 t300 _ A4.out).mono ?_); rintro e w85 ⟨rfl, hb⟩; refine ⟨_, rfl, ?_⟩; have n0_ := Aside0.mk (blk_below (g := gb296) (o := .cells #[.int .i64 t291, .int .u64 t292, .string t293, .int .i64 t294] 24 (0, 0)) (by (with_reducible repeat (first | apply kN_ | apply kD_ | apply kA_)); refine blk_put (cs := #[.int .i64 t291, .int .u64 t292, .string t293, .int .i64 0]) ?_ 3 _ rfl; (with_reducible repeat (first | apply kN_ | apply kD_ | apply kA_)); refine blk_put (cs := #[.int .i64 t291, .int .u64 t292, .string (⟨#[]⟩ : ByteArray), .int .i64 0]) ?_ 2 _ rfl; (with_reducible repeat (first | apply kN_ | apply kD_ | apply kA_)); refine blk_put (cs := #[.int .i64 t291, .int .u64 0, .string (⟨#[]⟩ : ByteArray), .int .i64 0]) ?_ 1 _ rfl; (with_reducible repeat (first | apply kN_ | apply kD_ | apply kA_)); refine blk_put (cs := #[.int .i64 0, .int .u64 0, .string (⟨#[]⟩ : ByteArray), .int .i64 0]) ?_ 0 _ rfl; (with_reducible repeat (first | apply kN_ | apply kD_ | apply kA_)); exact BK296.out) hb); have n1_ := Aside0.mk (below_step (by repeat (first | (with_reducible first | exact HB.out | apply bA_ | apply bN_ | apply bD_ | refine bS_ ?_ GE296.out) | exact HB.out)) hb); clear BK296; clear HB; have BK296 := n0_; have HB := n1_; clear n0_ n1_; (try clear hb); (try clear hb2); (try clear hk); (try clear hi)) | ((with_reducible refine gate_callee (f := 19) rfl ?_); refine goesL_ (some 20) rfl rfl Tryd.func19 (by kernel_rfl) rfl #[.int .u64 64] rfl (by (try simp only [List.map_toArray, List.map_cons, List.map_nil]); first | done | rfl | (simp only [List.length_drop, List.length_take]; rfl)) ?_; (with_reducible refine (platformfwref08_Number.calls 64 t301 t302 t303 t304 _ A5.out).mono ?_); rintro e w86 ⟨rfl, hb⟩; refine ⟨_, rfl, ?_⟩; have n0_ := Aside0.mk (blk_below (g := gb296) (o := .cells #[.int .i64 t291, .int .u64 t292, .string t293, .int .i64 t294] 24 (0, 0)) (by (with_reducible repeat (first | apply kN_ | apply kD_ | apply kA_)); exact BK296.out) hb); have n1_ := Aside0.mk (below_step (by repeat (first | (with_reducible first | exact HB.out | apply bA_ | apply bN_ | apply bD_ | refine bS_ ?_ GE296.out) | exact HB.out)) hb); clear BK296; clear HB; have BK296 := n0_; have HB := n1_; clear n0_ n1_; (try clear hb); (try clear hb2); (try clear hk); (try clear hi)) | ((with_reducible refine gate_callee (f := 8) rfl ?_); refine goesL_ (some 21) rfl rfl Tryd.func8 (by kernel_rfl) rfl #[.int .i64 68, .agg #[.int .i64 t297, .int .u64 t298, .string t299, .int .i64 t300], .agg #[.int .i64 t301, .int .u64 t302, .string t303, .int .i64 t304]] rfl (by (try simp only [List.map_toArray, List.map_cons, List.map_nil]); first | done | rfl | (simp only [List.length_drop, List.length_take]; rfl)) ?_; (with_reducible refine (value_Binary.calls k 68 t297 t298 t299 t300 t301 t302 t303 t304 t305 t306 t307 t308 t309 _ ?hTT_ A6.out).mono ?_); (case hTT_ => exact tb_below HTT_.out (by repeat (first | (with_reducible first | exact HB.out | apply bA_ | apply bN_ | apply bD_ | refine bS_ ?_ GE296.out) | exact HB.out))); rintro e w87 ⟨rfl, hb⟩; refine ⟨_, rfl, ?_⟩; have n0_ := Aside0.mk (blk_below (g := gb296) (o := .cells #[.int .i64 t291, .int .u64 t292, .string t293, .int .i64 t294] 24 (0, 0)) (by (with_reducible repeat (first | apply kN_ | apply kD_ | apply kA_)); exact BK296.out) hb); have n1_ := Aside0.mk (below_step (by repeat (first | (with_reducible first | exact HB.out | apply bA_ | apply bN_ | apply bD_ | refine bS_ ?_ GE296.out) | exact HB.out)) hb); clear BK296; clear HB; have BK296 := n0_; have HB := n1_; clear n0_ n1_; (try clear hb); (try clear hb2); (try clear hk); (try clear hi)) | ((with_reducible refine gate_dst (N := 5) rfl ?_); refine box_event ?hg (N := 5) ?hd (cs := #[.int .i64 0, .int .u64 0, .string (⟨#[]⟩ : ByteArray), .int .i64 0]) (t := 24) ?hr ?_; (case hd => rfl); (case hg => rfl); (case hr => first | (go_simp; done) | (go_simp; rfl)); intro gb310 hg w88 hbox hb; have n0_ := Aside0.mk (blk_below (g := gb296) (o := .cells #[.int .i64 t291, .int .u64 t292, .string t293, .int .i64 t294] 24 (0, 0)) (by (with_reducible repeat (first | apply kN_ | apply kD_ | apply kA_)); exact BK296.out) hb); have n1_ := Aside0.mk (below_step (by repeat (first | (with_reducible first | exact HB.out | apply bA_ | apply bN_ | apply bD_ | refine bS_ ?_ GE296.out) | exact HB.out)) hb); have n2_ := Aside0.mk (hbox); have n3_ := Aside0.mk ((by rw [hg]; exact (below_size (by repeat (first | (with_reducible first | exact HB.out | apply bA_ | apply bN_ | apply bD_ | refine bS_ ?_ GE296.out) | exact HB.out))) : w.heap.size ≤ gb310)); have n4_ := Aside0.mk ((by rw [hg]; exact (below_size (by repeat (first | (with_reducible first | exact HB.out | apply bA_ | apply bN_ | apply bD_ | refine bS_ ?_ GE296.out) | exact HB.out))) : w.heap.size ≤ gb310)); have n5_ := Aside0.mk ((by rw [hg]; exact Nat.ne_of_lt (blk_lt (g := gb296) (o := .cells #[.int .i64 t291, .int .u64 t292, .string t293, .int .i64 t294] 24 (0, 0)) (by (with_reducible repeat (first | apply kN_ | apply kD_ | apply kA_)); exact BK296.out)) : gb296 ≠ gb310)); have n6_ := Aside0.mk ((by rw [hg]; exact Nat.ne_of_gt (blk_lt (g := gb296) (o := .cells #[.int .i64 t291, .int .u64 t292, .string t293, .int .i64 t294] 24 (0, 0)) (by (with_reducible repeat (first | apply kN_ | apply kD_ | apply kA_)); exact BK296.out)) : gb310 ≠ gb296)); clear BK296; clear HB; have BK296 := n0_; have HB := n1_; have BK310 := n2_; have GW310 := n3_; have GE310 := n4_; have NB296_310 := n5_; have NB310_296 := n6_; clear n0_ n1_ n2_ n3_ n4_ n5_ n6_; clear hb hbox hg; have hnb89 := NB310_296.out; have hnc89 := NB296_310.out; obtain ⟨hcz90_0, hcz90_1, hcz90_2, hcz90_3⟩ := cells4_ BK310.out; obtain ⟨hfz90_0, hfz90_1, hfz90_2, hfz90_3⟩ := froz4_ BK310.out))
  have n0_ : Aside0 (((((w88.setCell ⟨gb310, 0, none⟩ (.int .i64 t305)).setCell ⟨gb310, 1, none⟩ (.int .u64 t306)).setCell ⟨gb310, 2, none⟩ (.string t307)).setCell ⟨gb310, 3, none⟩ (.int .i64 t308)).heap[gb296]? = some (.cells #[.int .i64 t291, .int .u64 t292, .string t293, .int .i64 t294] 24 (0, 0))) := ⟨by (with_reducible repeat (first | apply kN_ | apply kD_ | apply kA_)); refine blk_far ?_ NB296_310.out _; (with_reducible repeat (first | apply kN_ | apply kD_ | apply kA_)); refine blk_far ?_ NB296_310.out _; (with_reducible repeat (first | apply kN_ | apply kD_ | apply kA_)); refine blk_far ?_ NB296_310.out _; (with_reducible repeat (first | apply kN_ | apply kD_ | apply kA_)); refine blk_far ?_ NB296_310.out _; (with_reducible repeat (first | apply kN_ | apply kD_ | apply kA_)); exact BK296.out⟩
  have n1_ : Aside0 (((((w88.setCell ⟨gb310, 0, none⟩ (.int .i64 t305)).setCell ⟨gb310, 1, none⟩ (.int .u64 t306)).setCell ⟨gb310, 2, none⟩ (.string t307)).setCell ⟨gb310, 3, none⟩ (.int .i64 t308)).heap[gb310]? = some (.cells #[.int .i64 t305, .int .u64 t306, .string t307, .int .i64 t308] 24 (0, 0))) := ⟨by (with_reducible repeat (first | apply kN_ | apply kD_ | apply kA_)); refine blk_put (cs := #[.int .i64 t305, .int .u64 t306, .string t307, .int .i64 0]) ?_ 3 _ rfl; (with_reducible repeat (first | apply kN_ | apply kD_ | apply kA_)); refine blk_put (cs := #[.int .i64 t305, .int .u64 t306, .string (⟨#[]⟩ : ByteArray), .int .i64 0]) ?_ 2 _ rfl; (with_reducible repeat (first | apply kN_ | apply kD_ | apply kA_)); refine blk_put (cs := #[.int .i64 t305, .int .u64 0, .string (⟨#[]⟩ : ByteArray), .int .i64 0]) ?_ 1 _ rfl; (with_reducible repeat (first | apply kN_ | apply kD_ | apply kA_)); refine blk_put (cs := #[.int .i64 0, .int .u64 0, .string (⟨#[]⟩ : ByteArray), .int .i64 0]) ?_ 0 _ rfl; (with_reducible repeat (first | apply kN_ | apply kD_ | apply kA_)); exact BK310.out⟩
  have n2_ : Aside0 (Below w.heap.size w ((((w88.setCell ⟨gb310, 0, none⟩ (.int .i64 t305)).setCell ⟨gb310, 1, none⟩ (.int .u64 t306)).setCell ⟨gb310, 2, none⟩ (.string t307)).setCell ⟨gb310, 3, none⟩ (.int .i64 t308))) := ⟨by repeat (first | (with_reducible first | exact HB.out | apply bA_ | apply bN_ | apply bD_ | refine bS_ ?_ GE296.out | refine bS_ ?_ GE310.out) | exact HB.out)⟩
  (try clear BK296)
  (try clear BK310)
  (try clear HB)
  generalize ((((w88.setCell ⟨gb310, 0, none⟩ (.int .i64 t305)).setCell ⟨gb310, 1, none⟩ (.int .u64 t306)).setCell ⟨gb310, 2, none⟩ (.string t307)).setCell ⟨gb310, 3, none⟩ (.int .i64 t308)) = w91 at n0_ n1_ n2_ ⊢
  have BK296 := n0_
  have BK310 := n1_
  have HB := n2_
  clear n0_ n1_ n2_
  have n0_ := Aside0.mk (kD_ BK296.out)
  have n1_ := Aside0.mk (kD_ BK310.out)
  have n2_ := Aside0.mk (bD_ HB.out)
  clear BK296
  clear BK310
  clear HB
  have BK296 := n0_
  have BK310 := n1_
  have HB := n2_
  clear n0_ n1_ n2_
  refine start_ (n := 25) (S := fun w' => True) (ds := []) #[false, false, false, false, false, false, false, false, false, false, false, false, false, false, false, false, false, false, false, false, false, false, false, false, false] (by kernel_rfl) rfl rfl trivial (fun hHeld => ?_); refine with_tabW platformfwlaw08_awake.tab4 platformfwlaw08_awake.bits4 (fun HT_ HW_ => ?_)
  generalize w91.drew = w92 at BK296 BK310 HB hHeld ⊢
  refine pure_ (i := 0) (N := some 24) (v := ?_) (a' := ?_) (tf 25 1) rfl rfl (any_of HT_.out (by kernel_rfl)) (fun _ _ _ h => h) (Or.inl ⟨by rfl, ?_⟩) ?_ ?_
  rotate_left
  ·intro w'
   go_simp
   with_reducible rfl
  rotate_left
  ·simp only [Act.put, sA_, sB_, sC_, i64_w, i32_w]
   rfl
  refine pure_ (i := 1) (N := some 25) (v := ?_) (a' := ?_) (tf 25 3) rfl rfl (any_of HT_.out (by kernel_rfl)) (fun _ _ _ h => h) (Or.inl ⟨by rfl, ?_⟩) ?_ ?_
  rotate_left
  ·intro w'
   go_simp
   with_reducible rfl
  rotate_left
  ·simp only [Act.put, sA_, sB_, sC_, i64_w, i32_w]
   rfl
  refine pure_ (i := 2) (N := some 26) (v := ?_) (a' := ?_) (tf 25 7) rfl rfl (any_of HT_.out (by kernel_rfl)) (fun _ _ _ h => h) (Or.inl ⟨by rfl, ?_⟩) ?_ ?_
  rotate_left
  ·intro w'
   go_simp
   with_reducible rfl
  rotate_left
  ·simp only [Act.put, sA_, sB_, sC_, i64_w, i32_w]
   rfl
  refine pure_ (i := 3) (N := some 27) (v := undef) (a' := ?_) (tf 25 15) rfl rfl (any_of HT_.out (by kernel_rfl)) (fun _ _ _ h => h) (Or.inr ⟨by rfl, rfl⟩) ?_ ?_
  rotate_left
  ·simp only [Act.put, sA_, sB_, sC_, i64_w, i32_w]
   rfl
  refine pure_ (i := 4) (N := some 28) (v := undef) (a' := ?_) (tf 25 31) rfl rfl (any_of HT_.out (by kernel_rfl)) (fun _ _ _ h => h) (Or.inr ⟨by rfl, rfl⟩) ?_ ?_
  rotate_left
  ·simp only [Act.put, sA_, sB_, sC_, i64_w, i32_w]
   rfl
  refine pure_ (i := 5) (N := some 29) (v := ?_) (a' := ?_) (tf 25 63) rfl rfl (any_of HT_.out (by kernel_rfl)) (fun _ _ _ h => h) (Or.inl ⟨by rfl, ?_⟩) ?_ ?_
  rotate_left
  ·intro w'
   go_simp
   with_reducible rfl
  rotate_left
  ·simp only [Act.put, sA_, sB_, sC_, i64_w, i32_w]
   rfl
  refine pure_ (i := 6) (N := some 30) (v := ?_) (a' := ?_) (tf 25 127) rfl rfl (any_of HT_.out (by kernel_rfl)) (fun _ _ _ h => h) (Or.inl ⟨by rfl, ?_⟩) ?_ ?_
  rotate_left
  ·intro w'
   go_simp
   with_reducible rfl
  rotate_left
  ·simp only [Act.put, sA_, sB_, sC_, i64_w, i32_w]
   rfl
  refine pure_ (i := 7) (N := some 31) (v := undef) (a' := ?_) (tf 25 255) rfl rfl (any_of HT_.out (by kernel_rfl)) (fun _ _ _ h => h) (Or.inr ⟨by rfl, rfl⟩) ?_ ?_
  rotate_left
  ·simp only [Act.put, sA_, sB_, sC_, i64_w, i32_w]
   rfl
  refine pure_ (i := 8) (N := some 32) (v := undef) (a' := ?_) (tf 25 511) rfl rfl (any_of HT_.out (by kernel_rfl)) (fun _ _ _ h => h) (Or.inr ⟨by rfl, rfl⟩) ?_ ?_
  rotate_left
  ·simp only [Act.put, sA_, sB_, sC_, i64_w, i32_w]
   rfl
  refine pure_ (i := 9) (N := some 33) (v := undef) (a' := ?_) (tf 25 1023) rfl rfl (any_of HT_.out (by kernel_rfl)) (fun _ _ _ h => h) (Or.inr ⟨by rfl, rfl⟩) ?_ ?_
  rotate_left
  ·simp only [Act.put, sA_, sB_, sC_, i64_w, i32_w]
   rfl
  refine pure_ (i := 10) (N := some 34) (v := ?_) (a' := ?_) (tf 25 2047) rfl rfl (any_of HT_.out (by kernel_rfl)) (fun _ _ _ h => h) (Or.inl ⟨by rfl, ?_⟩) ?_ ?_
  rotate_left
  ·intro w'
   go_simp
   with_reducible rfl
  rotate_left
  ·simp only [Act.put, sA_, sB_, sC_, i64_w, i32_w]
   rfl
  refine pure_ (i := 11) (N := some 35) (v := ?_) (a' := ?_) (tf 25 4095) rfl rfl (any_of HT_.out (by kernel_rfl)) (fun _ _ _ h => h) (Or.inl ⟨by rfl, ?_⟩) ?_ ?_
  rotate_left
  ·intro w'
   go_simp
   with_reducible rfl
  rotate_left
  ·simp only [Act.put, sA_, sB_, sC_, i64_w, i32_w]
   rfl
  refine pure_ (i := 12) (N := some 36) (v := undef) (a' := ?_) (tf 25 8191) rfl rfl (any_of HT_.out (by kernel_rfl)) (fun _ _ _ h => h) (Or.inr ⟨by rfl, rfl⟩) ?_ ?_
  rotate_left
  ·simp only [Act.put, sA_, sB_, sC_, i64_w, i32_w]
   rfl
  refine pure_ (i := 13) (N := some 37) (v := undef) (a' := ?_) (tf 25 16383) rfl rfl (any_of HT_.out (by kernel_rfl)) (fun _ _ _ h => h) (Or.inr ⟨by rfl, rfl⟩) ?_ ?_
  rotate_left
  ·simp only [Act.put, sA_, sB_, sC_, i64_w, i32_w]
   rfl
  refine pure_ (i := 14) (N := some 38) (v := ?_) (a' := ?_) (tf 25 32767) rfl rfl (any_of HT_.out (by kernel_rfl)) (fun _ _ _ h => h) (Or.inl ⟨by rfl, ?_⟩) ?_ ?_
  rotate_left
  ·intro w'
   go_simp
   with_reducible rfl
  rotate_left
  ·simp only [Act.put, sA_, sB_, sC_, i64_w, i32_w]
   rfl
  refine pure_ (i := 15) (N := some 39) (v := ?_) (a' := ?_) (tf 25 65535) rfl rfl (any_of HT_.out (by kernel_rfl)) (fun _ _ _ h => h) (Or.inl ⟨by rfl, ?_⟩) ?_ ?_
  rotate_left
  ·intro w'
   go_simp
   with_reducible rfl
  rotate_left
  ·simp only [Act.put, sA_, sB_, sC_, i64_w, i32_w]
   rfl
  refine pure_ (i := 16) (N := some 40) (v := undef) (a' := ?_) (tf 25 131071) rfl rfl (any_of HT_.out (by kernel_rfl)) (fun _ _ _ h => h) (Or.inr ⟨by rfl, rfl⟩) ?_ ?_
  rotate_left
  ·simp only [Act.put, sA_, sB_, sC_, i64_w, i32_w]
   rfl
  refine pure_ (i := 17) (N := some 41) (v := undef) (a' := ?_) (tf 25 262143) rfl rfl (any_of HT_.out (by kernel_rfl)) (fun _ _ _ h => h) (Or.inr ⟨by rfl, rfl⟩) ?_ ?_
  rotate_left
  ·simp only [Act.put, sA_, sB_, sC_, i64_w, i32_w]
   rfl
  refine pure_ (i := 18) (N := some 42) (v := undef) (a' := ?_) (tf 25 524287) rfl rfl (any_of HT_.out (by kernel_rfl)) (fun _ _ _ h => h) (Or.inr ⟨by rfl, rfl⟩) ?_ ?_
  rotate_left
  ·simp only [Act.put, sA_, sB_, sC_, i64_w, i32_w]
   rfl
  refine pure_ (i := 19) (N := some 43) (v := ?_) (a' := ?_) (tf 25 1048575) rfl rfl (any_of HT_.out (by kernel_rfl)) (fun _ _ _ h => h) (Or.inl ⟨by rfl, ?_⟩) ?_ ?_
  rotate_left
  ·intro w'
   go_simp
   with_reducible rfl
  rotate_left
  ·simp only [Act.put, sA_, sB_, sC_, i64_w, i32_w]
   rfl
  refine pure_ (i := 20) (N := some 44) (v := ?_) (a' := ?_) (tf 25 2097151) rfl rfl (any_of HT_.out (by kernel_rfl)) (fun _ _ _ h => h) (Or.inl ⟨by rfl, ?_⟩) ?_ ?_
  rotate_left
  ·intro w'
   go_simp
   with_reducible rfl
  rotate_left
  ·simp only [Act.put, sA_, sB_, sC_, i64_w, i32_w]
   rfl
  refine pure_ (i := 21) (N := some 45) (v := undef) (a' := ?_) (tf 25 4194303) rfl rfl (any_of HT_.out (by kernel_rfl)) (fun _ _ _ h => h) (Or.inr ⟨by rfl, rfl⟩) ?_ ?_
  rotate_left
  ·simp only [Act.put, sA_, sB_, sC_, i64_w, i32_w]
   rfl
  refine pure_ (i := 22) (N := some 46) (v := undef) (a' := ?_) (tf 25 8388607) rfl rfl (any_of HT_.out (by kernel_rfl)) (fun _ _ _ h => h) (Or.inr ⟨by rfl, rfl⟩) ?_ ?_
  rotate_left
  ·simp only [Act.put, sA_, sB_, sC_, i64_w, i32_w]
   rfl
  refine pure_ (i := 23) (N := some 47) (v := ?_) (a' := ?_) (tf 25 16777215) rfl rfl (any_of HT_.out (by kernel_rfl)) (fun _ _ _ h => h) (Or.inl ⟨by rfl, ?_⟩) ?_ ?_
  rotate_left
  ·intro w'
   go_simp
   with_reducible rfl
  rotate_left
  ·simp only [Act.put, sA_, sB_, sC_, i64_w, i32_w]
   rfl
  refine pure_ (i := 24) (N := some 0) (v := ?_) (a' := ?_) (tf 25 33554431) rfl rfl (any_of HT_.out (by kernel_rfl)) (fun _ _ _ h => h) (Or.inl ⟨by rfl, ?_⟩) ?_ ?_
  rotate_left
  ·intro w'
   go_simp
   with_reducible rfl
  rotate_left
  ·simp only [Act.put, sA_, sB_, sC_, i64_w, i32_w]
   rfl
  refine done_ (done_of HT_.out (by kernel_rfl)) ?_
  try go_wp2
  go_ret
  exact ⟨by first | rfl | (simp [errW_none, errW_some] <;> rfl) | (simp [*, errW_none, errW_some] <;> rfl), by repeat (first | (with_reducible first | exact HB.out | apply bA_ | apply bN_ | apply bD_ | refine bS_ ?_ GE296.out | refine bS_ ?_ GE310.out) | exact HB.out)⟩

end Go.Proofs.YtdmeglmmihaonaaDoor.PValueArithmetic
