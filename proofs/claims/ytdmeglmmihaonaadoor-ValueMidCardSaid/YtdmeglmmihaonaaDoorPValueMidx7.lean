-- Written by a program of this session's (wip/print_patch.py over the kit's print) out of the translation; Lean checks it.
import Derived.Test.YtdmeglmmihaonaaDoorPValueMidx0
import Derived.Test.YtdmeglmmihaonaaDoorPValueMidx1
import Derived.Test.YtdmeglmmihaonaaDoorPValueMidx2
import Derived.Test.YtdmeglmmihaonaaDoorPValueMidx5
import Derived.Test.YtdmeglmmihaonaaDoorVValueMidExtP
namespace Go.Proofs.YtdmeglmmihaonaaDoor.PValueMid
open Go.RowKit Go.Proofs.YtdmeglmmihaonaaDoor.Ext Go.Proofs.YtdmeglmmihaonaaDoorW.PrintWords Go.Proofs.YtdmeglmmihaonaaDoorW.PrintLast Go.Proofs.YtdmeglmmihaonaaDoorW.PrintMore
attribute [local go_sem] max2_int min2_int max_two min_two max_three min_three max_four min_four   -- for this text's walks alone
set_option linter.unusedVariables false
set_option linter.unusedSimpArgs false

attribute [local go_sem high] eqA24
/-! ### platformfwlaw08_awake: function 12 -/
def platformfwlaw08_awake.f (k : Nat)  : Option (Bool) := (value_Integer.f k 2 0 (⟨#[49, 70, 122]⟩ : ByteArray) 0).bind fun bt299 => ((platformfwref08_Number.f 255).bind fun bt301 => ((value_Binary.f k 75 2 0 (⟨#[97]⟩ : ByteArray) 0 bt301.1 bt301.2.1 bt301.2.2.1 bt301.2.2.2).bind fun bt305 => ((platformfwref08_Number.f 1).bind fun bt311 => ((platformfwref08_Number.f 64).bind fun bt315 => ((value_Binary.f k 68 bt311.1 bt311.2.1 bt311.2.2.1 bt311.2.2.2 bt315.1 bt315.2.1 bt315.2.2.1 bt315.2.2.2).bind fun bt319 => (if bt299.1 = 31 then (if bt299.2 = 0 then (if (bt305.1 == 2 && (bt305.2.1 == 0 && (bt305.2.2.1.toList == ([97, 48, 48, 48, 48, 48, 48, 48, 48, 48, 48, 48, 48, 48, 48, 70, 70] : List UInt8) && (bt305.2.2.2.1 == 0)))) = true then (if bt305.2.2.2.2 = 0 then ((platformfwref08_Number.f 0).bind fun bt325 => (if (bt319.1 == bt325.1 && (bt319.2.1 == bt325.2.1 && (bt319.2.2.1.toList == bt325.2.2.1.toList && (bt319.2.2.2.1 == bt325.2.2.2)))) = true then (some (bt319.2.2.2.2 == 0)) else (some false))) else (some false)) else (some false)) else (some false)) else (some false)))))))
theorem platformfwlaw08_awake.mono : ∀ k, LeO (platformfwlaw08_awake.f k ) (platformfwlaw08_awake.f (k + 1) ) := by
 intro  k
 unfold platformfwlaw08_awake.f
 repeat' first
   | (with_reducible exact value_Binary.mono _ _ _ _ _ _ _ _ _ _)
   | (with_reducible exact value_Integer.mono _ _ _ _ _)
   | (with_reducible exact LeO.refl _)
   | (with_reducible exact LeO.none _)
   | (with_reducible refine LeO.ite ?_ ?_)
   | (with_reducible refine LeO.bind ?_ (fun _ => ?_))
   | exact value_Binary.mono _ _ _ _ _ _ _ _ _ _
   | exact value_Integer.mono _ _ _ _ _
   | exact LeO.none _
   | refine LeO.ite ?_ ?_
   | refine LeO.bind ?_ (fun _ => ?_)
def platformfwlaw08_awake.T4 : Bool × List (List Nat × List Nat) := (true, [([], []), ([0], [0]), ([1], [1]), ([2], [2]), ([3, 2], [2, 3]), ([2, 4], [2, 4]), ([5, 2], [5]), ([6], [6]), ([6], [6]), ([7, 8, 6], [6, 7, 8]), ([6, 9], [6, 9]), ([10, 6], [10]), ([11], [11]), ([12, 11], [11, 12]), ([11, 13], [11, 13]), ([14, 11], [14]), ([15], [15]), ([15, 15], [15]), ([16, 17, 15], [15, 16, 17]), ([15, 18], [15, 18]), ([19, 17], [19]), ([20], [20]), ([21, 20], [20, 21]), ([20, 22], [20, 22]), ([23, 20, 0, 1, 2, 3, 4, 5, 6, 7, 8, 9, 10, 11, 12, 13, 14, 15, 16, 17, 18, 19, 20, 21, 22, 23], [23])])
def platformfwlaw08_awake.B4 : List Nat := [0, 1, 3, 7, 15, 31, 63, 127, 127, 511, 1023, 2047, 4095, 8191, 16383, 32767, 65535, 65535, 262143, 524287, 1048575, 2097151, 4194303, 8388607, 16777215]
theorem platformfwlaw08_awake.tab4 : rtab .any (opsOf Tryd.f12 4) = platformfwlaw08_awake.T4 := by kernel_rfl
theorem platformfwlaw08_awake.bits4 : waitsOk platformfwlaw08_awake.T4.2 platformfwlaw08_awake.B4 = true := by kernel_rfl
set_option maxHeartbeats 8000000 in
set_option maxRecDepth 100000 in
theorem platformfwlaw08_awake.calls (k : Nat)  (r : Bool) (w : World) (hT_ : w.cell? ⟨6, 15, none⟩ = some (.int .u8 4)) (hr_ : Aside0 (r = true)) (h : platformfwlaw08_awake.f k  = some r) :
  Calls Tryd.prog 12 #[] w fun e w' => e = .returned (.bool r) ∧ Below w.heap.size w w' := by
 have HTT_ := Aside0.mk hT_
 clear hT_
 have hu24 := Tryd.underlying24
 have HB := Aside0.mk (Below.refl w.heap.size w)
 have H : ((value_Integer.f k 2 0 (⟨#[49, 70, 122]⟩ : ByteArray) 0).bind fun bt299 => ((platformfwref08_Number.f 255).bind fun bt301 => ((value_Binary.f k 75 2 0 (⟨#[97]⟩ : ByteArray) 0 bt301.1 bt301.2.1 bt301.2.2.1 bt301.2.2.2).bind fun bt305 => ((platformfwref08_Number.f 1).bind fun bt311 => ((platformfwref08_Number.f 64).bind fun bt315 => ((value_Binary.f k 68 bt311.1 bt311.2.1 bt311.2.2.1 bt311.2.2.2 bt315.1 bt315.2.1 bt315.2.2.1 bt315.2.2.2).bind fun bt319 => (if bt299.1 = 31 then (if bt299.2 = 0 then (if (bt305.1 == 2 && (bt305.2.1 == 0 && (bt305.2.2.1.toList == ([97, 48, 48, 48, 48, 48, 48, 48, 48, 48, 48, 48, 48, 48, 48, 70, 70] : List UInt8) && (bt305.2.2.2.1 == 0)))) = true then (if bt305.2.2.2.2 = 0 then ((platformfwref08_Number.f 0).bind fun bt325 => (if (bt319.1 == bt325.1 && (bt319.2.1 == bt325.2.1 && (bt319.2.2.1.toList == bt325.2.2.1.toList && (bt319.2.2.2.1 == bt325.2.2.2)))) = true then (some (bt319.2.2.2.2 == 0)) else (some false))) else (some false)) else (some false)) else (some false)) else (some false)))))))) = some r := h
 clear h
 replace H := Option.bind_eq_some_iff.mp H
 obtain ⟨⟨t299, t300⟩, A10, H⟩ := H
 replace H : ((platformfwref08_Number.f 255).bind fun bt301 => ((value_Binary.f k 75 2 0 (⟨#[97]⟩ : ByteArray) 0 bt301.1 bt301.2.1 bt301.2.2.1 bt301.2.2.2).bind fun bt305 => ((platformfwref08_Number.f 1).bind fun bt311 => ((platformfwref08_Number.f 64).bind fun bt315 => ((value_Binary.f k 68 bt311.1 bt311.2.1 bt311.2.2.1 bt311.2.2.2 bt315.1 bt315.2.1 bt315.2.2.1 bt315.2.2.2).bind fun bt319 => (if t299 = 31 then (if t300 = 0 then (if (bt305.1 == 2 && (bt305.2.1 == 0 && (bt305.2.2.1.toList == ([97, 48, 48, 48, 48, 48, 48, 48, 48, 48, 48, 48, 48, 48, 48, 70, 70] : List UInt8) && (bt305.2.2.2.1 == 0)))) = true then (if bt305.2.2.2.2 = 0 then ((platformfwref08_Number.f 0).bind fun bt325 => (if (bt319.1 == bt325.1 && (bt319.2.1 == bt325.2.1 && (bt319.2.2.1.toList == bt325.2.2.1.toList && (bt319.2.2.2.1 == bt325.2.2.2)))) = true then (some (bt319.2.2.2.2 == 0)) else (some false))) else (some false)) else (some false)) else (some false)) else (some false))))))) = some r := H
 have A1 := Aside0.mk A10
 clear A10
 replace H := Option.bind_eq_some_iff.mp H
 obtain ⟨⟨t301, t302, t303, t304⟩, A20, H⟩ := H
 replace H : ((value_Binary.f k 75 2 0 (⟨#[97]⟩ : ByteArray) 0 t301 t302 t303 t304).bind fun bt305 => ((platformfwref08_Number.f 1).bind fun bt311 => ((platformfwref08_Number.f 64).bind fun bt315 => ((value_Binary.f k 68 bt311.1 bt311.2.1 bt311.2.2.1 bt311.2.2.2 bt315.1 bt315.2.1 bt315.2.2.1 bt315.2.2.2).bind fun bt319 => (if t299 = 31 then (if t300 = 0 then (if (bt305.1 == 2 && (bt305.2.1 == 0 && (bt305.2.2.1.toList == ([97, 48, 48, 48, 48, 48, 48, 48, 48, 48, 48, 48, 48, 48, 48, 70, 70] : List UInt8) && (bt305.2.2.2.1 == 0)))) = true then (if bt305.2.2.2.2 = 0 then ((platformfwref08_Number.f 0).bind fun bt325 => (if (bt319.1 == bt325.1 && (bt319.2.1 == bt325.2.1 && (bt319.2.2.1.toList == bt325.2.2.1.toList && (bt319.2.2.2.1 == bt325.2.2.2)))) = true then (some (bt319.2.2.2.2 == 0)) else (some false))) else (some false)) else (some false)) else (some false)) else (some false)))))) = some r := H
 have A2 := Aside0.mk A20
 clear A20
 replace H := Option.bind_eq_some_iff.mp H
 obtain ⟨⟨t305, t306, t307, t308, t309⟩, A30, H⟩ := H
 replace H : ((platformfwref08_Number.f 1).bind fun bt311 => ((platformfwref08_Number.f 64).bind fun bt315 => ((value_Binary.f k 68 bt311.1 bt311.2.1 bt311.2.2.1 bt311.2.2.2 bt315.1 bt315.2.1 bt315.2.2.1 bt315.2.2.2).bind fun bt319 => (if t299 = 31 then (if t300 = 0 then (if (t305 == 2 && (t306 == 0 && (t307.toList == ([97, 48, 48, 48, 48, 48, 48, 48, 48, 48, 48, 48, 48, 48, 48, 70, 70] : List UInt8) && (t308 == 0)))) = true then (if t309 = 0 then ((platformfwref08_Number.f 0).bind fun bt325 => (if (bt319.1 == bt325.1 && (bt319.2.1 == bt325.2.1 && (bt319.2.2.1.toList == bt325.2.2.1.toList && (bt319.2.2.2.1 == bt325.2.2.2)))) = true then (some (bt319.2.2.2.2 == 0)) else (some false))) else (some false)) else (some false)) else (some false)) else (some false))))) = some r := H
 have A3 := Aside0.mk A30
 clear A30
 replace H := Option.bind_eq_some_iff.mp H
 obtain ⟨⟨t311, t312, t313, t314⟩, A40, H⟩ := H
 replace H : ((platformfwref08_Number.f 64).bind fun bt315 => ((value_Binary.f k 68 t311 t312 t313 t314 bt315.1 bt315.2.1 bt315.2.2.1 bt315.2.2.2).bind fun bt319 => (if t299 = 31 then (if t300 = 0 then (if (t305 == 2 && (t306 == 0 && (t307.toList == ([97, 48, 48, 48, 48, 48, 48, 48, 48, 48, 48, 48, 48, 48, 48, 70, 70] : List UInt8) && (t308 == 0)))) = true then (if t309 = 0 then ((platformfwref08_Number.f 0).bind fun bt325 => (if (bt319.1 == bt325.1 && (bt319.2.1 == bt325.2.1 && (bt319.2.2.1.toList == bt325.2.2.1.toList && (bt319.2.2.2.1 == bt325.2.2.2)))) = true then (some (bt319.2.2.2.2 == 0)) else (some false))) else (some false)) else (some false)) else (some false)) else (some false)))) = some r := H
 have A4 := Aside0.mk A40
 clear A40
 replace H := Option.bind_eq_some_iff.mp H
 obtain ⟨⟨t315, t316, t317, t318⟩, A50, H⟩ := H
 replace H : ((value_Binary.f k 68 t311 t312 t313 t314 t315 t316 t317 t318).bind fun bt319 => (if t299 = 31 then (if t300 = 0 then (if (t305 == 2 && (t306 == 0 && (t307.toList == ([97, 48, 48, 48, 48, 48, 48, 48, 48, 48, 48, 48, 48, 48, 48, 70, 70] : List UInt8) && (t308 == 0)))) = true then (if t309 = 0 then ((platformfwref08_Number.f 0).bind fun bt325 => (if (bt319.1 == bt325.1 && (bt319.2.1 == bt325.2.1 && (bt319.2.2.1.toList == bt325.2.2.1.toList && (bt319.2.2.2.1 == bt325.2.2.2)))) = true then (some (bt319.2.2.2.2 == 0)) else (some false))) else (some false)) else (some false)) else (some false)) else (some false))) = some r := H
 have A5 := Aside0.mk A50
 clear A50
 replace H := Option.bind_eq_some_iff.mp H
 obtain ⟨⟨t319, t320, t321, t322, t323⟩, A60, H⟩ := H
 replace H : (if t299 = 31 then (if t300 = 0 then (if (t305 == 2 && (t306 == 0 && (t307.toList == ([97, 48, 48, 48, 48, 48, 48, 48, 48, 48, 48, 48, 48, 48, 48, 70, 70] : List UInt8) && (t308 == 0)))) = true then (if t309 = 0 then ((platformfwref08_Number.f 0).bind fun bt325 => (if (t319 == bt325.1 && (t320 == bt325.2.1 && (t321.toList == bt325.2.2.1.toList && (t322 == bt325.2.2.2)))) = true then (some (t323 == 0)) else (some false))) else (some false)) else (some false)) else (some false)) else (some false)) = some r := H
 have A6 := Aside0.mk A60
 clear A60
 by_cases c7 : t299 = 31
 ·rw [if_pos c7] at H
  have c7b0 : (t299 == 31) = true := beq_iff_eq.mpr c7
  have c7b1 : (t299 != 31) = false := bne_eq_false_iff_eq.mpr c7
  clear c7
  by_cases c8 : t300 = 0
  ·rw [if_pos c8] at H
   have c8b0 : (t300 == 0) = true := beq_iff_eq.mpr c8
   have c8b1 : (t300 != 0) = false := bne_eq_false_iff_eq.mpr c8
   clear c8
   by_cases c9 : (t305 == 2 && (t306 == 0 && (t307.toList == ([97, 48, 48, 48, 48, 48, 48, 48, 48, 48, 48, 48, 48, 48, 48, 70, 70] : List UInt8) && (t308 == 0)))) = true
   ·rw [if_pos c9] at H
    have c9b0 : (t305 == 2 && (t306 == 0 && (t307.toList == ([97, 48, 48, 48, 48, 48, 48, 48, 48, 48, 48, 48, 48, 48, 48, 70, 70] : List UInt8) && (t308 == 0)))) = true := c9
    (try (have c9b1 : decide (t305 = 2 && (t306 == 0 && (t307.toList == ([97, 48, 48, 48, 48, 48, 48, 48, 48, 48, 48, 48, 48, 48, 48, 70, 70] : List UInt8) && (t308 == 0)))) = true := by simpa using c9))
    (try (have c9b2 : (t305 == 2 && (t306 == 0 && (t307.toList == ([97, 48, 48, 48, 48, 48, 48, 48, 48, 48, 48, 48, 48, 48, 48, 70, 70] : List UInt8) && (t308 == 0)))) = true := by simpa using c9))
    clear c9
    by_cases c10 : t309 = 0
    ·rw [if_pos c10] at H
     have c10b0 : (t309 == 0) = true := beq_iff_eq.mpr c10
     have c10b1 : (t309 != 0) = false := bne_eq_false_iff_eq.mpr c10
     clear c10
     replace H := Option.bind_eq_some_iff.mp H
     obtain ⟨⟨t325, t326, t327, t328⟩, A110, H⟩ := H
     replace H : (if (t319 == t325 && (t320 == t326 && (t321.toList == t327.toList && (t322 == t328)))) = true then (some (t323 == 0)) else (some false)) = some r := H
     have A11 := Aside0.mk A110
     clear A110
     by_cases c12 : (t319 == t325 && (t320 == t326 && (t321.toList == t327.toList && (t322 == t328)))) = true
     ·rw [if_pos c12] at H
      have c12b0 : (t319 == t325 && (t320 == t326 && (t321.toList == t327.toList && (t322 == t328)))) = true := c12
      (try (have c12b1 : decide (t319 = t325 && (t320 == t326 && (t321.toList == t327.toList && (t322 == t328)))) = true := by simpa using c12))
      (try (have c12b2 : (t319 == t325 && (t320 == t326 && (t321.toList == t327.toList && (t322 == t328)))) = true := by simpa using c12))
      clear c12
      obtain rfl := Option.some.inj H
      go_enter Tryd.func12, Tryd.ntmps12
      try go_wp2_with (first | ((with_reducible refine gate_callee (f := 22) rfl ?_); refine goesL_ (some 9) rfl rfl Tryd.func22 (by kernel_rfl) rfl #[.agg #[.int .i64 2, .int .u64 0, .string (⟨#[49, 70, 122]⟩ : ByteArray), .int .i64 0]] rfl (by (try simp only [List.map_toArray, List.map_cons, List.map_nil]); first | done | rfl) ?_; (with_reducible refine (value_Integer.calls k 2 0 (⟨#[49, 70, 122]⟩ : ByteArray) 0 t299 t300 _ A1.out).mono ?_); rintro e w13 ⟨rfl, hb⟩; refine ⟨_, rfl, ?_⟩; replace HB := sqS_ (by repeat (first | (with_reducible first | exact HB.out | apply bA_ | apply bN_ | apply bD_) | exact HB.out)) hb; (try clear hb); (try clear hb2); (try clear hk); (try clear hi)) | ((with_reducible refine gate_callee (f := 19) rfl ?_); refine goesL_ (some 14) rfl rfl Tryd.func19 (by kernel_rfl) rfl #[.int .u64 255] rfl (by (try simp only [List.map_toArray, List.map_cons, List.map_nil]); first | done | rfl) ?_; (with_reducible refine (platformfwref08_Number.calls 255 t301 t302 t303 t304 _ A2.out).mono ?_); rintro e w14 ⟨rfl, hb⟩; refine ⟨_, rfl, ?_⟩; replace HB := sqS_ (by repeat (first | (with_reducible first | exact HB.out | apply bA_ | apply bN_ | apply bD_) | exact HB.out)) hb; (try clear hb); (try clear hb2); (try clear hk); (try clear hi)) | ((with_reducible refine gate_callee (f := 8) rfl ?_); refine goesL_ (some 15) rfl rfl Tryd.func8 (by kernel_rfl) rfl #[.int .i64 75, .agg #[.int .i64 2, .int .u64 0, .string (⟨#[97]⟩ : ByteArray), .int .i64 0], .agg #[.int .i64 t301, .int .u64 t302, .string t303, .int .i64 t304]] rfl (by (try simp only [List.map_toArray, List.map_cons, List.map_nil]); first | done | rfl) ?_; (with_reducible refine (value_Binary.calls k 75 2 0 (⟨#[97]⟩ : ByteArray) 0 t301 t302 t303 t304 t305 t306 t307 t308 t309 _ ?hTT_ A3.out).mono ?_); (case hTT_ => exact tb_below HTT_.out (by repeat (first | (with_reducible first | exact HB.out | apply bA_ | apply bN_ | apply bD_) | exact HB.out))); rintro e w15 ⟨rfl, hb⟩; refine ⟨_, rfl, ?_⟩; replace HB := sqS_ (by repeat (first | (with_reducible first | exact HB.out | apply bA_ | apply bN_ | apply bD_) | exact HB.out)) hb; (try clear hb); (try clear hb2); (try clear hk); (try clear hi)) | ((with_reducible refine gate_dst (N := 3) rfl ?_); refine box_event ?hg (N := 3) ?hd (cs := #[.int .i64 0, .int .u64 0, .string ⟨#[]⟩, .int .i64 0]) (t := 24) ?hr ?_; (case hd => rfl); (case hg => rfl); (case hr => first | (go_simp; done) | (go_simp; rfl)); intro gb310 hg w16 hbox hb; replace HB := sqN_ (by repeat (first | (with_reducible first | exact HB.out | apply bA_ | apply bN_ | apply bD_) | exact HB.out)) hg hb; obtain ⟨HB, GE310⟩ := HB; have BK310 := Aside0.mk hbox; clear hb hbox hg; obtain ⟨hcz17_0, hcz17_1, hcz17_2, hcz17_3⟩ := cells4_ BK310.out; obtain ⟨hfz17_0, hfz17_1, hfz17_2, hfz17_3⟩ := froz4_ BK310.out) | ((with_reducible refine gate_callee (f := 19) rfl ?_); refine goesL_ (some 19) rfl rfl Tryd.func19 (by kernel_rfl) rfl #[.int .u64 1] rfl (by (try simp only [List.map_toArray, List.map_cons, List.map_nil]); first | done | rfl) ?_; (with_reducible refine (platformfwref08_Number.calls 1 t311 t312 t313 t314 _ A4.out).mono ?_); rintro e w18 ⟨rfl, hb⟩; refine ⟨_, rfl, ?_⟩; replace BK310 := sqQ_ (g := gb310) (o := .cells #[.int .i64 t305, .int .u64 t306, .string t307, .int .i64 t308] 24 (0, 0)) (by (with_reducible repeat (first | apply kN_ | apply kD_ | apply kA_)); refine blk_put (cs := #[.int .i64 t305, .int .u64 t306, .string t307, .int .i64 0]) ?_ 3 _ rfl; (with_reducible repeat (first | apply kN_ | apply kD_ | apply kA_)); refine blk_put (cs := #[.int .i64 t305, .int .u64 t306, .string ⟨#[]⟩, .int .i64 0]) ?_ 2 _ rfl; (with_reducible repeat (first | apply kN_ | apply kD_ | apply kA_)); refine blk_put (cs := #[.int .i64 t305, .int .u64 0, .string ⟨#[]⟩, .int .i64 0]) ?_ 1 _ rfl; (with_reducible repeat (first | apply kN_ | apply kD_ | apply kA_)); refine blk_put (cs := #[.int .i64 0, .int .u64 0, .string ⟨#[]⟩, .int .i64 0]) ?_ 0 _ rfl; (with_reducible repeat (first | apply kN_ | apply kD_ | apply kA_)); exact BK310.out) hb; replace HB := sqS_ (by repeat (first | (with_reducible first | exact HB.out | apply bA_ | apply bN_ | apply bD_ | refine bS_ ?_ GE310.out) | exact HB.out)) hb; (try clear hb); (try clear hb2); (try clear hk); (try clear hi)) | ((with_reducible refine gate_callee (f := 19) rfl ?_); refine goesL_ (some 20) rfl rfl Tryd.func19 (by kernel_rfl) rfl #[.int .u64 64] rfl (by (try simp only [List.map_toArray, List.map_cons, List.map_nil]); first | done | rfl) ?_; (with_reducible refine (platformfwref08_Number.calls 64 t315 t316 t317 t318 _ A5.out).mono ?_); rintro e w19 ⟨rfl, hb⟩; refine ⟨_, rfl, ?_⟩; replace BK310 := sqB_ BK310 (by (with_reducible repeat (first | apply kN_ | apply kD_ | apply kA_)); exact BK310.out) hb; replace HB := sqS_ (by repeat (first | (with_reducible first | exact HB.out | apply bA_ | apply bN_ | apply bD_ | refine bS_ ?_ GE310.out) | exact HB.out)) hb; (try clear hb); (try clear hb2); (try clear hk); (try clear hi)) | ((with_reducible refine gate_callee (f := 8) rfl ?_); refine goesL_ (some 21) rfl rfl Tryd.func8 (by kernel_rfl) rfl #[.int .i64 68, .agg #[.int .i64 t311, .int .u64 t312, .string t313, .int .i64 t314], .agg #[.int .i64 t315, .int .u64 t316, .string t317, .int .i64 t318]] rfl (by (try simp only [List.map_toArray, List.map_cons, List.map_nil]); first | done | rfl) ?_; (with_reducible refine (value_Binary.calls k 68 t311 t312 t313 t314 t315 t316 t317 t318 t319 t320 t321 t322 t323 _ ?hTT_ A6.out).mono ?_); (case hTT_ => exact tb_below HTT_.out (by repeat (first | (with_reducible first | exact HB.out | apply bA_ | apply bN_ | apply bD_ | refine bS_ ?_ GE310.out) | exact HB.out))); rintro e w20 ⟨rfl, hb⟩; refine ⟨_, rfl, ?_⟩; replace BK310 := sqB_ BK310 (by (with_reducible repeat (first | apply kN_ | apply kD_ | apply kA_)); exact BK310.out) hb; replace HB := sqS_ (by repeat (first | (with_reducible first | exact HB.out | apply bA_ | apply bN_ | apply bD_ | refine bS_ ?_ GE310.out) | exact HB.out)) hb; (try clear hb); (try clear hb2); (try clear hk); (try clear hi)) | ((with_reducible refine gate_dst (N := 5) rfl ?_); refine box_event ?hg (N := 5) ?hd (cs := #[.int .i64 0, .int .u64 0, .string ⟨#[]⟩, .int .i64 0]) (t := 24) ?hr ?_; (case hd => rfl); (case hg => rfl); (case hr => first | (go_simp; done) | (go_simp; rfl)); intro gb324 hg w21 hbox hb; replace BK310 := sqO_ BK310 (by (with_reducible repeat (first | apply kN_ | apply kD_ | apply kA_)); exact BK310.out) hg hb; obtain ⟨BK310, NB310_324, NB324_310⟩ := BK310; replace HB := sqN_ (by repeat (first | (with_reducible first | exact HB.out | apply bA_ | apply bN_ | apply bD_ | refine bS_ ?_ GE310.out) | exact HB.out)) hg hb; obtain ⟨HB, GE324⟩ := HB; have BK324 := Aside0.mk hbox; clear hb hbox hg; have hnb22 := NB324_310.out; have hnc22 := NB310_324.out; obtain ⟨hcz23_0, hcz23_1, hcz23_2, hcz23_3⟩ := cells4_ BK324.out; obtain ⟨hfz23_0, hfz23_1, hfz23_2, hfz23_3⟩ := froz4_ BK324.out))
      have n0_ : Aside0 (((((w21.setCell ⟨gb324, 0, none⟩ (.int .i64 t319)).setCell ⟨gb324, 1, none⟩ (.int .u64 t320)).setCell ⟨gb324, 2, none⟩ (.string t321)).setCell ⟨gb324, 3, none⟩ (.int .i64 t322)).heap[gb310]? = some (.cells #[.int .i64 t305, .int .u64 t306, .string t307, .int .i64 t308] 24 (0, 0))) := ⟨by (with_reducible repeat (first | apply kN_ | apply kD_ | apply kA_)); refine blk_far ?_ NB310_324.out _; (with_reducible repeat (first | apply kN_ | apply kD_ | apply kA_)); refine blk_far ?_ NB310_324.out _; (with_reducible repeat (first | apply kN_ | apply kD_ | apply kA_)); refine blk_far ?_ NB310_324.out _; (with_reducible repeat (first | apply kN_ | apply kD_ | apply kA_)); refine blk_far ?_ NB310_324.out _; (with_reducible repeat (first | apply kN_ | apply kD_ | apply kA_)); exact BK310.out⟩
      have n1_ : Aside0 (((((w21.setCell ⟨gb324, 0, none⟩ (.int .i64 t319)).setCell ⟨gb324, 1, none⟩ (.int .u64 t320)).setCell ⟨gb324, 2, none⟩ (.string t321)).setCell ⟨gb324, 3, none⟩ (.int .i64 t322)).heap[gb324]? = some (.cells #[.int .i64 t319, .int .u64 t320, .string t321, .int .i64 t322] 24 (0, 0))) := ⟨by (with_reducible repeat (first | apply kN_ | apply kD_ | apply kA_)); refine blk_put (cs := #[.int .i64 t319, .int .u64 t320, .string t321, .int .i64 0]) ?_ 3 _ rfl; (with_reducible repeat (first | apply kN_ | apply kD_ | apply kA_)); refine blk_put (cs := #[.int .i64 t319, .int .u64 t320, .string ⟨#[]⟩, .int .i64 0]) ?_ 2 _ rfl; (with_reducible repeat (first | apply kN_ | apply kD_ | apply kA_)); refine blk_put (cs := #[.int .i64 t319, .int .u64 0, .string ⟨#[]⟩, .int .i64 0]) ?_ 1 _ rfl; (with_reducible repeat (first | apply kN_ | apply kD_ | apply kA_)); refine blk_put (cs := #[.int .i64 0, .int .u64 0, .string ⟨#[]⟩, .int .i64 0]) ?_ 0 _ rfl; (with_reducible repeat (first | apply kN_ | apply kD_ | apply kA_)); exact BK324.out⟩
      have n2_ : Aside0 (Below w.heap.size w ((((w21.setCell ⟨gb324, 0, none⟩ (.int .i64 t319)).setCell ⟨gb324, 1, none⟩ (.int .u64 t320)).setCell ⟨gb324, 2, none⟩ (.string t321)).setCell ⟨gb324, 3, none⟩ (.int .i64 t322))) := ⟨by repeat (first | (with_reducible first | exact HB.out | apply bA_ | apply bN_ | apply bD_ | refine bS_ ?_ GE310.out | refine bS_ ?_ GE324.out) | exact HB.out)⟩
      (try clear BK310)
      (try clear BK324)
      (try clear HB)
      generalize ((((w21.setCell ⟨gb324, 0, none⟩ (.int .i64 t319)).setCell ⟨gb324, 1, none⟩ (.int .u64 t320)).setCell ⟨gb324, 2, none⟩ (.string t321)).setCell ⟨gb324, 3, none⟩ (.int .i64 t322)) = w24 at n0_ n1_ n2_ ⊢
      have BK310 := n0_
      have BK324 := n1_
      have HB := n2_
      clear n0_ n1_ n2_
      replace BK310 := Aside0.mk (kD_ BK310.out)
      replace BK324 := Aside0.mk (kD_ BK324.out)
      replace HB := Aside0.mk (bD_ HB.out)
      refine start_ (n := 25) (S := fun w' => w'.cell? ⟨gb310, 0, none⟩ = some (.int .i64 t305) ∧ w'.cell? ⟨gb310, 1, none⟩ = some (.int .u64 t306) ∧ w'.cell? ⟨gb310, 2, none⟩ = some (.string t307) ∧ w'.cell? ⟨gb310, 3, none⟩ = some (.int .i64 t308) ∧ w'.cell? ⟨gb324, 0, none⟩ = some (.int .i64 t319) ∧ w'.cell? ⟨gb324, 1, none⟩ = some (.int .u64 t320) ∧ w'.cell? ⟨gb324, 2, none⟩ = some (.string t321) ∧ w'.cell? ⟨gb324, 3, none⟩ = some (.int .i64 t322)) (ds := []) #[false, false, false, false, false, false, false, false, false, false, false, false, false, false, false, false, false, false, false, false, false, false, false, false, false] (by kernel_rfl) rfl rfl ⟨(blk_cell BK310.out 0).trans rfl, (blk_cell BK310.out 1).trans rfl, (blk_cell BK310.out 2).trans rfl, (blk_cell BK310.out 3).trans rfl, (blk_cell BK324.out 0).trans rfl, (blk_cell BK324.out 1).trans rfl, (blk_cell BK324.out 2).trans rfl, (blk_cell BK324.out 3).trans rfl⟩ (fun hHeld => ?_); refine with_tabW platformfwlaw08_awake.tab4 platformfwlaw08_awake.bits4 (fun HT_ HW_ => ?_)
      generalize w24.drew = w25 at BK310 BK324 HB hHeld ⊢
      refine pure_ (i := 0) (N := some 24) (v := ?_) (a' := ?_) (tf 25 1) rfl rfl (any_of HT_.out (by kernel_rfl)) (fun _ _ _ h => h) (Or.inl ⟨by rfl, ?_⟩) ?_ ?_
      rotate_left
      ·intro w'
       go_simp
       with_reducible rfl
      rotate_left
      ·simp only [Act.put, sA_, sB_, sC_, i64_w, i32_w]
       rfl
      refine pure_ (i := 1) (N := some 25) (v := ?_) (a' := ?_) (tf 25 3) rfl rfl (any_of HT_.out (by kernel_rfl)) (fun _ _ _ h => h) (Or.inl ⟨by rfl, ?_⟩) ?_ ?_
      rotate_left
      ·intro w'
       go_simp
       with_reducible rfl
      rotate_left
      ·simp only [Act.put, sA_, sB_, sC_, i64_w, i32_w]
       rfl
      refine pure_ (i := 2) (N := some 26) (v := ?_) (a' := ?_) (tf 25 7) rfl rfl (any_of HT_.out (by kernel_rfl)) (fun _ _ _ h => h) (Or.inl ⟨by rfl, ?_⟩) ?_ ?_
      rotate_left
      ·intro w'
       go_simp
       with_reducible rfl
      rotate_left
      ·simp only [Act.put, sA_, sB_, sC_, i64_w, i32_w]
       rfl
      refine pure_ (i := 3) (N := some 27) (v := ?_) (a' := ?_) (tf 25 15) rfl rfl (any_of HT_.out (by kernel_rfl)) (fun _ _ _ h => h) (Or.inl ⟨by rfl, ?_⟩) ?_ ?_
      rotate_left
      ·intro w'
       go_simp
       with_reducible rfl
      rotate_left
      ·simp only [Act.put, sA_, sB_, sC_, i64_w, i32_w]
       rfl
      refine pure_ (i := 4) (N := some 28) (v := ?_) (a' := ?_) (tf 25 31) rfl rfl (any_of HT_.out (by kernel_rfl)) (fun _ _ _ h => h) (Or.inl ⟨by rfl, ?_⟩) ?_ ?_
      rotate_left
      ·intro w'
       go_simp
       with_reducible rfl
      rotate_left
      ·simp only [Act.put, sA_, sB_, sC_, i64_w, i32_w]
       rfl
      refine pure_ (i := 5) (N := some 29) (v := ?_) (a' := ?_) (tf 25 63) rfl rfl (any_of HT_.out (by kernel_rfl)) (fun _ _ _ h => h) (Or.inl ⟨by rfl, ?_⟩) ?_ ?_
      rotate_left
      ·intro w'
       go_simp
       with_reducible rfl
      rotate_left
      ·simp only [Act.put, sA_, sB_, sC_, i64_w, i32_w]
       rfl
      refine pure_ (i := 6) (N := some 30) (v := ?_) (a' := ?_) (tf 25 127) rfl rfl (any_of HT_.out (by kernel_rfl)) (fun _ _ _ h => h) (Or.inl ⟨by rfl, ?_⟩) ?_ ?_
      rotate_left
      ·intro w'
       go_simp
       with_reducible rfl
      rotate_left
      ·simp only [Act.put, sA_, sB_, sC_, i64_w, i32_w]
       rfl
      refine pure_ (i := 8) (N := some 32) (v := ?_) (a' := ?_) (tf 25 383) rfl rfl (any_of HT_.out (by kernel_rfl)) (fun _ _ _ h => h) (Or.inl ⟨by rfl, ?_⟩) ?_ ?_
      rotate_left
      ·intro w'
       go_simp
       with_reducible rfl
      rotate_left
      ·simp only [Act.put, sA_, sB_, sC_, i64_w, i32_w]
       rfl
      refine take_ (i := 7) (N := some 31) (v := ?_) (a' := ?_) (tf 25 511) rfl rfl (take_ofW HT_.out HW_.out (by kernel_rfl)) (fun _ _ _ h => h) (Or.inl ⟨by rfl, ?_⟩) hHeld ?_ ?_
      rotate_left
      ·rintro w' ⟨s0, s1, s2, s3, s4, s5, s6, s7⟩
       go_simp
       with_reducible rfl
      rotate_left
      ·simp only [Act.put, sA_, sB_, sC_, i64_w, i32_w]
       rfl
      refine pure_ (i := 9) (N := some 33) (v := ?_) (a' := ?_) (tf 25 1023) rfl rfl (any_of HT_.out (by kernel_rfl)) (fun _ _ _ h => h) (Or.inl ⟨by rfl, ?_⟩) ?_ ?_
      rotate_left
      ·intro w'
       go_simp
       with_reducible rfl
      rotate_left
      ·simp only [Act.put, sA_, sB_, sC_, i64_w, i32_w]
       rfl
      refine pure_ (i := 10) (N := some 34) (v := ?_) (a' := ?_) (tf 25 2047) rfl rfl (any_of HT_.out (by kernel_rfl)) (fun _ _ _ h => h) (Or.inl ⟨by rfl, ?_⟩) ?_ ?_
      rotate_left
      ·intro w'
       go_simp
       with_reducible rfl
      rotate_left
      ·simp only [Act.put, sA_, sB_, sC_, i64_w, i32_w]
       rfl
      refine pure_ (i := 11) (N := some 35) (v := ?_) (a' := ?_) (tf 25 4095) rfl rfl (any_of HT_.out (by kernel_rfl)) (fun _ _ _ h => h) (Or.inl ⟨by rfl, ?_⟩) ?_ ?_
      rotate_left
      ·intro w'
       go_simp
       with_reducible rfl
      rotate_left
      ·simp only [Act.put, sA_, sB_, sC_, i64_w, i32_w]
       rfl
      refine pure_ (i := 12) (N := some 36) (v := ?_) (a' := ?_) (tf 25 8191) rfl rfl (any_of HT_.out (by kernel_rfl)) (fun _ _ _ h => h) (Or.inl ⟨by rfl, ?_⟩) ?_ ?_
      rotate_left
      ·intro w'
       go_simp
       with_reducible rfl
      rotate_left
      ·simp only [Act.put, sA_, sB_, sC_, i64_w, i32_w]
       rfl
      refine pure_ (i := 13) (N := some 37) (v := ?_) (a' := ?_) (tf 25 16383) rfl rfl (any_of HT_.out (by kernel_rfl)) (fun _ _ _ h => h) (Or.inl ⟨by rfl, ?_⟩) ?_ ?_
      rotate_left
      ·intro w'
       go_simp
       with_reducible rfl
      rotate_left
      ·simp only [Act.put, sA_, sB_, sC_, i64_w, i32_w]
       rfl
      refine pure_ (i := 14) (N := some 38) (v := ?_) (a' := ?_) (tf 25 32767) rfl rfl (any_of HT_.out (by kernel_rfl)) (fun _ _ _ h => h) (Or.inl ⟨by rfl, ?_⟩) ?_ ?_
      rotate_left
      ·intro w'
       go_simp
       with_reducible rfl
      rotate_left
      ·simp only [Act.put, sA_, sB_, sC_, i64_w, i32_w]
       rfl
      refine pure_ (i := 15) (N := some 39) (v := ?_) (a' := ?_) (tf 25 65535) rfl rfl (any_of HT_.out (by kernel_rfl)) (fun _ _ _ h => h) (Or.inl ⟨by rfl, ?_⟩) ?_ ?_
      rotate_left
      ·intro w'
       go_simp
       with_reducible rfl
      rotate_left
      ·simp only [Act.put, sA_, sB_, sC_, i64_w, i32_w]
       rfl
      refine take_ (i := 16) (N := some 40) (v := ?_) (a' := ?_) (tf 25 131071) rfl rfl (take_ofW HT_.out HW_.out (by kernel_rfl)) (fun _ _ _ h => h) (Or.inl ⟨by rfl, ?_⟩) hHeld ?_ ?_
      rotate_left
      ·rintro w' ⟨s0, s1, s2, s3, s4, s5, s6, s7⟩
       go_simp
       with_reducible rfl
      rotate_left
      ·simp only [Act.put, sA_, sB_, sC_, i64_w, i32_w]
       rfl
      refine one_ (i := 17) (N := some 41) (tf 25 262143) rfl rfl (one_of HT_.out (by kernel_rfl)) (by decide) (fun K hK => ?_)
      refine goes_ Tryd.func19 (by kernel_rfl) rfl #[.int .u64 0] (by rfl) rfl rfl (by (try simp only [List.map_toArray, List.map_cons, List.map_nil]); first | done | rfl) ?_
      with_reducible refine (platformfwref08_Number.calls 0 t325 t326 t327 t328 _ A11.out).mono ?_
      rintro e w26 ⟨rfl, hb⟩
      refine ⟨_, rfl, ?_⟩
      replace BK310 := sqB_ BK310 (by (with_reducible repeat (first | apply kN_ | apply kD_ | apply kA_)); exact BK310.out) hb
      replace BK324 := sqB_ BK324 (by (with_reducible repeat (first | apply kN_ | apply kD_ | apply kA_)); exact BK324.out) hb
      replace HB := sqS_ (by repeat (first | (with_reducible first | exact HB.out | apply bA_ | apply bN_ | apply bD_ | refine bS_ ?_ GE310.out | refine bS_ ?_ GE324.out) | exact HB.out)) hb
      (try clear hb)
      (try clear hb2)
      (try clear hk)
      (try clear hi)
      refine hK.out _ _ ⟨(blk_cell BK310.out 0).trans rfl, (blk_cell BK310.out 1).trans rfl, (blk_cell BK310.out 2).trans rfl, (blk_cell BK310.out 3).trans rfl, (blk_cell BK324.out 0).trans rfl, (blk_cell BK324.out 1).trans rfl, (blk_cell BK324.out 2).trans rfl, (blk_cell BK324.out 3).trans rfl⟩ (fun hHeld => ?_)
      clear hK K
      refine norm_ (a' := ?_) ?_ ?_
      rotate_left
      ·show Act.put _ (some 41) _ = _
       simp only [Act.put, sA_, sB_, sC_, i64_w, i32_w]
       rfl
      refine pure_ (i := 18) (N := some 42) (v := ?_) (a' := ?_) (tf 25 524287) rfl rfl (any_of HT_.out (by kernel_rfl)) (fun _ _ _ h => h) (Or.inl ⟨by rfl, ?_⟩) ?_ ?_
      rotate_left
      ·intro w'
       go_simp
       with_reducible rfl
      rotate_left
      ·simp only [Act.put, sA_, sB_, sC_, i64_w, i32_w]
       rfl
      refine pure_ (i := 19) (N := some 43) (v := ?_) (a' := ?_) (tf 25 1048575) rfl rfl (any_of HT_.out (by kernel_rfl)) (fun _ _ _ h => h) (Or.inl ⟨by rfl, ?_⟩) ?_ ?_
      rotate_left
      ·intro w'
       go_simp
       with_reducible rfl
      rotate_left
      ·simp only [Act.put, sA_, sB_, sC_, i64_w, i32_w]
       rfl
      refine pure_ (i := 20) (N := some 44) (v := ?_) (a' := ?_) (tf 25 2097151) rfl rfl (any_of HT_.out (by kernel_rfl)) (fun _ _ _ h => h) (Or.inl ⟨by rfl, ?_⟩) ?_ ?_
      rotate_left
      ·intro w'
       go_simp
       with_reducible rfl
      rotate_left
      ·simp only [Act.put, sA_, sB_, sC_, i64_w, i32_w]
       rfl
      refine pure_ (i := 21) (N := some 45) (v := ?_) (a' := ?_) (tf 25 4194303) rfl rfl (any_of HT_.out (by kernel_rfl)) (fun _ _ _ h => h) (Or.inl ⟨by rfl, ?_⟩) ?_ ?_
      rotate_left
      ·intro w'
       go_simp
       with_reducible rfl
      rotate_left
      ·simp only [Act.put, sA_, sB_, sC_, i64_w, i32_w]
       rfl
      refine pure_ (i := 22) (N := some 46) (v := ?_) (a' := ?_) (tf 25 8388607) rfl rfl (any_of HT_.out (by kernel_rfl)) (fun _ _ _ h => h) (Or.inl ⟨by rfl, ?_⟩) ?_ ?_
      rotate_left
      ·intro w'
       go_simp
       with_reducible rfl
      rotate_left
      ·simp only [Act.put, sA_, sB_, sC_, i64_w, i32_w]
       rfl
      refine pure_ (i := 23) (N := some 47) (v := ?_) (a' := ?_) (tf 25 16777215) rfl rfl (any_of HT_.out (by kernel_rfl)) (fun _ _ _ h => h) (Or.inl ⟨by rfl, ?_⟩) ?_ ?_
      rotate_left
      ·intro w'
       go_simp
       with_reducible rfl
      rotate_left
      ·simp only [Act.put, sA_, sB_, sC_, i64_w, i32_w]
       rfl
      refine pure_ (i := 24) (N := some 0) (v := ?_) (a' := ?_) (tf 25 33554431) rfl rfl (any_of HT_.out (by kernel_rfl)) (fun _ _ _ h => h) (Or.inl ⟨by rfl, ?_⟩) ?_ ?_
      rotate_left
      ·intro w'
       go_simp
       with_reducible rfl
      rotate_left
      ·simp only [Act.put, sA_, sB_, sC_, i64_w, i32_w]
       rfl
      refine done_ (done_of HT_.out (by kernel_rfl)) ?_
      try go_wp2
      go_ret
      exact ⟨by first | rfl | (simp [errW_none, errW_some] <;> rfl) | (simp [*, errW_none, errW_some] <;> rfl), by repeat (first | (with_reducible first | exact HB.out | apply bA_ | apply bN_ | apply bD_ | refine bS_ ?_ GE310.out | refine bS_ ?_ GE324.out) | exact HB.out)⟩
     ·rw [if_neg c12] at H
      have c12b0 : (t319 == t325 && (t320 == t326 && (t321.toList == t327.toList && (t322 == t328)))) = false := by simpa using c12
      (try (have c12b1 : decide (t319 = t325 && (t320 == t326 && (t321.toList == t327.toList && (t322 == t328)))) = false := by simpa using c12))
      (try (have c12b2 : (t319 == t325 && (t320 == t326 && (t321.toList == t327.toList && (t322 == t328)))) = false := by simpa using c12))
      (try (have c12b3 : ¬ (t319 = t325 && (t320 == t326 && (t321.toList == t327.toList && (t322 == t328)))) := by simpa using c12))
      clear c12
      obtain rfl := Option.some.inj H
      exact absurd hr_.out (by simp)
    ·rw [if_neg c10] at H
     have c10b0 : (t309 == 0) = false := beq_eq_false_iff_ne.mpr c10
     have c10b1 : (t309 != 0) = true := bne_iff_ne.mpr c10
     obtain rfl := Option.some.inj H
     exact absurd hr_.out (by simp)
   ·rw [if_neg c9] at H
    have c9b0 : (t305 == 2 && (t306 == 0 && (t307.toList == ([97, 48, 48, 48, 48, 48, 48, 48, 48, 48, 48, 48, 48, 48, 48, 70, 70] : List UInt8) && (t308 == 0)))) = false := by simpa using c9
    (try (have c9b1 : decide (t305 = 2 && (t306 == 0 && (t307.toList == ([97, 48, 48, 48, 48, 48, 48, 48, 48, 48, 48, 48, 48, 48, 48, 70, 70] : List UInt8) && (t308 == 0)))) = false := by simpa using c9))
    (try (have c9b2 : (t305 == 2 && (t306 == 0 && (t307.toList == ([97, 48, 48, 48, 48, 48, 48, 48, 48, 48, 48, 48, 48, 48, 48, 70, 70] : List UInt8) && (t308 == 0)))) = false := by simpa using c9))
    (try (have c9b3 : ¬ (t305 = 2 && (t306 == 0 && (t307.toList == ([97, 48, 48, 48, 48, 48, 48, 48, 48, 48, 48, 48, 48, 48, 48, 70, 70] : List UInt8) && (t308 == 0)))) := by simpa using c9))
    clear c9
    obtain rfl := Option.some.inj H
    exact absurd hr_.out (by simp)
  ·rw [if_neg c8] at H
   have c8b0 : (t300 == 0) = false := beq_eq_false_iff_ne.mpr c8
   have c8b1 : (t300 != 0) = true := bne_iff_ne.mpr c8
   obtain rfl := Option.some.inj H
   exact absurd hr_.out (by simp)
 ·rw [if_neg c7] at H
  have c7b0 : (t299 == 31) = false := beq_eq_false_iff_ne.mpr c7
  have c7b1 : (t299 != 31) = true := bne_iff_ne.mpr c7
  obtain rfl := Option.some.inj H
  exact absurd hr_.out (by simp)

/-! ### platformfwref08_Valid: function 13 -/
def platformfwref08_Valid.f (a0_0 : Int) (a0_1 : Int) (a0_2 : ByteArray) (a0_3 : Int) : Option (Bool) := if a0_0 ≥ 0 then (if a0_0 ≤ 6 then (if a0_0 = 2 then (some (decide ((a0_2.size : Int) ≤ 255))) else (if a0_0 = 3 then (some (decide ((a0_2.size : Int) ≤ 255))) else (some true))) else (some false)) else (some false)
set_option maxHeartbeats 8000000 in
set_option maxRecDepth 100000 in
theorem platformfwref08_Valid.calls (a0_0 : Int) (a0_1 : Int) (a0_2 : ByteArray) (a0_3 : Int) (r : Bool) (w : World) (h : platformfwref08_Valid.f a0_0 a0_1 a0_2 a0_3 = some r) :
  Calls Tryd.prog 13 #[.agg #[.int .i64 a0_0, .int .u64 a0_1, .string a0_2, .int .i64 a0_3]] w fun e w' => e = .returned (.bool r) ∧ Below w.heap.size w w' := by
 have hu24 := Tryd.underlying24
 have HB := Aside0.mk (Below.refl w.heap.size w)
 have H : (if a0_0 ≥ 0 then (if a0_0 ≤ 6 then (if a0_0 = 2 then (some (decide ((a0_2.size : Int) ≤ 255))) else (if a0_0 = 3 then (some (decide ((a0_2.size : Int) ≤ 255))) else (some true))) else (some false)) else (some false)) = some r := h
 clear h
 by_cases c2 : a0_0 ≥ 0
 ·rw [if_pos c2] at H
  have c2b0 : decide (0 ≤ a0_0) = true := decide_eq_true c2
  clear c2
  by_cases c3 : a0_0 ≤ 6
  ·rw [if_pos c3] at H
   have c3b0 : decide (a0_0 ≤ 6) = true := decide_eq_true c3
   clear c3
   by_cases c4 : a0_0 = 2
   ·rw [if_pos c4] at H
    have c4b0 : (a0_0 == 2) = true := beq_iff_eq.mpr c4
    have c4b1 : (a0_0 != 2) = false := bne_eq_false_iff_eq.mpr c4
    clear c4
    obtain rfl := Option.some.inj H
    go_enter Tryd.func13, Tryd.ntmps13
    go_wp2_with (first | ((with_reducible refine gate_dst (N := 1) rfl ?_); (try (refine gate_guard (by rfl) ?_; dsimp only)); refine box_event ?hg (N := 1) ?hd (cs := #[.int .i64 a0_0, .int .u64 a0_1, .string a0_2, .int .i64 a0_3]) (t := 24) ?hr ?_; (case hd => rfl); (case hg => rfl); (case hr => first | (go_simp; done) | (go_simp; rfl)); intro gb329 hg w5 hbox hb; replace HB := sqN_ (by repeat (first | (with_reducible first | exact HB.out | apply bA_ | apply bN_ | apply bD_) | exact HB.out)) hg hb; obtain ⟨HB, GE329⟩ := HB; have BK329 := Aside0.mk hbox; clear hb hbox hg; obtain ⟨hcz6_0, hcz6_1, hcz6_2, hcz6_3⟩ := cells4_ BK329.out; obtain ⟨hfz6_0, hfz6_1, hfz6_2, hfz6_3⟩ := froz4_ BK329.out))
    go_ret
    exact ⟨by first | rfl | (simp [errW_none, errW_some] <;> rfl) | (simp [*, errW_none, errW_some] <;> rfl), by repeat (first | (with_reducible first | exact HB.out | apply bA_ | apply bN_ | apply bD_ | refine bS_ ?_ GE329.out) | exact HB.out)⟩
   ·rw [if_neg c4] at H
    have c4b0 : (a0_0 == 2) = false := beq_eq_false_iff_ne.mpr c4
    have c4b1 : (a0_0 != 2) = true := bne_iff_ne.mpr c4
    by_cases c7 : a0_0 = 3
    ·rw [if_pos c7] at H
     have c7b0 : (a0_0 == 3) = true := beq_iff_eq.mpr c7
     have c7b1 : (a0_0 != 3) = false := bne_eq_false_iff_eq.mpr c7
     clear c7
     obtain rfl := Option.some.inj H
     go_enter Tryd.func13, Tryd.ntmps13
     go_wp2_with (first | ((with_reducible refine gate_dst (N := 1) rfl ?_); (try (refine gate_guard (by rfl) ?_; dsimp only)); refine box_event ?hg (N := 1) ?hd (cs := #[.int .i64 a0_0, .int .u64 a0_1, .string a0_2, .int .i64 a0_3]) (t := 24) ?hr ?_; (case hd => rfl); (case hg => rfl); (case hr => first | (go_simp; done) | (go_simp; rfl)); intro gb329 hg w8 hbox hb; replace HB := sqN_ (by repeat (first | (with_reducible first | exact HB.out | apply bA_ | apply bN_ | apply bD_) | exact HB.out)) hg hb; obtain ⟨HB, GE329⟩ := HB; have BK329 := Aside0.mk hbox; clear hb hbox hg; obtain ⟨hcz9_0, hcz9_1, hcz9_2, hcz9_3⟩ := cells4_ BK329.out; obtain ⟨hfz9_0, hfz9_1, hfz9_2, hfz9_3⟩ := froz4_ BK329.out))
     go_ret
     exact ⟨by first | rfl | (simp [errW_none, errW_some] <;> rfl) | (simp [*, errW_none, errW_some] <;> rfl), by repeat (first | (with_reducible first | exact HB.out | apply bA_ | apply bN_ | apply bD_ | refine bS_ ?_ GE329.out) | exact HB.out)⟩
    ·rw [if_neg c7] at H
     have c7b0 : (a0_0 == 3) = false := beq_eq_false_iff_ne.mpr c7
     have c7b1 : (a0_0 != 3) = true := bne_iff_ne.mpr c7
     obtain rfl := Option.some.inj H
     go_enter Tryd.func13, Tryd.ntmps13
     go_wp2_with (first | ((with_reducible refine gate_dst (N := 1) rfl ?_); (try (refine gate_guard (by rfl) ?_; dsimp only)); refine box_event ?hg (N := 1) ?hd (cs := #[.int .i64 a0_0, .int .u64 a0_1, .string a0_2, .int .i64 a0_3]) (t := 24) ?hr ?_; (case hd => rfl); (case hg => rfl); (case hr => first | (go_simp; done) | (go_simp; rfl)); intro gb329 hg w10 hbox hb; replace HB := sqN_ (by repeat (first | (with_reducible first | exact HB.out | apply bA_ | apply bN_ | apply bD_) | exact HB.out)) hg hb; obtain ⟨HB, GE329⟩ := HB; have BK329 := Aside0.mk hbox; clear hb hbox hg; obtain ⟨hcz11_0, hcz11_1, hcz11_2, hcz11_3⟩ := cells4_ BK329.out; obtain ⟨hfz11_0, hfz11_1, hfz11_2, hfz11_3⟩ := froz4_ BK329.out))
     go_ret
     exact ⟨by first | rfl | (simp [errW_none, errW_some] <;> rfl) | (simp [*, errW_none, errW_some] <;> rfl), by repeat (first | (with_reducible first | exact HB.out | apply bA_ | apply bN_ | apply bD_ | refine bS_ ?_ GE329.out) | exact HB.out)⟩
  ·rw [if_neg c3] at H
   have c3b0 : decide (a0_0 ≤ 6) = false := decide_eq_false c3
   clear c3
   obtain rfl := Option.some.inj H
   go_enter Tryd.func13, Tryd.ntmps13
   go_wp2_with (first | ((with_reducible refine gate_dst (N := 1) rfl ?_); (try (refine gate_guard (by rfl) ?_; dsimp only)); refine box_event ?hg (N := 1) ?hd (cs := #[.int .i64 a0_0, .int .u64 a0_1, .string a0_2, .int .i64 a0_3]) (t := 24) ?hr ?_; (case hd => rfl); (case hg => rfl); (case hr => first | (go_simp; done) | (go_simp; rfl)); intro gb329 hg w12 hbox hb; replace HB := sqN_ (by repeat (first | (with_reducible first | exact HB.out | apply bA_ | apply bN_ | apply bD_) | exact HB.out)) hg hb; obtain ⟨HB, GE329⟩ := HB; have BK329 := Aside0.mk hbox; clear hb hbox hg; obtain ⟨hcz13_0, hcz13_1, hcz13_2, hcz13_3⟩ := cells4_ BK329.out; obtain ⟨hfz13_0, hfz13_1, hfz13_2, hfz13_3⟩ := froz4_ BK329.out))
   go_ret
   exact ⟨by first | rfl | (simp [errW_none, errW_some] <;> rfl) | (simp [*, errW_none, errW_some] <;> rfl), by repeat (first | (with_reducible first | exact HB.out | apply bA_ | apply bN_ | apply bD_ | refine bS_ ?_ GE329.out) | exact HB.out)⟩
 ·rw [if_neg c2] at H
  have c2b0 : decide (0 ≤ a0_0) = false := decide_eq_false c2
  clear c2
  obtain rfl := Option.some.inj H
  go_enter Tryd.func13, Tryd.ntmps13
  go_wp2_with (first | ((with_reducible refine gate_dst (N := 1) rfl ?_); (try (refine gate_guard (by rfl) ?_; dsimp only)); refine box_event ?hg (N := 1) ?hd (cs := #[.int .i64 a0_0, .int .u64 a0_1, .string a0_2, .int .i64 a0_3]) (t := 24) ?hr ?_; (case hd => rfl); (case hg => rfl); (case hr => first | (go_simp; done) | (go_simp; rfl)); intro gb329 hg w14 hbox hb; replace HB := sqN_ (by repeat (first | (with_reducible first | exact HB.out | apply bA_ | apply bN_ | apply bD_) | exact HB.out)) hg hb; obtain ⟨HB, GE329⟩ := HB; have BK329 := Aside0.mk hbox; clear hb hbox hg; obtain ⟨hcz15_0, hcz15_1, hcz15_2, hcz15_3⟩ := cells4_ BK329.out; obtain ⟨hfz15_0, hfz15_1, hfz15_2, hfz15_3⟩ := froz4_ BK329.out))
  go_ret
  exact ⟨by first | rfl | (simp [errW_none, errW_some] <;> rfl) | (simp [*, errW_none, errW_some] <;> rfl), by repeat (first | (with_reducible first | exact HB.out | apply bA_ | apply bN_ | apply bD_ | refine bS_ ?_ GE329.out) | exact HB.out)⟩

end Go.Proofs.YtdmeglmmihaonaaDoor.PValueMid
