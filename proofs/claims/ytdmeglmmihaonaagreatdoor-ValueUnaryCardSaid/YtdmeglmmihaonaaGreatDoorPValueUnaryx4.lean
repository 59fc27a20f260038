-- Written by a program of this session's (wip/print_patch.py over the kit's print) out of the translation; Lean checks it.
import Derived.Test.YtdmeglmmihaonaaGreatDoorPValueUnaryx0
import Derived.Test.YtdmeglmmihaonaaGreatDoorPValueUnaryx2
import Derived.Test.YtdmeglmmihaonaaGreatDoorPValueUnaryx3
import Derived.Test.YtdmeglmmihaonaaGreatDoorVValueUnaryExtS
namespace Go.Proofs.YtdmeglmmihaonaaGreatDoor.PValueUnary
open Go.RowKit Go.Proofs.YtdmeglmmihaonaaGreatDoor.Ext Go.Proofs.YtdmeglmmihaonaaGreatDoorW.PrintWords Go.Proofs.YtdmeglmmihaonaaGreatDoorW.PrintLast Go.Proofs.YtdmeglmmihaonaaGreatDoorW.PrintMore
attribute [local go_sem] max2_int min2_int max_two min_two max_three min_three max_four min_four   -- for this text's walks alone
set_option linter.unusedVariables false
set_option linter.unusedSimpArgs false

/-! ### value_Unary: function 4 -/
def value_Unary.f (k : Nat) (a0 : Int) (a1_0 : Int) (a1_1 : Int) (a1_2 : ByteArray) (a1_3 : Int) : Option (Int × Int × ByteArray × Int × Int) := (value_Valid.f a1_0 a1_1 a1_2 a1_3).bind fun t172 => (if t172 = true then (if a0 = 77 then ((value_Integer.f k a1_0 a1_1 a1_2 a1_3).bind fun bt173 => ((value_number.f (Go.bits .xor .u64 18446744073709551615 bt173.1) bt173.2).bind fun bt175 => (some (bt175.1, bt175.2.1, bt175.2.2.1, bt175.2.2.2.1, bt175.2.2.2.2)))) else (if a0 = 78 then ((value_Integer.f k a1_0 a1_1 a1_2 a1_3).bind fun bt180 => (if bt180.2 = 0 then ((value_boolean.f (bt180.1 == 0)).bind fun bt182 => (some (bt182.1, bt182.2.1, bt182.2.2.1, bt182.2.2.2, 0))) else (some (0, 0, (⟨#[]⟩ : ByteArray), 0, bt180.2)))) else (if a0 = 79 then (if a1_0 = 2 then ((value_integer.f (IntKind.u64.wrap ((a1_2.size : Int)))).bind fun bt186 => (some (bt186.1, bt186.2.1, bt186.2.2.1, bt186.2.2.2, 0))) else (if a1_0 = 3 then ((value_integer.f (IntKind.u64.wrap ((a1_2.size : Int)))).bind fun bt190 => (some (bt190.1, bt190.2.1, bt190.2.2.1, bt190.2.2.2, 0))) else (some (0, 0, (⟨#[]⟩ : ByteArray), 0, 10)))) else (if a0 = 80 then ((value_explicit.f k a1_0 a1_1 a1_2 a1_3).bind fun bt194 => ((value_number.f bt194.1 bt194.2).bind fun bt196 => (some (bt196.1, bt196.2.1, bt196.2.2.1, bt196.2.2.2.1, bt196.2.2.2.2)))) else (if a0 = 81 then ((value_Convert.f k a1_0 a1_1 a1_2 a1_3 3).bind fun bt201 => (some (bt201.1, bt201.2.1, bt201.2.2.1, bt201.2.2.2.1, bt201.2.2.2.2))) else (if a0 = 82 then ((value_text.f a1_0 a1_1 a1_2 a1_3 17 20).bind fun bt206 => (some (bt206.1, bt206.2.1, bt206.2.2.1, bt206.2.2.2.1, bt206.2.2.2.2))) else (if a0 = 83 then ((value_text.f a1_0 a1_1 a1_2 a1_3 22 23).bind fun bt211 => (some (bt211.1, bt211.2.1, bt211.2.2.1, bt211.2.2.2.1, bt211.2.2.2.2))) else (some (0, 0, (⟨#[]⟩ : ByteArray), 0, 1))))))))) else (some (0, 0, (⟨#[]⟩ : ByteArray), 0, 1)))
theorem value_Unary.mono : ∀ a0 a1 a2 a3 a4 k, LeO (value_Unary.f k a0 a1 a2 a3 a4) (value_Unary.f (k + 1) a0 a1 a2 a3 a4) := by
 intro a0 a1 a2 a3 a4 k
 unfold value_Unary.f
 repeat' first
   | (with_reducible exact value_Convert.mono _ _ _ _ _ _)
   | (with_reducible exact value_Integer.mono _ _ _ _ _)
   | (with_reducible exact value_explicit.mono _ _ _ _ _)
   | (with_reducible exact LeO.refl _)
   | (with_reducible exact LeO.none _)
   | (with_reducible refine LeO.ite ?_ ?_)
   | (with_reducible refine LeO.bind ?_ (fun _ => ?_))
   | exact value_Convert.mono _ _ _ _ _ _
   | exact value_Integer.mono _ _ _ _ _
   | exact value_explicit.mono _ _ _ _ _
   | exact LeO.none _
   | refine LeO.ite ?_ ?_
   | refine LeO.bind ?_ (fun _ => ?_)
set_option maxHeartbeats 8000000 in
set_option maxRecDepth 100000 in
theorem value_Unary.calls (k : Nat) (a0 : Int) (a1_0 : Int) (a1_1 : Int) (a1_2 : ByteArray) (a1_3 : Int) (r1 : Int) (r2 : Int) (r3 : ByteArray) (r4 : Int) (r5 : Int) (w : World) (hT_ : Tb w) (h : value_Unary.f k a0 a1_0 a1_1 a1_2 a1_3 = some (r1, r2, r3, r4, r5)) :
  Calls Tryz.prog 4 #[.int .i64 a0, .agg #[.int .i64 a1_0, .int .u64 a1_1, .string a1_2, .int .i64 a1_3]] w fun e w' => e = .returned (.tuple #[.agg #[.int .i64 r1, .int .u64 r2, .string r3, .int .i64 r4], .int .i64 r5]) ∧ Below w.heap.size w w' := by
 have HTT_ := Aside0.mk hT_
 clear hT_
 have hu24 := Tryz.underlying24
 have HB := Aside0.mk (Below.refl w.heap.size w)
 have H : ((value_Valid.f a1_0 a1_1 a1_2 a1_3).bind fun t172 => (if t172 = true then (if a0 = 77 then ((value_Integer.f k a1_0 a1_1 a1_2 a1_3).bind fun bt173 => ((value_number.f (Go.bits .xor .u64 18446744073709551615 bt173.1) bt173.2).bind fun bt175 => (some (bt175.1, bt175.2.1, bt175.2.2.1, bt175.2.2.2.1, bt175.2.2.2.2)))) else (if a0 = 78 then ((value_Integer.f k a1_0 a1_1 a1_2 a1_3).bind fun bt180 => (if bt180.2 = 0 then ((value_boolean.f (bt180.1 == 0)).bind fun bt182 => (some (bt182.1, bt182.2.1, bt182.2.2.1, bt182.2.2.2, 0))) else (some (0, 0, (⟨#[]⟩ : ByteArray), 0, bt180.2)))) else (if a0 = 79 then (if a1_0 = 2 then ((value_integer.f (IntKind.u64.wrap ((a1_2.size : Int)))).bind fun bt186 => (some (bt186.1, bt186.2.1, bt186.2.2.1, bt186.2.2.2, 0))) else (if a1_0 = 3 then ((value_integer.f (IntKind.u64.wrap ((a1_2.size : Int)))).bind fun bt190 => (some (bt190.1, bt190.2.1, bt190.2.2.1, bt190.2.2.2, 0))) else (some (0, 0, (⟨#[]⟩ : ByteArray), 0, 10)))) else (if a0 = 80 then ((value_explicit.f k a1_0 a1_1 a1_2 a1_3).bind fun bt194 => ((value_number.f bt194.1 bt194.2).bind fun bt196 => (some (bt196.1, bt196.2.1, bt196.2.2.1, bt196.2.2.2.1, bt196.2.2.2.2)))) else (if a0 = 81 then ((value_Convert.f k a1_0 a1_1 a1_2 a1_3 3).bind fun bt201 => (some (bt201.1, bt201.2.1, bt201.2.2.1, bt201.2.2.2.1, bt201.2.2.2.2))) else (if a0 = 82 then ((value_text.f a1_0 a1_1 a1_2 a1_3 17 20).bind fun bt206 => (some (bt206.1, bt206.2.1, bt206.2.2.1, bt206.2.2.2.1, bt206.2.2.2.2))) else (if a0 = 83 then ((value_text.f a1_0 a1_1 a1_2 a1_3 22 23).bind fun bt211 => (some (bt211.1, bt211.2.1, bt211.2.2.1, bt211.2.2.2.1, bt211.2.2.2.2))) else (some (0, 0, (⟨#[]⟩ : ByteArray), 0, 1))))))))) else (some (0, 0, (⟨#[]⟩ : ByteArray), 0, 1)))) = some (r1, r2, r3, r4, r5) := h
 clear h
 replace H := Option.bind_eq_some_iff.mp H
 obtain ⟨t172, A30, H⟩ := H
 replace H : (if t172 = true then (if a0 = 77 then ((value_Integer.f k a1_0 a1_1 a1_2 a1_3).bind fun bt173 => ((value_number.f (Go.bits .xor .u64 18446744073709551615 bt173.1) bt173.2).bind fun bt175 => (some (bt175.1, bt175.2.1, bt175.2.2.1, bt175.2.2.2.1, bt175.2.2.2.2)))) else (if a0 = 78 then ((value_Integer.f k a1_0 a1_1 a1_2 a1_3).bind fun bt180 => (if bt180.2 = 0 then ((value_boolean.f (bt180.1 == 0)).bind fun bt182 => (some (bt182.1, bt182.2.1, bt182.2.2.1, bt182.2.2.2, 0))) else (some (0, 0, (⟨#[]⟩ : ByteArray), 0, bt180.2)))) else (if a0 = 79 then (if a1_0 = 2 then ((value_integer.f (IntKind.u64.wrap ((a1_2.size : Int)))).bind fun bt186 => (some (bt186.1, bt186.2.1, bt186.2.2.1, bt186.2.2.2, 0))) else (if a1_0 = 3 then ((value_integer.f (IntKind.u64.wrap ((a1_2.size : Int)))).bind fun bt190 => (some (bt190.1, bt190.2.1, bt190.2.2.1, bt190.2.2.2, 0))) else (some (0, 0, (⟨#[]⟩ : ByteArray), 0, 10)))) else (if a0 = 80 then ((value_explicit.f k a1_0 a1_1 a1_2 a1_3).bind fun bt194 => ((value_number.f bt194.1 bt194.2).bind fun bt196 => (some (bt196.1, bt196.2.1, bt196.2.2.1, bt196.2.2.2.1, bt196.2.2.2.2)))) else (if a0 = 81 then ((value_Convert.f k a1_0 a1_1 a1_2 a1_3 3).bind fun bt201 => (some (bt201.1, bt201.2.1, bt201.2.2.1, bt201.2.2.2.1, bt201.2.2.2.2))) else (if a0 = 82 then ((value_text.f a1_0 a1_1 a1_2 a1_3 17 20).bind fun bt206 => (some (bt206.1, bt206.2.1, bt206.2.2.1, bt206.2.2.2.1, bt206.2.2.2.2))) else (if a0 = 83 then ((value_text.f a1_0 a1_1 a1_2 a1_3 22 23).bind fun bt211 => (some (bt211.1, bt211.2.1, bt211.2.2.1, bt211.2.2.2.1, bt211.2.2.2.2))) else (some (0, 0, (⟨#[]⟩ : ByteArray), 0, 1))))))))) else (some (0, 0, (⟨#[]⟩ : ByteArray), 0, 1))) = some (r1, r2, r3, r4, r5) := H
 have A3 := Aside0.mk A30
 clear A30
 by_cases c4 : t172 = true
 ·subst c4
  have H1 : (if a0 = 77 then ((value_Integer.f k a1_0 a1_1 a1_2 a1_3).bind fun bt173 => ((value_number.f (Go.bits .xor .u64 18446744073709551615 bt173.1) bt173.2).bind fun bt175 => (some (bt175.1, bt175.2.1, bt175.2.2.1, bt175.2.2.2.1, bt175.2.2.2.2)))) else (if a0 = 78 then ((value_Integer.f k a1_0 a1_1 a1_2 a1_3).bind fun bt180 => (if bt180.2 = 0 then ((value_boolean.f (bt180.1 == 0)).bind fun bt182 => (some (bt182.1, bt182.2.1, bt182.2.2.1, bt182.2.2.2, 0))) else (some (0, 0, (⟨#[]⟩ : ByteArray), 0, bt180.2)))) else (if a0 = 79 then (if a1_0 = 2 then ((value_integer.f (IntKind.u64.wrap ((a1_2.size : Int)))).bind fun bt186 => (some (bt186.1, bt186.2.1, bt186.2.2.1, bt186.2.2.2, 0))) else (if a1_0 = 3 then ((value_integer.f (IntKind.u64.wrap ((a1_2.size : Int)))).bind fun bt190 => (some (bt190.1, bt190.2.1, bt190.2.2.1, bt190.2.2.2, 0))) else (some (0, 0, (⟨#[]⟩ : ByteArray), 0, 10)))) else (if a0 = 80 then ((value_explicit.f k a1_0 a1_1 a1_2 a1_3).bind fun bt194 => ((value_number.f bt194.1 bt194.2).bind fun bt196 => (some (bt196.1, bt196.2.1, bt196.2.2.1, bt196.2.2.2.1, bt196.2.2.2.2)))) else (if a0 = 81 then ((value_Convert.f k a1_0 a1_1 a1_2 a1_3 3).bind fun bt201 => (some (bt201.1, bt201.2.1, bt201.2.2.1, bt201.2.2.2.1, bt201.2.2.2.2))) else (if a0 = 82 then ((value_text.f a1_0 a1_1 a1_2 a1_3 17 20).bind fun bt206 => (some (bt206.1, bt206.2.1, bt206.2.2.1, bt206.2.2.2.1, bt206.2.2.2.2))) else (if a0 = 83 then ((value_text.f a1_0 a1_1 a1_2 a1_3 22 23).bind fun bt211 => (some (bt211.1, bt211.2.1, bt211.2.2.1, bt211.2.2.2.1, bt211.2.2.2.2))) else (some (0, 0, (⟨#[]⟩ : ByteArray), 0, 1))))))))) = some (r1, r2, r3, r4, r5) := by rw [if_pos rfl] at H; exact H
  clear H
  have H := H1
  clear H1
  by_cases c5 : a0 = 77
  ·rw [if_pos c5] at H
   have c5b0 : (a0 == 77) = true := beq_iff_eq.mpr c5
   have c5b1 : (a0 != 77) = false := bne_eq_false_iff_eq.mpr c5
   clear c5
   replace H := Option.bind_eq_some_iff.mp H
   obtain ⟨⟨t173, t174⟩, A60, H⟩ := H
   replace H : ((value_number.f (Go.bits .xor .u64 18446744073709551615 t173) t174).bind fun bt175 => (some (bt175.1, bt175.2.1, bt175.2.2.1, bt175.2.2.2.1, bt175.2.2.2.2))) = some (r1, r2, r3, r4, r5) := H
   have A6 := Aside0.mk A60
   clear A60
   replace H := Option.bind_eq_some_iff.mp H
   obtain ⟨⟨t175, t176, t177, t178, t179⟩, A70, H⟩ := H
   replace H : (some (t175, t176, t177, t178, t179)) = some (r1, r2, r3, r4, r5) := H
   have A7 := Aside0.mk A70
   clear A70
   simp only [Option.some.injEq, Prod.mk.injEq] at H
   obtain ⟨rfl, rfl, rfl, rfl, rfl⟩ := H
   go_enter Tryz.func4, Tryz.ntmps4
   go_wp2_with (first | ((with_reducible refine gate_dst (N := 3) rfl ?_); refine box_event ?hg (N := 3) ?hd (cs := #[.int .i64 a1_0, .int .u64 a1_1, .string a1_2, .int .i64 a1_3]) (t := 24) ?hr ?_; (case hd => rfl); (case hg => rfl); (case hr => first | (go_simp; done) | (go_simp; rfl)); intro gb170 hg w8 hbox hb; replace HB := sqN_ (by repeat (first | (with_reducible first | exact HB.out | apply bA_ | apply bN_ | apply bD_) | exact HB.out)) hg hb; obtain ⟨HB, GE170⟩ := HB; have BK170 := Aside0.mk hbox; clear hb hbox hg) | ((with_reducible refine gate_dst (N := 4) rfl ?_); refine box_event ?hg (N := 4) ?hd (cs := #[.int .i64 0, .int .u64 0, .string ⟨#[]⟩, .int .i64 0]) (t := 24) ?hr ?_; (case hd => rfl); (case hg => rfl); (case hr => first | (go_simp; done) | (go_simp; rfl)); intro gb171 hg w9 hbox hb; replace BK170 := sqO_ (g := gb170) (by (with_reducible repeat (first | apply kN_ | apply kD_ | apply kA_)); exact BK170.out) hg hb; obtain ⟨BK170, NB170_171, NB171_170⟩ := BK170; replace HB := sqN_ (by repeat (first | (with_reducible first | exact HB.out | apply bA_ | apply bN_ | apply bD_ | refine bS_ ?_ GE170.out) | exact HB.out)) hg hb; obtain ⟨HB, GE171⟩ := HB; have BK171 := Aside0.mk hbox; clear hb hbox hg; have hnb10 := NB170_171.out; have hnc10 := NB171_170.out; obtain ⟨hcz11_0, hcz11_1, hcz11_2, hcz11_3⟩ := cells4_ BK170.out; obtain ⟨hfz11_0, hfz11_1, hfz11_2, hfz11_3⟩ := froz4_ BK170.out) | ((with_reducible refine gate_callee (f := 9) rfl ?_); refine goesL_ (some 11) rfl rfl Tryz.func9 (by kernel_rfl) rfl #[.agg #[.int .i64 a1_0, .int .u64 a1_1, .string a1_2, .int .i64 a1_3]] rfl (by (try simp only [List.map_toArray, List.map_cons, List.map_nil]); first | done | rfl) ?_; (with_reducible refine (value_Valid.calls a1_0 a1_1 a1_2 a1_3 true _ A3.out).mono ?_); rintro e w12 ⟨rfl, hb⟩; refine ⟨_, rfl, ?_⟩; replace BK170 := sqB_ (g := gb170) (by (with_reducible repeat (first | apply kN_ | apply kD_ | apply kA_)); exact BK170.out) hb; replace BK171 := sqB_ (g := gb171) (by (with_reducible repeat (first | apply kN_ | apply kD_ | apply kA_)); exact BK171.out) hb; replace HB := sqS_ (by repeat (first | (with_reducible first | exact HB.out | apply bA_ | apply bN_ | apply bD_ | refine bS_ ?_ GE170.out | refine bS_ ?_ GE171.out) | exact HB.out)) hb; (try clear hb); (try clear hb2); (try clear hk); (try clear hi); obtain ⟨hcz13_0, hcz13_1, hcz13_2, hcz13_3⟩ := cells4_ BK170.out; obtain ⟨hfz13_0, hfz13_1, hfz13_2, hfz13_3⟩ := froz4_ BK170.out) | ((with_reducible refine gate_callee (f := 10) rfl ?_); refine goesL_ (some 19) rfl rfl Tryz.func10 (by kernel_rfl) rfl #[.agg #[.int .i64 a1_0, .int .u64 a1_1, .string a1_2, .int .i64 a1_3]] rfl (by (try simp only [List.map_toArray, List.map_cons, List.map_nil]); first | done | rfl) ?_; (with_reducible refine (value_Integer.calls k a1_0 a1_1 a1_2 a1_3 t173 t174 _ A6.out).mono ?_); rintro e w14 ⟨rfl, hb⟩; refine ⟨_, rfl, ?_⟩; replace BK170 := sqB_ (g := gb170) (by (with_reducible repeat (first | apply kN_ | apply kD_ | apply kA_)); exact BK170.out) hb; replace BK171 := sqB_ (g := gb171) (by (with_reducible repeat (first | apply kN_ | apply kD_ | apply kA_)); exact BK171.out) hb; replace HB := sqS_ (by repeat (first | (with_reducible first | exact HB.out | apply bA_ | apply bN_ | apply bD_ | refine bS_ ?_ GE170.out | refine bS_ ?_ GE171.out) | exact HB.out)) hb; (try clear hb); (try clear hb2); (try clear hk); (try clear hi)) | ((with_reducible refine gate_callee (f := 11) rfl ?_); refine goesL_ (some 25) rfl rfl Tryz.func11 (by kernel_rfl) rfl #[.int .u64 (Go.bits .xor .u64 18446744073709551615 t173), .int .i64 t174] rfl (by (try simp only [List.map_toArray, List.map_cons, List.map_nil]); first | done | rfl) ?_; (with_reducible refine (value_number.calls (Go.bits .xor .u64 18446744073709551615 t173) t174 t175 t176 t177 t178 t179 _ A7.out).mono ?_); rintro e w15 ⟨rfl, hb⟩; refine ⟨_, rfl, ?_⟩; replace BK170 := sqB_ (g := gb170) (by (with_reducible repeat (first | apply kN_ | apply kD_ | apply kA_)); exact BK170.out) hb; replace BK171 := sqB_ (g := gb171) (by (with_reducible repeat (first | apply kN_ | apply kD_ | apply kA_)); exact BK171.out) hb; replace HB := sqS_ (by repeat (first | (with_reducible first | exact HB.out | apply bA_ | apply bN_ | apply bD_ | refine bS_ ?_ GE170.out | refine bS_ ?_ GE171.out) | exact HB.out)) hb; (try clear hb); (try clear hb2); (try clear hk); (try clear hi); obtain ⟨hcz16_0, hcz16_1, hcz16_2, hcz16_3⟩ := cells4_ BK171.out; obtain ⟨hfz16_0, hfz16_1, hfz16_2, hfz16_3⟩ := froz4_ BK171.out))
   refine bodyPost_ret (results_ct rfl _ _ gb171 24 #[.int .i64 t175, .int .u64 t176, .string t177, .int .i64 t178] (0, 0) _ rfl (by (with_reducible repeat (first | apply kN_ | apply kD_ | apply kA_)); refine blk_put (cs := #[.int .i64 t175, .int .u64 t176, .string t177, .int .i64 0]) ?_ 3 _ rfl; (with_reducible repeat (first | apply kN_ | apply kD_ | apply kA_)); refine blk_put (cs := #[.int .i64 t175, .int .u64 t176, .string ⟨#[]⟩, .int .i64 0]) ?_ 2 _ rfl; (with_reducible repeat (first | apply kN_ | apply kD_ | apply kA_)); refine blk_put (cs := #[.int .i64 t175, .int .u64 0, .string ⟨#[]⟩, .int .i64 0]) ?_ 1 _ rfl; (with_reducible repeat (first | apply kN_ | apply kD_ | apply kA_)); refine blk_put (cs := #[.int .i64 0, .int .u64 0, .string ⟨#[]⟩, .int .i64 0]) ?_ 0 _ rfl; (with_reducible repeat (first | apply kN_ | apply kD_ | apply kA_)); exact BK171.out) Tryz.underlying24 rfl (by kernel_rfl)) rfl ?_
   exact ⟨by first | rfl | (simp [errW_none, errW_some] <;> rfl) | (simp [*, errW_none, errW_some] <;> rfl), by repeat (first | (with_reducible first | exact HB.out | apply bA_ | apply bN_ | apply bD_ | refine bS_ ?_ GE170.out | refine bS_ ?_ GE171.out) | exact HB.out)⟩
  ·rw [if_neg c5] at H
   have c5b0 : (a0 == 77) = false := beq_eq_false_iff_ne.mpr c5
   have c5b1 : (a0 != 77) = true := bne_iff_ne.mpr c5
   by_cases c17 : a0 = 78
   ·rw [if_pos c17] at H
    have c17b0 : (a0 == 78) = true := beq_iff_eq.mpr c17
    have c17b1 : (a0 != 78) = false := bne_eq_false_iff_eq.mpr c17
    clear c17
    replace H := Option.bind_eq_some_iff.mp H
    obtain ⟨⟨t180, t181⟩, A180, H⟩ := H
    replace H : (if t181 = 0 then ((value_boolean.f (t180 == 0)).bind fun bt182 => (some (bt182.1, bt182.2.1, bt182.2.2.1, bt182.2.2.2, 0))) else (some (0, 0, (⟨#[]⟩ : ByteArray), 0, t181))) = some (r1, r2, r3, r4, r5) := H
    have A18 := Aside0.mk A180
    clear A180
    by_cases c19 : t181 = 0
    ·rw [if_pos c19] at H
     have c19b0 : (t181 == 0) = true := beq_iff_eq.mpr c19
     have c19b1 : (t181 != 0) = false := bne_eq_false_iff_eq.mpr c19
     clear c19
     replace H := Option.bind_eq_some_iff.mp H
     obtain ⟨⟨t182, t183, t184, t185⟩, A200, H⟩ := H
     replace H : (some (t182, t183, t184, t185, 0)) = some (r1, r2, r3, r4, r5) := H
     have A20 := Aside0.mk A200
     clear A200
     simp only [Option.some.injEq, Prod.mk.injEq] at H
     obtain ⟨rfl, rfl, rfl, rfl, rfl⟩ := H
     go_enter Tryz.func4, Tryz.ntmps4
     go_wp2_with (first | ((with_reducible refine gate_dst (N := 3) rfl ?_); refine box_event ?hg (N := 3) ?hd (cs := #[.int .i64 a1_0, .int .u64 a1_1, .string a1_2, .int .i64 a1_3]) (t := 24) ?hr ?_; (case hd => rfl); (case hg => rfl); (case hr => first | (go_simp; done) | (go_simp; rfl)); intro gb170 hg w21 hbox hb; replace HB := sqN_ (by repeat (first | (with_reducible first | exact HB.out | apply bA_ | apply bN_ | apply bD_) | exact HB.out)) hg hb; obtain ⟨HB, GE170⟩ := HB; have BK170 := Aside0.mk hbox; clear hb hbox hg) | ((with_reducible refine gate_dst (N := 4) rfl ?_); refine box_event ?hg (N := 4) ?hd (cs := #[.int .i64 0, .int .u64 0, .string ⟨#[]⟩, .int .i64 0]) (t := 24) ?hr ?_; (case hd => rfl); (case hg => rfl); (case hr => first | (go_simp; done) | (go_simp; rfl)); intro gb171 hg w22 hbox hb; replace BK170 := sqO_ (g := gb170) (by (with_reducible repeat (first | apply kN_ | apply kD_ | apply kA_)); exact BK170.out) hg hb; obtain ⟨BK170, NB170_171, NB171_170⟩ := BK170; replace HB := sqN_ (by repeat (first | (with_reducible first | exact HB.out | apply bA_ | apply bN_ | apply bD_ | refine bS_ ?_ GE170.out) | exact HB.out)) hg hb; obtain ⟨HB, GE171⟩ := HB; have BK171 := Aside0.mk hbox; clear hb hbox hg; have hnb23 := NB170_171.out; have hnc23 := NB171_170.out; obtain ⟨hcz24_0, hcz24_1, hcz24_2, hcz24_3⟩ := cells4_ BK170.out; obtain ⟨hfz24_0, hfz24_1, hfz24_2, hfz24_3⟩ := froz4_ BK170.out) | ((with_reducible refine gate_callee (f := 9) rfl ?_); refine goesL_ (some 11) rfl rfl Tryz.func9 (by kernel_rfl) rfl #[.agg #[.int .i64 a1_0, .int .u64 a1_1, .string a1_2, .int .i64 a1_3]] rfl (by (try simp only [List.map_toArray, List.map_cons, List.map_nil]); first | done | rfl) ?_; (with_reducible refine (value_Valid.calls a1_0 a1_1 a1_2 a1_3 true _ A3.out).mono ?_); rintro e w25 ⟨rfl, hb⟩; refine ⟨_, rfl, ?_⟩; replace BK170 := sqB_ (g := gb170) (by (with_reducible repeat (first | apply kN_ | apply kD_ | apply kA_)); exact BK170.out) hb; replace BK171 := sqB_ (g := gb171) (by (with_reducible repeat (first | apply kN_ | apply kD_ | apply kA_)); exact BK171.out) hb; replace HB := sqS_ (by repeat (first | (with_reducible first | exact HB.out | apply bA_ | apply bN_ | apply bD_ | refine bS_ ?_ GE170.out | refine bS_ ?_ GE171.out) | exact HB.out)) hb; (try clear hb); (try clear hb2); (try clear hk); (try clear hi); obtain ⟨hcz26_0, hcz26_1, hcz26_2, hcz26_3⟩ := cells4_ BK170.out; obtain ⟨hfz26_0, hfz26_1, hfz26_2, hfz26_3⟩ := froz4_ BK170.out) | ((with_reducible refine gate_callee (f := 10) rfl ?_); refine goesL_ (some 32) rfl rfl Tryz.func10 (by kernel_rfl) rfl #[.agg #[.int .i64 a1_0, .int .u64 a1_1, .string a1_2, .int .i64 a1_3]] rfl (by (try simp only [List.map_toArray, List.map_cons, List.map_nil]); first | done | rfl) ?_; (with_reducible refine (value_Integer.calls k a1_0 a1_1 a1_2 a1_3 t180 t181 _ A18.out).mono ?_); rintro e w27 ⟨rfl, hb⟩; refine ⟨_, rfl, ?_⟩; replace BK170 := sqB_ (g := gb170) (by (with_reducible repeat (first | apply kN_ | apply kD_ | apply kA_)); exact BK170.out) hb; replace BK171 := sqB_ (g := gb171) (by (with_reducible repeat (first | apply kN_ | apply kD_ | apply kA_)); exact BK171.out) hb; replace HB := sqS_ (by repeat (first | (with_reducible first | exact HB.out | apply bA_ | apply bN_ | apply bD_ | refine bS_ ?_ GE170.out | refine bS_ ?_ GE171.out) | exact HB.out)) hb; (try clear hb); (try clear hb2); (try clear hk); (try clear hi)) | ((with_reducible refine gate_callee (f := 12) rfl ?_); refine goesL_ (some 41) rfl rfl Tryz.func12 (by kernel_rfl) rfl #[.bool (t180 == 0)] rfl (by (try simp only [List.map_toArray, List.map_cons, List.map_nil]); first | done | rfl) ?_; (with_reducible refine (value_boolean.calls (t180 == 0) t182 t183 t184 t185 _ A20.out).mono ?_); rintro e w28 ⟨rfl, hb⟩; refine ⟨_, rfl, ?_⟩; replace BK170 := sqB_ (g := gb170) (by (with_reducible repeat (first | apply kN_ | apply kD_ | apply kA_)); exact BK170.out) hb; replace BK171 := sqB_ (g := gb171) (by (with_reducible repeat (first | apply kN_ | apply kD_ | apply kA_)); exact BK171.out) hb; replace HB := sqS_ (by repeat (first | (with_reducible first | exact HB.out | apply bA_ | apply bN_ | apply bD_ | refine bS_ ?_ GE170.out | refine bS_ ?_ GE171.out) | exact HB.out)) hb; (try clear hb); (try clear hb2); (try clear hk); (try clear hi); obtain ⟨hcz29_0, hcz29_1, hcz29_2, hcz29_3⟩ := cells4_ BK171.out; obtain ⟨hfz29_0, hfz29_1, hfz29_2, hfz29_3⟩ := froz4_ BK171.out))
     refine bodyPost_ret (results_ct rfl _ _ gb171 24 #[.int .i64 t182, .int .u64 t183, .string t184, .int .i64 t185] (0, 0) _ rfl (by (with_reducible repeat (first | apply kN_ | apply kD_ | apply kA_)); refine blk_put (cs := #[.int .i64 t182, .int .u64 t183, .string t184, .int .i64 0]) ?_ 3 _ rfl; (with_reducible repeat (first | apply kN_ | apply kD_ | apply kA_)); refine blk_put (cs := #[.int .i64 t182, .int .u64 t183, .string ⟨#[]⟩, .int .i64 0]) ?_ 2 _ rfl; (with_reducible repeat (first | apply kN_ | apply kD_ | apply kA_)); refine blk_put (cs := #[.int .i64 t182, .int .u64 0, .string ⟨#[]⟩, .int .i64 0]) ?_ 1 _ rfl; (with_reducible repeat (first | apply kN_ | apply kD_ | apply kA_)); refine blk_put (cs := #[.int .i64 0, .int .u64 0, .string ⟨#[]⟩, .int .i64 0]) ?_ 0 _ rfl; (with_reducible repeat (first | apply kN_ | apply kD_ | apply kA_)); exact BK171.out) Tryz.underlying24 rfl (by kernel_rfl)) rfl ?_
     exact ⟨by first | rfl | (simp [errW_none, errW_some] <;> rfl) | (simp [*, errW_none, errW_some] <;> rfl), by repeat (first | (with_reducible first | exact HB.out | apply bA_ | apply bN_ | apply bD_ | refine bS_ ?_ GE170.out | refine bS_ ?_ GE171.out) | exact HB.out)⟩
    ·rw [if_neg c19] at H
     have c19b0 : (t181 == 0) = false := beq_eq_false_iff_ne.mpr c19
     have c19b1 : (t181 != 0) = true := bne_iff_ne.mpr c19
     simp only [Option.some.injEq, Prod.mk.injEq] at H
     obtain ⟨rfl, rfl, rfl, rfl, rfl⟩ := H
     go_enter Tryz.func4, Tryz.ntmps4
     go_wp2_with (first | ((with_reducible refine gate_dst (N := 3) rfl ?_); refine box_event ?hg (N := 3) ?hd (cs := #[.int .i64 a1_0, .int .u64 a1_1, .string a1_2, .int .i64 a1_3]) (t := 24) ?hr ?_; (case hd => rfl); (case hg => rfl); (case hr => first | (go_simp; done) | (go_simp; rfl)); intro gb170 hg w30 hbox hb; replace HB := sqN_ (by repeat (first | (with_reducible first | exact HB.out | apply bA_ | apply bN_ | apply bD_) | exact HB.out)) hg hb; obtain ⟨HB, GE170⟩ := HB; have BK170 := Aside0.mk hbox; clear hb hbox hg) | ((with_reducible refine gate_dst (N := 4) rfl ?_); refine box_event ?hg (N := 4) ?hd (cs := #[.int .i64 0, .int .u64 0, .string ⟨#[]⟩, .int .i64 0]) (t := 24) ?hr ?_; (case hd => rfl); (case hg => rfl); (case hr => first | (go_simp; done) | (go_simp; rfl)); intro gb171 hg w31 hbox hb; replace BK170 := sqO_ (g := gb170) (by (with_reducible repeat (first | apply kN_ | apply kD_ | apply kA_)); exact BK170.out) hg hb; obtain ⟨BK170, NB170_171, NB171_170⟩ := BK170; replace HB := sqN_ (by repeat (first | (with_reducible first | exact HB.out | apply bA_ | apply bN_ | apply bD_ | refine bS_ ?_ GE170.out) | exact HB.out)) hg hb; obtain ⟨HB, GE171⟩ := HB; have BK171 := Aside0.mk hbox; clear hb hbox hg; have hnb32 := NB170_171.out; have hnc32 := NB171_170.out; obtain ⟨hcz33_0, hcz33_1, hcz33_2, hcz33_3⟩ := cells4_ BK170.out; obtain ⟨hfz33_0, hfz33_1, hfz33_2, hfz33_3⟩ := froz4_ BK170.out) | ((with_reducible refine gate_callee (f := 9) rfl ?_); refine goesL_ (some 11) rfl rfl Tryz.func9 (by kernel_rfl) rfl #[.agg #[.int .i64 a1_0, .int .u64 a1_1, .string a1_2, .int .i64 a1_3]] rfl (by (try simp only [List.map_toArray, List.map_cons, List.map_nil]); first | done | rfl) ?_; (with_reducible refine (value_Valid.calls a1_0 a1_1 a1_2 a1_3 true _ A3.out).mono ?_); rintro e w34 ⟨rfl, hb⟩; refine ⟨_, rfl, ?_⟩; replace BK170 := sqB_ (g := gb170) (by (with_reducible repeat (first | apply kN_ | apply kD_ | apply kA_)); exact BK170.out) hb; replace BK171 := sqB_ (g := gb171) (by (with_reducible repeat (first | apply kN_ | apply kD_ | apply kA_)); exact BK171.out) hb; replace HB := sqS_ (by repeat (first | (with_reducible first | exact HB.out | apply bA_ | apply bN_ | apply bD_ | refine bS_ ?_ GE170.out | refine bS_ ?_ GE171.out) | exact HB.out)) hb; (try clear hb); (try clear hb2); (try clear hk); (try clear hi); obtain ⟨hcz35_0, hcz35_1, hcz35_2, hcz35_3⟩ := cells4_ BK170.out; obtain ⟨hfz35_0, hfz35_1, hfz35_2, hfz35_3⟩ := froz4_ BK170.out) | ((with_reducible refine gate_callee (f := 10) rfl ?_); refine goesL_ (some 32) rfl rfl Tryz.func10 (by kernel_rfl) rfl #[.agg #[.int .i64 a1_0, .int .u64 a1_1, .string a1_2, .int .i64 a1_3]] rfl (by (try simp only [List.map_toArray, List.map_cons, List.map_nil]); first | done | rfl) ?_; (with_reducible refine (value_Integer.calls k a1_0 a1_1 a1_2 a1_3 t180 t181 _ A18.out).mono ?_); rintro e w36 ⟨rfl, hb⟩; refine ⟨_, rfl, ?_⟩; replace BK170 := sqB_ (g := gb170) (by (with_reducible repeat (first | apply kN_ | apply kD_ | apply kA_)); exact BK170.out) hb; replace BK171 := sqB_ (g := gb171) (by (with_reducible repeat (first | apply kN_ | apply kD_ | apply kA_)); exact BK171.out) hb; replace HB := sqS_ (by repeat (first | (with_reducible first | exact HB.out | apply bA_ | apply bN_ | apply bD_ | refine bS_ ?_ GE170.out | refine bS_ ?_ GE171.out) | exact HB.out)) hb; (try clear hb); (try clear hb2); (try clear hk); (try clear hi); obtain ⟨hcz37_0, hcz37_1, hcz37_2, hcz37_3⟩ := cells4_ BK171.out; obtain ⟨hfz37_0, hfz37_1, hfz37_2, hfz37_3⟩ := froz4_ BK171.out))
     refine bodyPost_ret (results_ct rfl _ _ gb171 24 #[.int .i64 0, .int .u64 0, .string ⟨#[]⟩, .int .i64 0] (0, 0) _ rfl (by (with_reducible repeat (first | apply kN_ | apply kD_ | apply kA_)); refine blk_put (cs := #[.int .i64 0, .int .u64 0, .string ⟨#[]⟩, .int .i64 0]) ?_ 3 _ rfl; (with_reducible repeat (first | apply kN_ | apply kD_ | apply kA_)); refine blk_put (cs := #[.int .i64 0, .int .u64 0, .string ⟨#[]⟩, .int .i64 0]) ?_ 2 _ rfl; (with_reducible repeat (first | apply kN_ | apply kD_ | apply kA_)); refine blk_put (cs := #[.int .i64 0, .int .u64 0, .string ⟨#[]⟩, .int .i64 0]) ?_ 1 _ rfl; (with_reducible repeat (first | apply kN_ | apply kD_ | apply kA_)); refine blk_put (cs := #[.int .i64 0, .int .u64 0, .string ⟨#[]⟩, .int .i64 0]) ?_ 0 _ rfl; (with_reducible repeat (first | apply kN_ | apply kD_ | apply kA_)); exact BK171.out) Tryz.underlying24 rfl (by kernel_rfl)) rfl ?_
     exact ⟨by first | rfl | (simp [errW_none, errW_some] <;> rfl) | (simp [*, errW_none, errW_some] <;> rfl), by repeat (first | (with_reducible first | exact HB.out | apply bA_ | apply bN_ | apply bD_ | refine bS_ ?_ GE170.out | refine bS_ ?_ GE171.out) | exact HB.out)⟩
   ·rw [if_neg c17] at H
    have c17b0 : (a0 == 78) = false := beq_eq_false_iff_ne.mpr c17
    have c17b1 : (a0 != 78) = true := bne_iff_ne.mpr c17
    by_cases c38 : a0 = 79
    ·rw [if_pos c38] at H
     have c38b0 : (a0 == 79) = true := beq_iff_eq.mpr c38
     have c38b1 : (a0 != 79) = false := bne_eq_false_iff_eq.mpr c38
     clear c38
     by_cases c39 : a1_0 = 2
     ·rw [if_pos c39] at H
      have c39b0 : (a1_0 == 2) = true := beq_iff_eq.mpr c39
      have c39b1 : (a1_0 != 2) = false := bne_eq_false_iff_eq.mpr c39
      clear c39
      replace H := Option.bind_eq_some_iff.mp H
      obtain ⟨⟨t186, t187, t188, t189⟩, A400, H⟩ := H
      replace H : (some (t186, t187, t188, t189, 0)) = some (r1, r2, r3, r4, r5) := H
      have A40 := Aside0.mk A400
      clear A400
      simp only [Option.some.injEq, Prod.mk.injEq] at H
      obtain ⟨rfl, rfl, rfl, rfl, rfl⟩ := H
      go_enter Tryz.func4, Tryz.ntmps4
      go_wp2_with (first | ((with_reducible refine gate_dst (N := 3) rfl ?_); refine box_event ?hg (N := 3) ?hd (cs := #[.int .i64 a1_0, .int .u64 a1_1, .string a1_2, .int .i64 a1_3]) (t := 24) ?hr ?_; (case hd => rfl); (case hg => rfl); (case hr => first | (go_simp; done) | (go_simp; rfl)); intro gb170 hg w41 hbox hb; replace HB := sqN_ (by repeat (first | (with_reducible first | exact HB.out | apply bA_ | apply bN_ | apply bD_) | exact HB.out)) hg hb; obtain ⟨HB, GE170⟩ := HB; have BK170 := Aside0.mk hbox; clear hb hbox hg) | ((with_reducible refine gate_dst (N := 4) rfl ?_); refine box_event ?hg (N := 4) ?hd (cs := #[.int .i64 0, .int .u64 0, .string ⟨#[]⟩, .int .i64 0]) (t := 24) ?hr ?_; (case hd => rfl); (case hg => rfl); (case hr => first | (go_simp; done) | (go_simp; rfl)); intro gb171 hg w42 hbox hb; replace BK170 := sqO_ (g := gb170) (by (with_reducible repeat (first | apply kN_ | apply kD_ | apply kA_)); exact BK170.out) hg hb; obtain ⟨BK170, NB170_171, NB171_170⟩ := BK170; replace HB := sqN_ (by repeat (first | (with_reducible first | exact HB.out | apply bA_ | apply bN_ | apply bD_ | refine bS_ ?_ GE170.out) | exact HB.out)) hg hb; obtain ⟨HB, GE171⟩ := HB; have BK171 := Aside0.mk hbox; clear hb hbox hg; have hnb43 := NB170_171.out; have hnc43 := NB171_170.out; obtain ⟨hcz44_0, hcz44_1, hcz44_2, hcz44_3⟩ := cells4_ BK170.out; obtain ⟨hfz44_0, hfz44_1, hfz44_2, hfz44_3⟩ := froz4_ BK170.out) | ((with_reducible refine gate_callee (f := 9) rfl ?_); refine goesL_ (some 11) rfl rfl Tryz.func9 (by kernel_rfl) rfl #[.agg #[.int .i64 a1_0, .int .u64 a1_1, .string a1_2, .int .i64 a1_3]] rfl (by (try simp only [List.map_toArray, List.map_cons, List.map_nil]); first | done | rfl) ?_; (with_reducible refine (value_Valid.calls a1_0 a1_1 a1_2 a1_3 true _ A3.out).mono ?_); rintro e w45 ⟨rfl, hb⟩; refine ⟨_, rfl, ?_⟩; replace BK170 := sqB_ (g := gb170) (by (with_reducible repeat (first | apply kN_ | apply kD_ | apply kA_)); exact BK170.out) hb; replace BK171 := sqB_ (g := gb171) (by (with_reducible repeat (first | apply kN_ | apply kD_ | apply kA_)); exact BK171.out) hb; replace HB := sqS_ (by repeat (first | (with_reducible first | exact HB.out | apply bA_ | apply bN_ | apply bD_ | refine bS_ ?_ GE170.out | refine bS_ ?_ GE171.out) | exact HB.out)) hb; (try clear hb); (try clear hb2); (try clear hk); (try clear hi); obtain ⟨hcz46_0, hcz46_1, hcz46_2, hcz46_3⟩ := cells4_ BK170.out; obtain ⟨hfz46_0, hfz46_1, hfz46_2, hfz46_3⟩ := froz4_ BK170.out) | ((with_reducible refine gate_callee (f := 13) rfl ?_); refine goesL_ (some 57) rfl rfl Tryz.func13 (by kernel_rfl) rfl #[.int .u64 (IntKind.u64.wrap ((a1_2.size : Int)))] rfl (by (try simp only [List.map_toArray, List.map_cons, List.map_nil]); first | done | rfl) ?_; (with_reducible refine (value_integer.calls (IntKind.u64.wrap ((a1_2.size : Int))) t186 t187 t188 t189 _ A40.out).mono ?_); rintro e w47 ⟨rfl, hb⟩; refine ⟨_, rfl, ?_⟩; replace BK170 := sqB_ (g := gb170) (by (with_reducible repeat (first | apply kN_ | apply kD_ | apply kA_)); exact BK170.out) hb; replace BK171 := sqB_ (g := gb171) (by (with_reducible repeat (first | apply kN_ | apply kD_ | apply kA_)); exact BK171.out) hb; replace HB := sqS_ (by repeat (first | (with_reducible first | exact HB.out | apply bA_ | apply bN_ | apply bD_ | refine bS_ ?_ GE170.out | refine bS_ ?_ GE171.out) | exact HB.out)) hb; (try clear hb); (try clear hb2); (try clear hk); (try clear hi); obtain ⟨hcz48_0, hcz48_1, hcz48_2, hcz48_3⟩ := cells4_ BK171.out; obtain ⟨hfz48_0, hfz48_1, hfz48_2, hfz48_3⟩ := froz4_ BK171.out))
      refine bodyPost_ret (results_ct rfl _ _ gb171 24 #[.int .i64 t186, .int .u64 t187, .string t188, .int .i64 t189] (0, 0) _ rfl (by (with_reducible repeat (first | apply kN_ | apply kD_ | apply kA_)); refine blk_put (cs := #[.int .i64 t186, .int .u64 t187, .string t188, .int .i64 0]) ?_ 3 _ rfl; (with_reducible repeat (first | apply kN_ | apply kD_ | apply kA_)); refine blk_put (cs := #[.int .i64 t186, .int .u64 t187, .string ⟨#[]⟩, .int .i64 0]) ?_ 2 _ rfl; (with_reducible repeat (first | apply kN_ | apply kD_ | apply kA_)); refine blk_put (cs := #[.int .i64 t186, .int .u64 0, .string ⟨#[]⟩, .int .i64 0]) ?_ 1 _ rfl; (with_reducible repeat (first | apply kN_ | apply kD_ | apply kA_)); refine blk_put (cs := #[.int .i64 0, .int .u64 0, .string ⟨#[]⟩, .int .i64 0]) ?_ 0 _ rfl; (with_reducible repeat (first | apply kN_ | apply kD_ | apply kA_)); exact BK171.out) Tryz.underlying24 rfl (by kernel_rfl)) rfl ?_
      exact ⟨by first | rfl | (simp [errW_none, errW_some] <;> rfl) | (simp [*, errW_none, errW_some] <;> rfl), by repeat (first | (with_reducible first | exact HB.out | apply bA_ | apply bN_ | apply bD_ | refine bS_ ?_ GE170.out | refine bS_ ?_ GE171.out) | exact HB.out)⟩
     ·rw [if_neg c39] at H
      have c39b0 : (a1_0 == 2) = false := beq_eq_false_iff_ne.mpr c39
      have c39b1 : (a1_0 != 2) = true := bne_iff_ne.mpr c39
      by_cases c49 : a1_0 = 3
      ·rw [if_pos c49] at H
       have c49b0 : (a1_0 == 3) = true := beq_iff_eq.mpr c49
       have c49b1 : (a1_0 != 3) = false := bne_eq_false_iff_eq.mpr c49
       clear c49
       replace H := Option.bind_eq_some_iff.mp H
       obtain ⟨⟨t190, t191, t192, t193⟩, A500, H⟩ := H
       replace H : (some (t190, t191, t192, t193, 0)) = some (r1, r2, r3, r4, r5) := H
       have A50 := Aside0.mk A500
       clear A500
       simp only [Option.some.injEq, Prod.mk.injEq] at H
       obtain ⟨rfl, rfl, rfl, rfl, rfl⟩ := H
       go_enter Tryz.func4, Tryz.ntmps4
       go_wp2_with (first | ((with_reducible refine gate_dst (N := 3) rfl ?_); refine box_event ?hg (N := 3) ?hd (cs := #[.int .i64 a1_0, .int .u64 a1_1, .string a1_2, .int .i64 a1_3]) (t := 24) ?hr ?_; (case hd => rfl); (case hg => rfl); (case hr => first | (go_simp; done) | (go_simp; rfl)); intro gb170 hg w51 hbox hb; replace HB := sqN_ (by repeat (first | (with_reducible first | exact HB.out | apply bA_ | apply bN_ | apply bD_) | exact HB.out)) hg hb; obtain ⟨HB, GE170⟩ := HB; have BK170 := Aside0.mk hbox; clear hb hbox hg) | ((with_reducible refine gate_dst (N := 4) rfl ?_); refine box_event ?hg (N := 4) ?hd (cs := #[.int .i64 0, .int .u64 0, .string ⟨#[]⟩, .int .i64 0]) (t := 24) ?hr ?_; (case hd => rfl); (case hg => rfl); (case hr => first | (go_simp; done) | (go_simp; rfl)); intro gb171 hg w52 hbox hb; replace BK170 := sqO_ (g := gb170) (by (with_reducible repeat (first | apply kN_ | apply kD_ | apply kA_)); exact BK170.out) hg hb; obtain ⟨BK170, NB170_171, NB171_170⟩ := BK170; replace HB := sqN_ (by repeat (first | (with_reducible first | exact HB.out | apply bA_ | apply bN_ | apply bD_ | refine bS_ ?_ GE170.out) | exact HB.out)) hg hb; obtain ⟨HB, GE171⟩ := HB; have BK171 := Aside0.mk hbox; clear hb hbox hg; have hnb53 := NB170_171.out; have hnc53 := NB171_170.out; obtain ⟨hcz54_0, hcz54_1, hcz54_2, hcz54_3⟩ := cells4_ BK170.out; obtain ⟨hfz54_0, hfz54_1, hfz54_2, hfz54_3⟩ := froz4_ BK170.out) | ((with_reducible refine gate_callee (f := 9) rfl ?_); refine goesL_ (some 11) rfl rfl Tryz.func9 (by kernel_rfl) rfl #[.agg #[.int .i64 a1_0, .int .u64 a1_1, .string a1_2, .int .i64 a1_3]] rfl (by (try simp only [List.map_toArray, List.map_cons, List.map_nil]); first | done | rfl) ?_; (with_reducible refine (value_Valid.calls a1_0 a1_1 a1_2 a1_3 true _ A3.out).mono ?_); rintro e w55 ⟨rfl, hb⟩; refine ⟨_, rfl, ?_⟩; replace BK170 := sqB_ (g := gb170) (by (with_reducible repeat (first | apply kN_ | apply kD_ | apply kA_)); exact BK170.out) hb; replace BK171 := sqB_ (g := gb171) (by (with_reducible repeat (first | apply kN_ | apply kD_ | apply kA_)); exact BK171.out) hb; replace HB := sqS_ (by repeat (first | (with_reducible first | exact HB.out | apply bA_ | apply bN_ | apply bD_ | refine bS_ ?_ GE170.out | refine bS_ ?_ GE171.out) | exact HB.out)) hb; (try clear hb); (try clear hb2); (try clear hk); (try clear hi); obtain ⟨hcz56_0, hcz56_1, hcz56_2, hcz56_3⟩ := cells4_ BK170.out; obtain ⟨hfz56_0, hfz56_1, hfz56_2, hfz56_3⟩ := froz4_ BK170.out) | ((with_reducible refine gate_callee (f := 13) rfl ?_); refine goesL_ (some 57) rfl rfl Tryz.func13 (by kernel_rfl) rfl #[.int .u64 (IntKind.u64.wrap ((a1_2.size : Int)))] rfl (by (try simp only [List.map_toArray, List.map_cons, List.map_nil]); first | done | rfl) ?_; (with_reducible refine (value_integer.calls (IntKind.u64.wrap ((a1_2.size : Int))) t190 t191 t192 t193 _ A50.out).mono ?_); rintro e w57 ⟨rfl, hb⟩; refine ⟨_, rfl, ?_⟩; replace BK170 := sqB_ (g := gb170) (by (with_reducible repeat (first | apply kN_ | apply kD_ | apply kA_)); exact BK170.out) hb; replace BK171 := sqB_ (g := gb171) (by (with_reducible repeat (first | apply kN_ | apply kD_ | apply kA_)); exact BK171.out) hb; replace HB := sqS_ (by repeat (first | (with_reducible first | exact HB.out | apply bA_ | apply bN_ | apply bD_ | refine bS_ ?_ GE170.out | refine bS_ ?_ GE171.out) | exact HB.out)) hb; (try clear hb); (try clear hb2); (try clear hk); (try clear hi); obtain ⟨hcz58_0, hcz58_1, hcz58_2, hcz58_3⟩ := cells4_ BK171.out; obtain ⟨hfz58_0, hfz58_1, hfz58_2, hfz58_3⟩ := froz4_ BK171.out))
       refine bodyPost_ret (results_ct rfl _ _ gb171 24 #[.int .i64 t190, .int .u64 t191, .string t192, .int .i64 t193] (0, 0) _ rfl (by (with_reducible repeat (first | apply kN_ | apply kD_ | apply kA_)); refine blk_put (cs := #[.int .i64 t190, .int .u64 t191, .string t192, .int .i64 0]) ?_ 3 _ rfl; (with_reducible repeat (first | apply kN_ | apply kD_ | apply kA_)); refine blk_put (cs := #[.int .i64 t190, .int .u64 t191, .string ⟨#[]⟩, .int .i64 0]) ?_ 2 _ rfl; (with_reducible repeat (first | apply kN_ | apply kD_ | apply kA_)); refine blk_put (cs := #[.int .i64 t190, .int .u64 0, .string ⟨#[]⟩, .int .i64 0]) ?_ 1 _ rfl; (with_reducible repeat (first | apply kN_ | apply kD_ | apply kA_)); refine blk_put (cs := #[.int .i64 0, .int .u64 0, .string ⟨#[]⟩, .int .i64 0]) ?_ 0 _ rfl; (with_reducible repeat (first | apply kN_ | apply kD_ | apply kA_)); exact BK171.out) Tryz.underlying24 rfl (by kernel_rfl)) rfl ?_
       exact ⟨by first | rfl | (simp [errW_none, errW_some] <;> rfl) | (simp [*, errW_none, errW_some] <;> rfl), by repeat (first | (with_reducible first | exact HB.out | apply bA_ | apply bN_ | apply bD_ | refine bS_ ?_ GE170.out | refine bS_ ?_ GE171.out) | exact HB.out)⟩
      ·rw [if_neg c49] at H
       have c49b0 : (a1_0 == 3) = false := beq_eq_false_iff_ne.mpr c49
       have c49b1 : (a1_0 != 3) = true := bne_iff_ne.mpr c49
       simp only [Option.some.injEq, Prod.mk.injEq] at H
       obtain ⟨rfl, rfl, rfl, rfl, rfl⟩ := H
       go_enter Tryz.func4, Tryz.ntmps4
       go_wp2_with (first | ((with_reducible refine gate_dst (N := 3) rfl ?_); refine box_event ?hg (N := 3) ?hd (cs := #[.int .i64 a1_0, .int .u64 a1_1, .string a1_2, .int .i64 a1_3]) (t := 24) ?hr ?_; (case hd => rfl); (case hg => rfl); (case hr => first | (go_simp; done) | (go_simp; rfl)); intro gb170 hg w59 hbox hb; replace HB := sqN_ (by repeat (first | (with_reducible first | exact HB.out | apply bA_ | apply bN_ | apply bD_) | exact HB.out)) hg hb; obtain ⟨HB, GE170⟩ := HB; have BK170 := Aside0.mk hbox; clear hb hbox hg) | ((with_reducible refine gate_dst (N := 4) rfl ?_); refine box_event ?hg (N := 4) ?hd (cs := #[.int .i64 0, .int .u64 0, .string ⟨#[]⟩, .int .i64 0]) (t := 24) ?hr ?_; (case hd => rfl); (case hg => rfl); (case hr => first | (go_simp; done) | (go_simp; rfl)); intro gb171 hg w60 hbox hb; replace BK170 := sqO_ (g := gb170) (by (with_reducible repeat (first | apply kN_ | apply kD_ | apply kA_)); exact BK170.out) hg hb; obtain ⟨BK170, NB170_171, NB171_170⟩ := BK170; replace HB := sqN_ (by repeat (first | (with_reducible first | exact HB.out | apply bA_ | apply bN_ | apply bD_ | refine bS_ ?_ GE170.out) | exact HB.out)) hg hb; obtain ⟨HB, GE171⟩ := HB; have BK171 := Aside0.mk hbox; clear hb hbox hg; have hnb61 := NB170_171.out; have hnc61 := NB171_170.out; obtain ⟨hcz62_0, hcz62_1, hcz62_2, hcz62_3⟩ := cells4_ BK170.out; obtain ⟨hfz62_0, hfz62_1, hfz62_2, hfz62_3⟩ := froz4_ BK170.out) | ((with_reducible refine gate_callee (f := 9) rfl ?_); refine goesL_ (some 11) rfl rfl Tryz.func9 (by kernel_rfl) rfl #[.agg #[.int .i64 a1_0, .int .u64 a1_1, .string a1_2, .int .i64 a1_3]] rfl (by (try simp only [List.map_toArray, List.map_cons, List.map_nil]); first | done | rfl) ?_; (with_reducible refine (value_Valid.calls a1_0 a1_1 a1_2 a1_3 true _ A3.out).mono ?_); rintro e w63 ⟨rfl, hb⟩; refine ⟨_, rfl, ?_⟩; replace BK170 := sqB_ (g := gb170) (by (with_reducible repeat (first | apply kN_ | apply kD_ | apply kA_)); exact BK170.out) hb; replace BK171 := sqB_ (g := gb171) (by (with_reducible repeat (first | apply kN_ | apply kD_ | apply kA_)); exact BK171.out) hb; replace HB := sqS_ (by repeat (first | (with_reducible first | exact HB.out | apply bA_ | apply bN_ | apply bD_ | refine bS_ ?_ GE170.out | refine bS_ ?_ GE171.out) | exact HB.out)) hb; (try clear hb); (try clear hb2); (try clear hk); (try clear hi); obtain ⟨hcz64_0, hcz64_1, hcz64_2, hcz64_3⟩ := cells4_ BK170.out; obtain ⟨hfz64_0, hfz64_1, hfz64_2, hfz64_3⟩ := froz4_ BK170.out; obtain ⟨hcz65_0, hcz65_1, hcz65_2, hcz65_3⟩ := cells4_ BK171.out; obtain ⟨hfz65_0, hfz65_1, hfz65_2, hfz65_3⟩ := froz4_ BK171.out))
       refine bodyPost_ret (results_ct rfl _ _ gb171 24 #[.int .i64 0, .int .u64 0, .string ⟨#[]⟩, .int .i64 0] (0, 0) _ rfl (by (with_reducible repeat (first | apply kN_ | apply kD_ | apply kA_)); refine blk_put (cs := #[.int .i64 0, .int .u64 0, .string ⟨#[]⟩, .int .i64 0]) ?_ 3 _ rfl; (with_reducible repeat (first | apply kN_ | apply kD_ | apply kA_)); refine blk_put (cs := #[.int .i64 0, .int .u64 0, .string ⟨#[]⟩, .int .i64 0]) ?_ 2 _ rfl; (with_reducible repeat (first | apply kN_ | apply kD_ | apply kA_)); refine blk_put (cs := #[.int .i64 0, .int .u64 0, .string ⟨#[]⟩, .int .i64 0]) ?_ 1 _ rfl; (with_reducible repeat (first | apply kN_ | apply kD_ | apply kA_)); refine blk_put (cs := #[.int .i64 0, .int .u64 0, .string ⟨#[]⟩, .int .i64 0]) ?_ 0 _ rfl; (with_reducible repeat (first | apply kN_ | apply kD_ | apply kA_)); exact BK171.out) Tryz.underlying24 rfl (by kernel_rfl)) rfl ?_
       exact ⟨by first | rfl | (simp [errW_none, errW_some] <;> rfl) | (simp [*, errW_none, errW_some] <;> rfl), by repeat (first | (with_reducible first | exact HB.out | apply bA_ | apply bN_ | apply bD_ | refine bS_ ?_ GE170.out | refine bS_ ?_ GE171.out) | exact HB.out)⟩
    ·rw [if_neg c38] at H
     have c38b0 : (a0 == 79) = false := beq_eq_false_iff_ne.mpr c38
     have c38b1 : (a0 != 79) = true := bne_iff_ne.mpr c38
     by_cases c66 : a0 = 80
     ·rw [if_pos c66] at H
      have c66b0 : (a0 == 80) = true := beq_iff_eq.mpr c66
      have c66b1 : (a0 != 80) = false := bne_eq_false_iff_eq.mpr c66
      clear c66
      replace H := Option.bind_eq_some_iff.mp H
      obtain ⟨⟨t194, t195⟩, A670, H⟩ := H
      replace H : ((value_number.f t194 t195).bind fun bt196 => (some (bt196.1, bt196.2.1, bt196.2.2.1, bt196.2.2.2.1, bt196.2.2.2.2))) = some (r1, r2, r3, r4, r5) := H
      have A67 := Aside0.mk A670
      clear A670
      replace H := Option.bind_eq_some_iff.mp H
      obtain ⟨⟨t196, t197, t198, t199, t200⟩, A680, H⟩ := H
      replace H : (some (t196, t197, t198, t199, t200)) = some (r1, r2, r3, r4, r5) := H
      have A68 := Aside0.mk A680
      clear A680
      simp only [Option.some.injEq, Prod.mk.injEq] at H
      obtain ⟨rfl, rfl, rfl, rfl, rfl⟩ := H
      go_enter Tryz.func4, Tryz.ntmps4
      go_wp2_with (first | ((with_reducible refine gate_dst (N := 3) rfl ?_); refine box_event ?hg (N := 3) ?hd (cs := #[.int .i64 a1_0, .int .u64 a1_1, .string a1_2, .int .i64 a1_3]) (t := 24) ?hr ?_; (case hd => rfl); (case hg => rfl); (case hr => first | (go_simp; done) | (go_simp; rfl)); intro gb170 hg w69 hbox hb; replace HB := sqN_ (by repeat (first | (with_reducible first | exact HB.out | apply bA_ | apply bN_ | apply bD_) | exact HB.out)) hg hb; obtain ⟨HB, GE170⟩ := HB; have BK170 := Aside0.mk hbox; clear hb hbox hg) | ((with_reducible refine gate_dst (N := 4) rfl ?_); refine box_event ?hg (N := 4) ?hd (cs := #[.int .i64 0, .int .u64 0, .string ⟨#[]⟩, .int .i64 0]) (t := 24) ?hr ?_; (case hd => rfl); (case hg => rfl); (case hr => first | (go_simp; done) | (go_simp; rfl)); intro gb171 hg w70 hbox hb; replace BK170 := sqO_ (g := gb170) (by (with_reducible repeat (first | apply kN_ | apply kD_ | apply kA_)); exact BK170.out) hg hb; obtain ⟨BK170, NB170_171, NB171_170⟩ := BK170; replace HB := sqN_ (by repeat (first | (with_reducible first | exact HB.out | apply bA_ | apply bN_ | apply bD_ | refine bS_ ?_ GE170.out) | exact HB.out)) hg hb; obtain ⟨HB, GE171⟩ := HB; have BK171 := Aside0.mk hbox; clear hb hbox hg; have hnb71 := NB170_171.out; have hnc71 := NB171_170.out; obtain ⟨hcz72_0, hcz72_1, hcz72_2, hcz72_3⟩ := cells4_ BK170.out; obtain ⟨hfz72_0, hfz72_1, hfz72_2, hfz72_3⟩ := froz4_ BK170.out) | ((with_reducible refine gate_callee (f := 9) rfl ?_); refine goesL_ (some 11) rfl rfl Tryz.func9 (by kernel_rfl) rfl #[.agg #[.int .i64 a1_0, .int .u64 a1_1, .string a1_2, .int .i64 a1_3]] rfl (by (try simp only [List.map_toArray, List.map_cons, List.map_nil]); first | done | rfl) ?_; (with_reducible refine (value_Valid.calls a1_0 a1_1 a1_2 a1_3 true _ A3.out).mono ?_); rintro e w73 ⟨rfl, hb⟩; refine ⟨_, rfl, ?_⟩; replace BK170 := sqB_ (g := gb170) (by (with_reducible repeat (first | apply kN_ | apply kD_ | apply kA_)); exact BK170.out) hb; replace BK171 := sqB_ (g := gb171) (by (with_reducible repeat (first | apply kN_ | apply kD_ | apply kA_)); exact BK171.out) hb; replace HB := sqS_ (by repeat (first | (with_reducible first | exact HB.out | apply bA_ | apply bN_ | apply bD_ | refine bS_ ?_ GE170.out | refine bS_ ?_ GE171.out) | exact HB.out)) hb; (try clear hb); (try clear hb2); (try clear hk); (try clear hi); obtain ⟨hcz74_0, hcz74_1, hcz74_2, hcz74_3⟩ := cells4_ BK170.out; obtain ⟨hfz74_0, hfz74_1, hfz74_2, hfz74_3⟩ := froz4_ BK170.out) | ((with_reducible refine gate_callee (f := 14) rfl ?_); refine goesL_ (some 61) rfl rfl Tryz.func14 (by kernel_rfl) rfl #[.agg #[.int .i64 a1_0, .int .u64 a1_1, .string a1_2, .int .i64 a1_3]] rfl (by (try simp only [List.map_toArray, List.map_cons, List.map_nil]); first | done | rfl) ?_; (with_reducible refine (value_explicit.calls k a1_0 a1_1 a1_2 a1_3 t194 t195 _ A67.out).mono ?_); rintro e w75 ⟨rfl, hb⟩; refine ⟨_, rfl, ?_⟩; replace BK170 := sqB_ (g := gb170) (by (with_reducible repeat (first | apply kN_ | apply kD_ | apply kA_)); exact BK170.out) hb; replace BK171 := sqB_ (g := gb171) (by (with_reducible repeat (first | apply kN_ | apply kD_ | apply kA_)); exact BK171.out) hb; replace HB := sqS_ (by repeat (first | (with_reducible first | exact HB.out | apply bA_ | apply bN_ | apply bD_ | refine bS_ ?_ GE170.out | refine bS_ ?_ GE171.out) | exact HB.out)) hb; (try clear hb); (try clear hb2); (try clear hk); (try clear hi)) | ((with_reducible refine gate_callee (f := 11) rfl ?_); refine goesL_ (some 64) rfl rfl Tryz.func11 (by kernel_rfl) rfl #[.int .u64 t194, .int .i64 t195] rfl (by (try simp only [List.map_toArray, List.map_cons, List.map_nil]); first | done | rfl) ?_; (with_reducible refine (value_number.calls t194 t195 t196 t197 t198 t199 t200 _ A68.out).mono ?_); rintro e w76 ⟨rfl, hb⟩; refine ⟨_, rfl, ?_⟩; replace BK170 := sqB_ (g := gb170) (by (with_reducible repeat (first | apply kN_ | apply kD_ | apply kA_)); exact BK170.out) hb; replace BK171 := sqB_ (g := gb171) (by (with_reducible repeat (first | apply kN_ | apply kD_ | apply kA_)); exact BK171.out) hb; replace HB := sqS_ (by repeat (first | (with_reducible first | exact HB.out | apply bA_ | apply bN_ | apply bD_ | refine bS_ ?_ GE170.out | refine bS_ ?_ GE171.out) | exact HB.out)) hb; (try clear hb); (try clear hb2); (try clear hk); (try clear hi); obtain ⟨hcz77_0, hcz77_1, hcz77_2, hcz77_3⟩ := cells4_ BK171.out; obtain ⟨hfz77_0, hfz77_1, hfz77_2, hfz77_3⟩ := froz4_ BK171.out))
      refine bodyPost_ret (results_ct rfl _ _ gb171 24 #[.int .i64 t196, .int .u64 t197, .string t198, .int .i64 t199] (0, 0) _ rfl (by (with_reducible repeat (first | apply kN_ | apply kD_ | apply kA_)); refine blk_put (cs := #[.int .i64 t196, .int .u64 t197, .string t198, .int .i64 0]) ?_ 3 _ rfl; (with_reducible repeat (first | apply kN_ | apply kD_ | apply kA_)); refine blk_put (cs := #[.int .i64 t196, .int .u64 t197, .string ⟨#[]⟩, .int .i64 0]) ?_ 2 _ rfl; (with_reducible repeat (first | apply kN_ | apply kD_ | apply kA_)); refine blk_put (cs := #[.int .i64 t196, .int .u64 0, .string ⟨#[]⟩, .int .i64 0]) ?_ 1 _ rfl; (with_reducible repeat (first | apply kN_ | apply kD_ | apply kA_)); refine blk_put (cs := #[.int .i64 0, .int .u64 0, .string ⟨#[]⟩, .int .i64 0]) ?_ 0 _ rfl; (with_reducible repeat (first | apply kN_ | apply kD_ | apply kA_)); exact BK171.out) Tryz.underlying24 rfl (by kernel_rfl)) rfl ?_
      exact ⟨by first | rfl | (simp [errW_none, errW_some] <;> rfl) | (simp [*, errW_none, errW_some] <;> rfl), by repeat (first | (with_reducible first | exact HB.out | apply bA_ | apply bN_ | apply bD_ | refine bS_ ?_ GE170.out | refine bS_ ?_ GE171.out) | exact HB.out)⟩
     ·rw [if_neg c66] at H
      have c66b0 : (a0 == 80) = false := beq_eq_false_iff_ne.mpr c66
      have c66b1 : (a0 != 80) = true := bne_iff_ne.mpr c66
      by_cases c78 : a0 = 81
      ·rw [if_pos c78] at H
       have c78b0 : (a0 == 81) = true := beq_iff_eq.mpr c78
       have c78b1 : (a0 != 81) = false := bne_eq_false_iff_eq.mpr c78
       clear c78
       replace H := Option.bind_eq_some_iff.mp H
       obtain ⟨⟨t201, t202, t203, t204, t205⟩, A790, H⟩ := H
       replace H : (some (t201, t202, t203, t204, t205)) = some (r1, r2, r3, r4, r5) := H
       have A79 := Aside0.mk A790
       clear A790
       simp only [Option.some.injEq, Prod.mk.injEq] at H
       obtain ⟨rfl, rfl, rfl, rfl, rfl⟩ := H
       go_enter Tryz.func4, Tryz.ntmps4
       go_wp2_with (first | ((with_reducible refine gate_dst (N := 3) rfl ?_); refine box_event ?hg (N := 3) ?hd (cs := #[.int .i64 a1_0, .int .u64 a1_1, .string a1_2, .int .i64 a1_3]) (t := 24) ?hr ?_; (case hd => rfl); (case hg => rfl); (case hr => first | (go_simp; done) | (go_simp; rfl)); intro gb170 hg w80 hbox hb; replace HB := sqN_ (by repeat (first | (with_reducible first | exact HB.out | apply bA_ | apply bN_ | apply bD_) | exact HB.out)) hg hb; obtain ⟨HB, GE170⟩ := HB; have BK170 := Aside0.mk hbox; clear hb hbox hg) | ((with_reducible refine gate_dst (N := 4) rfl ?_); refine box_event ?hg (N := 4) ?hd (cs := #[.int .i64 0, .int .u64 0, .string ⟨#[]⟩, .int .i64 0]) (t := 24) ?hr ?_; (case hd => rfl); (case hg => rfl); (case hr => first | (go_simp; done) | (go_simp; rfl)); intro gb171 hg w81 hbox hb; replace BK170 := sqO_ (g := gb170) (by (with_reducible repeat (first | apply kN_ | apply kD_ | apply kA_)); exact BK170.out) hg hb; obtain ⟨BK170, NB170_171, NB171_170⟩ := BK170; replace HB := sqN_ (by repeat (first | (with_reducible first | exact HB.out | apply bA_ | apply bN_ | apply bD_ | refine bS_ ?_ GE170.out) | exact HB.out)) hg hb; obtain ⟨HB, GE171⟩ := HB; have BK171 := Aside0.mk hbox; clear hb hbox hg; have hnb82 := NB170_171.out; have hnc82 := NB171_170.out; obtain ⟨hcz83_0, hcz83_1, hcz83_2, hcz83_3⟩ := cells4_ BK170.out; obtain ⟨hfz83_0, hfz83_1, hfz83_2, hfz83_3⟩ := froz4_ BK170.out) | ((with_reducible refine gate_callee (f := 9) rfl ?_); refine goesL_ (some 11) rfl rfl Tryz.func9 (by kernel_rfl) rfl #[.agg #[.int .i64 a1_0, .int .u64 a1_1, .string a1_2, .int .i64 a1_3]] rfl (by (try simp only [List.map_toArray, List.map_cons, List.map_nil]); first | done | rfl) ?_; (with_reducible refine (value_Valid.calls a1_0 a1_1 a1_2 a1_3 true _ A3.out).mono ?_); rintro e w84 ⟨rfl, hb⟩; refine ⟨_, rfl, ?_⟩; replace BK170 := sqB_ (g := gb170) (by (with_reducible repeat (first | apply kN_ | apply kD_ | apply kA_)); exact BK170.out) hb; replace BK171 := sqB_ (g := gb171) (by (with_reducible repeat (first | apply kN_ | apply kD_ | apply kA_)); exact BK171.out) hb; replace HB := sqS_ (by repeat (first | (with_reducible first | exact HB.out | apply bA_ | apply bN_ | apply bD_ | refine bS_ ?_ GE170.out | refine bS_ ?_ GE171.out) | exact HB.out)) hb; (try clear hb); (try clear hb2); (try clear hk); (try clear hi); obtain ⟨hcz85_0, hcz85_1, hcz85_2, hcz85_3⟩ := cells4_ BK170.out; obtain ⟨hfz85_0, hfz85_1, hfz85_2, hfz85_3⟩ := froz4_ BK170.out) | ((with_reducible refine gate_callee (f := 15) rfl ?_); refine goesL_ (some 70) rfl rfl Tryz.func15 (by kernel_rfl) rfl #[.agg #[.int .i64 a1_0, .int .u64 a1_1, .string a1_2, .int .i64 a1_3], .int .i64 3] rfl (by (try simp only [List.map_toArray, List.map_cons, List.map_nil]); first | done | rfl) ?_; (with_reducible refine (value_Convert.calls k a1_0 a1_1 a1_2 a1_3 3 t201 t202 t203 t204 t205 _ ?hTT_ A79.out).mono ?_); (case hTT_ => exact tbT_below HTT_.out (by repeat (first | (with_reducible first | exact HB.out | apply bA_ | apply bN_ | apply bD_ | refine bS_ ?_ GE170.out | refine bS_ ?_ GE171.out) | exact HB.out))); rintro e w86 ⟨rfl, hb⟩; refine ⟨_, rfl, ?_⟩; replace BK170 := sqB_ (g := gb170) (by (with_reducible repeat (first | apply kN_ | apply kD_ | apply kA_)); exact BK170.out) hb; replace BK171 := sqB_ (g := gb171) (by (with_reducible repeat (first | apply kN_ | apply kD_ | apply kA_)); exact BK171.out) hb; replace HB := sqS_ (by repeat (first | (with_reducible first | exact HB.out | apply bA_ | apply bN_ | apply bD_ | refine bS_ ?_ GE170.out | refine bS_ ?_ GE171.out) | exact HB.out)) hb; (try clear hb); (try clear hb2); (try clear hk); (try clear hi); obtain ⟨hcz87_0, hcz87_1, hcz87_2, hcz87_3⟩ := cells4_ BK171.out; obtain ⟨hfz87_0, hfz87_1, hfz87_2, hfz87_3⟩ := froz4_ BK171.out))
       refine bodyPost_ret (results_ct rfl _ _ gb171 24 #[.int .i64 t201, .int .u64 t202, .string t203, .int .i64 t204] (0, 0) _ rfl (by (with_reducible repeat (first | apply kN_ | apply kD_ | apply kA_)); refine blk_put (cs := #[.int .i64 t201, .int .u64 t202, .string t203, .int .i64 0]) ?_ 3 _ rfl; (with_reducible repeat (first | apply kN_ | apply kD_ | apply kA_)); refine blk_put (cs := #[.int .i64 t201, .int .u64 t202, .string ⟨#[]⟩, .int .i64 0]) ?_ 2 _ rfl; (with_reducible repeat (first | apply kN_ | apply kD_ | apply kA_)); refine blk_put (cs := #[.int .i64 t201, .int .u64 0, .string ⟨#[]⟩, .int .i64 0]) ?_ 1 _ rfl; (with_reducible repeat (first | apply kN_ | apply kD_ | apply kA_)); refine blk_put (cs := #[.int .i64 0, .int .u64 0, .string ⟨#[]⟩, .int .i64 0]) ?_ 0 _ rfl; (with_reducible repeat (first | apply kN_ | apply kD_ | apply kA_)); exact BK171.out) Tryz.underlying24 rfl (by kernel_rfl)) rfl ?_
       exact ⟨by first | rfl | (simp [errW_none, errW_some] <;> rfl) | (simp [*, errW_none, errW_some] <;> rfl), by repeat (first | (with_reducible first | exact HB.out | apply bA_ | apply bN_ | apply bD_ | refine bS_ ?_ GE170.out | refine bS_ ?_ GE171.out) | exact HB.out)⟩
      ·rw [if_neg c78] at H
       have c78b0 : (a0 == 81) = false := beq_eq_false_iff_ne.mpr c78
       have c78b1 : (a0 != 81) = true := bne_iff_ne.mpr c78
       by_cases c88 : a0 = 82
       ·rw [if_pos c88] at H
        have c88b0 : (a0 == 82) = true := beq_iff_eq.mpr c88
        have c88b1 : (a0 != 82) = false := bne_eq_false_iff_eq.mpr c88
        clear c88
        replace H := Option.bind_eq_some_iff.mp H
        obtain ⟨⟨t206, t207, t208, t209, t210⟩, A890, H⟩ := H
        replace H : (some (t206, t207, t208, t209, t210)) = some (r1, r2, r3, r4, r5) := H
        have A89 := Aside0.mk A890
        clear A890
        simp only [Option.some.injEq, Prod.mk.injEq] at H
        obtain ⟨rfl, rfl, rfl, rfl, rfl⟩ := H
        go_enter Tryz.func4, Tryz.ntmps4
        go_wp2_with (first | ((with_reducible refine gate_dst (N := 3) rfl ?_); refine box_event ?hg (N := 3) ?hd (cs := #[.int .i64 a1_0, .int .u64 a1_1, .string a1_2, .int .i64 a1_3]) (t := 24) ?hr ?_; (case hd => rfl); (case hg => rfl); (case hr => first | (go_simp; done) | (go_simp; rfl)); intro gb170 hg w90 hbox hb; replace HB := sqN_ (by repeat (first | (with_reducible first | exact HB.out | apply bA_ | apply bN_ | apply bD_) | exact HB.out)) hg hb; obtain ⟨HB, GE170⟩ := HB; have BK170 := Aside0.mk hbox; clear hb hbox hg) | ((with_reducible refine gate_dst (N := 4) rfl ?_); refine box_event ?hg (N := 4) ?hd (cs := #[.int .i64 0, .int .u64 0, .string ⟨#[]⟩, .int .i64 0]) (t := 24) ?hr ?_; (case hd => rfl); (case hg => rfl); (case hr => first | (go_simp; done) | (go_simp; rfl)); intro gb171 hg w91 hbox hb; replace BK170 := sqO_ (g := gb170) (by (with_reducible repeat (first | apply kN_ | apply kD_ | apply kA_)); exact BK170.out) hg hb; obtain ⟨BK170, NB170_171, NB171_170⟩ := BK170; replace HB := sqN_ (by repeat (first | (with_reducible first | exact HB.out | apply bA_ | apply bN_ | apply bD_ | refine bS_ ?_ GE170.out) | exact HB.out)) hg hb; obtain ⟨HB, GE171⟩ := HB; have BK171 := Aside0.mk hbox; clear hb hbox hg; have hnb92 := NB170_171.out; have hnc92 := NB171_170.out; obtain ⟨hcz93_0, hcz93_1, hcz93_2, hcz93_3⟩ := cells4_ BK170.out; obtain ⟨hfz93_0, hfz93_1, hfz93_2, hfz93_3⟩ := froz4_ BK170.out) | ((with_reducible refine gate_callee (f := 9) rfl ?_); refine goesL_ (some 11) rfl rfl Tryz.func9 (by kernel_rfl) rfl #[.agg #[.int .i64 a1_0, .int .u64 a1_1, .string a1_2, .int .i64 a1_3]] rfl (by (try simp only [List.map_toArray, List.map_cons, List.map_nil]); first | done | rfl) ?_; (with_reducible refine (value_Valid.calls a1_0 a1_1 a1_2 a1_3 true _ A3.out).mono ?_); rintro e w94 ⟨rfl, hb⟩; refine ⟨_, rfl, ?_⟩; replace BK170 := sqB_ (g := gb170) (by (with_reducible repeat (first | apply kN_ | apply kD_ | apply kA_)); exact BK170.out) hb; replace BK171 := sqB_ (g := gb171) (by (with_reducible repeat (first | apply kN_ | apply kD_ | apply kA_)); exact BK171.out) hb; replace HB := sqS_ (by repeat (first | (with_reducible first | exact HB.out | apply bA_ | apply bN_ | apply bD_ | refine bS_ ?_ GE170.out | refine bS_ ?_ GE171.out) | exact HB.out)) hb; (try clear hb); (try clear hb2); (try clear hk); (try clear hi); obtain ⟨hcz95_0, hcz95_1, hcz95_2, hcz95_3⟩ := cells4_ BK170.out; obtain ⟨hfz95_0, hfz95_1, hfz95_2, hfz95_3⟩ := froz4_ BK170.out) | ((with_reducible refine gate_callee (f := 16) rfl ?_); refine goesL_ (some 76) rfl rfl Tryz.func16 (by kernel_rfl) rfl #[.agg #[.int .i64 a1_0, .int .u64 a1_1, .string a1_2, .int .i64 a1_3], .func (.func 17) #[] #[], .func (.func 20) #[] #[]] rfl (by (try simp only [List.map_toArray, List.map_cons, List.map_nil]); first | done | rfl) ?_; (with_reducible refine (value_text.calls a1_0 a1_1 a1_2 a1_3 17 20 t206 t207 t208 t209 t210 _ ?hTT_ A89.out).mono ?_); (case hTT_ => exact tbT_below HTT_.out (by repeat (first | (with_reducible first | exact HB.out | apply bA_ | apply bN_ | apply bD_ | refine bS_ ?_ GE170.out | refine bS_ ?_ GE171.out) | exact HB.out))); rintro e w96 ⟨rfl, hb⟩; refine ⟨_, rfl, ?_⟩; replace BK170 := sqB_ (g := gb170) (by (with_reducible repeat (first | apply kN_ | apply kD_ | apply kA_)); exact BK170.out) hb; replace BK171 := sqB_ (g := gb171) (by (with_reducible repeat (first | apply kN_ | apply kD_ | apply kA_)); exact BK171.out) hb; replace HB := sqS_ (by repeat (first | (with_reducible first | exact HB.out | apply bA_ | apply bN_ | apply bD_ | refine bS_ ?_ GE170.out | refine bS_ ?_ GE171.out) | exact HB.out)) hb; (try clear hb); (try clear hb2); (try clear hk); (try clear hi); obtain ⟨hcz97_0, hcz97_1, hcz97_2, hcz97_3⟩ := cells4_ BK171.out; obtain ⟨hfz97_0, hfz97_1, hfz97_2, hfz97_3⟩ := froz4_ BK171.out))
        refine bodyPost_ret (results_ct rfl _ _ gb171 24 #[.int .i64 t206, .int .u64 t207, .string t208, .int .i64 t209] (0, 0) _ rfl (by (with_reducible repeat (first | apply kN_ | apply kD_ | apply kA_)); refine blk_put (cs := #[.int .i64 t206, .int .u64 t207, .string t208, .int .i64 0]) ?_ 3 _ rfl; (with_reducible repeat (first | apply kN_ | apply kD_ | apply kA_)); refine blk_put (cs := #[.int .i64 t206, .int .u64 t207, .string ⟨#[]⟩, .int .i64 0]) ?_ 2 _ rfl; (with_reducible repeat (first | apply kN_ | apply kD_ | apply kA_)); refine blk_put (cs := #[.int .i64 t206, .int .u64 0, .string ⟨#[]⟩, .int .i64 0]) ?_ 1 _ rfl; (with_reducible repeat (first | apply kN_ | apply kD_ | apply kA_)); refine blk_put (cs := #[.int .i64 0, .int .u64 0, .string ⟨#[]⟩, .int .i64 0]) ?_ 0 _ rfl; (with_reducible repeat (first | apply kN_ | apply kD_ | apply kA_)); exact BK171.out) Tryz.underlying24 rfl (by kernel_rfl)) rfl ?_
        exact ⟨by first | rfl | (simp [errW_none, errW_some] <;> rfl) | (simp [*, errW_none, errW_some] <;> rfl), by repeat (first | (with_reducible first | exact HB.out | apply bA_ | apply bN_ | apply bD_ | refine bS_ ?_ GE170.out | refine bS_ ?_ GE171.out) | exact HB.out)⟩
       ·rw [if_neg c88] at H
        have c88b0 : (a0 == 82) = false := beq_eq_false_iff_ne.mpr c88
        have c88b1 : (a0 != 82) = true := bne_iff_ne.mpr c88
        by_cases c98 : a0 = 83
        ·rw [if_pos c98] at H
         have c98b0 : (a0 == 83) = true := beq_iff_eq.mpr c98
         have c98b1 : (a0 != 83) = false := bne_eq_false_iff_eq.mpr c98
         clear c98
         replace H := Option.bind_eq_some_iff.mp H
         obtain ⟨⟨t211, t212, t213, t214, t215⟩, A990, H⟩ := H
         replace H : (some (t211, t212, t213, t214, t215)) = some (r1, r2, r3, r4, r5) := H
         have A99 := Aside0.mk A990
         clear A990
         simp only [Option.some.injEq, Prod.mk.injEq] at H
         obtain ⟨rfl, rfl, rfl, rfl, rfl⟩ := H
         go_enter Tryz.func4, Tryz.ntmps4
         go_wp2_with (first | ((with_reducible refine gate_dst (N := 3) rfl ?_); refine box_event ?hg (N := 3) ?hd (cs := #[.int .i64 a1_0, .int .u64 a1_1, .string a1_2, .int .i64 a1_3]) (t := 24) ?hr ?_; (case hd => rfl); (case hg => rfl); (case hr => first | (go_simp; done) | (go_simp; rfl)); intro gb170 hg w100 hbox hb; replace HB := sqN_ (by repeat (first | (with_reducible first | exact HB.out | apply bA_ | apply bN_ | apply bD_) | exact HB.out)) hg hb; obtain ⟨HB, GE170⟩ := HB; have BK170 := Aside0.mk hbox; clear hb hbox hg) | ((with_reducible refine gate_dst (N := 4) rfl ?_); refine box_event ?hg (N := 4) ?hd (cs := #[.int .i64 0, .int .u64 0, .string ⟨#[]⟩, .int .i64 0]) (t := 24) ?hr ?_; (case hd => rfl); (case hg => rfl); (case hr => first | (go_simp; done) | (go_simp; rfl)); intro gb171 hg w101 hbox hb; replace BK170 := sqO_ (g := gb170) (by (with_reducible repeat (first | apply kN_ | apply kD_ | apply kA_)); exact BK170.out) hg hb; obtain ⟨BK170, NB170_171, NB171_170⟩ := BK170; replace HB := sqN_ (by repeat (first | (with_reducible first | exact HB.out | apply bA_ | apply bN_ | apply bD_ | refine bS_ ?_ GE170.out) | exact HB.out)) hg hb; obtain ⟨HB, GE171⟩ := HB; have BK171 := Aside0.mk hbox; clear hb hbox hg; have hnb102 := NB170_171.out; have hnc102 := NB171_170.out; obtain ⟨hcz103_0, hcz103_1, hcz103_2, hcz103_3⟩ := cells4_ BK170.out; obtain ⟨hfz103_0, hfz103_1, hfz103_2, hfz103_3⟩ := froz4_ BK170.out) | ((with_reducible refine gate_callee (f := 9) rfl ?_); refine goesL_ (some 11) rfl rfl Tryz.func9 (by kernel_rfl) rfl #[.agg #[.int .i64 a1_0, .int .u64 a1_1, .string a1_2, .int .i64 a1_3]] rfl (by (try simp only [List.map_toArray, List.map_cons, List.map_nil]); first | done | rfl) ?_; (with_reducible refine (value_Valid.calls a1_0 a1_1 a1_2 a1_3 true _ A3.out).mono ?_); rintro e w104 ⟨rfl, hb⟩; refine ⟨_, rfl, ?_⟩; replace BK170 := sqB_ (g := gb170) (by (with_reducible repeat (first | apply kN_ | apply kD_ | apply kA_)); exact BK170.out) hb; replace BK171 := sqB_ (g := gb171) (by (with_reducible repeat (first | apply kN_ | apply kD_ | apply kA_)); exact BK171.out) hb; replace HB := sqS_ (by repeat (first | (with_reducible first | exact HB.out | apply bA_ | apply bN_ | apply bD_ | refine bS_ ?_ GE170.out | refine bS_ ?_ GE171.out) | exact HB.out)) hb; (try clear hb); (try clear hb2); (try clear hk); (try clear hi); obtain ⟨hcz105_0, hcz105_1, hcz105_2, hcz105_3⟩ := cells4_ BK170.out; obtain ⟨hfz105_0, hfz105_1, hfz105_2, hfz105_3⟩ := froz4_ BK170.out) | ((with_reducible refine gate_callee (f := 16) rfl ?_); refine goesL_ (some 82) rfl rfl Tryz.func16 (by kernel_rfl) rfl #[.agg #[.int .i64 a1_0, .int .u64 a1_1, .string a1_2, .int .i64 a1_3], .func (.func 22) #[] #[], .func (.func 23) #[] #[]] rfl (by (try simp only [List.map_toArray, List.map_cons, List.map_nil]); first | done | rfl) ?_; (with_reducible refine (value_text.calls a1_0 a1_1 a1_2 a1_3 22 23 t211 t212 t213 t214 t215 _ ?hTT_ A99.out).mono ?_); (case hTT_ => exact tbT_below HTT_.out (by repeat (first | (with_reducible first | exact HB.out | apply bA_ | apply bN_ | apply bD_ | refine bS_ ?_ GE170.out | refine bS_ ?_ GE171.out) | exact HB.out))); rintro e w106 ⟨rfl, hb⟩; refine ⟨_, rfl, ?_⟩; replace BK170 := sqB_ (g := gb170) (by (with_reducible repeat (first | apply kN_ | apply kD_ | apply kA_)); exact BK170.out) hb; replace BK171 := sqB_ (g := gb171) (by (with_reducible repeat (first | apply kN_ | apply kD_ | apply kA_)); exact BK171.out) hb; replace HB := sqS_ (by repeat (first | (with_reducible first | exact HB.out | apply bA_ | apply bN_ | apply bD_ | refine bS_ ?_ GE170.out | refine bS_ ?_ GE171.out) | exact HB.out)) hb; (try clear hb); (try clear hb2); (try clear hk); (try clear hi); obtain ⟨hcz107_0, hcz107_1, hcz107_2, hcz107_3⟩ := cells4_ BK171.out; obtain ⟨hfz107_0, hfz107_1, hfz107_2, hfz107_3⟩ := froz4_ BK171.out))
         refine bodyPost_ret (results_ct rfl _ _ gb171 24 #[.int .i64 t211, .int .u64 t212, .string t213, .int .i64 t214] (0, 0) _ rfl (by (with_reducible repeat (first | apply kN_ | apply kD_ | apply kA_)); refine blk_put (cs := #[.int .i64 t211, .int .u64 t212, .string t213, .int .i64 0]) ?_ 3 _ rfl; (with_reducible repeat (first | apply kN_ | apply kD_ | apply kA_)); refine blk_put (cs := #[.int .i64 t211, .int .u64 t212, .string ⟨#[]⟩, .int .i64 0]) ?_ 2 _ rfl; (with_reducible repeat (first | apply kN_ | apply kD_ | apply kA_)); refine blk_put (cs := #[.int .i64 t211, .int .u64 0, .string ⟨#[]⟩, .int .i64 0]) ?_ 1 _ rfl; (with_reducible repeat (first | apply kN_ | apply kD_ | apply kA_)); refine blk_put (cs := #[.int .i64 0, .int .u64 0, .string ⟨#[]⟩, .int .i64 0]) ?_ 0 _ rfl; (with_reducible repeat (first | apply kN_ | apply kD_ | apply kA_)); exact BK171.out) Tryz.underlying24 rfl (by kernel_rfl)) rfl ?_
         exact ⟨by first | rfl | (simp [errW_none, errW_some] <;> rfl) | (simp [*, errW_none, errW_some] <;> rfl), by repeat (first | (with_reducible first | exact HB.out | apply bA_ | apply bN_ | apply bD_ | refine bS_ ?_ GE170.out | refine bS_ ?_ GE171.out) | exact HB.out)⟩
        ·rw [if_neg c98] at H
         have c98b0 : (a0 == 83) = false := beq_eq_false_iff_ne.mpr c98
         have c98b1 : (a0 != 83) = true := bne_iff_ne.mpr c98
         simp only [Option.some.injEq, Prod.mk.injEq] at H
         obtain ⟨rfl, rfl, rfl, rfl, rfl⟩ := H
         go_enter Tryz.func4, Tryz.ntmps4
         go_wp2_with (first | ((with_reducible refine gate_dst (N := 3) rfl ?_); refine box_event ?hg (N := 3) ?hd (cs := #[.int .i64 a1_0, .int .u64 a1_1, .string a1_2, .int .i64 a1_3]) (t := 24) ?hr ?_; (case hd => rfl); (case hg => rfl); (case hr => first | (go_simp; done) | (go_simp; rfl)); intro gb170 hg w108 hbox hb; replace HB := sqN_ (by repeat (first | (with_reducible first | exact HB.out | apply bA_ | apply bN_ | apply bD_) | exact HB.out)) hg hb; obtain ⟨HB, GE170⟩ := HB; have BK170 := Aside0.mk hbox; clear hb hbox hg) | ((with_reducible refine gate_dst (N := 4) rfl ?_); refine box_event ?hg (N := 4) ?hd (cs := #[.int .i64 0, .int .u64 0, .string ⟨#[]⟩, .int .i64 0]) (t := 24) ?hr ?_; (case hd => rfl); (case hg => rfl); (case hr => first | (go_simp; done) | (go_simp; rfl)); intro gb171 hg w109 hbox hb; replace BK170 := sqO_ (g := gb170) (by (with_reducible repeat (first | apply kN_ | apply kD_ | apply kA_)); exact BK170.out) hg hb; obtain ⟨BK170, NB170_171, NB171_170⟩ := BK170; replace HB := sqN_ (by repeat (first | (with_reducible first | exact HB.out | apply bA_ | apply bN_ | apply bD_ | refine bS_ ?_ GE170.out) | exact HB.out)) hg hb; obtain ⟨HB, GE171⟩ := HB; have BK171 := Aside0.mk hbox; clear hb hbox hg; have hnb110 := NB170_171.out; have hnc110 := NB171_170.out; obtain ⟨hcz111_0, hcz111_1, hcz111_2, hcz111_3⟩ := cells4_ BK170.out; obtain ⟨hfz111_0, hfz111_1, hfz111_2, hfz111_3⟩ := froz4_ BK170.out) | ((with_reducible refine gate_callee (f := 9) rfl ?_); refine goesL_ (some 11) rfl rfl Tryz.func9 (by kernel_rfl) rfl #[.agg #[.int .i64 a1_0, .int .u64 a1_1, .string a1_2, .int .i64 a1_3]] rfl (by (try simp only [List.map_toArray, List.map_cons, List.map_nil]); first | done | rfl) ?_; (with_reducible refine (value_Valid.calls a1_0 a1_1 a1_2 a1_3 true _ A3.out).mono ?_); rintro e w112 ⟨rfl, hb⟩; refine ⟨_, rfl, ?_⟩; replace BK170 := sqB_ (g := gb170) (by (with_reducible repeat (first | apply kN_ | apply kD_ | apply kA_)); exact BK170.out) hb; replace BK171 := sqB_ (g := gb171) (by (with_reducible repeat (first | apply kN_ | apply kD_ | apply kA_)); exact BK171.out) hb; replace HB := sqS_ (by repeat (first | (with_reducible first | exact HB.out | apply bA_ | apply bN_ | apply bD_ | refine bS_ ?_ GE170.out | refine bS_ ?_ GE171.out) | exact HB.out)) hb; (try clear hb); (try clear hb2); (try clear hk); (try clear hi); obtain ⟨hcz113_0, hcz113_1, hcz113_2, hcz113_3⟩ := cells4_ BK171.out; obtain ⟨hfz113_0, hfz113_1, hfz113_2, hfz113_3⟩ := froz4_ BK171.out))
         refine bodyPost_ret (results_ct rfl _ _ gb171 24 #[.int .i64 0, .int .u64 0, .string ⟨#[]⟩, .int .i64 0] (0, 0) _ rfl (by (with_reducible repeat (first | apply kN_ | apply kD_ | apply kA_)); refine blk_put (cs := #[.int .i64 0, .int .u64 0, .string ⟨#[]⟩, .int .i64 0]) ?_ 3 _ rfl; (with_reducible repeat (first | apply kN_ | apply kD_ | apply kA_)); refine blk_put (cs := #[.int .i64 0, .int .u64 0, .string ⟨#[]⟩, .int .i64 0]) ?_ 2 _ rfl; (with_reducible repeat (first | apply kN_ | apply kD_ | apply kA_)); refine blk_put (cs := #[.int .i64 0, .int .u64 0, .string ⟨#[]⟩, .int .i64 0]) ?_ 1 _ rfl; (with_reducible repeat (first | apply kN_ | apply kD_ | apply kA_)); refine blk_put (cs := #[.int .i64 0, .int .u64 0, .string ⟨#[]⟩, .int .i64 0]) ?_ 0 _ rfl; (with_reducible repeat (first | apply kN_ | apply kD_ | apply kA_)); exact BK171.out) Tryz.underlying24 rfl (by kernel_rfl)) rfl ?_
         exact ⟨by first | rfl | (simp [errW_none, errW_some] <;> rfl) | (simp [*, errW_none, errW_some] <;> rfl), by repeat (first | (with_reducible first | exact HB.out | apply bA_ | apply bN_ | apply bD_ | refine bS_ ?_ GE170.out | refine bS_ ?_ GE171.out) | exact HB.out)⟩
 ·replace c4 := Bool.eq_false_iff.mpr c4
  subst c4
  have H1 : (some (0, 0, (⟨#[]⟩ : ByteArray), 0, 1)) = some (r1, r2, r3, r4, r5) := by rw [if_neg (show ¬ (false = true) by decide)] at H; exact H
  clear H
  have H := H1
  clear H1
  simp only [Option.some.injEq, Prod.mk.injEq] at H
  obtain ⟨rfl, rfl, rfl, rfl, rfl⟩ := H
  go_enter Tryz.func4, Tryz.ntmps4
  go_wp2_with (first | ((with_reducible refine gate_dst (N := 3) rfl ?_); refine box_event ?hg (N := 3) ?hd (cs := #[.int .i64 a1_0, .int .u64 a1_1, .string a1_2, .int .i64 a1_3]) (t := 24) ?hr ?_; (case hd => rfl); (case hg => rfl); (case hr => first | (go_simp; done) | (go_simp; rfl)); intro gb170 hg w114 hbox hb; replace HB := sqN_ (by repeat (first | (with_reducible first | exact HB.out | apply bA_ | apply bN_ | apply bD_) | exact HB.out)) hg hb; obtain ⟨HB, GE170⟩ := HB; have BK170 := Aside0.mk hbox; clear hb hbox hg) | ((with_reducible refine gate_dst (N := 4) rfl ?_); refine box_event ?hg (N := 4) ?hd (cs := #[.int .i64 0, .int .u64 0, .string ⟨#[]⟩, .int .i64 0]) (t := 24) ?hr ?_; (case hd => rfl); (case hg => rfl); (case hr => first | (go_simp; done) | (go_simp; rfl)); intro gb171 hg w115 hbox hb; replace BK170 := sqO_ (g := gb170) (by (with_reducible repeat (first | apply kN_ | apply kD_ | apply kA_)); exact BK170.out) hg hb; obtain ⟨BK170, NB170_171, NB171_170⟩ := BK170; replace HB := sqN_ (by repeat (first | (with_reducible first | exact HB.out | apply bA_ | apply bN_ | apply bD_ | refine bS_ ?_ GE170.out) | exact HB.out)) hg hb; obtain ⟨HB, GE171⟩ := HB; have BK171 := Aside0.mk hbox; clear hb hbox hg; have hnb116 := NB170_171.out; have hnc116 := NB171_170.out; obtain ⟨hcz117_0, hcz117_1, hcz117_2, hcz117_3⟩ := cells4_ BK170.out; obtain ⟨hfz117_0, hfz117_1, hfz117_2, hfz117_3⟩ := froz4_ BK170.out) | ((with_reducible refine gate_callee (f := 9) rfl ?_); refine goesL_ (some 11) rfl rfl Tryz.func9 (by kernel_rfl) rfl #[.agg #[.int .i64 a1_0, .int .u64 a1_1, .string a1_2, .int .i64 a1_3]] rfl (by (try simp only [List.map_toArray, List.map_cons, List.map_nil]); first | done | rfl) ?_; (with_reducible refine (value_Valid.calls a1_0 a1_1 a1_2 a1_3 false _ A3.out).mono ?_); rintro e w118 ⟨rfl, hb⟩; refine ⟨_, rfl, ?_⟩; replace BK170 := sqB_ (g := gb170) (by (with_reducible repeat (first | apply kN_ | apply kD_ | apply kA_)); exact BK170.out) hb; replace BK171 := sqB_ (g := gb171) (by (with_reducible repeat (first | apply kN_ | apply kD_ | apply kA_)); exact BK171.out) hb; replace HB := sqS_ (by repeat (first | (with_reducible first | exact HB.out | apply bA_ | apply bN_ | apply bD_ | refine bS_ ?_ GE170.out | refine bS_ ?_ GE171.out) | exact HB.out)) hb; (try clear hb); (try clear hb2); (try clear hk); (try clear hi); obtain ⟨hcz119_0, hcz119_1, hcz119_2, hcz119_3⟩ := cells4_ BK171.out; obtain ⟨hfz119_0, hfz119_1, hfz119_2, hfz119_3⟩ := froz4_ BK171.out))
  refine bodyPost_ret (results_ct rfl _ _ gb171 24 #[.int .i64 0, .int .u64 0, .string ⟨#[]⟩, .int .i64 0] (0, 0) _ rfl (by (with_reducible repeat (first | apply kN_ | apply kD_ | apply kA_)); refine blk_put (cs := #[.int .i64 0, .int .u64 0, .string ⟨#[]⟩, .int .i64 0]) ?_ 3 _ rfl; (with_reducible repeat (first | apply kN_ | apply kD_ | apply kA_)); refine blk_put (cs := #[.int .i64 0, .int .u64 0, .string ⟨#[]⟩, .int .i64 0]) ?_ 2 _ rfl; (with_reducible repeat (first | apply kN_ | apply kD_ | apply kA_)); refine blk_put (cs := #[.int .i64 0, .int .u64 0, .string ⟨#[]⟩, .int .i64 0]) ?_ 1 _ rfl; (with_reducible repeat (first | apply kN_ | apply kD_ | apply kA_)); refine blk_put (cs := #[.int .i64 0, .int .u64 0, .string ⟨#[]⟩, .int .i64 0]) ?_ 0 _ rfl; (with_reducible repeat (first | apply kN_ | apply kD_ | apply kA_)); exact BK171.out) Tryz.underlying24 rfl (by kernel_rfl)) rfl ?_
  exact ⟨by first | rfl | (simp [errW_none, errW_some] <;> rfl) | (simp [*, errW_none, errW_some] <;> rfl), by repeat (first | (with_reducible first | exact HB.out | apply bA_ | apply bN_ | apply bD_ | refine bS_ ?_ GE170.out | refine bS_ ?_ GE171.out) | exact HB.out)⟩

/-! ### platformfwref08_Valid: function 25 -/
def platformfwref08_Valid.f (a0_0 : Int) (a0_1 : Int) (a0_2 : ByteArray) (a0_3 : Int) : Option (Bool) := if a0_0 ≥ 0 then (if a0_0 ≤ 6 then (if a0_0 = 2 then (some (decide ((a0_2.size : Int) ≤ 255))) else (if a0_0 = 3 then (some (decide ((a0_2.size : Int) ≤ 255))) else (some true))) else (some false)) else (some false)
set_option maxHeartbeats 8000000 in
set_option maxRecDepth 100000 in
theorem platformfwref08_Valid.calls (a0_0 : Int) (a0_1 : Int) (a0_2 : ByteArray) (a0_3 : Int) (r : Bool) (w : World) (h : platformfwref08_Valid.f a0_0 a0_1 a0_2 a0_3 = some r) :
  Calls Tryz.prog 25 #[.agg #[.int .i64 a0_0, .int .u64 a0_1, .string a0_2, .int .i64 a0_3]] w fun e w' => e = .returned (.bool r) ∧ Below w.heap.size w w' := by
 have hu24 := Tryz.underlying24
 have HB := Aside0.mk (Below.refl w.heap.size w)
 have H : (if a0_0 ≥ 0 then (if a0_0 ≤ 6 then (if a0_0 = 2 then (some (decide ((a0_2.size : Int) ≤ 255))) else (if a0_0 = 3 then (some (decide ((a0_2.size : Int) ≤ 255))) else (some true))) else (some false)) else (some false)) = some r := h
 clear h
 by_cases c2 : a0_0 ≥ 0
 ·rw [if_pos c2] at H
  have c2b0 : decide (0 ≤ a0_0) = true := decide_eq_true c2
  clear c2
  by_cases c3 : a0_0 ≤ 6
  ·rw [if_pos c3] at H
   have c3b0 : decide (a0_0 ≤ 6) = true := decide_eq_true c3
   clear c3
   by_cases c4 : a0_0 = 2
   ·rw [if_pos c4] at H
    have c4b0 : (a0_0 == 2) = true := beq_iff_eq.mpr c4
    have c4b1 : (a0_0 != 2) = false := bne_eq_false_iff_eq.mpr c4
    clear c4
    obtain rfl := Option.some.inj H
    go_enter Tryz.func25, Tryz.ntmps25
    go_wp2_with (first | ((with_reducible refine gate_dst (N := 1) rfl ?_); (try (refine gate_guard (by rfl) ?_; dsimp only)); refine box_event ?hg (N := 1) ?hd (cs := #[.int .i64 a0_0, .int .u64 a0_1, .string a0_2, .int .i64 a0_3]) (t := 24) ?hr ?_; (case hd => rfl); (case hg => rfl); (case hr => first | (go_simp; done) | (go_simp; rfl)); intro gb216 hg w5 hbox hb; replace HB := sqN_ (by repeat (first | (with_reducible first | exact HB.out | apply bA_ | apply bN_ | apply bD_) | exact HB.out)) hg hb; obtain ⟨HB, GE216⟩ := HB; have BK216 := Aside0.mk hbox; clear hb hbox hg; obtain ⟨hcz6_0, hcz6_1, hcz6_2, hcz6_3⟩ := cells4_ BK216.out; obtain ⟨hfz6_0, hfz6_1, hfz6_2, hfz6_3⟩ := froz4_ BK216.out))
    go_ret
    exact ⟨by first | rfl | (simp [errW_none, errW_some] <;> rfl) | (simp [*, errW_none, errW_some] <;> rfl), by repeat (first | (with_reducible first | exact HB.out | apply bA_ | apply bN_ | apply bD_ | refine bS_ ?_ GE216.out) | exact HB.out)⟩
   ·rw [if_neg c4] at H
    have c4b0 : (a0_0 == 2) = false := beq_eq_false_iff_ne.mpr c4
    have c4b1 : (a0_0 != 2) = true := bne_iff_ne.mpr c4
    by_cases c7 : a0_0 = 3
    ·rw [if_pos c7] at H
     have c7b0 : (a0_0 == 3) = true := beq_iff_eq.mpr c7
     have c7b1 : (a0_0 != 3) = false := bne_eq_false_iff_eq.mpr c7
     clear c7
     obtain rfl := Option.some.inj H
     go_enter Tryz.func25, Tryz.ntmps25
     go_wp2_with (first | ((with_reducible refine gate_dst (N := 1) rfl ?_); (try (refine gate_guard (by rfl) ?_; dsimp only)); refine box_event ?hg (N := 1) ?hd (cs := #[.int .i64 a0_0, .int .u64 a0_1, .string a0_2, .int .i64 a0_3]) (t := 24) ?hr ?_; (case hd => rfl); (case hg => rfl); (case hr => first | (go_simp; done) | (go_simp; rfl)); intro gb216 hg w8 hbox hb; replace HB := sqN_ (by repeat (first | (with_reducible first | exact HB.out | apply bA_ | apply bN_ | apply bD_) | exact HB.out)) hg hb; obtain ⟨HB, GE216⟩ := HB; have BK216 := Aside0.mk hbox; clear hb hbox hg; obtain ⟨hcz9_0, hcz9_1, hcz9_2, hcz9_3⟩ := cells4_ BK216.out; obtain ⟨hfz9_0, hfz9_1, hfz9_2, hfz9_3⟩ := froz4_ BK216.out))
     go_ret
     exact ⟨by first | rfl | (simp [errW_none, errW_some] <;> rfl) | (simp [*, errW_none, errW_some] <;> rfl), by repeat (first | (with_reducible first | exact HB.out | apply bA_ | apply bN_ | apply bD_ | refine bS_ ?_ GE216.out) | exact HB.out)⟩
    ·rw [if_neg c7] at H
     have c7b0 : (a0_0 == 3) = false := beq_eq_false_iff_ne.mpr c7
     have c7b1 : (a0_0 != 3) = true := bne_iff_ne.mpr c7
     obtain rfl := Option.some.inj H
     go_enter Tryz.func25, Tryz.ntmps25
     go_wp2_with (first | ((with_reducible refine gate_dst (N := 1) rfl ?_); (try (refine gate_guard (by rfl) ?_; dsimp only)); refine box_event ?hg (N := 1) ?hd (cs := #[.int .i64 a0_0, .int .u64 a0_1, .string a0_2, .int .i64 a0_3]) (t := 24) ?hr ?_; (case hd => rfl); (case hg => rfl); (case hr => first | (go_simp; done) | (go_simp; rfl)); intro gb216 hg w10 hbox hb; replace HB := sqN_ (by repeat (first | (with_reducible first | exact HB.out | apply bA_ | apply bN_ | apply bD_) | exact HB.out)) hg hb; obtain ⟨HB, GE216⟩ := HB; have BK216 := Aside0.mk hbox; clear hb hbox hg; obtain ⟨hcz11_0, hcz11_1, hcz11_2, hcz11_3⟩ := cells4_ BK216.out; obtain ⟨hfz11_0, hfz11_1, hfz11_2, hfz11_3⟩ := froz4_ BK216.out))
     go_ret
     exact ⟨by first | rfl | (simp [errW_none, errW_some] <;> rfl) | (simp [*, errW_none, errW_some] <;> rfl), by repeat (first | (with_reducible first | exact HB.out | apply bA_ | apply bN_ | apply bD_ | refine bS_ ?_ GE216.out) | exact HB.out)⟩
  ·rw [if_neg c3] at H
   have c3b0 : decide (a0_0 ≤ 6) = false := decide_eq_false c3
   clear c3
   obtain rfl := Option.some.inj H
   go_enter Tryz.func25, Tryz.ntmps25
   go_wp2_with (first | ((with_reducible refine gate_dst (N := 1) rfl ?_); (try (refine gate_guard (by rfl) ?_; dsimp only)); refine box_event ?hg (N := 1) ?hd (cs := #[.int .i64 a0_0, .int .u64 a0_1, .string a0_2, .int .i64 a0_3]) (t := 24) ?hr ?_; (case hd => rfl); (case hg => rfl); (case hr => first | (go_simp; done) | (go_simp; rfl)); intro gb216 hg w12 hbox hb; replace HB := sqN_ (by repeat (first | (with_reducible first | exact HB.out | apply bA_ | apply bN_ | apply bD_) | exact HB.out)) hg hb; obtain ⟨HB, GE216⟩ := HB; have BK216 := Aside0.mk hbox; clear hb hbox hg; obtain ⟨hcz13_0, hcz13_1, hcz13_2, hcz13_3⟩ := cells4_ BK216.out; obtain ⟨hfz13_0, hfz13_1, hfz13_2, hfz13_3⟩ := froz4_ BK216.out))
   go_ret
   exact ⟨by first | rfl | (simp [errW_none, errW_some] <;> rfl) | (simp [*, errW_none, errW_some] <;> rfl), by repeat (first | (with_reducible first | exact HB.out | apply bA_ | apply bN_ | apply bD_ | refine bS_ ?_ GE216.out) | exact HB.out)⟩
 ·rw [if_neg c2] at H
  have c2b0 : decide (0 ≤ a0_0) = false := decide_eq_false c2
  clear c2
  obtain rfl := Option.some.inj H
  go_enter Tryz.func25, Tryz.ntmps25
  go_wp2_with (first | ((with_reducible refine gate_dst (N := 1) rfl ?_); (try (refine gate_guard (by rfl) ?_; dsimp only)); refine box_event ?hg (N := 1) ?hd (cs := #[.int .i64 a0_0, .int .u64 a0_1, .string a0_2, .int .i64 a0_3]) (t := 24) ?hr ?_; (case hd => rfl); (case hg => rfl); (case hr => first | (go_simp; done) | (go_simp; rfl)); intro gb216 hg w14 hbox hb; replace HB := sqN_ (by repeat (first | (with_reducible first | exact HB.out | apply bA_ | apply bN_ | apply bD_) | exact HB.out)) hg hb; obtain ⟨HB, GE216⟩ := HB; have BK216 := Aside0.mk hbox; clear hb hbox hg; obtain ⟨hcz15_0, hcz15_1, hcz15_2, hcz15_3⟩ := cells4_ BK216.out; obtain ⟨hfz15_0, hfz15_1, hfz15_2, hfz15_3⟩ := froz4_ BK216.out))
  go_ret
  exact ⟨by first | rfl | (simp [errW_none, errW_some] <;> rfl) | (simp [*, errW_none, errW_some] <;> rfl), by repeat (first | (with_reducible first | exact HB.out | apply bA_ | apply bN_ | apply bD_ | refine bS_ ?_ GE216.out) | exact HB.out)⟩

/-! ### platformfwref08_hex: function 50 -/
mutual
def platformfwref08_hex.j0 : Nat → Int → Bool → Option (Int)
 | 0, _, _ => none
 | k + 1, x0, x3 => if x3 = true then (some ((x0 - 48) % 256)) else (if x0 ≥ 97 then (platformfwref08_hex.j1 k x0 (decide (x0 ≤ 102))) else (platformfwref08_hex.j1 k x0 false))
def platformfwref08_hex.j1 : Nat → Int → Bool → Option (Int)
 | 0, _, _ => none
 | k + 1, x0, x13 => if x13 = true then (some (((x0 - 97) % 256) + 10)) else (if x0 ≥ 65 then (if x0 ≤ 70 then (some (((x0 - 65) % 256) + 10)) else (some (-1))) else (some (-1)))
end
def platformfwref08_hex.f (k : Nat) (a0 : Int) : Option (Int) := if a0 ≥ 48 then (platformfwref08_hex.j0 k a0 (decide (a0 ≤ 57))) else (platformfwref08_hex.j0 k a0 false)
theorem platformfwref08_hex.mono_l : ∀ k, (∀ y0 y1, LeO (platformfwref08_hex.j0 k y0 y1) (platformfwref08_hex.j0 (k + 1) y0 y1)) ∧ (∀ y0 y1, LeO (platformfwref08_hex.j1 k y0 y1) (platformfwref08_hex.j1 (k + 1) y0 y1))
 | 0 => ⟨fun _ _ r h => by simp [platformfwref08_hex.j0] at h, fun _ _ r h => by simp [platformfwref08_hex.j1] at h⟩
 | k + 1 => by
  obtain ⟨ih0, ih1⟩ := platformfwref08_hex.mono_l k
  refine ⟨?_, ?_⟩
  ·intro y0 y1
   unfold platformfwref08_hex.j0
   repeat' first
   | (with_reducible exact ih0 _ _)
   | (with_reducible exact ih1 _ _)
   | (with_reducible exact LeO.refl _)
   | (with_reducible exact LeO.none _)
   | (with_reducible refine LeO.ite ?_ ?_)
   | (with_reducible refine LeO.bind ?_ (fun _ => ?_))
   | exact ih0 _ _
   | exact ih1 _ _
   | exact LeO.none _
   | refine LeO.ite ?_ ?_
   | refine LeO.bind ?_ (fun _ => ?_)
  ·intro y0 y1
   unfold platformfwref08_hex.j1
   repeat' first
   | (with_reducible exact ih0 _ _)
   | (with_reducible exact ih1 _ _)
   | (with_reducible exact LeO.refl _)
   | (with_reducible exact LeO.none _)
   | (with_reducible refine LeO.ite ?_ ?_)
   | (with_reducible refine LeO.bind ?_ (fun _ => ?_))
   | exact ih0 _ _
   | exact ih1 _ _
   | exact LeO.none _
   | refine LeO.ite ?_ ?_
   | refine LeO.bind ?_ (fun _ => ?_)
theorem platformfwref08_hex.mono : ∀ a0 k, LeO (platformfwref08_hex.f k a0) (platformfwref08_hex.f (k + 1) a0) := by
 intro a0 k
 obtain ⟨ih0, ih1⟩ := platformfwref08_hex.mono_l k
 unfold platformfwref08_hex.f
 repeat' first
   | (with_reducible exact ih0 _ _)
   | (with_reducible exact ih1 _ _)
   | (with_reducible exact LeO.refl _)
   | (with_reducible exact LeO.none _)
   | (with_reducible refine LeO.ite ?_ ?_)
   | (with_reducible refine LeO.bind ?_ (fun _ => ?_))
   | exact ih0 _ _
   | exact ih1 _ _
   | exact LeO.none _
   | refine LeO.ite ?_ ?_
   | refine LeO.bind ?_ (fun _ => ?_)
set_option maxHeartbeats 8000000 in
set_option maxRecDepth 100000 in
theorem platformfwref08_hex.calls (k : Nat) (a0 : Int) (r : Int) (w : World) (h : platformfwref08_hex.f k a0 = some r) :
  Calls Tryz.prog 50 #[.int .u8 a0] w fun e w' => e = .returned (.int .i64 r) ∧ Drawn0 w w' := by
 have H : (if a0 ≥ 48 then (platformfwref08_hex.j0 k a0 (decide (a0 ≤ 57))) else (platformfwref08_hex.j0 k a0 false)) = some r := h
 clear h
 have HC2 := Aside0.mk H
 clear H
 go_enter Tryz.func50, Tryz.ntmps50
 go_upto_region 1 with (fail)
 go_cut [3] (fun v3 wc => ∃ (kq : Nat) (x3_1 : Bool), v3 = .bool x3_1 ∧ Aside0 (platformfwref08_hex.j0 kq a0 x3_1 = some r) ∧ Aside0 (kq ≤ k) ∧ Drawn0 w wc)
 case first =>
  have H := HC2.out
  clear HC2
  by_cases c3 : a0 ≥ 48
  ·rw [if_pos c3] at H
   have c3b0 : decide (48 ≤ a0) = true := decide_eq_true c3
   clear c3
   (first | rw [c3b0] | (simp only [i64_w, i32_w]; rw [c3b0]) | skip)
   have H' := Aside0.mk H
   clear H
   go_wp2
   go_meet
   case rel => exact ⟨_, (decide (a0 ≤ 57)), (by first | rfl | (simp; done) | (simp [*]; done)), H', ⟨by first | omega | exact Nat.le_refl _⟩, by repeat (first | exact Drawn0.refl _ | apply Drawn0.step)⟩
  ·rw [if_neg c3] at H
   have c3b0 : decide (48 ≤ a0) = false := decide_eq_false c3
   clear c3
   (first | rw [c3b0] | (simp only [i64_w, i32_w]; rw [c3b0]) | skip)
   have H' := Aside0.mk H
   clear H
   go_wp2
   go_meet
   case rel => exact ⟨_, (false), (by first | rfl | (simp; done) | (simp [*]; done)), H', ⟨by first | omega | exact Nat.le_refl _⟩, by repeat (first | exact Drawn0.refl _ | apply Drawn0.step)⟩
 case rest =>
  clear HC2
  try clear p2
  try clear c3
  try clear c3b0
  obtain ⟨kq, x3_1, rfl, HA, HJ1, ⟨mc1, rfl⟩⟩ := hcut
  cases kq with
  | zero => exact absurd HA.out (by simp [platformfwref08_hex.j0])
  | succ kj1 =>
   have H := HA.out
   clear HA
   simp only [platformfwref08_hex.j0] at H
   by_cases c4 : x3_1 = true
   ·subst c4
    have H1 : (some ((a0 - 48) % 256)) = some r := by rw [if_pos rfl] at H; exact H
    clear H
    have H := H1
    clear H1
    obtain rfl := Option.some.inj H
    go_wp2
    go_ret
    exact ⟨by first | rfl | (simp; done) | (simp [*]; done), by repeat (first | exact Drawn0.refl _ | apply Drawn0.step)⟩
   ·replace c4 := Bool.eq_false_iff.mpr c4
    subst c4
    have H1 : (if a0 ≥ 97 then (platformfwref08_hex.j1 kj1 a0 (decide (a0 ≤ 102))) else (platformfwref08_hex.j1 kj1 a0 false)) = some r := by rw [if_neg (show ¬ (false = true) by decide)] at H; exact H
    clear H
    have H := H1
    clear H1
    have HC5 := Aside0.mk H
    clear H
    go_upto_region 3 with (fail)
    go_cut [13] (fun v13 wc => ∃ (kq : Nat) (x13_4 : Bool), v13 = .bool x13_4 ∧ Aside0 (platformfwref08_hex.j1 kq a0 x13_4 = some r) ∧ Aside0 (kq ≤ kj1) ∧ Drawn0 w wc)
    case first =>
     have H := HC5.out
     clear HC5
     by_cases c6 : a0 ≥ 97
     ·rw [if_pos c6] at H
      have c6b0 : decide (97 ≤ a0) = true := decide_eq_true c6
      clear c6
      (first | rw [c6b0] | (simp only [i64_w, i32_w]; rw [c6b0]) | skip)
      have H' := Aside0.mk H
      clear H
      go_wp2
      go_meet
      case rel => exact ⟨_, (decide (a0 ≤ 102)), (by first | rfl | (simp; done) | (simp [*]; done)), H', ⟨by have := HJ1.out; first | omega | exact Nat.le_refl _⟩, by repeat (first | exact Drawn0.refl _ | apply Drawn0.step)⟩
     ·rw [if_neg c6] at H
      have c6b0 : decide (97 ≤ a0) = false := decide_eq_false c6
      clear c6
      (first | rw [c6b0] | (simp only [i64_w, i32_w]; rw [c6b0]) | skip)
      have H' := Aside0.mk H
      clear H
      go_wp2
      go_meet
      case rel => exact ⟨_, (false), (by first | rfl | (simp; done) | (simp [*]; done)), H', ⟨by have := HJ1.out; first | omega | exact Nat.le_refl _⟩, by repeat (first | exact Drawn0.refl _ | apply Drawn0.step)⟩
    case rest =>
     clear HC5
     try clear c1
     try clear p2
     try clear c3
     try clear c3b0
     try clear c4
     try clear c5
     try clear c6
     try clear c6b0
     try clear p2
     obtain ⟨kq, x13_4, rfl, HA, HJ4, ⟨mc4, rfl⟩⟩ := hcut
     cases kq with
     | zero => exact absurd HA.out (by simp [platformfwref08_hex.j1])
     | succ kj4 =>
      have H := HA.out
      clear HA
      simp only [platformfwref08_hex.j1] at H
      by_cases c7 : x13_4 = true
      ·subst c7
       have H1 : (some (((a0 - 97) % 256) + 10)) = some r := by rw [if_pos rfl] at H; exact H
       clear H
       have H := H1
       clear H1
       obtain rfl := Option.some.inj H
       go_wp2
       go_ret
       exact ⟨by first | rfl | (simp; done) | (simp [*]; done), by repeat (first | exact Drawn0.refl _ | apply Drawn0.step)⟩
      ·replace c7 := Bool.eq_false_iff.mpr c7
       subst c7
       have H1 : (if a0 ≥ 65 then (if a0 ≤ 70 then (some (((a0 - 65) % 256) + 10)) else (some (-1))) else (some (-1))) = some r := by rw [if_neg (show ¬ (false = true) by decide)] at H; exact H
       clear H
       have H := H1
       clear H1
       by_cases c8 : a0 ≥ 65
       ·rw [if_pos c8] at H
        have c8b0 : decide (65 ≤ a0) = true := decide_eq_true c8
        clear c8
        by_cases c9 : a0 ≤ 70
        ·rw [if_pos c9] at H
         have c9b0 : decide (a0 ≤ 70) = true := decide_eq_true c9
         clear c9
         obtain rfl := Option.some.inj H
         go_wp2
         go_ret
         exact ⟨by first | rfl | (simp; done) | (simp [*]; done), by repeat (first | exact Drawn0.refl _ | apply Drawn0.step)⟩
        ·rw [if_neg c9] at H
         have c9b0 : decide (a0 ≤ 70) = false := decide_eq_false c9
         clear c9
         obtain rfl := Option.some.inj H
         go_wp2
         go_ret
         exact ⟨by first | rfl | (simp; done) | (simp [*]; done), by repeat (first | exact Drawn0.refl _ | apply Drawn0.step)⟩
       ·rw [if_neg c8] at H
        have c8b0 : decide (65 ≤ a0) = false := decide_eq_false c8
        clear c8
        obtain rfl := Option.some.inj H
        go_wp2
        go_ret
        exact ⟨by first | rfl | (simp; done) | (simp [*]; done), by repeat (first | exact Drawn0.refl _ | apply Drawn0.step)⟩

end Go.Proofs.YtdmeglmmihaonaaGreatDoor.PValueUnary
