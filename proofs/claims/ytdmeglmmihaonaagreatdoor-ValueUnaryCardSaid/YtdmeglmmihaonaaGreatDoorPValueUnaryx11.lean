-- Written by a program of this session's (wip/print_patch.py over the kit's print) out of the translation; Lean checks it.
import Derived.Test.YtdmeglmmihaonaaGreatDoorPValueUnaryx0
import Derived.Test.YtdmeglmmihaonaaGreatDoorPValueUnaryx2
import Derived.Test.YtdmeglmmihaonaaGreatDoorPValueUnaryx10
import Derived.Test.YtdmeglmmihaonaaGreatDoorVValueUnaryExtS
namespace Go.Proofs.YtdmeglmmihaonaaGreatDoor.PValueUnary
open Go.RowKit Go.Proofs.YtdmeglmmihaonaaGreatDoor.Ext Go.Proofs.YtdmeglmmihaonaaGreatDoorW.PrintWords Go.Proofs.YtdmeglmmihaonaaGreatDoorW.PrintLast Go.Proofs.YtdmeglmmihaonaaGreatDoorW.PrintMore
attribute [local go_sem] max2_int min2_int max_two min_two max_three min_three max_four min_four   -- for this text's walks alone
set_option linter.unusedVariables false
set_option linter.unusedSimpArgs false

/-! ### value_arithmetic: function 58 -/
def value_arithmetic.f (a0 : Int) (a1 : Int) (a2 : Int) : Option (Int × Int × ByteArray × Int × Int) := if a0 = 60 then ((value_integer.f (IntKind.u64.wrap (a1 + a2))).bind fun bt413 => (some (bt413.1, bt413.2.1, bt413.2.2.1, bt413.2.2.2, 0))) else (if a0 = 61 then ((value_integer.f (IntKind.u64.wrap (a1 - a2))).bind fun bt417 => (some (bt417.1, bt417.2.1, bt417.2.2.1, bt417.2.2.2, 0))) else (if a0 = 62 then ((value_integer.f (IntKind.u64.wrap (a1 * a2))).bind fun bt421 => (some (bt421.1, bt421.2.1, bt421.2.2.1, bt421.2.2.2, 0))) else (if a0 = 65 then ((value_integer.f (Go.bits .and .u64 a1 a2)).bind fun bt425 => (some (bt425.1, bt425.2.1, bt425.2.2.1, bt425.2.2.2, 0))) else (if a0 = 66 then ((value_integer.f (Go.bits .or .u64 a1 a2)).bind fun bt429 => (some (bt429.1, bt429.2.1, bt429.2.2.1, bt429.2.2.2, 0))) else (if a0 = 67 then ((value_integer.f (Go.bits .xor .u64 a1 a2)).bind fun bt433 => (some (bt433.1, bt433.2.1, bt433.2.2.1, bt433.2.2.2, 0))) else (if a0 = 70 then (if a1 = 0 then ((value_boolean.f false).bind fun bt437 => (some (bt437.1, bt437.2.1, bt437.2.2.1, bt437.2.2.2, 0))) else ((value_boolean.f (a2 != 0)).bind fun bt441 => (some (bt441.1, bt441.2.1, bt441.2.2.1, bt441.2.2.2, 0)))) else (if a0 = 71 then (if a1 = 0 then ((value_boolean.f (a2 != 0)).bind fun bt445 => (some (bt445.1, bt445.2.1, bt445.2.2.1, bt445.2.2.2, 0))) else ((value_boolean.f true).bind fun bt449 => (some (bt449.1, bt449.2.1, bt449.2.2.1, bt449.2.2.2, 0)))) else ((value_divide.f a0 a1 a2).bind fun bt453 => (some (bt453.1, bt453.2.1, bt453.2.2.1, bt453.2.2.2.1, bt453.2.2.2.2))))))))))
set_option maxHeartbeats 8000000 in
set_option maxRecDepth 100000 in
theorem value_arithmetic.calls (a0 : Int) (a1 : Int) (a2 : Int) (r1 : Int) (r2 : Int) (r3 : ByteArray) (r4 : Int) (r5 : Int) (w : World) (h : value_arithmetic.f a0 a1 a2 = some (r1, r2, r3, r4, r5)) :
  Calls Tryz.prog 58 #[.int .i64 a0, .int .u64 a1, .int .u64 a2] w fun e w' => e = .returned (.tuple #[.agg #[.int .i64 r1, .int .u64 r2, .string r3, .int .i64 r4], .int .i64 r5]) ∧ Below w.heap.size w w' := by
 have hu24 := Tryz.underlying24
 have HB := Aside0.mk (Below.refl w.heap.size w)
 have H : (if a0 = 60 then ((value_integer.f (IntKind.u64.wrap (a1 + a2))).bind fun bt413 => (some (bt413.1, bt413.2.1, bt413.2.2.1, bt413.2.2.2, 0))) else (if a0 = 61 then ((value_integer.f (IntKind.u64.wrap (a1 - a2))).bind fun bt417 => (some (bt417.1, bt417.2.1, bt417.2.2.1, bt417.2.2.2, 0))) else (if a0 = 62 then ((value_integer.f (IntKind.u64.wrap (a1 * a2))).bind fun bt421 => (some (bt421.1, bt421.2.1, bt421.2.2.1, bt421.2.2.2, 0))) else (if a0 = 65 then ((value_integer.f (Go.bits .and .u64 a1 a2)).bind fun bt425 => (some (bt425.1, bt425.2.1, bt425.2.2.1, bt425.2.2.2, 0))) else (if a0 = 66 then ((value_integer.f (Go.bits .or .u64 a1 a2)).bind fun bt429 => (some (bt429.1, bt429.2.1, bt429.2.2.1, bt429.2.2.2, 0))) else (if a0 = 67 then ((value_integer.f (Go.bits .xor .u64 a1 a2)).bind fun bt433 => (some (bt433.1, bt433.2.1, bt433.2.2.1, bt433.2.2.2, 0))) else (if a0 = 70 then (if a1 = 0 then ((value_boolean.f false).bind fun bt437 => (some (bt437.1, bt437.2.1, bt437.2.2.1, bt437.2.2.2, 0))) else ((value_boolean.f (a2 != 0)).bind fun bt441 => (some (bt441.1, bt441.2.1, bt441.2.2.1, bt441.2.2.2, 0)))) else (if a0 = 71 then (if a1 = 0 then ((value_boolean.f (a2 != 0)).bind fun bt445 => (some (bt445.1, bt445.2.1, bt445.2.2.1, bt445.2.2.2, 0))) else ((value_boolean.f true).bind fun bt449 => (some (bt449.1, bt449.2.1, bt449.2.2.1, bt449.2.2.2, 0)))) else ((value_divide.f a0 a1 a2).bind fun bt453 => (some (bt453.1, bt453.2.1, bt453.2.2.1, bt453.2.2.2.1, bt453.2.2.2.2))))))))))) = some (r1, r2, r3, r4, r5) := h
 clear h
 by_cases c4 : a0 = 60
 ·rw [if_pos c4] at H
  have c4b0 : (a0 == 60) = true := beq_iff_eq.mpr c4
  have c4b1 : (a0 != 60) = false := bne_eq_false_iff_eq.mpr c4
  clear c4
  replace H := Option.bind_eq_some_iff.mp H
  obtain ⟨⟨t413, t414, t415, t416⟩, A50, H⟩ := H
  replace H : (some (t413, t414, t415, t416, 0)) = some (r1, r2, r3, r4, r5) := H
  have A5 := Aside0.mk A50
  clear A50
  simp only [Option.some.injEq, Prod.mk.injEq] at H
  obtain ⟨rfl, rfl, rfl, rfl, rfl⟩ := H
  go_enter Tryz.func58, Tryz.ntmps58
  go_wp2_with (first | ((with_reducible refine gate_dst (N := 6) rfl ?_); refine box_event ?hg (N := 6) ?hd (cs := #[.int .i64 0, .int .u64 0, .string ⟨#[]⟩, .int .i64 0]) (t := 24) ?hr ?_; (case hd => rfl); (case hg => rfl); (case hr => first | (go_simp; done) | (go_simp; rfl)); intro gb412 hg w6 hbox hb; replace HB := sqN_ (by repeat (first | (with_reducible first | exact HB.out | apply bA_ | apply bN_ | apply bD_) | exact HB.out)) hg hb; obtain ⟨HB, GE412⟩ := HB; have BK412 := Aside0.mk hbox; clear hb hbox hg) | ((with_reducible refine gate_callee (f := 13) rfl ?_); refine goesL_ (some 14) rfl rfl Tryz.func13 (by kernel_rfl) rfl #[.int .u64 (IntKind.u64.wrap (a1 + a2))] rfl (by (try simp only [List.map_toArray, List.map_cons, List.map_nil]); first | done | rfl) ?_; (with_reducible refine (value_integer.calls (IntKind.u64.wrap (a1 + a2)) t413 t414 t415 t416 _ A5.out).mono ?_); rintro e w7 ⟨rfl, hb⟩; refine ⟨_, rfl, ?_⟩; replace BK412 := sqB_ (g := gb412) (by (with_reducible repeat (first | apply kN_ | apply kD_ | apply kA_)); exact BK412.out) hb; replace HB := sqS_ (by repeat (first | (with_reducible first | exact HB.out | apply bA_ | apply bN_ | apply bD_ | refine bS_ ?_ GE412.out) | exact HB.out)) hb; (try clear hb); (try clear hb2); (try clear hk); (try clear hi); obtain ⟨hcz8_0, hcz8_1, hcz8_2, hcz8_3⟩ := cells4_ BK412.out; obtain ⟨hfz8_0, hfz8_1, hfz8_2, hfz8_3⟩ := froz4_ BK412.out))
  refine bodyPost_ret (results_ct rfl _ _ gb412 24 #[.int .i64 t413, .int .u64 t414, .string t415, .int .i64 t416] (0, 0) _ rfl (by (with_reducible repeat (first | apply kN_ | apply kD_ | apply kA_)); refine blk_put (cs := #[.int .i64 t413, .int .u64 t414, .string t415, .int .i64 0]) ?_ 3 _ rfl; (with_reducible repeat (first | apply kN_ | apply kD_ | apply kA_)); refine blk_put (cs := #[.int .i64 t413, .int .u64 t414, .string ⟨#[]⟩, .int .i64 0]) ?_ 2 _ rfl; (with_reducible repeat (first | apply kN_ | apply kD_ | apply kA_)); refine blk_put (cs := #[.int .i64 t413, .int .u64 0, .string ⟨#[]⟩, .int .i64 0]) ?_ 1 _ rfl; (with_reducible repeat (first | apply kN_ | apply kD_ | apply kA_)); refine blk_put (cs := #[.int .i64 0, .int .u64 0, .string ⟨#[]⟩, .int .i64 0]) ?_ 0 _ rfl; (with_reducible repeat (first | apply kN_ | apply kD_ | apply kA_)); exact BK412.out) Tryz.underlying24 rfl (by kernel_rfl)) rfl ?_
  exact ⟨by first | rfl | (simp [errW_none, errW_some] <;> rfl) | (simp [*, errW_none, errW_some] <;> rfl), by repeat (first | (with_reducible first | exact HB.out | apply bA_ | apply bN_ | apply bD_ | refine bS_ ?_ GE412.out) | exact HB.out)⟩
 ·rw [if_neg c4] at H
  have c4b0 : (a0 == 60) = false := beq_eq_false_iff_ne.mpr c4
  have c4b1 : (a0 != 60) = true := bne_iff_ne.mpr c4
  by_cases c9 : a0 = 61
  ·rw [if_pos c9] at H
   have c9b0 : (a0 == 61) = true := beq_iff_eq.mpr c9
   have c9b1 : (a0 != 61) = false := bne_eq_false_iff_eq.mpr c9
   clear c9
   replace H := Option.bind_eq_some_iff.mp H
   obtain ⟨⟨t417, t418, t419, t420⟩, A100, H⟩ := H
   replace H : (some (t417, t418, t419, t420, 0)) = some (r1, r2, r3, r4, r5) := H
   have A10 := Aside0.mk A100
   clear A100
   simp only [Option.some.injEq, Prod.mk.injEq] at H
   obtain ⟨rfl, rfl, rfl, rfl, rfl⟩ := H
   go_enter Tryz.func58, Tryz.ntmps58
   go_wp2_with (first | ((with_reducible refine gate_dst (N := 6) rfl ?_); refine box_event ?hg (N := 6) ?hd (cs := #[.int .i64 0, .int .u64 0, .string ⟨#[]⟩, .int .i64 0]) (t := 24) ?hr ?_; (case hd => rfl); (case hg => rfl); (case hr => first | (go_simp; done) | (go_simp; rfl)); intro gb412 hg w11 hbox hb; replace HB := sqN_ (by repeat (first | (with_reducible first | exact HB.out | apply bA_ | apply bN_ | apply bD_) | exact HB.out)) hg hb; obtain ⟨HB, GE412⟩ := HB; have BK412 := Aside0.mk hbox; clear hb hbox hg) | ((with_reducible refine gate_callee (f := 13) rfl ?_); refine goesL_ (some 20) rfl rfl Tryz.func13 (by kernel_rfl) rfl #[.int .u64 (IntKind.u64.wrap (a1 - a2))] rfl (by (try simp only [List.map_toArray, List.map_cons, List.map_nil]); first | done | rfl) ?_; (with_reducible refine (value_integer.calls (IntKind.u64.wrap (a1 - a2)) t417 t418 t419 t420 _ A10.out).mono ?_); rintro e w12 ⟨rfl, hb⟩; refine ⟨_, rfl, ?_⟩; replace BK412 := sqB_ (g := gb412) (by (with_reducible repeat (first | apply kN_ | apply kD_ | apply kA_)); exact BK412.out) hb; replace HB := sqS_ (by repeat (first | (with_reducible first | exact HB.out | apply bA_ | apply bN_ | apply bD_ | refine bS_ ?_ GE412.out) | exact HB.out)) hb; (try clear hb); (try clear hb2); (try clear hk); (try clear hi); obtain ⟨hcz13_0, hcz13_1, hcz13_2, hcz13_3⟩ := cells4_ BK412.out; obtain ⟨hfz13_0, hfz13_1, hfz13_2, hfz13_3⟩ := froz4_ BK412.out))
   refine bodyPost_ret (results_ct rfl _ _ gb412 24 #[.int .i64 t417, .int .u64 t418, .string t419, .int .i64 t420] (0, 0) _ rfl (by (with_reducible repeat (first | apply kN_ | apply kD_ | apply kA_)); refine blk_put (cs := #[.int .i64 t417, .int .u64 t418, .string t419, .int .i64 0]) ?_ 3 _ rfl; (with_reducible repeat (first | apply kN_ | apply kD_ | apply kA_)); refine blk_put (cs := #[.int .i64 t417, .int .u64 t418, .string ⟨#[]⟩, .int .i64 0]) ?_ 2 _ rfl; (with_reducible repeat (first | apply kN_ | apply kD_ | apply kA_)); refine blk_put (cs := #[.int .i64 t417, .int .u64 0, .string ⟨#[]⟩, .int .i64 0]) ?_ 1 _ rfl; (with_reducible repeat (first | apply kN_ | apply kD_ | apply kA_)); refine blk_put (cs := #[.int .i64 0, .int .u64 0, .string ⟨#[]⟩, .int .i64 0]) ?_ 0 _ rfl; (with_reducible repeat (first | apply kN_ | apply kD_ | apply kA_)); exact BK412.out) Tryz.underlying24 rfl (by kernel_rfl)) rfl ?_
   exact ⟨by first | rfl | (simp [errW_none, errW_some] <;> rfl) | (simp [*, errW_none, errW_some] <;> rfl), by repeat (first | (with_reducible first | exact HB.out | apply bA_ | apply bN_ | apply bD_ | refine bS_ ?_ GE412.out) | exact HB.out)⟩
  ·rw [if_neg c9] at H
   have c9b0 : (a0 == 61) = false := beq_eq_false_iff_ne.mpr c9
   have c9b1 : (a0 != 61) = true := bne_iff_ne.mpr c9
   by_cases c14 : a0 = 62
   ·rw [if_pos c14] at H
    have c14b0 : (a0 == 62) = true := beq_iff_eq.mpr c14
    have c14b1 : (a0 != 62) = false := bne_eq_false_iff_eq.mpr c14
    clear c14
    replace H := Option.bind_eq_some_iff.mp H
    obtain ⟨⟨t421, t422, t423, t424⟩, A150, H⟩ := H
    replace H : (some (t421, t422, t423, t424, 0)) = some (r1, r2, r3, r4, r5) := H
    have A15 := Aside0.mk A150
    clear A150
    simp only [Option.some.injEq, Prod.mk.injEq] at H
    obtain ⟨rfl, rfl, rfl, rfl, rfl⟩ := H
    go_enter Tryz.func58, Tryz.ntmps58
    go_wp2_with (first | ((with_reducible refine gate_dst (N := 6) rfl ?_); refine box_event ?hg (N := 6) ?hd (cs := #[.int .i64 0, .int .u64 0, .string ⟨#[]⟩, .int .i64 0]) (t := 24) ?hr ?_; (case hd => rfl); (case hg => rfl); (case hr => first | (go_simp; done) | (go_simp; rfl)); intro gb412 hg w16 hbox hb; replace HB := sqN_ (by repeat (first | (with_reducible first | exact HB.out | apply bA_ | apply bN_ | apply bD_) | exact HB.out)) hg hb; obtain ⟨HB, GE412⟩ := HB; have BK412 := Aside0.mk hbox; clear hb hbox hg) | ((with_reducible refine gate_callee (f := 13) rfl ?_); refine goesL_ (some 26) rfl rfl Tryz.func13 (by kernel_rfl) rfl #[.int .u64 (IntKind.u64.wrap (a1 * a2))] rfl (by (try simp only [List.map_toArray, List.map_cons, List.map_nil]); first | done | rfl) ?_; (with_reducible refine (value_integer.calls (IntKind.u64.wrap (a1 * a2)) t421 t422 t423 t424 _ A15.out).mono ?_); rintro e w17 ⟨rfl, hb⟩; refine ⟨_, rfl, ?_⟩; replace BK412 := sqB_ (g := gb412) (by (with_reducible repeat (first | apply kN_ | apply kD_ | apply kA_)); exact BK412.out) hb; replace HB := sqS_ (by repeat (first | (with_reducible first | exact HB.out | apply bA_ | apply bN_ | apply bD_ | refine bS_ ?_ GE412.out) | exact HB.out)) hb; (try clear hb); (try clear hb2); (try clear hk); (try clear hi); obtain ⟨hcz18_0, hcz18_1, hcz18_2, hcz18_3⟩ := cells4_ BK412.out; obtain ⟨hfz18_0, hfz18_1, hfz18_2, hfz18_3⟩ := froz4_ BK412.out))
    refine bodyPost_ret (results_ct rfl _ _ gb412 24 #[.int .i64 t421, .int .u64 t422, .string t423, .int .i64 t424] (0, 0) _ rfl (by (with_reducible repeat (first | apply kN_ | apply kD_ | apply kA_)); refine blk_put (cs := #[.int .i64 t421, .int .u64 t422, .string t423, .int .i64 0]) ?_ 3 _ rfl; (with_reducible repeat (first | apply kN_ | apply kD_ | apply kA_)); refine blk_put (cs := #[.int .i64 t421, .int .u64 t422, .string ⟨#[]⟩, .int .i64 0]) ?_ 2 _ rfl; (with_reducible repeat (first | apply kN_ | apply kD_ | apply kA_)); refine blk_put (cs := #[.int .i64 t421, .int .u64 0, .string ⟨#[]⟩, .int .i64 0]) ?_ 1 _ rfl; (with_reducible repeat (first | apply kN_ | apply kD_ | apply kA_)); refine blk_put (cs := #[.int .i64 0, .int .u64 0, .string ⟨#[]⟩, .int .i64 0]) ?_ 0 _ rfl; (with_reducible repeat (first | apply kN_ | apply kD_ | apply kA_)); exact BK412.out) Tryz.underlying24 rfl (by kernel_rfl)) rfl ?_
    exact ⟨by first | rfl | (simp [errW_none, errW_some] <;> rfl) | (simp [*, errW_none, errW_some] <;> rfl), by repeat (first | (with_reducible first | exact HB.out | apply bA_ | apply bN_ | apply bD_ | refine bS_ ?_ GE412.out) | exact HB.out)⟩
   ·rw [if_neg c14] at H
    have c14b0 : (a0 == 62) = false := beq_eq_false_iff_ne.mpr c14
    have c14b1 : (a0 != 62) = true := bne_iff_ne.mpr c14
    by_cases c19 : a0 = 65
    ·rw [if_pos c19] at H
     have c19b0 : (a0 == 65) = true := beq_iff_eq.mpr c19
     have c19b1 : (a0 != 65) = false := bne_eq_false_iff_eq.mpr c19
     clear c19
     replace H := Option.bind_eq_some_iff.mp H
     obtain ⟨⟨t425, t426, t427, t428⟩, A200, H⟩ := H
     replace H : (some (t425, t426, t427, t428, 0)) = some (r1, r2, r3, r4, r5) := H
     have A20 := Aside0.mk A200
     clear A200
     simp only [Option.some.injEq, Prod.mk.injEq] at H
     obtain ⟨rfl, rfl, rfl, rfl, rfl⟩ := H
     go_enter Tryz.func58, Tryz.ntmps58
     go_wp2_with (first | ((with_reducible refine gate_dst (N := 6) rfl ?_); refine box_event ?hg (N := 6) ?hd (cs := #[.int .i64 0, .int .u64 0, .string ⟨#[]⟩, .int .i64 0]) (t := 24) ?hr ?_; (case hd => rfl); (case hg => rfl); (case hr => first | (go_simp; done) | (go_simp; rfl)); intro gb412 hg w21 hbox hb; replace HB := sqN_ (by repeat (first | (with_reducible first | exact HB.out | apply bA_ | apply bN_ | apply bD_) | exact HB.out)) hg hb; obtain ⟨HB, GE412⟩ := HB; have BK412 := Aside0.mk hbox; clear hb hbox hg) | ((with_reducible refine gate_callee (f := 13) rfl ?_); refine goesL_ (some 32) rfl rfl Tryz.func13 (by kernel_rfl) rfl #[.int .u64 (Go.bits .and .u64 a1 a2)] rfl (by (try simp only [List.map_toArray, List.map_cons, List.map_nil]); first | done | rfl) ?_; (with_reducible refine (value_integer.calls (Go.bits .and .u64 a1 a2) t425 t426 t427 t428 _ A20.out).mono ?_); rintro e w22 ⟨rfl, hb⟩; refine ⟨_, rfl, ?_⟩; replace BK412 := sqB_ (g := gb412) (by (with_reducible repeat (first | apply kN_ | apply kD_ | apply kA_)); exact BK412.out) hb; replace HB := sqS_ (by repeat (first | (with_reducible first | exact HB.out | apply bA_ | apply bN_ | apply bD_ | refine bS_ ?_ GE412.out) | exact HB.out)) hb; (try clear hb); (try clear hb2); (try clear hk); (try clear hi); obtain ⟨hcz23_0, hcz23_1, hcz23_2, hcz23_3⟩ := cells4_ BK412.out; obtain ⟨hfz23_0, hfz23_1, hfz23_2, hfz23_3⟩ := froz4_ BK412.out))
     refine bodyPost_ret (results_ct rfl _ _ gb412 24 #[.int .i64 t425, .int .u64 t426, .string t427, .int .i64 t428] (0, 0) _ rfl (by (with_reducible repeat (first | apply kN_ | apply kD_ | apply kA_)); refine blk_put (cs := #[.int .i64 t425, .int .u64 t426, .string t427, .int .i64 0]) ?_ 3 _ rfl; (with_reducible repeat (first | apply kN_ | apply kD_ | apply kA_)); refine blk_put (cs := #[.int .i64 t425, .int .u64 t426, .string ⟨#[]⟩, .int .i64 0]) ?_ 2 _ rfl; (with_reducible repeat (first | apply kN_ | apply kD_ | apply kA_)); refine blk_put (cs := #[.int .i64 t425, .int .u64 0, .string ⟨#[]⟩, .int .i64 0]) ?_ 1 _ rfl; (with_reducible repeat (first | apply kN_ | apply kD_ | apply kA_)); refine blk_put (cs := #[.int .i64 0, .int .u64 0, .string ⟨#[]⟩, .int .i64 0]) ?_ 0 _ rfl; (with_reducible repeat (first | apply kN_ | apply kD_ | apply kA_)); exact BK412.out) Tryz.underlying24 rfl (by kernel_rfl)) rfl ?_
     exact ⟨by first | rfl | (simp [errW_none, errW_some] <;> rfl) | (simp [*, errW_none, errW_some] <;> rfl), by repeat (first | (with_reducible first | exact HB.out | apply bA_ | apply bN_ | apply bD_ | refine bS_ ?_ GE412.out) | exact HB.out)⟩
    ·rw [if_neg c19] at H
     have c19b0 : (a0 == 65) = false := beq_eq_false_iff_ne.mpr c19
     have c19b1 : (a0 != 65) = true := bne_iff_ne.mpr c19
     by_cases c24 : a0 = 66
     ·rw [if_pos c24] at H
      have c24b0 : (a0 == 66) = true := beq_iff_eq.mpr c24
      have c24b1 : (a0 != 66) = false := bne_eq_false_iff_eq.mpr c24
      clear c24
      replace H := Option.bind_eq_some_iff.mp H
      obtain ⟨⟨t429, t430, t431, t432⟩, A250, H⟩ := H
      replace H : (some (t429, t430, t431, t432, 0)) = some (r1, r2, r3, r4, r5) := H
      have A25 := Aside0.mk A250
      clear A250
      simp only [Option.some.injEq, Prod.mk.injEq] at H
      obtain ⟨rfl, rfl, rfl, rfl, rfl⟩ := H
      go_enter Tryz.func58, Tryz.ntmps58
      go_wp2_with (first | ((with_reducible refine gate_dst (N := 6) rfl ?_); refine box_event ?hg (N := 6) ?hd (cs := #[.int .i64 0, .int .u64 0, .string ⟨#[]⟩, .int .i64 0]) (t := 24) ?hr ?_; (case hd => rfl); (case hg => rfl); (case hr => first | (go_simp; done) | (go_simp; rfl)); intro gb412 hg w26 hbox hb; replace HB := sqN_ (by repeat (first | (with_reducible first | exact HB.out | apply bA_ | apply bN_ | apply bD_) | exact HB.out)) hg hb; obtain ⟨HB, GE412⟩ := HB; have BK412 := Aside0.mk hbox; clear hb hbox hg) | ((with_reducible refine gate_callee (f := 13) rfl ?_); refine goesL_ (some 38) rfl rfl Tryz.func13 (by kernel_rfl) rfl #[.int .u64 (Go.bits .or .u64 a1 a2)] rfl (by (try simp only [List.map_toArray, List.map_cons, List.map_nil]); first | done | rfl) ?_; (with_reducible refine (value_integer.calls (Go.bits .or .u64 a1 a2) t429 t430 t431 t432 _ A25.out).mono ?_); rintro e w27 ⟨rfl, hb⟩; refine ⟨_, rfl, ?_⟩; replace BK412 := sqB_ (g := gb412) (by (with_reducible repeat (first | apply kN_ | apply kD_ | apply kA_)); exact BK412.out) hb; replace HB := sqS_ (by repeat (first | (with_reducible first | exact HB.out | apply bA_ | apply bN_ | apply bD_ | refine bS_ ?_ GE412.out) | exact HB.out)) hb; (try clear hb); (try clear hb2); (try clear hk); (try clear hi); obtain ⟨hcz28_0, hcz28_1, hcz28_2, hcz28_3⟩ := cells4_ BK412.out; obtain ⟨hfz28_0, hfz28_1, hfz28_2, hfz28_3⟩ := froz4_ BK412.out))
      refine bodyPost_ret (results_ct rfl _ _ gb412 24 #[.int .i64 t429, .int .u64 t430, .string t431, .int .i64 t432] (0, 0) _ rfl (by (with_reducible repeat (first | apply kN_ | apply kD_ | apply kA_)); refine blk_put (cs := #[.int .i64 t429, .int .u64 t430, .string t431, .int .i64 0]) ?_ 3 _ rfl; (with_reducible repeat (first | apply kN_ | apply kD_ | apply kA_)); refine blk_put (cs := #[.int .i64 t429, .int .u64 t430, .string ⟨#[]⟩, .int .i64 0]) ?_ 2 _ rfl; (with_reducible repeat (first | apply kN_ | apply kD_ | apply kA_)); refine blk_put (cs := #[.int .i64 t429, .int .u64 0, .string ⟨#[]⟩, .int .i64 0]) ?_ 1 _ rfl; (with_reducible repeat (first | apply kN_ | apply kD_ | apply kA_)); refine blk_put (cs := #[.int .i64 0, .int .u64 0, .string ⟨#[]⟩, .int .i64 0]) ?_ 0 _ rfl; (with_reducible repeat (first | apply kN_ | apply kD_ | apply kA_)); exact BK412.out) Tryz.underlying24 rfl (by kernel_rfl)) rfl ?_
      exact ⟨by first | rfl | (simp [errW_none, errW_some] <;> rfl) | (simp [*, errW_none, errW_some] <;> rfl), by repeat (first | (with_reducible first | exact HB.out | apply bA_ | apply bN_ | apply bD_ | refine bS_ ?_ GE412.out) | exact HB.out)⟩
     ·rw [if_neg c24] at H
      have c24b0 : (a0 == 66) = false := beq_eq_false_iff_ne.mpr c24
      have c24b1 : (a0 != 66) = true := bne_iff_ne.mpr c24
      by_cases c29 : a0 = 67
      ·rw [if_pos c29] at H
       have c29b0 : (a0 == 67) = true := beq_iff_eq.mpr c29
       have c29b1 : (a0 != 67) = false := bne_eq_false_iff_eq.mpr c29
       clear c29
       replace H := Option.bind_eq_some_iff.mp H
       obtain ⟨⟨t433, t434, t435, t436⟩, A300, H⟩ := H
       replace H : (some (t433, t434, t435, t436, 0)) = some (r1, r2, r3, r4, r5) := H
       have A30 := Aside0.mk A300
       clear A300
       simp only [Option.some.injEq, Prod.mk.injEq] at H
       obtain ⟨rfl, rfl, rfl, rfl, rfl⟩ := H
       go_enter Tryz.func58, Tryz.ntmps58
       go_wp2_with (first | ((with_reducible refine gate_dst (N := 6) rfl ?_); refine box_event ?hg (N := 6) ?hd (cs := #[.int .i64 0, .int .u64 0, .string ⟨#[]⟩, .int .i64 0]) (t := 24) ?hr ?_; (case hd => rfl); (case hg => rfl); (case hr => first | (go_simp; done) | (go_simp; rfl)); intro gb412 hg w31 hbox hb; replace HB := sqN_ (by repeat (first | (with_reducible first | exact HB.out | apply bA_ | apply bN_ | apply bD_) | exact HB.out)) hg hb; obtain ⟨HB, GE412⟩ := HB; have BK412 := Aside0.mk hbox; clear hb hbox hg) | ((with_reducible refine gate_callee (f := 13) rfl ?_); refine goesL_ (some 44) rfl rfl Tryz.func13 (by kernel_rfl) rfl #[.int .u64 (Go.bits .xor .u64 a1 a2)] rfl (by (try simp only [List.map_toArray, List.map_cons, List.map_nil]); first | done | rfl) ?_; (with_reducible refine (value_integer.calls (Go.bits .xor .u64 a1 a2) t433 t434 t435 t436 _ A30.out).mono ?_); rintro e w32 ⟨rfl, hb⟩; refine ⟨_, rfl, ?_⟩; replace BK412 := sqB_ (g := gb412) (by (with_reducible repeat (first | apply kN_ | apply kD_ | apply kA_)); exact BK412.out) hb; replace HB := sqS_ (by repeat (first | (with_reducible first | exact HB.out | apply bA_ | apply bN_ | apply bD_ | refine bS_ ?_ GE412.out) | exact HB.out)) hb; (try clear hb); (try clear hb2); (try clear hk); (try clear hi); obtain ⟨hcz33_0, hcz33_1, hcz33_2, hcz33_3⟩ := cells4_ BK412.out; obtain ⟨hfz33_0, hfz33_1, hfz33_2, hfz33_3⟩ := froz4_ BK412.out))
       refine bodyPost_ret (results_ct rfl _ _ gb412 24 #[.int .i64 t433, .int .u64 t434, .string t435, .int .i64 t436] (0, 0) _ rfl (by (with_reducible repeat (first | apply kN_ | apply kD_ | apply kA_)); refine blk_put (cs := #[.int .i64 t433, .int .u64 t434, .string t435, .int .i64 0]) ?_ 3 _ rfl; (with_reducible repeat (first | apply kN_ | apply kD_ | apply kA_)); refine blk_put (cs := #[.int .i64 t433, .int .u64 t434, .string ⟨#[]⟩, .int .i64 0]) ?_ 2 _ rfl; (with_reducible repeat (first | apply kN_ | apply kD_ | apply kA_)); refine blk_put (cs := #[.int .i64 t433, .int .u64 0, .string ⟨#[]⟩, .int .i64 0]) ?_ 1 _ rfl; (with_reducible repeat (first | apply kN_ | apply kD_ | apply kA_)); refine blk_put (cs := #[.int .i64 0, .int .u64 0, .string ⟨#[]⟩, .int .i64 0]) ?_ 0 _ rfl; (with_reducible repeat (first | apply kN_ | apply kD_ | apply kA_)); exact BK412.out) Tryz.underlying24 rfl (by kernel_rfl)) rfl ?_
       exact ⟨by first | rfl | (simp [errW_none, errW_some] <;> rfl) | (simp [*, errW_none, errW_some] <;> rfl), by repeat (first | (with_reducible first | exact HB.out | apply bA_ | apply bN_ | apply bD_ | refine bS_ ?_ GE412.out) | exact HB.out)⟩
      ·rw [if_neg c29] at H
       have c29b0 : (a0 == 67) = false := beq_eq_false_iff_ne.mpr c29
       have c29b1 : (a0 != 67) = true := bne_iff_ne.mpr c29
       by_cases c34 : a0 = 70
       ·rw [if_pos c34] at H
        have c34b0 : (a0 == 70) = true := beq_iff_eq.mpr c34
        have c34b1 : (a0 != 70) = false := bne_eq_false_iff_eq.mpr c34
        clear c34
        by_cases c35 : a1 = 0
        ·rw [if_pos c35] at H
         have c35b0 : (a1 == 0) = true := beq_iff_eq.mpr c35
         have c35b1 : (a1 != 0) = false := bne_eq_false_iff_eq.mpr c35
         clear c35
         replace H := Option.bind_eq_some_iff.mp H
         obtain ⟨⟨t437, t438, t439, t440⟩, A360, H⟩ := H
         replace H : (some (t437, t438, t439, t440, 0)) = some (r1, r2, r3, r4, r5) := H
         have A36 := Aside0.mk A360
         clear A360
         simp only [Option.some.injEq, Prod.mk.injEq] at H
         obtain ⟨rfl, rfl, rfl, rfl, rfl⟩ := H
         go_enter Tryz.func58, Tryz.ntmps58
         go_wp2_with (first | ((with_reducible refine gate_dst (N := 6) rfl ?_); refine box_event ?hg (N := 6) ?hd (cs := #[.int .i64 0, .int .u64 0, .string ⟨#[]⟩, .int .i64 0]) (t := 24) ?hr ?_; (case hd => rfl); (case hg => rfl); (case hr => first | (go_simp; done) | (go_simp; rfl)); intro gb412 hg w37 hbox hb; replace HB := sqN_ (by repeat (first | (with_reducible first | exact HB.out | apply bA_ | apply bN_ | apply bD_) | exact HB.out)) hg hb; obtain ⟨HB, GE412⟩ := HB; have BK412 := Aside0.mk hbox; clear hb hbox hg) | ((with_reducible refine gate_callee (f := 12) rfl ?_); refine goesL_ (some 53) rfl rfl Tryz.func12 (by kernel_rfl) rfl #[.bool false] rfl (by (try simp only [List.map_toArray, List.map_cons, List.map_nil]); first | done | rfl) ?_; (with_reducible refine (value_boolean.calls false t437 t438 t439 t440 _ A36.out).mono ?_); rintro e w38 ⟨rfl, hb⟩; refine ⟨_, rfl, ?_⟩; replace BK412 := sqB_ (g := gb412) (by (with_reducible repeat (first | apply kN_ | apply kD_ | apply kA_)); exact BK412.out) hb; replace HB := sqS_ (by repeat (first | (with_reducible first | exact HB.out | apply bA_ | apply bN_ | apply bD_ | refine bS_ ?_ GE412.out) | exact HB.out)) hb; (try clear hb); (try clear hb2); (try clear hk); (try clear hi); obtain ⟨hcz39_0, hcz39_1, hcz39_2, hcz39_3⟩ := cells4_ BK412.out; obtain ⟨hfz39_0, hfz39_1, hfz39_2, hfz39_3⟩ := froz4_ BK412.out))
         refine bodyPost_ret (results_ct rfl _ _ gb412 24 #[.int .i64 t437, .int .u64 t438, .string t439, .int .i64 t440] (0, 0) _ rfl (by (with_reducible repeat (first | apply kN_ | apply kD_ | apply kA_)); refine blk_put (cs := #[.int .i64 t437, .int .u64 t438, .string t439, .int .i64 0]) ?_ 3 _ rfl; (with_reducible repeat (first | apply kN_ | apply kD_ | apply kA_)); refine blk_put (cs := #[.int .i64 t437, .int .u64 t438, .string ⟨#[]⟩, .int .i64 0]) ?_ 2 _ rfl; (with_reducible repeat (first | apply kN_ | apply kD_ | apply kA_)); refine blk_put (cs := #[.int .i64 t437, .int .u64 0, .string ⟨#[]⟩, .int .i64 0]) ?_ 1 _ rfl; (with_reducible repeat (first | apply kN_ | apply kD_ | apply kA_)); refine blk_put (cs := #[.int .i64 0, .int .u64 0, .string ⟨#[]⟩, .int .i64 0]) ?_ 0 _ rfl; (with_reducible repeat (first | apply kN_ | apply kD_ | apply kA_)); exact BK412.out) Tryz.underlying24 rfl (by kernel_rfl)) rfl ?_
         exact ⟨by first | rfl | (simp [errW_none, errW_some] <;> rfl) | (simp [*, errW_none, errW_some] <;> rfl), by repeat (first | (with_reducible first | exact HB.out | apply bA_ | apply bN_ | apply bD_ | refine bS_ ?_ GE412.out) | exact HB.out)⟩
        ·rw [if_neg c35] at H
         have c35b0 : (a1 == 0) = false := beq_eq_false_iff_ne.mpr c35
         have c35b1 : (a1 != 0) = true := bne_iff_ne.mpr c35
         replace H := Option.bind_eq_some_iff.mp H
         obtain ⟨⟨t441, t442, t443, t444⟩, A400, H⟩ := H
         replace H : (some (t441, t442, t443, t444, 0)) = some (r1, r2, r3, r4, r5) := H
         have A40 := Aside0.mk A400
         clear A400
         simp only [Option.some.injEq, Prod.mk.injEq] at H
         obtain ⟨rfl, rfl, rfl, rfl, rfl⟩ := H
         go_enter Tryz.func58, Tryz.ntmps58
         go_wp2_with (first | ((with_reducible refine gate_dst (N := 6) rfl ?_); refine box_event ?hg (N := 6) ?hd (cs := #[.int .i64 0, .int .u64 0, .string ⟨#[]⟩, .int .i64 0]) (t := 24) ?hr ?_; (case hd => rfl); (case hg => rfl); (case hr => first | (go_simp; done) | (go_simp; rfl)); intro gb412 hg w41 hbox hb; replace HB := sqN_ (by repeat (first | (with_reducible first | exact HB.out | apply bA_ | apply bN_ | apply bD_) | exact HB.out)) hg hb; obtain ⟨HB, GE412⟩ := HB; have BK412 := Aside0.mk hbox; clear hb hbox hg) | ((with_reducible refine gate_callee (f := 12) rfl ?_); refine goesL_ (some 53) rfl rfl Tryz.func12 (by kernel_rfl) rfl #[.bool (a2 != 0)] rfl (by (try simp only [List.map_toArray, List.map_cons, List.map_nil]); first | done | rfl) ?_; (with_reducible refine (value_boolean.calls (a2 != 0) t441 t442 t443 t444 _ A40.out).mono ?_); rintro e w42 ⟨rfl, hb⟩; refine ⟨_, rfl, ?_⟩; replace BK412 := sqB_ (g := gb412) (by (with_reducible repeat (first | apply kN_ | apply kD_ | apply kA_)); exact BK412.out) hb; replace HB := sqS_ (by repeat (first | (with_reducible first | exact HB.out | apply bA_ | apply bN_ | apply bD_ | refine bS_ ?_ GE412.out) | exact HB.out)) hb; (try clear hb); (try clear hb2); (try clear hk); (try clear hi); obtain ⟨hcz43_0, hcz43_1, hcz43_2, hcz43_3⟩ := cells4_ BK412.out; obtain ⟨hfz43_0, hfz43_1, hfz43_2, hfz43_3⟩ := froz4_ BK412.out))
         refine bodyPost_ret (results_ct rfl _ _ gb412 24 #[.int .i64 t441, .int .u64 t442, .string t443, .int .i64 t444] (0, 0) _ rfl (by (with_reducible repeat (first | apply kN_ | apply kD_ | apply kA_)); refine blk_put (cs := #[.int .i64 t441, .int .u64 t442, .string t443, .int .i64 0]) ?_ 3 _ rfl; (with_reducible repeat (first | apply kN_ | apply kD_ | apply kA_)); refine blk_put (cs := #[.int .i64 t441, .int .u64 t442, .string ⟨#[]⟩, .int .i64 0]) ?_ 2 _ rfl; (with_reducible repeat (first | apply kN_ | apply kD_ | apply kA_)); refine blk_put (cs := #[.int .i64 t441, .int .u64 0, .string ⟨#[]⟩, .int .i64 0]) ?_ 1 _ rfl; (with_reducible repeat (first | apply kN_ | apply kD_ | apply kA_)); refine blk_put (cs := #[.int .i64 0, .int .u64 0, .string ⟨#[]⟩, .int .i64 0]) ?_ 0 _ rfl; (with_reducible repeat (first | apply kN_ | apply kD_ | apply kA_)); exact BK412.out) Tryz.underlying24 rfl (by kernel_rfl)) rfl ?_
         exact ⟨by first | rfl | (simp [errW_none, errW_some] <;> rfl) | (simp [*, errW_none, errW_some] <;> rfl), by repeat (first | (with_reducible first | exact HB.out | apply bA_ | apply bN_ | apply bD_ | refine bS_ ?_ GE412.out) | exact HB.out)⟩
       ·rw [if_neg c34] at H
        have c34b0 : (a0 == 70) = false := beq_eq_false_iff_ne.mpr c34
        have c34b1 : (a0 != 70) = true := bne_iff_ne.mpr c34
        by_cases c44 : a0 = 71
        ·rw [if_pos c44] at H
         have c44b0 : (a0 == 71) = true := beq_iff_eq.mpr c44
         have c44b1 : (a0 != 71) = false := bne_eq_false_iff_eq.mpr c44
         clear c44
         by_cases c45 : a1 = 0
         ·rw [if_pos c45] at H
          have c45b0 : (a1 == 0) = true := beq_iff_eq.mpr c45
          have c45b1 : (a1 != 0) = false := bne_eq_false_iff_eq.mpr c45
          clear c45
          replace H := Option.bind_eq_some_iff.mp H
          obtain ⟨⟨t445, t446, t447, t448⟩, A460, H⟩ := H
          replace H : (some (t445, t446, t447, t448, 0)) = some (r1, r2, r3, r4, r5) := H
          have A46 := Aside0.mk A460
          clear A460
          simp only [Option.some.injEq, Prod.mk.injEq] at H
          obtain ⟨rfl, rfl, rfl, rfl, rfl⟩ := H
          go_enter Tryz.func58, Tryz.ntmps58
          go_wp2_with (first | ((with_reducible refine gate_dst (N := 6) rfl ?_); refine box_event ?hg (N := 6) ?hd (cs := #[.int .i64 0, .int .u64 0, .string ⟨#[]⟩, .int .i64 0]) (t := 24) ?hr ?_; (case hd => rfl); (case hg => rfl); (case hr => first | (go_simp; done) | (go_simp; rfl)); intro gb412 hg w47 hbox hb; replace HB := sqN_ (by repeat (first | (with_reducible first | exact HB.out | apply bA_ | apply bN_ | apply bD_) | exact HB.out)) hg hb; obtain ⟨HB, GE412⟩ := HB; have BK412 := Aside0.mk hbox; clear hb hbox hg) | ((with_reducible refine gate_callee (f := 12) rfl ?_); refine goesL_ (some 62) rfl rfl Tryz.func12 (by kernel_rfl) rfl #[.bool (a2 != 0)] rfl (by (try simp only [List.map_toArray, List.map_cons, List.map_nil]); first | done | rfl) ?_; (with_reducible refine (value_boolean.calls (a2 != 0) t445 t446 t447 t448 _ A46.out).mono ?_); rintro e w48 ⟨rfl, hb⟩; refine ⟨_, rfl, ?_⟩; replace BK412 := sqB_ (g := gb412) (by (with_reducible repeat (first | apply kN_ | apply kD_ | apply kA_)); exact BK412.out) hb; replace HB := sqS_ (by repeat (first | (with_reducible first | exact HB.out | apply bA_ | apply bN_ | apply bD_ | refine bS_ ?_ GE412.out) | exact HB.out)) hb; (try clear hb); (try clear hb2); (try clear hk); (try clear hi); obtain ⟨hcz49_0, hcz49_1, hcz49_2, hcz49_3⟩ := cells4_ BK412.out; obtain ⟨hfz49_0, hfz49_1, hfz49_2, hfz49_3⟩ := froz4_ BK412.out))
          refine bodyPost_ret (results_ct rfl _ _ gb412 24 #[.int .i64 t445, .int .u64 t446, .string t447, .int .i64 t448] (0, 0) _ rfl (by (with_reducible repeat (first | apply kN_ | apply kD_ | apply kA_)); refine blk_put (cs := #[.int .i64 t445, .int .u64 t446, .string t447, .int .i64 0]) ?_ 3 _ rfl; (with_reducible repeat (first | apply kN_ | apply kD_ | apply kA_)); refine blk_put (cs := #[.int .i64 t445, .int .u64 t446, .string ⟨#[]⟩, .int .i64 0]) ?_ 2 _ rfl; (with_reducible repeat (first | apply kN_ | apply kD_ | apply kA_)); refine blk_put (cs := #[.int .i64 t445, .int .u64 0, .string ⟨#[]⟩, .int .i64 0]) ?_ 1 _ rfl; (with_reducible repeat (first | apply kN_ | apply kD_ | apply kA_)); refine blk_put (cs := #[.int .i64 0, .int .u64 0, .string ⟨#[]⟩, .int .i64 0]) ?_ 0 _ rfl; (with_reducible repeat (first | apply kN_ | apply kD_ | apply kA_)); exact BK412.out) Tryz.underlying24 rfl (by kernel_rfl)) rfl ?_
          exact ⟨by first | rfl | (simp [errW_none, errW_some] <;> rfl) | (simp [*, errW_none, errW_some] <;> rfl), by repeat (first | (with_reducible first | exact HB.out | apply bA_ | apply bN_ | apply bD_ | refine bS_ ?_ GE412.out) | exact HB.out)⟩
         ·rw [if_neg c45] at H
          have c45b0 : (a1 == 0) = false := beq_eq_false_iff_ne.mpr c45
          have c45b1 : (a1 != 0) = true := bne_iff_ne.mpr c45
          replace H := Option.bind_eq_some_iff.mp H
          obtain ⟨⟨t449, t450, t451, t452⟩, A500, H⟩ := H
          replace H : (some (t449, t450, t451, t452, 0)) = some (r1, r2, r3, r4, r5) := H
          have A50 := Aside0.mk A500
          clear A500
          simp only [Option.some.injEq, Prod.mk.injEq] at H
          obtain ⟨rfl, rfl, rfl, rfl, rfl⟩ := H
          go_enter Tryz.func58, Tryz.ntmps58
          go_wp2_with (first | ((with_reducible refine gate_dst (N := 6) rfl ?_); refine box_event ?hg (N := 6) ?hd (cs := #[.int .i64 0, .int .u64 0, .string ⟨#[]⟩, .int .i64 0]) (t := 24) ?hr ?_; (case hd => rfl); (case hg => rfl); (case hr => first | (go_simp; done) | (go_simp; rfl)); intro gb412 hg w51 hbox hb; replace HB := sqN_ (by repeat (first | (with_reducible first | exact HB.out | apply bA_ | apply bN_ | apply bD_) | exact HB.out)) hg hb; obtain ⟨HB, GE412⟩ := HB; have BK412 := Aside0.mk hbox; clear hb hbox hg) | ((with_reducible refine gate_callee (f := 12) rfl ?_); refine goesL_ (some 62) rfl rfl Tryz.func12 (by kernel_rfl) rfl #[.bool true] rfl (by (try simp only [List.map_toArray, List.map_cons, List.map_nil]); first | done | rfl) ?_; (with_reducible refine (value_boolean.calls true t449 t450 t451 t452 _ A50.out).mono ?_); rintro e w52 ⟨rfl, hb⟩; refine ⟨_, rfl, ?_⟩; replace BK412 := sqB_ (g := gb412) (by (with_reducible repeat (first | apply kN_ | apply kD_ | apply kA_)); exact BK412.out) hb; replace HB := sqS_ (by repeat (first | (with_reducible first | exact HB.out | apply bA_ | apply bN_ | apply bD_ | refine bS_ ?_ GE412.out) | exact HB.out)) hb; (try clear hb); (try clear hb2); (try clear hk); (try clear hi); obtain ⟨hcz53_0, hcz53_1, hcz53_2, hcz53_3⟩ := cells4_ BK412.out; obtain ⟨hfz53_0, hfz53_1, hfz53_2, hfz53_3⟩ := froz4_ BK412.out))
          refine bodyPost_ret (results_ct rfl _ _ gb412 24 #[.int .i64 t449, .int .u64 t450, .string t451, .int .i64 t452] (0, 0) _ rfl (by (with_reducible repeat (first | apply kN_ | apply kD_ | apply kA_)); refine blk_put (cs := #[.int .i64 t449, .int .u64 t450, .string t451, .int .i64 0]) ?_ 3 _ rfl; (with_reducible repeat (first | apply kN_ | apply kD_ | apply kA_)); refine blk_put (cs := #[.int .i64 t449, .int .u64 t450, .string ⟨#[]⟩, .int .i64 0]) ?_ 2 _ rfl; (with_reducible repeat (first | apply kN_ | apply kD_ | apply kA_)); refine blk_put (cs := #[.int .i64 t449, .int .u64 0, .string ⟨#[]⟩, .int .i64 0]) ?_ 1 _ rfl; (with_reducible repeat (first | apply kN_ | apply kD_ | apply kA_)); refine blk_put (cs := #[.int .i64 0, .int .u64 0, .string ⟨#[]⟩, .int .i64 0]) ?_ 0 _ rfl; (with_reducible repeat (first | apply kN_ | apply kD_ | apply kA_)); exact BK412.out) Tryz.underlying24 rfl (by kernel_rfl)) rfl ?_
          exact ⟨by first | rfl | (simp [errW_none, errW_some] <;> rfl) | (simp [*, errW_none, errW_some] <;> rfl), by repeat (first | (with_reducible first | exact HB.out | apply bA_ | apply bN_ | apply bD_ | refine bS_ ?_ GE412.out) | exact HB.out)⟩
        ·rw [if_neg c44] at H
         have c44b0 : (a0 == 71) = false := beq_eq_false_iff_ne.mpr c44
         have c44b1 : (a0 != 71) = true := bne_iff_ne.mpr c44
         replace H := Option.bind_eq_some_iff.mp H
         obtain ⟨⟨t453, t454, t455, t456, t457⟩, A540, H⟩ := H
         replace H : (some (t453, t454, t455, t456, t457)) = some (r1, r2, r3, r4, r5) := H
         have A54 := Aside0.mk A540
         clear A540
         simp only [Option.some.injEq, Prod.mk.injEq] at H
         obtain ⟨rfl, rfl, rfl, rfl, rfl⟩ := H
         go_enter Tryz.func58, Tryz.ntmps58
         go_wp2_with (first | ((with_reducible refine gate_dst (N := 6) rfl ?_); refine box_event ?hg (N := 6) ?hd (cs := #[.int .i64 0, .int .u64 0, .string ⟨#[]⟩, .int .i64 0]) (t := 24) ?hr ?_; (case hd => rfl); (case hg => rfl); (case hr => first | (go_simp; done) | (go_simp; rfl)); intro gb412 hg w55 hbox hb; replace HB := sqN_ (by repeat (first | (with_reducible first | exact HB.out | apply bA_ | apply bN_ | apply bD_) | exact HB.out)) hg hb; obtain ⟨HB, GE412⟩ := HB; have BK412 := Aside0.mk hbox; clear hb hbox hg) | ((with_reducible refine gate_callee (f := 79) rfl ?_); refine goesL_ (some 66) rfl rfl Tryz.func79 (by kernel_rfl) rfl #[.int .i64 a0, .int .u64 a1, .int .u64 a2] rfl (by (try simp only [List.map_toArray, List.map_cons, List.map_nil]); first | done | rfl) ?_; (with_reducible refine (value_divide.calls a0 a1 a2 t453 t454 t455 t456 t457 _ A54.out).mono ?_); rintro e w56 ⟨rfl, hb⟩; refine ⟨_, rfl, ?_⟩; replace BK412 := sqB_ (g := gb412) (by (with_reducible repeat (first | apply kN_ | apply kD_ | apply kA_)); exact BK412.out) hb; replace HB := sqS_ (by repeat (first | (with_reducible first | exact HB.out | apply bA_ | apply bN_ | apply bD_ | refine bS_ ?_ GE412.out) | exact HB.out)) hb; (try clear hb); (try clear hb2); (try clear hk); (try clear hi); obtain ⟨hcz57_0, hcz57_1, hcz57_2, hcz57_3⟩ := cells4_ BK412.out; obtain ⟨hfz57_0, hfz57_1, hfz57_2, hfz57_3⟩ := froz4_ BK412.out))
         refine bodyPost_ret (results_ct rfl _ _ gb412 24 #[.int .i64 t453, .int .u64 t454, .string t455, .int .i64 t456] (0, 0) _ rfl (by (with_reducible repeat (first | apply kN_ | apply kD_ | apply kA_)); refine blk_put (cs := #[.int .i64 t453, .int .u64 t454, .string t455, .int .i64 0]) ?_ 3 _ rfl; (with_reducible repeat (first | apply kN_ | apply kD_ | apply kA_)); refine blk_put (cs := #[.int .i64 t453, .int .u64 t454, .string ⟨#[]⟩, .int .i64 0]) ?_ 2 _ rfl; (with_reducible repeat (first | apply kN_ | apply kD_ | apply kA_)); refine blk_put (cs := #[.int .i64 t453, .int .u64 0, .string ⟨#[]⟩, .int .i64 0]) ?_ 1 _ rfl; (with_reducible repeat (first | apply kN_ | apply kD_ | apply kA_)); refine blk_put (cs := #[.int .i64 0, .int .u64 0, .string ⟨#[]⟩, .int .i64 0]) ?_ 0 _ rfl; (with_reducible repeat (first | apply kN_ | apply kD_ | apply kA_)); exact BK412.out) Tryz.underlying24 rfl (by kernel_rfl)) rfl ?_
         exact ⟨by first | rfl | (simp [errW_none, errW_some] <;> rfl) | (simp [*, errW_none, errW_some] <;> rfl), by repeat (first | (with_reducible first | exact HB.out | apply bA_ | apply bN_ | apply bD_ | refine bS_ ?_ GE412.out) | exact HB.out)⟩

/-! ### value_Binary: function 32 -/
def value_Binary.j0 : Nat → Int → Bool → Int → Int → ByteArray → Int → Int → Int → ByteArray → Int → Option (Int × Int × ByteArray × Int × Int)
 | 0, _, _, _, _, _, _, _, _, _, _ => none
 | k + 1, x0, x11, x459000, x459001, x459002, x459003, x460000, x460001, x460002, x460003 => if x11 = true then (some (0, 0, (⟨#[]⟩ : ByteArray), 0, 1)) else (if x0 ≥ 72 then ((value_matched.f k x0 x459000 x459001 x459002 x459003 x460000 x460001 x460002 x460003).bind fun bt463 => (some (bt463.1, bt463.2.1, bt463.2.2.1, bt463.2.2.2.1, bt463.2.2.2.2))) else ((value_Integer.f k x459000 x459001 x459002 x459003).bind fun bt468 => (if bt468.2 = 0 then ((value_Integer.f k x460000 x460001 x460002 x460003).bind fun bt470 => (if bt470.2 = 0 then ((value_arithmetic.f x0 bt468.1 bt470.1).bind fun bt472 => (some (bt472.1, bt472.2.1, bt472.2.2.1, bt472.2.2.2.1, bt472.2.2.2.2))) else (some (0, 0, (⟨#[]⟩ : ByteArray), 0, bt470.2)))) else (some (0, 0, (⟨#[]⟩ : ByteArray), 0, bt468.2)))))
def value_Binary.f (k : Nat) (a0 : Int) (a1_0 : Int) (a1_1 : Int) (a1_2 : ByteArray) (a1_3 : Int) (a2_0 : Int) (a2_1 : Int) (a2_2 : ByteArray) (a2_3 : Int) : Option (Int × Int × ByteArray × Int × Int) := (value_Valid.f a1_0 a1_1 a1_2 a1_3).bind fun t461 => (if t461 = true then ((value_Valid.f a2_0 a2_1 a2_2 a2_3).bind fun t462 => (if t462 = true then (if a0 < 60 then (value_Binary.j0 k a0 true a1_0 a1_1 a1_2 a1_3 a2_0 a2_1 a2_2 a2_3) else (value_Binary.j0 k a0 (decide (a0 > 75)) a1_0 a1_1 a1_2 a1_3 a2_0 a2_1 a2_2 a2_3)) else (value_Binary.j0 k a0 true a1_0 a1_1 a1_2 a1_3 a2_0 a2_1 a2_2 a2_3))) else (value_Binary.j0 k a0 true a1_0 a1_1 a1_2 a1_3 a2_0 a2_1 a2_2 a2_3))
theorem value_Binary.mono_l : ∀ k, (∀ y0 y1 y2 y3 y4 y5 y6 y7 y8 y9, LeO (value_Binary.j0 k y0 y1 y2 y3 y4 y5 y6 y7 y8 y9) (value_Binary.j0 (k + 1) y0 y1 y2 y3 y4 y5 y6 y7 y8 y9))
 | 0 => fun _ _ _ _ _ _ _ _ _ _ r h => by simp [value_Binary.j0] at h
 | k + 1 => by
  have ih0 := value_Binary.mono_l k
  ·intro y0 y1 y2 y3 y4 y5 y6 y7 y8 y9
   unfold value_Binary.j0
   repeat' first
   | (with_reducible exact ih0 _ _ _ _ _ _ _ _ _ _)
   | (with_reducible exact value_Integer.mono _ _ _ _ _)
   | (with_reducible exact value_matched.mono _ _ _ _ _ _ _ _ _ _)
   | (with_reducible exact LeO.refl _)
   | (with_reducible exact LeO.none _)
   | (with_reducible refine LeO.ite ?_ ?_)
   | (with_reducible refine LeO.bind ?_ (fun _ => ?_))
   | exact ih0 _ _ _ _ _ _ _ _ _ _
   | exact value_Integer.mono _ _ _ _ _
   | exact value_matched.mono _ _ _ _ _ _ _ _ _ _
   | exact LeO.none _
   | refine LeO.ite ?_ ?_
   | refine LeO.bind ?_ (fun _ => ?_)
theorem value_Binary.mono : ∀ a0 a1 a2 a3 a4 a5 a6 a7 a8 k, LeO (value_Binary.f k a0 a1 a2 a3 a4 a5 a6 a7 a8) (value_Binary.f (k + 1) a0 a1 a2 a3 a4 a5 a6 a7 a8) := by
 intro a0 a1 a2 a3 a4 a5 a6 a7 a8 k
 have ih0 := value_Binary.mono_l k
 unfold value_Binary.f
 repeat' first
   | (with_reducible exact ih0 _ _ _ _ _ _ _ _ _ _)
   | (with_reducible exact value_Integer.mono _ _ _ _ _)
   | (with_reducible exact value_matched.mono _ _ _ _ _ _ _ _ _ _)
   | (with_reducible exact LeO.refl _)
   | (with_reducible exact LeO.none _)
   | (with_reducible refine LeO.ite ?_ ?_)
   | (with_reducible refine LeO.bind ?_ (fun _ => ?_))
   | exact ih0 _ _ _ _ _ _ _ _ _ _
   | exact value_Integer.mono _ _ _ _ _
   | exact value_matched.mono _ _ _ _ _ _ _ _ _ _
   | exact LeO.none _
   | refine LeO.ite ?_ ?_
   | refine LeO.bind ?_ (fun _ => ?_)
set_option maxHeartbeats 8000000 in
set_option maxRecDepth 100000 in
theorem value_Binary.calls (k : Nat) (a0 : Int) (a1_0 : Int) (a1_1 : Int) (a1_2 : ByteArray) (a1_3 : Int) (a2_0 : Int) (a2_1 : Int) (a2_2 : ByteArray) (a2_3 : Int) (r1 : Int) (r2 : Int) (r3 : ByteArray) (r4 : Int) (r5 : Int) (w : World) (hT_ : Tb w) (h : value_Binary.f k a0 a1_0 a1_1 a1_2 a1_3 a2_0 a2_1 a2_2 a2_3 = some (r1, r2, r3, r4, r5)) :
  Calls Tryz.prog 32 #[.int .i64 a0, .agg #[.int .i64 a1_0, .int .u64 a1_1, .string a1_2, .int .i64 a1_3], .agg #[.int .i64 a2_0, .int .u64 a2_1, .string a2_2, .int .i64 a2_3]] w fun e w' => e = .returned (.tuple #[.agg #[.int .i64 r1, .int .u64 r2, .string r3, .int .i64 r4], .int .i64 r5]) ∧ Below w.heap.size w w' := by
 have HTT_ := Aside0.mk hT_
 clear hT_
 have hu24 := Tryz.underlying24
 have HB := Aside0.mk (Below.refl w.heap.size w)
 have H : ((value_Valid.f a1_0 a1_1 a1_2 a1_3).bind fun t461 => (if t461 = true then ((value_Valid.f a2_0 a2_1 a2_2 a2_3).bind fun t462 => (if t462 = true then (if a0 < 60 then (value_Binary.j0 k a0 true a1_0 a1_1 a1_2 a1_3 a2_0 a2_1 a2_2 a2_3) else (value_Binary.j0 k a0 (decide (a0 > 75)) a1_0 a1_1 a1_2 a1_3 a2_0 a2_1 a2_2 a2_3)) else (value_Binary.j0 k a0 true a1_0 a1_1 a1_2 a1_3 a2_0 a2_1 a2_2 a2_3))) else (value_Binary.j0 k a0 true a1_0 a1_1 a1_2 a1_3 a2_0 a2_1 a2_2 a2_3))) = some (r1, r2, r3, r4, r5) := h
 clear h
 have HC4 := Aside0.mk H
 clear H
 go_enter Tryz.func32, Tryz.ntmps32
 go_upto_region 1 with (first | ((with_reducible refine gate_dst (N := 4) rfl ?_); refine box_event ?hg (N := 4) ?hd (cs := #[.int .i64 a1_0, .int .u64 a1_1, .string a1_2, .int .i64 a1_3]) (t := 24) ?hr ?_; (case hd => rfl); (case hg => rfl); (case hr => first | (go_simp; done) | (go_simp; rfl)); intro gb458 hg w5 hbox hb; replace HB := sqN_ (by repeat (first | (with_reducible first | exact HB.out | apply bA_ | apply bN_ | apply bD_) | exact HB.out)) hg hb; obtain ⟨HB, GE458⟩ := HB; have BK458 := Aside0.mk hbox; clear hb hbox hg) | ((with_reducible refine gate_dst (N := 5) rfl ?_); refine box_event ?hg (N := 5) ?hd (cs := #[.int .i64 a2_0, .int .u64 a2_1, .string a2_2, .int .i64 a2_3]) (t := 24) ?hr ?_; (case hd => rfl); (case hg => rfl); (case hr => first | (go_simp; done) | (go_simp; rfl)); intro gb459 hg w6 hbox hb; replace BK458 := sqO_ (g := gb458) (by (with_reducible repeat (first | apply kN_ | apply kD_ | apply kA_)); exact BK458.out) hg hb; obtain ⟨BK458, NB458_459, NB459_458⟩ := BK458; replace HB := sqN_ (by repeat (first | (with_reducible first | exact HB.out | apply bA_ | apply bN_ | apply bD_ | refine bS_ ?_ GE458.out) | exact HB.out)) hg hb; obtain ⟨HB, GE459⟩ := HB; have BK459 := Aside0.mk hbox; clear hb hbox hg) | ((with_reducible refine gate_dst (N := 6) rfl ?_); refine box_event ?hg (N := 6) ?hd (cs := #[.int .i64 0, .int .u64 0, .string ⟨#[]⟩, .int .i64 0]) (t := 24) ?hr ?_; (case hd => rfl); (case hg => rfl); (case hr => first | (go_simp; done) | (go_simp; rfl)); intro gb460 hg w7 hbox hb; replace BK458 := sqO_ (g := gb458) (by (with_reducible repeat (first | apply kN_ | apply kD_ | apply kA_)); exact BK458.out) hg hb; obtain ⟨BK458, NB458_460, NB460_458⟩ := BK458; replace BK459 := sqO_ (g := gb459) (by (with_reducible repeat (first | apply kN_ | apply kD_ | apply kA_)); exact BK459.out) hg hb; obtain ⟨BK459, NB459_460, NB460_459⟩ := BK459; replace HB := sqN_ (by repeat (first | (with_reducible first | exact HB.out | apply bA_ | apply bN_ | apply bD_ | refine bS_ ?_ GE458.out | refine bS_ ?_ GE459.out) | exact HB.out)) hg hb; obtain ⟨HB, GE460⟩ := HB; have BK460 := Aside0.mk hbox; clear hb hbox hg))
 (try simp only [Act.put, sA_, sB_, sC_])
 go_cut [11] (fun v11 wc => ∃ (kq : Nat) (x11_3 : Bool), v11 = .bool x11_3 ∧ Aside0 (value_Binary.j0 kq a0 x11_3 a1_0 a1_1 a1_2 a1_3 a2_0 a2_1 a2_2 a2_3 = some (r1, r2, r3, r4, r5)) ∧ Aside0 (kq ≤ k) ∧ Aside0 (wc.heap[gb458]? = some (.cells #[.int .i64 a1_0, .int .u64 a1_1, .string a1_2, .int .i64 a1_3] 24 (0, 0))) ∧ Aside0 (wc.heap[gb459]? = some (.cells #[.int .i64 a2_0, .int .u64 a2_1, .string a2_2, .int .i64 a2_3] 24 (0, 0))) ∧ Aside0 (wc.heap[gb460]? = some (.cells #[.int .i64 0, .int .u64 0, .string ⟨#[]⟩, .int .i64 0] 24 (0, 0))) ∧ Aside0 (Below w.heap.size w wc))
 case first =>
  have H := HC4.out
  clear HC4
  replace H := Option.bind_eq_some_iff.mp H
  obtain ⟨t461, A80, H⟩ := H
  replace H : (if t461 = true then ((value_Valid.f a2_0 a2_1 a2_2 a2_3).bind fun t462 => (if t462 = true then (if a0 < 60 then (value_Binary.j0 k a0 true a1_0 a1_1 a1_2 a1_3 a2_0 a2_1 a2_2 a2_3) else (value_Binary.j0 k a0 (decide (a0 > 75)) a1_0 a1_1 a1_2 a1_3 a2_0 a2_1 a2_2 a2_3)) else (value_Binary.j0 k a0 true a1_0 a1_1 a1_2 a1_3 a2_0 a2_1 a2_2 a2_3))) else (value_Binary.j0 k a0 true a1_0 a1_1 a1_2 a1_3 a2_0 a2_1 a2_2 a2_3)) = some (r1, r2, r3, r4, r5) := H
  have A8 := Aside0.mk A80
  clear A80
  by_cases c9 : t461 = true
  ·subst c9
   have H1 : ((value_Valid.f a2_0 a2_1 a2_2 a2_3).bind fun t462 => (if t462 = true then (if a0 < 60 then (value_Binary.j0 k a0 true a1_0 a1_1 a1_2 a1_3 a2_0 a2_1 a2_2 a2_3) else (value_Binary.j0 k a0 (decide (a0 > 75)) a1_0 a1_1 a1_2 a1_3 a2_0 a2_1 a2_2 a2_3)) else (value_Binary.j0 k a0 true a1_0 a1_1 a1_2 a1_3 a2_0 a2_1 a2_2 a2_3))) = some (r1, r2, r3, r4, r5) := by rw [if_pos rfl] at H; exact H
   clear H
   have H := H1
   clear H1
   replace H := Option.bind_eq_some_iff.mp H
   obtain ⟨t462, A100, H⟩ := H
   replace H : (if t462 = true then (if a0 < 60 then (value_Binary.j0 k a0 true a1_0 a1_1 a1_2 a1_3 a2_0 a2_1 a2_2 a2_3) else (value_Binary.j0 k a0 (decide (a0 > 75)) a1_0 a1_1 a1_2 a1_3 a2_0 a2_1 a2_2 a2_3)) else (value_Binary.j0 k a0 true a1_0 a1_1 a1_2 a1_3 a2_0 a2_1 a2_2 a2_3)) = some (r1, r2, r3, r4, r5) := H
   have A10 := Aside0.mk A100
   clear A100
   by_cases c11 : t462 = true
   ·subst c11
    have H1 : (if a0 < 60 then (value_Binary.j0 k a0 true a1_0 a1_1 a1_2 a1_3 a2_0 a2_1 a2_2 a2_3) else (value_Binary.j0 k a0 (decide (a0 > 75)) a1_0 a1_1 a1_2 a1_3 a2_0 a2_1 a2_2 a2_3)) = some (r1, r2, r3, r4, r5) := by rw [if_pos rfl] at H; exact H
    clear H
    have H := H1
    clear H1
    by_cases c12 : a0 < 60
    ·rw [if_pos c12] at H
     have c12b0 : decide (a0 < 60) = true := decide_eq_true c12
     clear c12
     (first | rw [c12b0] | (simp only [i64_w, i32_w]; rw [c12b0]) | skip)
     have H' := Aside0.mk H
     clear H
     have hnb13 := NB458_459.out
     have hnc13 := NB459_458.out
     have hnb14 := NB458_460.out
     have hnc14 := NB460_458.out
     obtain ⟨hcz15_0, hcz15_1, hcz15_2, hcz15_3⟩ := cells4_ BK458.out
     obtain ⟨hfz15_0, hfz15_1, hfz15_2, hfz15_3⟩ := froz4_ BK458.out
     go_wp2_with (first | ((with_reducible refine gate_callee (f := 9) rfl ?_); refine goesL_ (some 13) rfl rfl Tryz.func9 (by kernel_rfl) rfl #[.agg #[.int .i64 a1_0, .int .u64 a1_1, .string a1_2, .int .i64 a1_3]] rfl (by (try simp only [List.map_toArray, List.map_cons, List.map_nil]); first | done | rfl) ?_; (with_reducible refine (value_Valid.calls a1_0 a1_1 a1_2 a1_3 true _ A8.out).mono ?_); rintro e w16 ⟨rfl, hb⟩; refine ⟨_, rfl, ?_⟩; replace BK458 := sqB_ (g := gb458) (by (with_reducible repeat (first | apply kN_ | apply kD_ | apply kA_)); exact BK458.out) hb; replace BK459 := sqB_ (g := gb459) (by (with_reducible repeat (first | apply kN_ | apply kD_ | apply kA_)); exact BK459.out) hb; replace BK460 := sqB_ (g := gb460) (by (with_reducible repeat (first | apply kN_ | apply kD_ | apply kA_)); exact BK460.out) hb; replace HB := sqS_ (by repeat (first | (with_reducible first | exact HB.out | apply bA_ | apply bN_ | apply bD_ | refine bS_ ?_ GE458.out | refine bS_ ?_ GE459.out | refine bS_ ?_ GE460.out) | exact HB.out)) hb; (try clear hb); (try clear hb2); (try clear hk); (try clear hi); have hnb17 := NB459_460.out; have hnc17 := NB460_459.out; obtain ⟨hcz18_0, hcz18_1, hcz18_2, hcz18_3⟩ := cells4_ BK459.out; obtain ⟨hfz18_0, hfz18_1, hfz18_2, hfz18_3⟩ := froz4_ BK459.out) | (go_at_call 9; (with_reducible refine (value_Valid.calls a2_0 a2_1 a2_2 a2_3 true _ A10.out).mono ?_); rintro e w19 ⟨rfl, hb⟩; replace BK458 := sqB_ (g := gb458) (by (with_reducible repeat (first | apply kN_ | apply kD_ | apply kA_)); exact BK458.out) hb; replace BK459 := sqB_ (g := gb459) (by (with_reducible repeat (first | apply kN_ | apply kD_ | apply kA_)); exact BK459.out) hb; replace BK460 := sqB_ (g := gb460) (by (with_reducible repeat (first | apply kN_ | apply kD_ | apply kA_)); exact BK460.out) hb; replace HB := sqS_ (by repeat (first | (with_reducible first | exact HB.out | apply bA_ | apply bN_ | apply bD_ | refine bS_ ?_ GE458.out | refine bS_ ?_ GE459.out | refine bS_ ?_ GE460.out) | exact HB.out)) hb; (try clear hb); (try clear hb2); (try clear hk); (try clear hi)))
     go_meet
     case rel => exact ⟨_, (true), (by first | rfl | (simp; done) | (simp [*]; done)), H', ⟨by first | omega | exact Nat.le_refl _⟩, ⟨by (with_reducible repeat (first | apply kN_ | apply kD_ | apply kA_)); exact BK458.out⟩, ⟨by (with_reducible repeat (first | apply kN_ | apply kD_ | apply kA_)); exact BK459.out⟩, ⟨by (with_reducible repeat (first | apply kN_ | apply kD_ | apply kA_)); exact BK460.out⟩, ⟨by repeat (first | (with_reducible first | exact HB.out | apply bA_ | apply bN_ | apply bD_ | refine bS_ ?_ GE458.out | refine bS_ ?_ GE459.out | refine bS_ ?_ GE460.out) | exact HB.out)⟩⟩
    ·rw [if_neg c12] at H
     have c12b0 : decide (a0 < 60) = false := decide_eq_false c12
     clear c12
     (first | rw [c12b0] | (simp only [i64_w, i32_w]; rw [c12b0]) | skip)
     have H' := Aside0.mk H
     clear H
     have hnb20 := NB458_459.out
     have hnc20 := NB459_458.out
     have hnb21 := NB458_460.out
     have hnc21 := NB460_458.out
     obtain ⟨hcz22_0, hcz22_1, hcz22_2, hcz22_3⟩ := cells4_ BK458.out
     obtain ⟨hfz22_0, hfz22_1, hfz22_2, hfz22_3⟩ := froz4_ BK458.out
     go_wp2_with (first | ((with_reducible refine gate_callee (f := 9) rfl ?_); refine goesL_ (some 13) rfl rfl Tryz.func9 (by kernel_rfl) rfl #[.agg #[.int .i64 a1_0, .int .u64 a1_1, .string a1_2, .int .i64 a1_3]] rfl (by (try simp only [List.map_toArray, List.map_cons, List.map_nil]); first | done | rfl) ?_; (with_reducible refine (value_Valid.calls a1_0 a1_1 a1_2 a1_3 true _ A8.out).mono ?_); rintro e w23 ⟨rfl, hb⟩; refine ⟨_, rfl, ?_⟩; replace BK458 := sqB_ (g := gb458) (by (with_reducible repeat (first | apply kN_ | apply kD_ | apply kA_)); exact BK458.out) hb; replace BK459 := sqB_ (g := gb459) (by (with_reducible repeat (first | apply kN_ | apply kD_ | apply kA_)); exact BK459.out) hb; replace BK460 := sqB_ (g := gb460) (by (with_reducible repeat (first | apply kN_ | apply kD_ | apply kA_)); exact BK460.out) hb; replace HB := sqS_ (by repeat (first | (with_reducible first | exact HB.out | apply bA_ | apply bN_ | apply bD_ | refine bS_ ?_ GE458.out | refine bS_ ?_ GE459.out | refine bS_ ?_ GE460.out) | exact HB.out)) hb; (try clear hb); (try clear hb2); (try clear hk); (try clear hi); have hnb24 := NB459_460.out; have hnc24 := NB460_459.out; obtain ⟨hcz25_0, hcz25_1, hcz25_2, hcz25_3⟩ := cells4_ BK459.out; obtain ⟨hfz25_0, hfz25_1, hfz25_2, hfz25_3⟩ := froz4_ BK459.out) | (go_at_call 9; (with_reducible refine (value_Valid.calls a2_0 a2_1 a2_2 a2_3 true _ A10.out).mono ?_); rintro e w26 ⟨rfl, hb⟩; replace BK458 := sqB_ (g := gb458) (by (with_reducible repeat (first | apply kN_ | apply kD_ | apply kA_)); exact BK458.out) hb; replace BK459 := sqB_ (g := gb459) (by (with_reducible repeat (first | apply kN_ | apply kD_ | apply kA_)); exact BK459.out) hb; replace BK460 := sqB_ (g := gb460) (by (with_reducible repeat (first | apply kN_ | apply kD_ | apply kA_)); exact BK460.out) hb; replace HB := sqS_ (by repeat (first | (with_reducible first | exact HB.out | apply bA_ | apply bN_ | apply bD_ | refine bS_ ?_ GE458.out | refine bS_ ?_ GE459.out | refine bS_ ?_ GE460.out) | exact HB.out)) hb; (try clear hb); (try clear hb2); (try clear hk); (try clear hi)))
     go_meet
     case rel => exact ⟨_, (decide (a0 > 75)), (by first | rfl | (simp; done) | (simp [*]; done)), H', ⟨by first | omega | exact Nat.le_refl _⟩, ⟨by (with_reducible repeat (first | apply kN_ | apply kD_ | apply kA_)); exact BK458.out⟩, ⟨by (with_reducible repeat (first | apply kN_ | apply kD_ | apply kA_)); exact BK459.out⟩, ⟨by (with_reducible repeat (first | apply kN_ | apply kD_ | apply kA_)); exact BK460.out⟩, ⟨by repeat (first | (with_reducible first | exact HB.out | apply bA_ | apply bN_ | apply bD_ | refine bS_ ?_ GE458.out | refine bS_ ?_ GE459.out | refine bS_ ?_ GE460.out) | exact HB.out)⟩⟩
   ·replace c11 := Bool.eq_false_iff.mpr c11
    subst c11
    have H1 : (value_Binary.j0 k a0 true a1_0 a1_1 a1_2 a1_3 a2_0 a2_1 a2_2 a2_3) = some (r1, r2, r3, r4, r5) := by rw [if_neg (show ¬ (false = true) by decide)] at H; exact H
    clear H
    have H := H1
    clear H1
    have H' := Aside0.mk H
    clear H
    have hnb27 := NB458_459.out
    have hnc27 := NB459_458.out
    have hnb28 := NB458_460.out
    have hnc28 := NB460_458.out
    obtain ⟨hcz29_0, hcz29_1, hcz29_2, hcz29_3⟩ := cells4_ BK458.out
    obtain ⟨hfz29_0, hfz29_1, hfz29_2, hfz29_3⟩ := froz4_ BK458.out
    go_wp2_with (first | ((with_reducible refine gate_callee (f := 9) rfl ?_); refine goesL_ (some 13) rfl rfl Tryz.func9 (by kernel_rfl) rfl #[.agg #[.int .i64 a1_0, .int .u64 a1_1, .string a1_2, .int .i64 a1_3]] rfl (by (try simp only [List.map_toArray, List.map_cons, List.map_nil]); first | done | rfl) ?_; (with_reducible refine (value_Valid.calls a1_0 a1_1 a1_2 a1_3 true _ A8.out).mono ?_); rintro e w30 ⟨rfl, hb⟩; refine ⟨_, rfl, ?_⟩; replace BK458 := sqB_ (g := gb458) (by (with_reducible repeat (first | apply kN_ | apply kD_ | apply kA_)); exact BK458.out) hb; replace BK459 := sqB_ (g := gb459) (by (with_reducible repeat (first | apply kN_ | apply kD_ | apply kA_)); exact BK459.out) hb; replace BK460 := sqB_ (g := gb460) (by (with_reducible repeat (first | apply kN_ | apply kD_ | apply kA_)); exact BK460.out) hb; replace HB := sqS_ (by repeat (first | (with_reducible first | exact HB.out | apply bA_ | apply bN_ | apply bD_ | refine bS_ ?_ GE458.out | refine bS_ ?_ GE459.out | refine bS_ ?_ GE460.out) | exact HB.out)) hb; (try clear hb); (try clear hb2); (try clear hk); (try clear hi); have hnb31 := NB459_460.out; have hnc31 := NB460_459.out; obtain ⟨hcz32_0, hcz32_1, hcz32_2, hcz32_3⟩ := cells4_ BK459.out; obtain ⟨hfz32_0, hfz32_1, hfz32_2, hfz32_3⟩ := froz4_ BK459.out) | (go_at_call 9; (with_reducible refine (value_Valid.calls a2_0 a2_1 a2_2 a2_3 false _ A10.out).mono ?_); rintro e w33 ⟨rfl, hb⟩; replace BK458 := sqB_ (g := gb458) (by (with_reducible repeat (first | apply kN_ | apply kD_ | apply kA_)); exact BK458.out) hb; replace BK459 := sqB_ (g := gb459) (by (with_reducible repeat (first | apply kN_ | apply kD_ | apply kA_)); exact BK459.out) hb; replace BK460 := sqB_ (g := gb460) (by (with_reducible repeat (first | apply kN_ | apply kD_ | apply kA_)); exact BK460.out) hb; replace HB := sqS_ (by repeat (first | (with_reducible first | exact HB.out | apply bA_ | apply bN_ | apply bD_ | refine bS_ ?_ GE458.out | refine bS_ ?_ GE459.out | refine bS_ ?_ GE460.out) | exact HB.out)) hb; (try clear hb); (try clear hb2); (try clear hk); (try clear hi)))
    go_meet
    case rel => exact ⟨_, (true), (by first | rfl | (simp; done) | (simp [*]; done)), H', ⟨by first | omega | exact Nat.le_refl _⟩, ⟨by (with_reducible repeat (first | apply kN_ | apply kD_ | apply kA_)); exact BK458.out⟩, ⟨by (with_reducible repeat (first | apply kN_ | apply kD_ | apply kA_)); exact BK459.out⟩, ⟨by (with_reducible repeat (first | apply kN_ | apply kD_ | apply kA_)); exact BK460.out⟩, ⟨by repeat (first | (with_reducible first | exact HB.out | apply bA_ | apply bN_ | apply bD_ | refine bS_ ?_ GE458.out | refine bS_ ?_ GE459.out | refine bS_ ?_ GE460.out) | exact HB.out)⟩⟩
  ·replace c9 := Bool.eq_false_iff.mpr c9
   subst c9
   have H1 : (value_Binary.j0 k a0 true a1_0 a1_1 a1_2 a1_3 a2_0 a2_1 a2_2 a2_3) = some (r1, r2, r3, r4, r5) := by rw [if_neg (show ¬ (false = true) by decide)] at H; exact H
   clear H
   have H := H1
   clear H1
   have H' := Aside0.mk H
   clear H
   have hnb34 := NB458_459.out
   have hnc34 := NB459_458.out
   have hnb35 := NB458_460.out
   have hnc35 := NB460_458.out
   obtain ⟨hcz36_0, hcz36_1, hcz36_2, hcz36_3⟩ := cells4_ BK458.out
   obtain ⟨hfz36_0, hfz36_1, hfz36_2, hfz36_3⟩ := froz4_ BK458.out
   go_wp2_with (first | ((with_reducible refine gate_callee (f := 9) rfl ?_); refine goesL_ (some 13) rfl rfl Tryz.func9 (by kernel_rfl) rfl #[.agg #[.int .i64 a1_0, .int .u64 a1_1, .string a1_2, .int .i64 a1_3]] rfl (by (try simp only [List.map_toArray, List.map_cons, List.map_nil]); first | done | rfl) ?_; (with_reducible refine (value_Valid.calls a1_0 a1_1 a1_2 a1_3 false _ A8.out).mono ?_); rintro e w37 ⟨rfl, hb⟩; refine ⟨_, rfl, ?_⟩; replace BK458 := sqB_ (g := gb458) (by (with_reducible repeat (first | apply kN_ | apply kD_ | apply kA_)); exact BK458.out) hb; replace BK459 := sqB_ (g := gb459) (by (with_reducible repeat (first | apply kN_ | apply kD_ | apply kA_)); exact BK459.out) hb; replace BK460 := sqB_ (g := gb460) (by (with_reducible repeat (first | apply kN_ | apply kD_ | apply kA_)); exact BK460.out) hb; replace HB := sqS_ (by repeat (first | (with_reducible first | exact HB.out | apply bA_ | apply bN_ | apply bD_ | refine bS_ ?_ GE458.out | refine bS_ ?_ GE459.out | refine bS_ ?_ GE460.out) | exact HB.out)) hb; (try clear hb); (try clear hb2); (try clear hk); (try clear hi)))
   go_meet
   case rel => exact ⟨_, (true), (by first | rfl | (simp; done) | (simp [*]; done)), H', ⟨by first | omega | exact Nat.le_refl _⟩, ⟨by (with_reducible repeat (first | apply kN_ | apply kD_ | apply kA_)); exact BK458.out⟩, ⟨by (with_reducible repeat (first | apply kN_ | apply kD_ | apply kA_)); exact BK459.out⟩, ⟨by (with_reducible repeat (first | apply kN_ | apply kD_ | apply kA_)); exact BK460.out⟩, ⟨by repeat (first | (with_reducible first | exact HB.out | apply bA_ | apply bN_ | apply bD_ | refine bS_ ?_ GE458.out | refine bS_ ?_ GE459.out | refine bS_ ?_ GE460.out) | exact HB.out)⟩⟩
 case rest =>
  clear HC4
  try clear c1
  try clear c2
  try clear p2
  try clear c3
  try clear c9
  try clear c11
  try clear c12
  try clear c12b0
  try clear c13
  try clear c14
  try clear c17
  try clear c20
  try clear c21
  try clear c24
  try clear c27
  try clear c28
  try clear c31
  try clear c32
  try clear c34
  try clear c35
  try clear hcz15_0 hcz15_1 hcz15_2 hcz15_3
  try clear hcz18_0 hcz18_1 hcz18_2 hcz18_3
  try clear hcz22_0 hcz22_1 hcz22_2 hcz22_3
  try clear hcz25_0 hcz25_1 hcz25_2 hcz25_3
  try clear hcz29_0 hcz29_1 hcz29_2 hcz29_3
  try clear hcz32_0 hcz32_1 hcz32_2 hcz32_3
  try clear hcz36_0 hcz36_1 hcz36_2 hcz36_3
  try clear hfz15_0 hfz15_1 hfz15_2 hfz15_3
  try clear hfz18_0 hfz18_1 hfz18_2 hfz18_3
  try clear hfz22_0 hfz22_1 hfz22_2 hfz22_3
  try clear hfz25_0 hfz25_1 hfz25_2 hfz25_3
  try clear hfz29_0 hfz29_1 hfz29_2 hfz29_3
  try clear hfz32_0 hfz32_1 hfz32_2 hfz32_3
  try clear hfz36_0 hfz36_1 hfz36_2 hfz36_3
  obtain ⟨kq, x11_3, rfl, HA, HJ3, BK458, BK459, BK460, HB⟩ := hcut
  cases kq with
  | zero => exact absurd HA.out (by simp [value_Binary.j0])
  | succ kj3 =>
   have H := HA.out
   clear HA
   simp only [value_Binary.j0] at H
   by_cases c38 : x11_3 = true
   ·subst c38
    have H1 : (some (0, 0, (⟨#[]⟩ : ByteArray), 0, 1)) = some (r1, r2, r3, r4, r5) := by rw [if_pos rfl] at H; exact H
    clear H
    have H := H1
    clear H1
    simp only [Option.some.injEq, Prod.mk.injEq] at H
    obtain ⟨rfl, rfl, rfl, rfl, rfl⟩ := H
    have hnb39 := NB460_458.out
    have hnc39 := NB458_460.out
    have hnb40 := NB460_459.out
    have hnc40 := NB459_460.out
    obtain ⟨hcz41_0, hcz41_1, hcz41_2, hcz41_3⟩ := cells4_ BK460.out
    obtain ⟨hfz41_0, hfz41_1, hfz41_2, hfz41_3⟩ := froz4_ BK460.out
    go_wp2
    refine bodyPost_ret (results_ct rfl _ _ gb460 24 #[.int .i64 0, .int .u64 0, .string ⟨#[]⟩, .int .i64 0] (0, 0) _ rfl (by (with_reducible repeat (first | apply kN_ | apply kD_ | apply kA_)); refine blk_put (cs := #[.int .i64 0, .int .u64 0, .string ⟨#[]⟩, .int .i64 0]) ?_ 3 _ rfl; (with_reducible repeat (first | apply kN_ | apply kD_ | apply kA_)); refine blk_put (cs := #[.int .i64 0, .int .u64 0, .string ⟨#[]⟩, .int .i64 0]) ?_ 2 _ rfl; (with_reducible repeat (first | apply kN_ | apply kD_ | apply kA_)); refine blk_put (cs := #[.int .i64 0, .int .u64 0, .string ⟨#[]⟩, .int .i64 0]) ?_ 1 _ rfl; (with_reducible repeat (first | apply kN_ | apply kD_ | apply kA_)); refine blk_put (cs := #[.int .i64 0, .int .u64 0, .string ⟨#[]⟩, .int .i64 0]) ?_ 0 _ rfl; (with_reducible repeat (first | apply kN_ | apply kD_ | apply kA_)); exact BK460.out) Tryz.underlying24 rfl (by kernel_rfl)) rfl ?_
    exact ⟨by first | rfl | (simp [errW_none, errW_some] <;> rfl) | (simp [*, errW_none, errW_some] <;> rfl), by repeat (first | (with_reducible first | exact HB.out | apply bA_ | apply bN_ | apply bD_ | refine bS_ ?_ GE458.out | refine bS_ ?_ GE459.out | refine bS_ ?_ GE460.out) | exact HB.out)⟩
   ·replace c38 := Bool.eq_false_iff.mpr c38
    subst c38
    have H1 : (if a0 ≥ 72 then ((value_matched.f kj3 a0 a1_0 a1_1 a1_2 a1_3 a2_0 a2_1 a2_2 a2_3).bind fun bt463 => (some (bt463.1, bt463.2.1, bt463.2.2.1, bt463.2.2.2.1, bt463.2.2.2.2))) else ((value_Integer.f kj3 a1_0 a1_1 a1_2 a1_3).bind fun bt468 => (if bt468.2 = 0 then ((value_Integer.f kj3 a2_0 a2_1 a2_2 a2_3).bind fun bt470 => (if bt470.2 = 0 then ((value_arithmetic.f a0 bt468.1 bt470.1).bind fun bt472 => (some (bt472.1, bt472.2.1, bt472.2.2.1, bt472.2.2.2.1, bt472.2.2.2.2))) else (some (0, 0, (⟨#[]⟩ : ByteArray), 0, bt470.2)))) else (some (0, 0, (⟨#[]⟩ : ByteArray), 0, bt468.2))))) = some (r1, r2, r3, r4, r5) := by rw [if_neg (show ¬ (false = true) by decide)] at H; exact H
    clear H
    have H := H1
    clear H1
    by_cases c42 : a0 ≥ 72
    ·rw [if_pos c42] at H
     have c42b0 : decide (72 ≤ a0) = true := decide_eq_true c42
     clear c42
     replace H := Option.bind_eq_some_iff.mp H
     obtain ⟨⟨t463, t464, t465, t466, t467⟩, A430, H⟩ := H
     replace H : (some (t463, t464, t465, t466, t467)) = some (r1, r2, r3, r4, r5) := H
     have A43 := Aside0.mk A430
     clear A430
     simp only [Option.some.injEq, Prod.mk.injEq] at H
     obtain ⟨rfl, rfl, rfl, rfl, rfl⟩ := H
     have hnb44 := NB458_459.out
     have hnc44 := NB459_458.out
     have hnb45 := NB458_460.out
     have hnc45 := NB460_458.out
     obtain ⟨hcz46_0, hcz46_1, hcz46_2, hcz46_3⟩ := cells4_ BK458.out
     obtain ⟨hfz46_0, hfz46_1, hfz46_2, hfz46_3⟩ := froz4_ BK458.out
     have hnb47 := NB459_460.out
     have hnc47 := NB460_459.out
     obtain ⟨hcz48_0, hcz48_1, hcz48_2, hcz48_3⟩ := cells4_ BK459.out
     obtain ⟨hfz48_0, hfz48_1, hfz48_2, hfz48_3⟩ := froz4_ BK459.out
     go_wp2_with (first | ((with_reducible refine gate_callee (f := 57) rfl ?_); refine goesL_ (some 35) rfl rfl Tryz.func57 (by kernel_rfl) rfl #[.int .i64 a0, .agg #[.int .i64 a1_0, .int .u64 a1_1, .string a1_2, .int .i64 a1_3], .agg #[.int .i64 a2_0, .int .u64 a2_1, .string a2_2, .int .i64 a2_3]] rfl (by (try simp only [List.map_toArray, List.map_cons, List.map_nil]); first | done | rfl) ?_; (with_reducible refine (value_matched.calls kj3 a0 a1_0 a1_1 a1_2 a1_3 a2_0 a2_1 a2_2 a2_3 t463 t464 t465 t466 t467 _ ?hTT_ A43.out).mono ?_); (case hTT_ => exact tbT_below HTT_.out (by repeat (first | (with_reducible first | exact HB.out | apply bA_ | apply bN_ | apply bD_ | refine bS_ ?_ GE458.out | refine bS_ ?_ GE459.out | refine bS_ ?_ GE460.out) | exact HB.out))); rintro e w49 ⟨rfl, hb⟩; refine ⟨_, rfl, ?_⟩; replace BK458 := sqB_ (g := gb458) (by (with_reducible repeat (first | apply kN_ | apply kD_ | apply kA_)); exact BK458.out) hb; replace BK459 := sqB_ (g := gb459) (by (with_reducible repeat (first | apply kN_ | apply kD_ | apply kA_)); exact BK459.out) hb; replace BK460 := sqB_ (g := gb460) (by (with_reducible repeat (first | apply kN_ | apply kD_ | apply kA_)); exact BK460.out) hb; replace HB := sqS_ (by repeat (first | (with_reducible first | exact HB.out | apply bA_ | apply bN_ | apply bD_ | refine bS_ ?_ GE458.out | refine bS_ ?_ GE459.out | refine bS_ ?_ GE460.out) | exact HB.out)) hb; (try clear hb); (try clear hb2); (try clear hk); (try clear hi); obtain ⟨hcz50_0, hcz50_1, hcz50_2, hcz50_3⟩ := cells4_ BK460.out; obtain ⟨hfz50_0, hfz50_1, hfz50_2, hfz50_3⟩ := froz4_ BK460.out))
     refine bodyPost_ret (results_ct rfl _ _ gb460 24 #[.int .i64 t463, .int .u64 t464, .string t465, .int .i64 t466] (0, 0) _ rfl (by (with_reducible repeat (first | apply kN_ | apply kD_ | apply kA_)); refine blk_put (cs := #[.int .i64 t463, .int .u64 t464, .string t465, .int .i64 0]) ?_ 3 _ rfl; (with_reducible repeat (first | apply kN_ | apply kD_ | apply kA_)); refine blk_put (cs := #[.int .i64 t463, .int .u64 t464, .string ⟨#[]⟩, .int .i64 0]) ?_ 2 _ rfl; (with_reducible repeat (first | apply kN_ | apply kD_ | apply kA_)); refine blk_put (cs := #[.int .i64 t463, .int .u64 0, .string ⟨#[]⟩, .int .i64 0]) ?_ 1 _ rfl; (with_reducible repeat (first | apply kN_ | apply kD_ | apply kA_)); refine blk_put (cs := #[.int .i64 0, .int .u64 0, .string ⟨#[]⟩, .int .i64 0]) ?_ 0 _ rfl; (with_reducible repeat (first | apply kN_ | apply kD_ | apply kA_)); exact BK460.out) Tryz.underlying24 rfl (by kernel_rfl)) rfl ?_
     exact ⟨by first | rfl | (simp [errW_none, errW_some] <;> rfl) | (simp [*, errW_none, errW_some] <;> rfl), by repeat (first | (with_reducible first | exact HB.out | apply bA_ | apply bN_ | apply bD_ | refine bS_ ?_ GE458.out | refine bS_ ?_ GE459.out | refine bS_ ?_ GE460.out) | exact HB.out)⟩
    ·rw [if_neg c42] at H
     have c42b0 : decide (72 ≤ a0) = false := decide_eq_false c42
     clear c42
     replace H := Option.bind_eq_some_iff.mp H
     obtain ⟨⟨t468, t469⟩, A510, H⟩ := H
     replace H : (if t469 = 0 then ((value_Integer.f kj3 a2_0 a2_1 a2_2 a2_3).bind fun bt470 => (if bt470.2 = 0 then ((value_arithmetic.f a0 t468 bt470.1).bind fun bt472 => (some (bt472.1, bt472.2.1, bt472.2.2.1, bt472.2.2.2.1, bt472.2.2.2.2))) else (some (0, 0, (⟨#[]⟩ : ByteArray), 0, bt470.2)))) else (some (0, 0, (⟨#[]⟩ : ByteArray), 0, t469))) = some (r1, r2, r3, r4, r5) := H
     have A51 := Aside0.mk A510
     clear A510
     by_cases c52 : t469 = 0
     ·rw [if_pos c52] at H
      have c52b0 : (t469 == 0) = true := beq_iff_eq.mpr c52
      have c52b1 : (t469 != 0) = false := bne_eq_false_iff_eq.mpr c52
      clear c52
      replace H := Option.bind_eq_some_iff.mp H
      obtain ⟨⟨t470, t471⟩, A530, H⟩ := H
      replace H : (if t471 = 0 then ((value_arithmetic.f a0 t468 t470).bind fun bt472 => (some (bt472.1, bt472.2.1, bt472.2.2.1, bt472.2.2.2.1, bt472.2.2.2.2))) else (some (0, 0, (⟨#[]⟩ : ByteArray), 0, t471))) = some (r1, r2, r3, r4, r5) := H
      have A53 := Aside0.mk A530
      clear A530
      by_cases c54 : t471 = 0
      ·rw [if_pos c54] at H
       have c54b0 : (t471 == 0) = true := beq_iff_eq.mpr c54
       have c54b1 : (t471 != 0) = false := bne_eq_false_iff_eq.mpr c54
       clear c54
       replace H := Option.bind_eq_some_iff.mp H
       obtain ⟨⟨t472, t473, t474, t475, t476⟩, A550, H⟩ := H
       replace H : (some (t472, t473, t474, t475, t476)) = some (r1, r2, r3, r4, r5) := H
       have A55 := Aside0.mk A550
       clear A550
       simp only [Option.some.injEq, Prod.mk.injEq] at H
       obtain ⟨rfl, rfl, rfl, rfl, rfl⟩ := H
       have hnb56 := NB458_459.out
       have hnc56 := NB459_458.out
       have hnb57 := NB458_460.out
       have hnc57 := NB460_458.out
       obtain ⟨hcz58_0, hcz58_1, hcz58_2, hcz58_3⟩ := cells4_ BK458.out
       obtain ⟨hfz58_0, hfz58_1, hfz58_2, hfz58_3⟩ := froz4_ BK458.out
       go_wp2_with (first | ((with_reducible refine gate_callee (f := 10) rfl ?_); refine goesL_ (some 40) rfl rfl Tryz.func10 (by kernel_rfl) rfl #[.agg #[.int .i64 a1_0, .int .u64 a1_1, .string a1_2, .int .i64 a1_3]] rfl (by (try simp only [List.map_toArray, List.map_cons, List.map_nil]); first | done | rfl) ?_; (with_reducible refine (value_Integer.calls kj3 a1_0 a1_1 a1_2 a1_3 t468 t469 _ A51.out).mono ?_); rintro e w59 ⟨rfl, hb⟩; refine ⟨_, rfl, ?_⟩; replace BK458 := sqB_ (g := gb458) (by (with_reducible repeat (first | apply kN_ | apply kD_ | apply kA_)); exact BK458.out) hb; replace BK459 := sqB_ (g := gb459) (by (with_reducible repeat (first | apply kN_ | apply kD_ | apply kA_)); exact BK459.out) hb; replace BK460 := sqB_ (g := gb460) (by (with_reducible repeat (first | apply kN_ | apply kD_ | apply kA_)); exact BK460.out) hb; replace HB := sqS_ (by repeat (first | (with_reducible first | exact HB.out | apply bA_ | apply bN_ | apply bD_ | refine bS_ ?_ GE458.out | refine bS_ ?_ GE459.out | refine bS_ ?_ GE460.out) | exact HB.out)) hb; (try clear hb); (try clear hb2); (try clear hk); (try clear hi); have hnb60 := NB459_460.out; have hnc60 := NB460_459.out; obtain ⟨hcz61_0, hcz61_1, hcz61_2, hcz61_3⟩ := cells4_ BK459.out; obtain ⟨hfz61_0, hfz61_1, hfz61_2, hfz61_3⟩ := froz4_ BK459.out) | ((with_reducible refine gate_callee (f := 10) rfl ?_); refine goesL_ (some 49) rfl rfl Tryz.func10 (by kernel_rfl) rfl #[.agg #[.int .i64 a2_0, .int .u64 a2_1, .string a2_2, .int .i64 a2_3]] rfl (by (try simp only [List.map_toArray, List.map_cons, List.map_nil]); first | done | rfl) ?_; (with_reducible refine (value_Integer.calls kj3 a2_0 a2_1 a2_2 a2_3 t470 t471 _ A53.out).mono ?_); rintro e w62 ⟨rfl, hb⟩; refine ⟨_, rfl, ?_⟩; replace BK458 := sqB_ (g := gb458) (by (with_reducible repeat (first | apply kN_ | apply kD_ | apply kA_)); exact BK458.out) hb; replace BK459 := sqB_ (g := gb459) (by (with_reducible repeat (first | apply kN_ | apply kD_ | apply kA_)); exact BK459.out) hb; replace BK460 := sqB_ (g := gb460) (by (with_reducible repeat (first | apply kN_ | apply kD_ | apply kA_)); exact BK460.out) hb; replace HB := sqS_ (by repeat (first | (with_reducible first | exact HB.out | apply bA_ | apply bN_ | apply bD_ | refine bS_ ?_ GE458.out | refine bS_ ?_ GE459.out | refine bS_ ?_ GE460.out) | exact HB.out)) hb; (try clear hb); (try clear hb2); (try clear hk); (try clear hi)) | ((with_reducible refine gate_callee (f := 58) rfl ?_); refine goesL_ (some 59) rfl rfl Tryz.func58 (by kernel_rfl) rfl #[.int .i64 a0, .int .u64 t468, .int .u64 t470] rfl (by (try simp only [List.map_toArray, List.map_cons, List.map_nil]); first | done | rfl) ?_; (with_reducible refine (value_arithmetic.calls a0 t468 t470 t472 t473 t474 t475 t476 _ A55.out).mono ?_); rintro e w63 ⟨rfl, hb⟩; refine ⟨_, rfl, ?_⟩; replace BK458 := sqB_ (g := gb458) (by (with_reducible repeat (first | apply kN_ | apply kD_ | apply kA_)); exact BK458.out) hb; replace BK459 := sqB_ (g := gb459) (by (with_reducible repeat (first | apply kN_ | apply kD_ | apply kA_)); exact BK459.out) hb; replace BK460 := sqB_ (g := gb460) (by (with_reducible repeat (first | apply kN_ | apply kD_ | apply kA_)); exact BK460.out) hb; replace HB := sqS_ (by repeat (first | (with_reducible first | exact HB.out | apply bA_ | apply bN_ | apply bD_ | refine bS_ ?_ GE458.out | refine bS_ ?_ GE459.out | refine bS_ ?_ GE460.out) | exact HB.out)) hb; (try clear hb); (try clear hb2); (try clear hk); (try clear hi); obtain ⟨hcz64_0, hcz64_1, hcz64_2, hcz64_3⟩ := cells4_ BK460.out; obtain ⟨hfz64_0, hfz64_1, hfz64_2, hfz64_3⟩ := froz4_ BK460.out))
       refine bodyPost_ret (results_ct rfl _ _ gb460 24 #[.int .i64 t472, .int .u64 t473, .string t474, .int .i64 t475] (0, 0) _ rfl (by (with_reducible repeat (first | apply kN_ | apply kD_ | apply kA_)); refine blk_put (cs := #[.int .i64 t472, .int .u64 t473, .string t474, .int .i64 0]) ?_ 3 _ rfl; (with_reducible repeat (first | apply kN_ | apply kD_ | apply kA_)); refine blk_put (cs := #[.int .i64 t472, .int .u64 t473, .string ⟨#[]⟩, .int .i64 0]) ?_ 2 _ rfl; (with_reducible repeat (first | apply kN_ | apply kD_ | apply kA_)); refine blk_put (cs := #[.int .i64 t472, .int .u64 0, .string ⟨#[]⟩, .int .i64 0]) ?_ 1 _ rfl; (with_reducible repeat (first | apply kN_ | apply kD_ | apply kA_)); refine blk_put (cs := #[.int .i64 0, .int .u64 0, .string ⟨#[]⟩, .int .i64 0]) ?_ 0 _ rfl; (with_reducible repeat (first | apply kN_ | apply kD_ | apply kA_)); exact BK460.out) Tryz.underlying24 rfl (by kernel_rfl)) rfl ?_
       exact ⟨by first | rfl | (simp [errW_none, errW_some] <;> rfl) | (simp [*, errW_none, errW_some] <;> rfl), by repeat (first | (with_reducible first | exact HB.out | apply bA_ | apply bN_ | apply bD_ | refine bS_ ?_ GE458.out | refine bS_ ?_ GE459.out | refine bS_ ?_ GE460.out) | exact HB.out)⟩
      ·rw [if_neg c54] at H
       have c54b0 : (t471 == 0) = false := beq_eq_false_iff_ne.mpr c54
       have c54b1 : (t471 != 0) = true := bne_iff_ne.mpr c54
       simp only [Option.some.injEq, Prod.mk.injEq] at H
       obtain ⟨rfl, rfl, rfl, rfl, rfl⟩ := H
       have hnb65 := NB458_459.out
       have hnc65 := NB459_458.out
       have hnb66 := NB458_460.out
       have hnc66 := NB460_458.out
       obtain ⟨hcz67_0, hcz67_1, hcz67_2, hcz67_3⟩ := cells4_ BK458.out
       obtain ⟨hfz67_0, hfz67_1, hfz67_2, hfz67_3⟩ := froz4_ BK458.out
       go_wp2_with (first | ((with_reducible refine gate_callee (f := 10) rfl ?_); refine goesL_ (some 40) rfl rfl Tryz.func10 (by kernel_rfl) rfl #[.agg #[.int .i64 a1_0, .int .u64 a1_1, .string a1_2, .int .i64 a1_3]] rfl (by (try simp only [List.map_toArray, List.map_cons, List.map_nil]); first | done | rfl) ?_; (with_reducible refine (value_Integer.calls kj3 a1_0 a1_1 a1_2 a1_3 t468 t469 _ A51.out).mono ?_); rintro e w68 ⟨rfl, hb⟩; refine ⟨_, rfl, ?_⟩; replace BK458 := sqB_ (g := gb458) (by (with_reducible repeat (first | apply kN_ | apply kD_ | apply kA_)); exact BK458.out) hb; replace BK459 := sqB_ (g := gb459) (by (with_reducible repeat (first | apply kN_ | apply kD_ | apply kA_)); exact BK459.out) hb; replace BK460 := sqB_ (g := gb460) (by (with_reducible repeat (first | apply kN_ | apply kD_ | apply kA_)); exact BK460.out) hb; replace HB := sqS_ (by repeat (first | (with_reducible first | exact HB.out | apply bA_ | apply bN_ | apply bD_ | refine bS_ ?_ GE458.out | refine bS_ ?_ GE459.out | refine bS_ ?_ GE460.out) | exact HB.out)) hb; (try clear hb); (try clear hb2); (try clear hk); (try clear hi); have hnb69 := NB459_460.out; have hnc69 := NB460_459.out; obtain ⟨hcz70_0, hcz70_1, hcz70_2, hcz70_3⟩ := cells4_ BK459.out; obtain ⟨hfz70_0, hfz70_1, hfz70_2, hfz70_3⟩ := froz4_ BK459.out) | ((with_reducible refine gate_callee (f := 10) rfl ?_); refine goesL_ (some 49) rfl rfl Tryz.func10 (by kernel_rfl) rfl #[.agg #[.int .i64 a2_0, .int .u64 a2_1, .string a2_2, .int .i64 a2_3]] rfl (by (try simp only [List.map_toArray, List.map_cons, List.map_nil]); first | done | rfl) ?_; (with_reducible refine (value_Integer.calls kj3 a2_0 a2_1 a2_2 a2_3 t470 t471 _ A53.out).mono ?_); rintro e w71 ⟨rfl, hb⟩; refine ⟨_, rfl, ?_⟩; replace BK458 := sqB_ (g := gb458) (by (with_reducible repeat (first | apply kN_ | apply kD_ | apply kA_)); exact BK458.out) hb; replace BK459 := sqB_ (g := gb459) (by (with_reducible repeat (first | apply kN_ | apply kD_ | apply kA_)); exact BK459.out) hb; replace BK460 := sqB_ (g := gb460) (by (with_reducible repeat (first | apply kN_ | apply kD_ | apply kA_)); exact BK460.out) hb; replace HB := sqS_ (by repeat (first | (with_reducible first | exact HB.out | apply bA_ | apply bN_ | apply bD_ | refine bS_ ?_ GE458.out | refine bS_ ?_ GE459.out | refine bS_ ?_ GE460.out) | exact HB.out)) hb; (try clear hb); (try clear hb2); (try clear hk); (try clear hi); obtain ⟨hcz72_0, hcz72_1, hcz72_2, hcz72_3⟩ := cells4_ BK460.out; obtain ⟨hfz72_0, hfz72_1, hfz72_2, hfz72_3⟩ := froz4_ BK460.out))
       refine bodyPost_ret (results_ct rfl _ _ gb460 24 #[.int .i64 0, .int .u64 0, .string ⟨#[]⟩, .int .i64 0] (0, 0) _ rfl (by (with_reducible repeat (first | apply kN_ | apply kD_ | apply kA_)); refine blk_put (cs := #[.int .i64 0, .int .u64 0, .string ⟨#[]⟩, .int .i64 0]) ?_ 3 _ rfl; (with_reducible repeat (first | apply kN_ | apply kD_ | apply kA_)); refine blk_put (cs := #[.int .i64 0, .int .u64 0, .string ⟨#[]⟩, .int .i64 0]) ?_ 2 _ rfl; (with_reducible repeat (first | apply kN_ | apply kD_ | apply kA_)); refine blk_put (cs := #[.int .i64 0, .int .u64 0, .string ⟨#[]⟩, .int .i64 0]) ?_ 1 _ rfl; (with_reducible repeat (first | apply kN_ | apply kD_ | apply kA_)); refine blk_put (cs := #[.int .i64 0, .int .u64 0, .string ⟨#[]⟩, .int .i64 0]) ?_ 0 _ rfl; (with_reducible repeat (first | apply kN_ | apply kD_ | apply kA_)); exact BK460.out) Tryz.underlying24 rfl (by kernel_rfl)) rfl ?_
       exact ⟨by first | rfl | (simp [errW_none, errW_some] <;> rfl) | (simp [*, errW_none, errW_some] <;> rfl), by repeat (first | (with_reducible first | exact HB.out | apply bA_ | apply bN_ | apply bD_ | refine bS_ ?_ GE458.out | refine bS_ ?_ GE459.out | refine bS_ ?_ GE460.out) | exact HB.out)⟩
     ·rw [if_neg c52] at H
      have c52b0 : (t469 == 0) = false := beq_eq_false_iff_ne.mpr c52
      have c52b1 : (t469 != 0) = true := bne_iff_ne.mpr c52
      simp only [Option.some.injEq, Prod.mk.injEq] at H
      obtain ⟨rfl, rfl, rfl, rfl, rfl⟩ := H
      have hnb73 := NB458_459.out
      have hnc73 := NB459_458.out
      have hnb74 := NB458_460.out
      have hnc74 := NB460_458.out
      obtain ⟨hcz75_0, hcz75_1, hcz75_2, hcz75_3⟩ := cells4_ BK458.out
      obtain ⟨hfz75_0, hfz75_1, hfz75_2, hfz75_3⟩ := froz4_ BK458.out
      go_wp2_with (first | ((with_reducible refine gate_callee (f := 10) rfl ?_); refine goesL_ (some 40) rfl rfl Tryz.func10 (by kernel_rfl) rfl #[.agg #[.int .i64 a1_0, .int .u64 a1_1, .string a1_2, .int .i64 a1_3]] rfl (by (try simp only [List.map_toArray, List.map_cons, List.map_nil]); first | done | rfl) ?_; (with_reducible refine (value_Integer.calls kj3 a1_0 a1_1 a1_2 a1_3 t468 t469 _ A51.out).mono ?_); rintro e w76 ⟨rfl, hb⟩; refine ⟨_, rfl, ?_⟩; replace BK458 := sqB_ (g := gb458) (by (with_reducible repeat (first | apply kN_ | apply kD_ | apply kA_)); exact BK458.out) hb; replace BK459 := sqB_ (g := gb459) (by (with_reducible repeat (first | apply kN_ | apply kD_ | apply kA_)); exact BK459.out) hb; replace BK460 := sqB_ (g := gb460) (by (with_reducible repeat (first | apply kN_ | apply kD_ | apply kA_)); exact BK460.out) hb; replace HB := sqS_ (by repeat (first | (with_reducible first | exact HB.out | apply bA_ | apply bN_ | apply bD_ | refine bS_ ?_ GE458.out | refine bS_ ?_ GE459.out | refine bS_ ?_ GE460.out) | exact HB.out)) hb; (try clear hb); (try clear hb2); (try clear hk); (try clear hi); have hnb77 := NB460_459.out; have hnc77 := NB459_460.out; obtain ⟨hcz78_0, hcz78_1, hcz78_2, hcz78_3⟩ := cells4_ BK460.out; obtain ⟨hfz78_0, hfz78_1, hfz78_2, hfz78_3⟩ := froz4_ BK460.out))
      refine bodyPost_ret (results_ct rfl _ _ gb460 24 #[.int .i64 0, .int .u64 0, .string ⟨#[]⟩, .int .i64 0] (0, 0) _ rfl (by (with_reducible repeat (first | apply kN_ | apply kD_ | apply kA_)); refine blk_put (cs := #[.int .i64 0, .int .u64 0, .string ⟨#[]⟩, .int .i64 0]) ?_ 3 _ rfl; (with_reducible repeat (first | apply kN_ | apply kD_ | apply kA_)); refine blk_put (cs := #[.int .i64 0, .int .u64 0, .string ⟨#[]⟩, .int .i64 0]) ?_ 2 _ rfl; (with_reducible repeat (first | apply kN_ | apply kD_ | apply kA_)); refine blk_put (cs := #[.int .i64 0, .int .u64 0, .string ⟨#[]⟩, .int .i64 0]) ?_ 1 _ rfl; (with_reducible repeat (first | apply kN_ | apply kD_ | apply kA_)); refine blk_put (cs := #[.int .i64 0, .int .u64 0, .string ⟨#[]⟩, .int .i64 0]) ?_ 0 _ rfl; (with_reducible repeat (first | apply kN_ | apply kD_ | apply kA_)); exact BK460.out) Tryz.underlying24 rfl (by kernel_rfl)) rfl ?_
      exact ⟨by first | rfl | (simp [errW_none, errW_some] <;> rfl) | (simp [*, errW_none, errW_some] <;> rfl), by repeat (first | (with_reducible first | exact HB.out | apply bA_ | apply bN_ | apply bD_ | refine bS_ ?_ GE458.out | refine bS_ ?_ GE459.out | refine bS_ ?_ GE460.out) | exact HB.out)⟩

end Go.Proofs.YtdmeglmmihaonaaGreatDoor.PValueUnary
