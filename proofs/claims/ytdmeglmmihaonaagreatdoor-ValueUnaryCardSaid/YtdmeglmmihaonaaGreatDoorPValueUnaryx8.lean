-- Written by a program of this session's (wip/print_patch.py over the kit's print) out of the translation; Lean checks it.
import Derived.Test.YtdmeglmmihaonaaGreatDoorPValueUnaryx0
import Derived.Test.YtdmeglmmihaonaaGreatDoorPValueUnaryx4
import Derived.Test.YtdmeglmmihaonaaGreatDoorPValueUnaryx5
import Derived.Test.YtdmeglmmihaonaaGreatDoorPValueUnaryx6
import Derived.Test.YtdmeglmmihaonaaGreatDoorPValueUnaryx7
import Derived.Test.YtdmeglmmihaonaaGreatDoorVValueUnaryExtS
namespace Go.Proofs.YtdmeglmmihaonaaGreatDoor.PValueUnary
open Go.RowKit Go.Proofs.YtdmeglmmihaonaaGreatDoor.Ext Go.Proofs.YtdmeglmmihaonaaGreatDoorW.PrintWords Go.Proofs.YtdmeglmmihaonaaGreatDoorW.PrintLast Go.Proofs.YtdmeglmmihaonaaGreatDoorW.PrintMore
attribute [local go_sem] max2_int min2_int max_two min_two max_three min_three max_four min_four   -- for this text's walks alone
set_option linter.unusedVariables false
set_option linter.unusedSimpArgs false

/-! ### platformfwref08_written: function 31 -/
def platformfwref08_written.f (k : Nat) (a0_0 : Int) (a0_1 : Int) (a0_2 : ByteArray) (a0_3 : Int) (a1 : ByteArray) (a2 : Int) (a3 : Int) : Option (Int × Int × ByteArray × Int × Int) := if a0_0 = 1 then ((platformfwref08_digits.f k a0_1 a2 1).bind fun t285 => (if a1.size + t285.size ≤ 9223372036854775807 then ((platformfwref08_bounded.f (a1 ++ t285)).bind fun bt286 => (if bt286.2 = 0 then (some (2, 0, bt286.1, 0, 0)) else (some (0, 0, (⟨#[]⟩ : ByteArray), 0, bt286.2)))) else (none))) else (if a0_0 = 3 then ((platformfwref08_list.f k a0_2 a1 (⟨#[44]⟩ : ByteArray) a2 a3).bind fun t288 => ((platformfwref08_bounded.f t288).bind fun bt289 => (if bt289.2 = 0 then (some (2, 0, bt289.1, 0, 0)) else (some (0, 0, (⟨#[]⟩ : ByteArray), 0, bt289.2))))) else (if a0_0 = 2 then ((platformfwref08_bounded.f a0_2).bind fun bt291 => (if bt291.2 = 0 then (some (2, 0, bt291.1, 0, 0)) else (some (0, 0, (⟨#[]⟩ : ByteArray), 0, bt291.2)))) else (some (0, 0, (⟨#[]⟩ : ByteArray), 0, 10))))
theorem platformfwref08_written.mono : ∀ a0 a1 a2 a3 a4 a5 a6 k, LeO (platformfwref08_written.f k a0 a1 a2 a3 a4 a5 a6) (platformfwref08_written.f (k + 1) a0 a1 a2 a3 a4 a5 a6) := by
 intro a0 a1 a2 a3 a4 a5 a6 k
 unfold platformfwref08_written.f
 repeat' first
   | (with_reducible exact platformfwref08_digits.mono _ _ _ _)
   | (with_reducible exact platformfwref08_list.mono _ _ _ _ _ _)
   | (with_reducible exact LeO.refl _)
   | (with_reducible exact LeO.none _)
   | (with_reducible refine LeO.ite ?_ ?_)
   | (with_reducible refine LeO.bind ?_ (fun _ => ?_))
   | exact platformfwref08_digits.mono _ _ _ _
   | exact platformfwref08_list.mono _ _ _ _ _ _
   | exact LeO.none _
   | refine LeO.ite ?_ ?_
   | refine LeO.bind ?_ (fun _ => ?_)
set_option maxHeartbeats 8000000 in
set_option maxRecDepth 100000 in
theorem platformfwref08_written.calls (k : Nat) (a0_0 : Int) (a0_1 : Int) (a0_2 : ByteArray) (a0_3 : Int) (a1 : ByteArray) (a2 : Int) (a3 : Int) (r1 : Int) (r2 : Int) (r3 : ByteArray) (r4 : Int) (r5 : Int) (w : World) (h : platformfwref08_written.f k a0_0 a0_1 a0_2 a0_3 a1 a2 a3 = some (r1, r2, r3, r4, r5)) :
  Calls Tryz.prog 31 #[.agg #[.int .i64 a0_0, .int .u64 a0_1, .string a0_2, .int .i64 a0_3], .string a1, .int .u64 a2, .int .i64 a3] w fun e w' => e = .returned (.tuple #[.agg #[.int .i64 r1, .int .u64 r2, .string r3, .int .i64 r4], .int .i64 r5]) ∧ Below w.heap.size w w' := by
 have hu24 := Tryz.underlying24
 have HB := Aside0.mk (Below.refl w.heap.size w)
 have H : (if a0_0 = 1 then ((platformfwref08_digits.f k a0_1 a2 1).bind fun t285 => (if a1.size + t285.size ≤ 9223372036854775807 then ((platformfwref08_bounded.f (a1 ++ t285)).bind fun bt286 => (if bt286.2 = 0 then (some (2, 0, bt286.1, 0, 0)) else (some (0, 0, (⟨#[]⟩ : ByteArray), 0, bt286.2)))) else (none))) else (if a0_0 = 3 then ((platformfwref08_list.f k a0_2 a1 (⟨#[44]⟩ : ByteArray) a2 a3).bind fun t288 => ((platformfwref08_bounded.f t288).bind fun bt289 => (if bt289.2 = 0 then (some (2, 0, bt289.1, 0, 0)) else (some (0, 0, (⟨#[]⟩ : ByteArray), 0, bt289.2))))) else (if a0_0 = 2 then ((platformfwref08_bounded.f a0_2).bind fun bt291 => (if bt291.2 = 0 then (some (2, 0, bt291.1, 0, 0)) else (some (0, 0, (⟨#[]⟩ : ByteArray), 0, bt291.2)))) else (some (0, 0, (⟨#[]⟩ : ByteArray), 0, 10))))) = some (r1, r2, r3, r4, r5) := h
 clear h
 by_cases c5 : a0_0 = 1
 ·rw [if_pos c5] at H
  have c5b0 : (a0_0 == 1) = true := beq_iff_eq.mpr c5
  have c5b1 : (a0_0 != 1) = false := bne_eq_false_iff_eq.mpr c5
  clear c5
  replace H := Option.bind_eq_some_iff.mp H
  obtain ⟨t285, A60, H⟩ := H
  replace H : (if a1.size + t285.size ≤ 9223372036854775807 then ((platformfwref08_bounded.f (a1 ++ t285)).bind fun bt286 => (if bt286.2 = 0 then (some (2, 0, bt286.1, 0, 0)) else (some (0, 0, (⟨#[]⟩ : ByteArray), 0, bt286.2)))) else (none)) = some (r1, r2, r3, r4, r5) := H
  have A6 := Aside0.mk A60
  clear A60
  by_cases c7 : a1.size + t285.size ≤ 9223372036854775807
  ·rw [if_pos c7] at H
   have c7b0 := eq_true c7
   have c7b1 : decide (a1.size + t285.size ≤ 9223372036854775807) = true := decide_eq_true c7
   try have c7b2 : (9223372036854775807 < a1.size + t285.size) = False := eq_false (Nat.not_lt.2 c7)
   clear c7
   replace H := Option.bind_eq_some_iff.mp H
   obtain ⟨⟨t286, t287⟩, A80, H⟩ := H
   replace H : (if t287 = 0 then (some (2, 0, t286, 0, 0)) else (some (0, 0, (⟨#[]⟩ : ByteArray), 0, t287))) = some (r1, r2, r3, r4, r5) := H
   have A8 := Aside0.mk A80
   clear A80
   by_cases c9 : t287 = 0
   ·rw [if_pos c9] at H
    have c9b0 : (t287 == 0) = true := beq_iff_eq.mpr c9
    have c9b1 : (t287 != 0) = false := bne_eq_false_iff_eq.mpr c9
    clear c9
    simp only [Option.some.injEq, Prod.mk.injEq] at H
    obtain ⟨rfl, rfl, rfl, rfl, rfl⟩ := H
    go_enter Tryz.func31, Tryz.ntmps31
    go_wp2_with (first | ((with_reducible refine gate_dst (N := 4) rfl ?_); refine box_event ?hg (N := 4) ?hd (cs := #[.int .i64 a0_0, .int .u64 a0_1, .string a0_2, .int .i64 a0_3]) (t := 24) ?hr ?_; (case hd => rfl); (case hg => rfl); (case hr => first | (go_simp; done) | (go_simp; rfl)); intro gb283 hg w10 hbox hb; replace HB := sqN_ (by repeat (first | (with_reducible first | exact HB.out | apply bA_ | apply bN_ | apply bD_) | exact HB.out)) hg hb; obtain ⟨HB, GE283⟩ := HB; have BK283 := Aside0.mk hbox; clear hb hbox hg) | ((with_reducible refine gate_dst (N := 8) rfl ?_); refine box_event ?hg (N := 8) ?hd (cs := #[.int .i64 0, .int .u64 0, .string ⟨#[]⟩, .int .i64 0]) (t := 24) ?hr ?_; (case hd => rfl); (case hg => rfl); (case hr => first | (go_simp; done) | (go_simp; rfl)); intro gb284 hg w11 hbox hb; replace BK283 := sqO_ (g := gb283) (by (with_reducible repeat (first | apply kN_ | apply kD_ | apply kA_)); exact BK283.out) hg hb; obtain ⟨BK283, NB283_284, NB284_283⟩ := BK283; replace HB := sqN_ (by repeat (first | (with_reducible first | exact HB.out | apply bA_ | apply bN_ | apply bD_ | refine bS_ ?_ GE283.out) | exact HB.out)) hg hb; obtain ⟨HB, GE284⟩ := HB; have BK284 := Aside0.mk hbox; clear hb hbox hg; have hnb12 := NB283_284.out; have hnc12 := NB284_283.out; obtain ⟨hcz13_0, hcz13_1, hcz13_2, hcz13_3⟩ := cells4_ BK283.out; obtain ⟨hfz13_0, hfz13_1, hfz13_2, hfz13_3⟩ := froz4_ BK283.out) | ((with_reducible refine gate_callee (f := 54) rfl ?_); refine goesL_ (some 23) rfl rfl Tryz.func54 (by kernel_rfl) rfl #[.int .u64 a0_1, .int .u64 a2, .int .i64 1] rfl (by (try simp only [List.map_toArray, List.map_cons, List.map_nil]); first | done | rfl) ?_; (with_reducible refine (platformfwref08_digits.calls k a0_1 a2 1 t285 _ A6.out).mono ?_); rintro e w' ⟨rfl, ⟨nd, rfl⟩⟩; refine ⟨_, rfl, ?_⟩; (try (rw [drewN_self w11]; generalize hq_ : World.drewN w11 _ = w11; have n0_ : Aside0 (w11.heap[gb283]? = some (.cells #[.int .i64 a0_0, .int .u64 a0_1, .string a0_2, .int .i64 a0_3] 24 (0, 0))) := ⟨by rw [← hq_]; exact (by (with_reducible repeat (first | apply kN_ | apply kD_ | apply kA_)); exact BK283.out)⟩; have n1_ : Aside0 (w11.heap[gb284]? = some (.cells #[.int .i64 0, .int .u64 0, .string ⟨#[]⟩, .int .i64 0] 24 (0, 0))) := ⟨by rw [← hq_]; exact (by (with_reducible repeat (first | apply kN_ | apply kD_ | apply kA_)); exact BK284.out)⟩; have n2_ : Aside0 (Below w.heap.size w w11) := ⟨by rw [← hq_]; exact (by repeat (first | (with_reducible first | exact HB.out | apply bA_ | apply bN_ | apply bD_ | refine bS_ ?_ GE283.out | refine bS_ ?_ GE284.out) | exact HB.out))⟩; clear BK283 BK284 HB hq_; have BK283 := n0_; have BK284 := n1_; have HB := n2_; clear n0_ n1_ n2_))) | ((with_reducible refine gate_callee (f := 56) rfl ?_); refine goesL_ (some 37) rfl rfl Tryz.func56 (by kernel_rfl) rfl #[.string (a1 ++ t285)] rfl (by (try simp only [List.map_toArray, List.map_cons, List.map_nil]); first | done | rfl) ?_; (with_reducible refine (platformfwref08_bounded.calls (a1 ++ t285) t286 t287 _ A8.out).mono ?_); rintro e w' ⟨rfl, ⟨nd, rfl⟩⟩; refine ⟨_, rfl, ?_⟩; (try (rw [drewN_self w11]; generalize hq_ : World.drewN w11 _ = w11; have n0_ : Aside0 (w11.heap[gb283]? = some (.cells #[.int .i64 a0_0, .int .u64 a0_1, .string a0_2, .int .i64 a0_3] 24 (0, 0))) := ⟨by rw [← hq_]; exact (by (with_reducible repeat (first | apply kN_ | apply kD_ | apply kA_)); exact BK283.out)⟩; have n1_ : Aside0 (w11.heap[gb284]? = some (.cells #[.int .i64 0, .int .u64 0, .string ⟨#[]⟩, .int .i64 0] 24 (0, 0))) := ⟨by rw [← hq_]; exact (by (with_reducible repeat (first | apply kN_ | apply kD_ | apply kA_)); exact BK284.out)⟩; have n2_ : Aside0 (Below w.heap.size w w11) := ⟨by rw [← hq_]; exact (by repeat (first | (with_reducible first | exact HB.out | apply bA_ | apply bN_ | apply bD_ | refine bS_ ?_ GE283.out | refine bS_ ?_ GE284.out) | exact HB.out))⟩; clear BK283 BK284 HB hq_; have BK283 := n0_; have BK284 := n1_; have HB := n2_; clear n0_ n1_ n2_)); obtain ⟨hcz14_0, hcz14_1, hcz14_2, hcz14_3⟩ := cells4_ BK284.out; obtain ⟨hfz14_0, hfz14_1, hfz14_2, hfz14_3⟩ := froz4_ BK284.out))
    refine bodyPost_ret (results_ct rfl _ _ gb284 24 #[.int .i64 2, .int .u64 0, .string t286, .int .i64 0] (0, 0) _ rfl (by (with_reducible repeat (first | apply kN_ | apply kD_ | apply kA_)); refine blk_put (cs := #[.int .i64 2, .int .u64 0, .string t286, .int .i64 0]) ?_ 3 _ rfl; (with_reducible repeat (first | apply kN_ | apply kD_ | apply kA_)); refine blk_put (cs := #[.int .i64 2, .int .u64 0, .string ⟨#[]⟩, .int .i64 0]) ?_ 2 _ rfl; (with_reducible repeat (first | apply kN_ | apply kD_ | apply kA_)); refine blk_put (cs := #[.int .i64 2, .int .u64 0, .string ⟨#[]⟩, .int .i64 0]) ?_ 1 _ rfl; (with_reducible repeat (first | apply kN_ | apply kD_ | apply kA_)); refine blk_put (cs := #[.int .i64 0, .int .u64 0, .string ⟨#[]⟩, .int .i64 0]) ?_ 0 _ rfl; (with_reducible repeat (first | apply kN_ | apply kD_ | apply kA_)); exact BK284.out) Tryz.underlying24 rfl (by kernel_rfl)) rfl ?_
    exact ⟨by first | rfl | (simp [errW_none, errW_some] <;> rfl) | (simp [*, errW_none, errW_some] <;> rfl), by repeat (first | (with_reducible first | exact HB.out | apply bA_ | apply bN_ | apply bD_ | refine bS_ ?_ GE283.out | refine bS_ ?_ GE284.out) | exact HB.out)⟩
   ·rw [if_neg c9] at H
    have c9b0 : (t287 == 0) = false := beq_eq_false_iff_ne.mpr c9
    have c9b1 : (t287 != 0) = true := bne_iff_ne.mpr c9
    simp only [Option.some.injEq, Prod.mk.injEq] at H
    obtain ⟨rfl, rfl, rfl, rfl, rfl⟩ := H
    go_enter Tryz.func31, Tryz.ntmps31
    go_wp2_with (first | ((with_reducible refine gate_dst (N := 4) rfl ?_); refine box_event ?hg (N := 4) ?hd (cs := #[.int .i64 a0_0, .int .u64 a0_1, .string a0_2, .int .i64 a0_3]) (t := 24) ?hr ?_; (case hd => rfl); (case hg => rfl); (case hr => first | (go_simp; done) | (go_simp; rfl)); intro gb283 hg w15 hbox hb; replace HB := sqN_ (by repeat (first | (with_reducible first | exact HB.out | apply bA_ | apply bN_ | apply bD_) | exact HB.out)) hg hb; obtain ⟨HB, GE283⟩ := HB; have BK283 := Aside0.mk hbox; clear hb hbox hg) | ((with_reducible refine gate_dst (N := 8) rfl ?_); refine box_event ?hg (N := 8) ?hd (cs := #[.int .i64 0, .int .u64 0, .string ⟨#[]⟩, .int .i64 0]) (t := 24) ?hr ?_; (case hd => rfl); (case hg => rfl); (case hr => first | (go_simp; done) | (go_simp; rfl)); intro gb284 hg w16 hbox hb; replace BK283 := sqO_ (g := gb283) (by (with_reducible repeat (first | apply kN_ | apply kD_ | apply kA_)); exact BK283.out) hg hb; obtain ⟨BK283, NB283_284, NB284_283⟩ := BK283; replace HB := sqN_ (by repeat (first | (with_reducible first | exact HB.out | apply bA_ | apply bN_ | apply bD_ | refine bS_ ?_ GE283.out) | exact HB.out)) hg hb; obtain ⟨HB, GE284⟩ := HB; have BK284 := Aside0.mk hbox; clear hb hbox hg; have hnb17 := NB283_284.out; have hnc17 := NB284_283.out; obtain ⟨hcz18_0, hcz18_1, hcz18_2, hcz18_3⟩ := cells4_ BK283.out; obtain ⟨hfz18_0, hfz18_1, hfz18_2, hfz18_3⟩ := froz4_ BK283.out) | ((with_reducible refine gate_callee (f := 54) rfl ?_); refine goesL_ (some 23) rfl rfl Tryz.func54 (by kernel_rfl) rfl #[.int .u64 a0_1, .int .u64 a2, .int .i64 1] rfl (by (try simp only [List.map_toArray, List.map_cons, List.map_nil]); first | done | rfl) ?_; (with_reducible refine (platformfwref08_digits.calls k a0_1 a2 1 t285 _ A6.out).mono ?_); rintro e w' ⟨rfl, ⟨nd, rfl⟩⟩; refine ⟨_, rfl, ?_⟩; (try (rw [drewN_self w16]; generalize hq_ : World.drewN w16 _ = w16; have n0_ : Aside0 (w16.heap[gb283]? = some (.cells #[.int .i64 a0_0, .int .u64 a0_1, .string a0_2, .int .i64 a0_3] 24 (0, 0))) := ⟨by rw [← hq_]; exact (by (with_reducible repeat (first | apply kN_ | apply kD_ | apply kA_)); exact BK283.out)⟩; have n1_ : Aside0 (w16.heap[gb284]? = some (.cells #[.int .i64 0, .int .u64 0, .string ⟨#[]⟩, .int .i64 0] 24 (0, 0))) := ⟨by rw [← hq_]; exact (by (with_reducible repeat (first | apply kN_ | apply kD_ | apply kA_)); exact BK284.out)⟩; have n2_ : Aside0 (Below w.heap.size w w16) := ⟨by rw [← hq_]; exact (by repeat (first | (with_reducible first | exact HB.out | apply bA_ | apply bN_ | apply bD_ | refine bS_ ?_ GE283.out | refine bS_ ?_ GE284.out) | exact HB.out))⟩; clear BK283 BK284 HB hq_; have BK283 := n0_; have BK284 := n1_; have HB := n2_; clear n0_ n1_ n2_))) | ((with_reducible refine gate_callee (f := 56) rfl ?_); refine goesL_ (some 37) rfl rfl Tryz.func56 (by kernel_rfl) rfl #[.string (a1 ++ t285)] rfl (by (try simp only [List.map_toArray, List.map_cons, List.map_nil]); first | done | rfl) ?_; (with_reducible refine (platformfwref08_bounded.calls (a1 ++ t285) t286 t287 _ A8.out).mono ?_); rintro e w' ⟨rfl, ⟨nd, rfl⟩⟩; refine ⟨_, rfl, ?_⟩; (try (rw [drewN_self w16]; generalize hq_ : World.drewN w16 _ = w16; have n0_ : Aside0 (w16.heap[gb283]? = some (.cells #[.int .i64 a0_0, .int .u64 a0_1, .string a0_2, .int .i64 a0_3] 24 (0, 0))) := ⟨by rw [← hq_]; exact (by (with_reducible repeat (first | apply kN_ | apply kD_ | apply kA_)); exact BK283.out)⟩; have n1_ : Aside0 (w16.heap[gb284]? = some (.cells #[.int .i64 0, .int .u64 0, .string ⟨#[]⟩, .int .i64 0] 24 (0, 0))) := ⟨by rw [← hq_]; exact (by (with_reducible repeat (first | apply kN_ | apply kD_ | apply kA_)); exact BK284.out)⟩; have n2_ : Aside0 (Below w.heap.size w w16) := ⟨by rw [← hq_]; exact (by repeat (first | (with_reducible first | exact HB.out | apply bA_ | apply bN_ | apply bD_ | refine bS_ ?_ GE283.out | refine bS_ ?_ GE284.out) | exact HB.out))⟩; clear BK283 BK284 HB hq_; have BK283 := n0_; have BK284 := n1_; have HB := n2_; clear n0_ n1_ n2_)); obtain ⟨hcz19_0, hcz19_1, hcz19_2, hcz19_3⟩ := cells4_ BK284.out; obtain ⟨hfz19_0, hfz19_1, hfz19_2, hfz19_3⟩ := froz4_ BK284.out))
    refine bodyPost_ret (results_ct rfl _ _ gb284 24 #[.int .i64 0, .int .u64 0, .string ⟨#[]⟩, .int .i64 0] (0, 0) _ rfl (by (with_reducible repeat (first | apply kN_ | apply kD_ | apply kA_)); refine blk_put (cs := #[.int .i64 0, .int .u64 0, .string ⟨#[]⟩, .int .i64 0]) ?_ 3 _ rfl; (with_reducible repeat (first | apply kN_ | apply kD_ | apply kA_)); refine blk_put (cs := #[.int .i64 0, .int .u64 0, .string ⟨#[]⟩, .int .i64 0]) ?_ 2 _ rfl; (with_reducible repeat (first | apply kN_ | apply kD_ | apply kA_)); refine blk_put (cs := #[.int .i64 0, .int .u64 0, .string ⟨#[]⟩, .int .i64 0]) ?_ 1 _ rfl; (with_reducible repeat (first | apply kN_ | apply kD_ | apply kA_)); refine blk_put (cs := #[.int .i64 0, .int .u64 0, .string ⟨#[]⟩, .int .i64 0]) ?_ 0 _ rfl; (with_reducible repeat (first | apply kN_ | apply kD_ | apply kA_)); exact BK284.out) Tryz.underlying24 rfl (by kernel_rfl)) rfl ?_
    exact ⟨by first | rfl | (simp [errW_none, errW_some] <;> rfl) | (simp [*, errW_none, errW_some] <;> rfl), by repeat (first | (with_reducible first | exact HB.out | apply bA_ | apply bN_ | apply bD_ | refine bS_ ?_ GE283.out | refine bS_ ?_ GE284.out) | exact HB.out)⟩
  ·rw [if_neg c7] at H
   exact absurd H (by simp)
 ·rw [if_neg c5] at H
  have c5b0 : (a0_0 == 1) = false := beq_eq_false_iff_ne.mpr c5
  have c5b1 : (a0_0 != 1) = true := bne_iff_ne.mpr c5
  by_cases c20 : a0_0 = 3
  ·rw [if_pos c20] at H
   have c20b0 : (a0_0 == 3) = true := beq_iff_eq.mpr c20
   have c20b1 : (a0_0 != 3) = false := bne_eq_false_iff_eq.mpr c20
   clear c20
   replace H := Option.bind_eq_some_iff.mp H
   obtain ⟨t288, A210, H⟩ := H
   replace H : ((platformfwref08_bounded.f t288).bind fun bt289 => (if bt289.2 = 0 then (some (2, 0, bt289.1, 0, 0)) else (some (0, 0, (⟨#[]⟩ : ByteArray), 0, bt289.2)))) = some (r1, r2, r3, r4, r5) := H
   have A21 := Aside0.mk A210
   clear A210
   replace H := Option.bind_eq_some_iff.mp H
   obtain ⟨⟨t289, t290⟩, A220, H⟩ := H
   replace H : (if t290 = 0 then (some (2, 0, t289, 0, 0)) else (some (0, 0, (⟨#[]⟩ : ByteArray), 0, t290))) = some (r1, r2, r3, r4, r5) := H
   have A22 := Aside0.mk A220
   clear A220
   by_cases c23 : t290 = 0
   ·rw [if_pos c23] at H
    have c23b0 : (t290 == 0) = true := beq_iff_eq.mpr c23
    have c23b1 : (t290 != 0) = false := bne_eq_false_iff_eq.mpr c23
    clear c23
    simp only [Option.some.injEq, Prod.mk.injEq] at H
    obtain ⟨rfl, rfl, rfl, rfl, rfl⟩ := H
    go_enter Tryz.func31, Tryz.ntmps31
    go_wp2_with (first | ((with_reducible refine gate_dst (N := 4) rfl ?_); refine box_event ?hg (N := 4) ?hd (cs := #[.int .i64 a0_0, .int .u64 a0_1, .string a0_2, .int .i64 a0_3]) (t := 24) ?hr ?_; (case hd => rfl); (case hg => rfl); (case hr => first | (go_simp; done) | (go_simp; rfl)); intro gb283 hg w24 hbox hb; replace HB := sqN_ (by repeat (first | (with_reducible first | exact HB.out | apply bA_ | apply bN_ | apply bD_) | exact HB.out)) hg hb; obtain ⟨HB, GE283⟩ := HB; have BK283 := Aside0.mk hbox; clear hb hbox hg) | ((with_reducible refine gate_dst (N := 8) rfl ?_); refine box_event ?hg (N := 8) ?hd (cs := #[.int .i64 0, .int .u64 0, .string ⟨#[]⟩, .int .i64 0]) (t := 24) ?hr ?_; (case hd => rfl); (case hg => rfl); (case hr => first | (go_simp; done) | (go_simp; rfl)); intro gb284 hg w25 hbox hb; replace BK283 := sqO_ (g := gb283) (by (with_reducible repeat (first | apply kN_ | apply kD_ | apply kA_)); exact BK283.out) hg hb; obtain ⟨BK283, NB283_284, NB284_283⟩ := BK283; replace HB := sqN_ (by repeat (first | (with_reducible first | exact HB.out | apply bA_ | apply bN_ | apply bD_ | refine bS_ ?_ GE283.out) | exact HB.out)) hg hb; obtain ⟨HB, GE284⟩ := HB; have BK284 := Aside0.mk hbox; clear hb hbox hg; have hnb26 := NB283_284.out; have hnc26 := NB284_283.out; obtain ⟨hcz27_0, hcz27_1, hcz27_2, hcz27_3⟩ := cells4_ BK283.out; obtain ⟨hfz27_0, hfz27_1, hfz27_2, hfz27_3⟩ := froz4_ BK283.out) | ((with_reducible refine gate_callee (f := 55) rfl ?_); refine goesL_ (some 32) rfl rfl Tryz.func55 (by kernel_rfl) rfl #[.string a0_2, .string a1, .string (⟨#[44]⟩ : ByteArray), .int .u64 a2, .int .i64 a3] rfl (by (try simp only [List.map_toArray, List.map_cons, List.map_nil]); first | done | rfl) ?_; (with_reducible refine (platformfwref08_list.calls k a0_2 a1 (⟨#[44]⟩ : ByteArray) a2 a3 t288 _ A21.out).mono ?_); rintro e w' ⟨rfl, ⟨nd, rfl⟩⟩; refine ⟨_, rfl, ?_⟩; (try (rw [drewN_self w25]; generalize hq_ : World.drewN w25 _ = w25; have n0_ : Aside0 (w25.heap[gb283]? = some (.cells #[.int .i64 a0_0, .int .u64 a0_1, .string a0_2, .int .i64 a0_3] 24 (0, 0))) := ⟨by rw [← hq_]; exact (by (with_reducible repeat (first | apply kN_ | apply kD_ | apply kA_)); exact BK283.out)⟩; have n1_ : Aside0 (w25.heap[gb284]? = some (.cells #[.int .i64 0, .int .u64 0, .string ⟨#[]⟩, .int .i64 0] 24 (0, 0))) := ⟨by rw [← hq_]; exact (by (with_reducible repeat (first | apply kN_ | apply kD_ | apply kA_)); exact BK284.out)⟩; have n2_ : Aside0 (Below w.heap.size w w25) := ⟨by rw [← hq_]; exact (by repeat (first | (with_reducible first | exact HB.out | apply bA_ | apply bN_ | apply bD_ | refine bS_ ?_ GE283.out | refine bS_ ?_ GE284.out) | exact HB.out))⟩; clear BK283 BK284 HB hq_; have BK283 := n0_; have BK284 := n1_; have HB := n2_; clear n0_ n1_ n2_))) | ((with_reducible refine gate_callee (f := 56) rfl ?_); refine goesL_ (some 37) rfl rfl Tryz.func56 (by kernel_rfl) rfl #[.string t288] rfl (by (try simp only [List.map_toArray, List.map_cons, List.map_nil]); first | done | rfl) ?_; (with_reducible refine (platformfwref08_bounded.calls t288 t289 t290 _ A22.out).mono ?_); rintro e w' ⟨rfl, ⟨nd, rfl⟩⟩; refine ⟨_, rfl, ?_⟩; (try (rw [drewN_self w25]; generalize hq_ : World.drewN w25 _ = w25; have n0_ : Aside0 (w25.heap[gb283]? = some (.cells #[.int .i64 a0_0, .int .u64 a0_1, .string a0_2, .int .i64 a0_3] 24 (0, 0))) := ⟨by rw [← hq_]; exact (by (with_reducible repeat (first | apply kN_ | apply kD_ | apply kA_)); exact BK283.out)⟩; have n1_ : Aside0 (w25.heap[gb284]? = some (.cells #[.int .i64 0, .int .u64 0, .string ⟨#[]⟩, .int .i64 0] 24 (0, 0))) := ⟨by rw [← hq_]; exact (by (with_reducible repeat (first | apply kN_ | apply kD_ | apply kA_)); exact BK284.out)⟩; have n2_ : Aside0 (Below w.heap.size w w25) := ⟨by rw [← hq_]; exact (by repeat (first | (with_reducible first | exact HB.out | apply bA_ | apply bN_ | apply bD_ | refine bS_ ?_ GE283.out | refine bS_ ?_ GE284.out) | exact HB.out))⟩; clear BK283 BK284 HB hq_; have BK283 := n0_; have BK284 := n1_; have HB := n2_; clear n0_ n1_ n2_)); obtain ⟨hcz28_0, hcz28_1, hcz28_2, hcz28_3⟩ := cells4_ BK284.out; obtain ⟨hfz28_0, hfz28_1, hfz28_2, hfz28_3⟩ := froz4_ BK284.out))
    refine bodyPost_ret (results_ct rfl _ _ gb284 24 #[.int .i64 2, .int .u64 0, .string t289, .int .i64 0] (0, 0) _ rfl (by (with_reducible repeat (first | apply kN_ | apply kD_ | apply kA_)); refine blk_put (cs := #[.int .i64 2, .int .u64 0, .string t289, .int .i64 0]) ?_ 3 _ rfl; (with_reducible repeat (first | apply kN_ | apply kD_ | apply kA_)); refine blk_put (cs := #[.int .i64 2, .int .u64 0, .string ⟨#[]⟩, .int .i64 0]) ?_ 2 _ rfl; (with_reducible repeat (first | apply kN_ | apply kD_ | apply kA_)); refine blk_put (cs := #[.int .i64 2, .int .u64 0, .string ⟨#[]⟩, .int .i64 0]) ?_ 1 _ rfl; (with_reducible repeat (first | apply kN_ | apply kD_ | apply kA_)); refine blk_put (cs := #[.int .i64 0, .int .u64 0, .string ⟨#[]⟩, .int .i64 0]) ?_ 0 _ rfl; (with_reducible repeat (first | apply kN_ | apply kD_ | apply kA_)); exact BK284.out) Tryz.underlying24 rfl (by kernel_rfl)) rfl ?_
    exact ⟨by first | rfl | (simp [errW_none, errW_some] <;> rfl) | (simp [*, errW_none, errW_some] <;> rfl), by repeat (first | (with_reducible first | exact HB.out | apply bA_ | apply bN_ | apply bD_ | refine bS_ ?_ GE283.out | refine bS_ ?_ GE284.out) | exact HB.out)⟩
   ·rw [if_neg c23] at H
    have c23b0 : (t290 == 0) = false := beq_eq_false_iff_ne.mpr c23
    have c23b1 : (t290 != 0) = true := bne_iff_ne.mpr c23
    simp only [Option.some.injEq, Prod.mk.injEq] at H
    obtain ⟨rfl, rfl, rfl, rfl, rfl⟩ := H
    go_enter Tryz.func31, Tryz.ntmps31
    go_wp2_with (first | ((with_reducible refine gate_dst (N := 4) rfl ?_); refine box_event ?hg (N := 4) ?hd (cs := #[.int .i64 a0_0, .int .u64 a0_1, .string a0_2, .int .i64 a0_3]) (t := 24) ?hr ?_; (case hd => rfl); (case hg => rfl); (case hr => first | (go_simp; done) | (go_simp; rfl)); intro gb283 hg w29 hbox hb; replace HB := sqN_ (by repeat (first | (with_reducible first | exact HB.out | apply bA_ | apply bN_ | apply bD_) | exact HB.out)) hg hb; obtain ⟨HB, GE283⟩ := HB; have BK283 := Aside0.mk hbox; clear hb hbox hg) | ((with_reducible refine gate_dst (N := 8) rfl ?_); refine box_event ?hg (N := 8) ?hd (cs := #[.int .i64 0, .int .u64 0, .string ⟨#[]⟩, .int .i64 0]) (t := 24) ?hr ?_; (case hd => rfl); (case hg => rfl); (case hr => first | (go_simp; done) | (go_simp; rfl)); intro gb284 hg w30 hbox hb; replace BK283 := sqO_ (g := gb283) (by (with_reducible repeat (first | apply kN_ | apply kD_ | apply kA_)); exact BK283.out) hg hb; obtain ⟨BK283, NB283_284, NB284_283⟩ := BK283; replace HB := sqN_ (by repeat (first | (with_reducible first | exact HB.out | apply bA_ | apply bN_ | apply bD_ | refine bS_ ?_ GE283.out) | exact HB.out)) hg hb; obtain ⟨HB, GE284⟩ := HB; have BK284 := Aside0.mk hbox; clear hb hbox hg; have hnb31 := NB283_284.out; have hnc31 := NB284_283.out; obtain ⟨hcz32_0, hcz32_1, hcz32_2, hcz32_3⟩ := cells4_ BK283.out; obtain ⟨hfz32_0, hfz32_1, hfz32_2, hfz32_3⟩ := froz4_ BK283.out) | ((with_reducible refine gate_callee (f := 55) rfl ?_); refine goesL_ (some 32) rfl rfl Tryz.func55 (by kernel_rfl) rfl #[.string a0_2, .string a1, .string (⟨#[44]⟩ : ByteArray), .int .u64 a2, .int .i64 a3] rfl (by (try simp only [List.map_toArray, List.map_cons, List.map_nil]); first | done | rfl) ?_; (with_reducible refine (platformfwref08_list.calls k a0_2 a1 (⟨#[44]⟩ : ByteArray) a2 a3 t288 _ A21.out).mono ?_); rintro e w' ⟨rfl, ⟨nd, rfl⟩⟩; refine ⟨_, rfl, ?_⟩; (try (rw [drewN_self w30]; generalize hq_ : World.drewN w30 _ = w30; have n0_ : Aside0 (w30.heap[gb283]? = some (.cells #[.int .i64 a0_0, .int .u64 a0_1, .string a0_2, .int .i64 a0_3] 24 (0, 0))) := ⟨by rw [← hq_]; exact (by (with_reducible repeat (first | apply kN_ | apply kD_ | apply kA_)); exact BK283.out)⟩; have n1_ : Aside0 (w30.heap[gb284]? = some (.cells #[.int .i64 0, .int .u64 0, .string ⟨#[]⟩, .int .i64 0] 24 (0, 0))) := ⟨by rw [← hq_]; exact (by (with_reducible repeat (first | apply kN_ | apply kD_ | apply kA_)); exact BK284.out)⟩; have n2_ : Aside0 (Below w.heap.size w w30) := ⟨by rw [← hq_]; exact (by repeat (first | (with_reducible first | exact HB.out | apply bA_ | apply bN_ | apply bD_ | refine bS_ ?_ GE283.out | refine bS_ ?_ GE284.out) | exact HB.out))⟩; clear BK283 BK284 HB hq_; have BK283 := n0_; have BK284 := n1_; have HB := n2_; clear n0_ n1_ n2_))) | ((with_reducible refine gate_callee (f := 56) rfl ?_); refine goesL_ (some 37) rfl rfl Tryz.func56 (by kernel_rfl) rfl #[.string t288] rfl (by (try simp only [List.map_toArray, List.map_cons, List.map_nil]); first | done | rfl) ?_; (with_reducible refine (platformfwref08_bounded.calls t288 t289 t290 _ A22.out).mono ?_); rintro e w' ⟨rfl, ⟨nd, rfl⟩⟩; refine ⟨_, rfl, ?_⟩; (try (rw [drewN_self w30]; generalize hq_ : World.drewN w30 _ = w30; have n0_ : Aside0 (w30.heap[gb283]? = some (.cells #[.int .i64 a0_0, .int .u64 a0_1, .string a0_2, .int .i64 a0_3] 24 (0, 0))) := ⟨by rw [← hq_]; exact (by (with_reducible repeat (first | apply kN_ | apply kD_ | apply kA_)); exact BK283.out)⟩; have n1_ : Aside0 (w30.heap[gb284]? = some (.cells #[.int .i64 0, .int .u64 0, .string ⟨#[]⟩, .int .i64 0] 24 (0, 0))) := ⟨by rw [← hq_]; exact (by (with_reducible repeat (first | apply kN_ | apply kD_ | apply kA_)); exact BK284.out)⟩; have n2_ : Aside0 (Below w.heap.size w w30) := ⟨by rw [← hq_]; exact (by repeat (first | (with_reducible first | exact HB.out | apply bA_ | apply bN_ | apply bD_ | refine bS_ ?_ GE283.out | refine bS_ ?_ GE284.out) | exact HB.out))⟩; clear BK283 BK284 HB hq_; have BK283 := n0_; have BK284 := n1_; have HB := n2_; clear n0_ n1_ n2_)); obtain ⟨hcz33_0, hcz33_1, hcz33_2, hcz33_3⟩ := cells4_ BK284.out; obtain ⟨hfz33_0, hfz33_1, hfz33_2, hfz33_3⟩ := froz4_ BK284.out))
    refine bodyPost_ret (results_ct rfl _ _ gb284 24 #[.int .i64 0, .int .u64 0, .string ⟨#[]⟩, .int .i64 0] (0, 0) _ rfl (by (with_reducible repeat (first | apply kN_ | apply kD_ | apply kA_)); refine blk_put (cs := #[.int .i64 0, .int .u64 0, .string ⟨#[]⟩, .int .i64 0]) ?_ 3 _ rfl; (with_reducible repeat (first | apply kN_ | apply kD_ | apply kA_)); refine blk_put (cs := #[.int .i64 0, .int .u64 0, .string ⟨#[]⟩, .int .i64 0]) ?_ 2 _ rfl; (with_reducible repeat (first | apply kN_ | apply kD_ | apply kA_)); refine blk_put (cs := #[.int .i64 0, .int .u64 0, .string ⟨#[]⟩, .int .i64 0]) ?_ 1 _ rfl; (with_reducible repeat (first | apply kN_ | apply kD_ | apply kA_)); refine blk_put (cs := #[.int .i64 0, .int .u64 0, .string ⟨#[]⟩, .int .i64 0]) ?_ 0 _ rfl; (with_reducible repeat (first | apply kN_ | apply kD_ | apply kA_)); exact BK284.out) Tryz.underlying24 rfl (by kernel_rfl)) rfl ?_
    exact ⟨by first | rfl | (simp [errW_none, errW_some] <;> rfl) | (simp [*, errW_none, errW_some] <;> rfl), by repeat (first | (with_reducible first | exact HB.out | apply bA_ | apply bN_ | apply bD_ | refine bS_ ?_ GE283.out | refine bS_ ?_ GE284.out) | exact HB.out)⟩
  ·rw [if_neg c20] at H
   have c20b0 : (a0_0 == 3) = false := beq_eq_false_iff_ne.mpr c20
   have c20b1 : (a0_0 != 3) = true := bne_iff_ne.mpr c20
   by_cases c34 : a0_0 = 2
   ·rw [if_pos c34] at H
    have c34b0 : (a0_0 == 2) = true := beq_iff_eq.mpr c34
    have c34b1 : (a0_0 != 2) = false := bne_eq_false_iff_eq.mpr c34
    clear c34
    replace H := Option.bind_eq_some_iff.mp H
    obtain ⟨⟨t291, t292⟩, A350, H⟩ := H
    replace H : (if t292 = 0 then (some (2, 0, t291, 0, 0)) else (some (0, 0, (⟨#[]⟩ : ByteArray), 0, t292))) = some (r1, r2, r3, r4, r5) := H
    have A35 := Aside0.mk A350
    clear A350
    by_cases c36 : t292 = 0
    ·rw [if_pos c36] at H
     have c36b0 : (t292 == 0) = true := beq_iff_eq.mpr c36
     have c36b1 : (t292 != 0) = false := bne_eq_false_iff_eq.mpr c36
     clear c36
     simp only [Option.some.injEq, Prod.mk.injEq] at H
     obtain ⟨rfl, rfl, rfl, rfl, rfl⟩ := H
     go_enter Tryz.func31, Tryz.ntmps31
     go_wp2_with (first | ((with_reducible refine gate_dst (N := 4) rfl ?_); refine box_event ?hg (N := 4) ?hd (cs := #[.int .i64 a0_0, .int .u64 a0_1, .string a0_2, .int .i64 a0_3]) (t := 24) ?hr ?_; (case hd => rfl); (case hg => rfl); (case hr => first | (go_simp; done) | (go_simp; rfl)); intro gb283 hg w37 hbox hb; replace HB := sqN_ (by repeat (first | (with_reducible first | exact HB.out | apply bA_ | apply bN_ | apply bD_) | exact HB.out)) hg hb; obtain ⟨HB, GE283⟩ := HB; have BK283 := Aside0.mk hbox; clear hb hbox hg) | ((with_reducible refine gate_dst (N := 8) rfl ?_); refine box_event ?hg (N := 8) ?hd (cs := #[.int .i64 0, .int .u64 0, .string ⟨#[]⟩, .int .i64 0]) (t := 24) ?hr ?_; (case hd => rfl); (case hg => rfl); (case hr => first | (go_simp; done) | (go_simp; rfl)); intro gb284 hg w38 hbox hb; replace BK283 := sqO_ (g := gb283) (by (with_reducible repeat (first | apply kN_ | apply kD_ | apply kA_)); exact BK283.out) hg hb; obtain ⟨BK283, NB283_284, NB284_283⟩ := BK283; replace HB := sqN_ (by repeat (first | (with_reducible first | exact HB.out | apply bA_ | apply bN_ | apply bD_ | refine bS_ ?_ GE283.out) | exact HB.out)) hg hb; obtain ⟨HB, GE284⟩ := HB; have BK284 := Aside0.mk hbox; clear hb hbox hg; have hnb39 := NB283_284.out; have hnc39 := NB284_283.out; obtain ⟨hcz40_0, hcz40_1, hcz40_2, hcz40_3⟩ := cells4_ BK283.out; obtain ⟨hfz40_0, hfz40_1, hfz40_2, hfz40_3⟩ := froz4_ BK283.out) | ((with_reducible refine gate_callee (f := 56) rfl ?_); refine goesL_ (some 37) rfl rfl Tryz.func56 (by kernel_rfl) rfl #[.string a0_2] rfl (by (try simp only [List.map_toArray, List.map_cons, List.map_nil]); first | done | rfl) ?_; (with_reducible refine (platformfwref08_bounded.calls a0_2 t291 t292 _ A35.out).mono ?_); rintro e w' ⟨rfl, ⟨nd, rfl⟩⟩; refine ⟨_, rfl, ?_⟩; (try (rw [drewN_self w38]; generalize hq_ : World.drewN w38 _ = w38; have n0_ : Aside0 (w38.heap[gb283]? = some (.cells #[.int .i64 a0_0, .int .u64 a0_1, .string a0_2, .int .i64 a0_3] 24 (0, 0))) := ⟨by rw [← hq_]; exact (by (with_reducible repeat (first | apply kN_ | apply kD_ | apply kA_)); exact BK283.out)⟩; have n1_ : Aside0 (w38.heap[gb284]? = some (.cells #[.int .i64 0, .int .u64 0, .string ⟨#[]⟩, .int .i64 0] 24 (0, 0))) := ⟨by rw [← hq_]; exact (by (with_reducible repeat (first | apply kN_ | apply kD_ | apply kA_)); exact BK284.out)⟩; have n2_ : Aside0 (Below w.heap.size w w38) := ⟨by rw [← hq_]; exact (by repeat (first | (with_reducible first | exact HB.out | apply bA_ | apply bN_ | apply bD_ | refine bS_ ?_ GE283.out | refine bS_ ?_ GE284.out) | exact HB.out))⟩; clear BK283 BK284 HB hq_; have BK283 := n0_; have BK284 := n1_; have HB := n2_; clear n0_ n1_ n2_)); obtain ⟨hcz41_0, hcz41_1, hcz41_2, hcz41_3⟩ := cells4_ BK284.out; obtain ⟨hfz41_0, hfz41_1, hfz41_2, hfz41_3⟩ := froz4_ BK284.out))
     refine bodyPost_ret (results_ct rfl _ _ gb284 24 #[.int .i64 2, .int .u64 0, .string t291, .int .i64 0] (0, 0) _ rfl (by (with_reducible repeat (first | apply kN_ | apply kD_ | apply kA_)); refine blk_put (cs := #[.int .i64 2, .int .u64 0, .string t291, .int .i64 0]) ?_ 3 _ rfl; (with_reducible repeat (first | apply kN_ | apply kD_ | apply kA_)); refine blk_put (cs := #[.int .i64 2, .int .u64 0, .string ⟨#[]⟩, .int .i64 0]) ?_ 2 _ rfl; (with_reducible repeat (first | apply kN_ | apply kD_ | apply kA_)); refine blk_put (cs := #[.int .i64 2, .int .u64 0, .string ⟨#[]⟩, .int .i64 0]) ?_ 1 _ rfl; (with_reducible repeat (first | apply kN_ | apply kD_ | apply kA_)); refine blk_put (cs := #[.int .i64 0, .int .u64 0, .string ⟨#[]⟩, .int .i64 0]) ?_ 0 _ rfl; (with_reducible repeat (first | apply kN_ | apply kD_ | apply kA_)); exact BK284.out) Tryz.underlying24 rfl (by kernel_rfl)) rfl ?_
     exact ⟨by first | rfl | (simp [errW_none, errW_some] <;> rfl) | (simp [*, errW_none, errW_some] <;> rfl), by repeat (first | (with_reducible first | exact HB.out | apply bA_ | apply bN_ | apply bD_ | refine bS_ ?_ GE283.out | refine bS_ ?_ GE284.out) | exact HB.out)⟩
    ·rw [if_neg c36] at H
     have c36b0 : (t292 == 0) = false := beq_eq_false_iff_ne.mpr c36
     have c36b1 : (t292 != 0) = true := bne_iff_ne.mpr c36
     simp only [Option.some.injEq, Prod.mk.injEq] at H
     obtain ⟨rfl, rfl, rfl, rfl, rfl⟩ := H
     go_enter Tryz.func31, Tryz.ntmps31
     go_wp2_with (first | ((with_reducible refine gate_dst (N := 4) rfl ?_); refine box_event ?hg (N := 4) ?hd (cs := #[.int .i64 a0_0, .int .u64 a0_1, .string a0_2, .int .i64 a0_3]) (t := 24) ?hr ?_; (case hd => rfl); (case hg => rfl); (case hr => first | (go_simp; done) | (go_simp; rfl)); intro gb283 hg w42 hbox hb; replace HB := sqN_ (by repeat (first | (with_reducible first | exact HB.out | apply bA_ | apply bN_ | apply bD_) | exact HB.out)) hg hb; obtain ⟨HB, GE283⟩ := HB; have BK283 := Aside0.mk hbox; clear hb hbox hg) | ((with_reducible refine gate_dst (N := 8) rfl ?_); refine box_event ?hg (N := 8) ?hd (cs := #[.int .i64 0, .int .u64 0, .string ⟨#[]⟩, .int .i64 0]) (t := 24) ?hr ?_; (case hd => rfl); (case hg => rfl); (case hr => first | (go_simp; done) | (go_simp; rfl)); intro gb284 hg w43 hbox hb; replace BK283 := sqO_ (g := gb283) (by (with_reducible repeat (first | apply kN_ | apply kD_ | apply kA_)); exact BK283.out) hg hb; obtain ⟨BK283, NB283_284, NB284_283⟩ := BK283; replace HB := sqN_ (by repeat (first | (with_reducible first | exact HB.out | apply bA_ | apply bN_ | apply bD_ | refine bS_ ?_ GE283.out) | exact HB.out)) hg hb; obtain ⟨HB, GE284⟩ := HB; have BK284 := Aside0.mk hbox; clear hb hbox hg; have hnb44 := NB283_284.out; have hnc44 := NB284_283.out; obtain ⟨hcz45_0, hcz45_1, hcz45_2, hcz45_3⟩ := cells4_ BK283.out; obtain ⟨hfz45_0, hfz45_1, hfz45_2, hfz45_3⟩ := froz4_ BK283.out) | ((with_reducible refine gate_callee (f := 56) rfl ?_); refine goesL_ (some 37) rfl rfl Tryz.func56 (by kernel_rfl) rfl #[.string a0_2] rfl (by (try simp only [List.map_toArray, List.map_cons, List.map_nil]); first | done | rfl) ?_; (with_reducible refine (platformfwref08_bounded.calls a0_2 t291 t292 _ A35.out).mono ?_); rintro e w' ⟨rfl, ⟨nd, rfl⟩⟩; refine ⟨_, rfl, ?_⟩; (try (rw [drewN_self w43]; generalize hq_ : World.drewN w43 _ = w43; have n0_ : Aside0 (w43.heap[gb283]? = some (.cells #[.int .i64 a0_0, .int .u64 a0_1, .string a0_2, .int .i64 a0_3] 24 (0, 0))) := ⟨by rw [← hq_]; exact (by (with_reducible repeat (first | apply kN_ | apply kD_ | apply kA_)); exact BK283.out)⟩; have n1_ : Aside0 (w43.heap[gb284]? = some (.cells #[.int .i64 0, .int .u64 0, .string ⟨#[]⟩, .int .i64 0] 24 (0, 0))) := ⟨by rw [← hq_]; exact (by (with_reducible repeat (first | apply kN_ | apply kD_ | apply kA_)); exact BK284.out)⟩; have n2_ : Aside0 (Below w.heap.size w w43) := ⟨by rw [← hq_]; exact (by repeat (first | (with_reducible first | exact HB.out | apply bA_ | apply bN_ | apply bD_ | refine bS_ ?_ GE283.out | refine bS_ ?_ GE284.out) | exact HB.out))⟩; clear BK283 BK284 HB hq_; have BK283 := n0_; have BK284 := n1_; have HB := n2_; clear n0_ n1_ n2_)); obtain ⟨hcz46_0, hcz46_1, hcz46_2, hcz46_3⟩ := cells4_ BK284.out; obtain ⟨hfz46_0, hfz46_1, hfz46_2, hfz46_3⟩ := froz4_ BK284.out))
     refine bodyPost_ret (results_ct rfl _ _ gb284 24 #[.int .i64 0, .int .u64 0, .string ⟨#[]⟩, .int .i64 0] (0, 0) _ rfl (by (with_reducible repeat (first | apply kN_ | apply kD_ | apply kA_)); refine blk_put (cs := #[.int .i64 0, .int .u64 0, .string ⟨#[]⟩, .int .i64 0]) ?_ 3 _ rfl; (with_reducible repeat (first | apply kN_ | apply kD_ | apply kA_)); refine blk_put (cs := #[.int .i64 0, .int .u64 0, .string ⟨#[]⟩, .int .i64 0]) ?_ 2 _ rfl; (with_reducible repeat (first | apply kN_ | apply kD_ | apply kA_)); refine blk_put (cs := #[.int .i64 0, .int .u64 0, .string ⟨#[]⟩, .int .i64 0]) ?_ 1 _ rfl; (with_reducible repeat (first | apply kN_ | apply kD_ | apply kA_)); refine blk_put (cs := #[.int .i64 0, .int .u64 0, .string ⟨#[]⟩, .int .i64 0]) ?_ 0 _ rfl; (with_reducible repeat (first | apply kN_ | apply kD_ | apply kA_)); exact BK284.out) Tryz.underlying24 rfl (by kernel_rfl)) rfl ?_
     exact ⟨by first | rfl | (simp [errW_none, errW_some] <;> rfl) | (simp [*, errW_none, errW_some] <;> rfl), by repeat (first | (with_reducible first | exact HB.out | apply bA_ | apply bN_ | apply bD_ | refine bS_ ?_ GE283.out | refine bS_ ?_ GE284.out) | exact HB.out)⟩
   ·rw [if_neg c34] at H
    have c34b0 : (a0_0 == 2) = false := beq_eq_false_iff_ne.mpr c34
    have c34b1 : (a0_0 != 2) = true := bne_iff_ne.mpr c34
    simp only [Option.some.injEq, Prod.mk.injEq] at H
    obtain ⟨rfl, rfl, rfl, rfl, rfl⟩ := H
    go_enter Tryz.func31, Tryz.ntmps31
    go_wp2_with (first | ((with_reducible refine gate_dst (N := 4) rfl ?_); refine box_event ?hg (N := 4) ?hd (cs := #[.int .i64 a0_0, .int .u64 a0_1, .string a0_2, .int .i64 a0_3]) (t := 24) ?hr ?_; (case hd => rfl); (case hg => rfl); (case hr => first | (go_simp; done) | (go_simp; rfl)); intro gb283 hg w47 hbox hb; replace HB := sqN_ (by repeat (first | (with_reducible first | exact HB.out | apply bA_ | apply bN_ | apply bD_) | exact HB.out)) hg hb; obtain ⟨HB, GE283⟩ := HB; have BK283 := Aside0.mk hbox; clear hb hbox hg) | ((with_reducible refine gate_dst (N := 8) rfl ?_); refine box_event ?hg (N := 8) ?hd (cs := #[.int .i64 0, .int .u64 0, .string ⟨#[]⟩, .int .i64 0]) (t := 24) ?hr ?_; (case hd => rfl); (case hg => rfl); (case hr => first | (go_simp; done) | (go_simp; rfl)); intro gb284 hg w48 hbox hb; replace BK283 := sqO_ (g := gb283) (by (with_reducible repeat (first | apply kN_ | apply kD_ | apply kA_)); exact BK283.out) hg hb; obtain ⟨BK283, NB283_284, NB284_283⟩ := BK283; replace HB := sqN_ (by repeat (first | (with_reducible first | exact HB.out | apply bA_ | apply bN_ | apply bD_ | refine bS_ ?_ GE283.out) | exact HB.out)) hg hb; obtain ⟨HB, GE284⟩ := HB; have BK284 := Aside0.mk hbox; clear hb hbox hg; have hnb49 := NB283_284.out; have hnc49 := NB284_283.out; obtain ⟨hcz50_0, hcz50_1, hcz50_2, hcz50_3⟩ := cells4_ BK283.out; obtain ⟨hfz50_0, hfz50_1, hfz50_2, hfz50_3⟩ := froz4_ BK283.out; obtain ⟨hcz51_0, hcz51_1, hcz51_2, hcz51_3⟩ := cells4_ BK284.out; obtain ⟨hfz51_0, hfz51_1, hfz51_2, hfz51_3⟩ := froz4_ BK284.out))
    refine bodyPost_ret (results_ct rfl _ _ gb284 24 #[.int .i64 0, .int .u64 0, .string ⟨#[]⟩, .int .i64 0] (0, 0) _ rfl (by (with_reducible repeat (first | apply kN_ | apply kD_ | apply kA_)); refine blk_put (cs := #[.int .i64 0, .int .u64 0, .string ⟨#[]⟩, .int .i64 0]) ?_ 3 _ rfl; (with_reducible repeat (first | apply kN_ | apply kD_ | apply kA_)); refine blk_put (cs := #[.int .i64 0, .int .u64 0, .string ⟨#[]⟩, .int .i64 0]) ?_ 2 _ rfl; (with_reducible repeat (first | apply kN_ | apply kD_ | apply kA_)); refine blk_put (cs := #[.int .i64 0, .int .u64 0, .string ⟨#[]⟩, .int .i64 0]) ?_ 1 _ rfl; (with_reducible repeat (first | apply kN_ | apply kD_ | apply kA_)); refine blk_put (cs := #[.int .i64 0, .int .u64 0, .string ⟨#[]⟩, .int .i64 0]) ?_ 0 _ rfl; (with_reducible repeat (first | apply kN_ | apply kD_ | apply kA_)); exact BK284.out) Tryz.underlying24 rfl (by kernel_rfl)) rfl ?_
    exact ⟨by first | rfl | (simp [errW_none, errW_some] <;> rfl) | (simp [*, errW_none, errW_some] <;> rfl), by repeat (first | (with_reducible first | exact HB.out | apply bA_ | apply bN_ | apply bD_ | refine bS_ ?_ GE283.out | refine bS_ ?_ GE284.out) | exact HB.out)⟩

/-! ### platformfwref08_Unary: function 5 -/
def platformfwref08_Unary.j0 : Nat → Int → Int → Bool → Int → Int → ByteArray → Int → Option (Int × Int × ByteArray × Int × Int)
 | 0, _, _, _, _, _, _, _ => none
 | k + 1, x0, x12, x13, x294000, x294001, x294002, x294003 => if x13 = true then ((platformfwref08_Integer.f k x294000 x294001 x294002 x294003).bind fun bt296 => (if bt296.2 = 0 then (if x0 = 77 then ((platformfwref08_Number.f (Go.bits .xor .u64 18446744073709551615 bt296.1)).bind fun bt298 => (some (bt298.1, bt298.2.1, bt298.2.2.1, bt298.2.2.2, 0))) else ((platformfwref08_Bool.f (bt296.1 == 0)).bind fun bt302 => (some (bt302.1, bt302.2.1, bt302.2.2.1, bt302.2.2.2, 0)))) else (some (0, 0, (⟨#[]⟩ : ByteArray), 0, bt296.2)))) else (if x12 = 79 then (if x294000 = 2 then ((platformfwref08_Number.f (IntKind.u64.wrap ((x294002.size : Int)))).bind fun bt306 => (some (bt306.1, bt306.2.1, bt306.2.2.1, bt306.2.2.2, 0))) else (if x294000 = 3 then ((platformfwref08_Number.f (IntKind.u64.wrap ((x294002.size : Int)))).bind fun bt310 => (some (bt310.1, bt310.2.1, bt310.2.2.1, bt310.2.2.2, 0))) else (some (0, 0, (⟨#[]⟩ : ByteArray), 0, 10)))) else (if x12 = 80 then ((platformfwref08_explicit.f k x294000 x294001 x294002 x294003).bind fun bt314 => (some (bt314.1, bt314.2.1, bt314.2.2.1, bt314.2.2.2.1, bt314.2.2.2.2))) else (if x12 = 81 then ((platformfwref08_Convert.f k x294000 x294001 x294002 x294003 3).bind fun bt319 => (some (bt319.1, bt319.2.1, bt319.2.2.1, bt319.2.2.2.1, bt319.2.2.2.2))) else (if x12 = 82 then ((platformfwref08_written.f k x294000 x294001 x294002 x294003 (⟨#[48, 120]⟩ : ByteArray) 16 2).bind fun bt324 => (some (bt324.1, bt324.2.1, bt324.2.2.1, bt324.2.2.2.1, bt324.2.2.2.2))) else (if x12 = 83 then ((platformfwref08_written.f k x294000 x294001 x294002 x294003 (⟨#[]⟩ : ByteArray) 10 1).bind fun bt329 => (some (bt329.1, bt329.2.1, bt329.2.2.1, bt329.2.2.2.1, bt329.2.2.2.2))) else (some (0, 0, (⟨#[]⟩ : ByteArray), 0, 1)))))))
def platformfwref08_Unary.f (k : Nat) (a0 : Int) (a1_0 : Int) (a1_1 : Int) (a1_2 : ByteArray) (a1_3 : Int) : Option (Int × Int × ByteArray × Int × Int) := (platformfwref08_Valid.f a1_0 a1_1 a1_2 a1_3).bind fun t295 => (if t295 = true then (if a0 = 77 then (platformfwref08_Unary.j0 k a0 a0 (a0 == 77) a1_0 a1_1 a1_2 a1_3) else (platformfwref08_Unary.j0 k a0 a0 (a0 == 78) a1_0 a1_1 a1_2 a1_3)) else (some (0, 0, (⟨#[]⟩ : ByteArray), 0, 1)))
theorem platformfwref08_Unary.mono_l : ∀ k, (∀ y0 y1 y2 y3 y4 y5 y6, LeO (platformfwref08_Unary.j0 k y0 y1 y2 y3 y4 y5 y6) (platformfwref08_Unary.j0 (k + 1) y0 y1 y2 y3 y4 y5 y6))
 | 0 => fun _ _ _ _ _ _ _ r h => by simp [platformfwref08_Unary.j0] at h
 | k + 1 => by
  have ih0 := platformfwref08_Unary.mono_l k
  ·intro y0 y1 y2 y3 y4 y5 y6
   unfold platformfwref08_Unary.j0
   repeat' first
   | (with_reducible exact ih0 _ _ _ _ _ _ _)
   | (with_reducible exact platformfwref08_Convert.mono _ _ _ _ _ _)
   | (with_reducible exact platformfwref08_Integer.mono _ _ _ _ _)
   | (with_reducible exact platformfwref08_explicit.mono _ _ _ _ _)
   | (with_reducible exact platformfwref08_written.mono _ _ _ _ _ _ _ _)
   | (with_reducible exact LeO.refl _)
   | (with_reducible exact LeO.none _)
   | (with_reducible refine LeO.ite ?_ ?_)
   | (with_reducible refine LeO.bind ?_ (fun _ => ?_))
   | exact ih0 _ _ _ _ _ _ _
   | exact platformfwref08_Convert.mono _ _ _ _ _ _
   | exact platformfwref08_Integer.mono _ _ _ _ _
   | exact platformfwref08_explicit.mono _ _ _ _ _
   | exact platformfwref08_written.mono _ _ _ _ _ _ _ _
   | exact LeO.none _
   | refine LeO.ite ?_ ?_
   | refine LeO.bind ?_ (fun _ => ?_)
theorem platformfwref08_Unary.mono : ∀ a0 a1 a2 a3 a4 k, LeO (platformfwref08_Unary.f k a0 a1 a2 a3 a4) (platformfwref08_Unary.f (k + 1) a0 a1 a2 a3 a4) := by
 intro a0 a1 a2 a3 a4 k
 have ih0 := platformfwref08_Unary.mono_l k
 unfold platformfwref08_Unary.f
 repeat' first
   | (with_reducible exact ih0 _ _ _ _ _ _ _)
   | (with_reducible exact platformfwref08_Convert.mono _ _ _ _ _ _)
   | (with_reducible exact platformfwref08_Integer.mono _ _ _ _ _)
   | (with_reducible exact platformfwref08_explicit.mono _ _ _ _ _)
   | (with_reducible exact platformfwref08_written.mono _ _ _ _ _ _ _ _)
   | (with_reducible exact LeO.refl _)
   | (with_reducible exact LeO.none _)
   | (with_reducible refine LeO.ite ?_ ?_)
   | (with_reducible refine LeO.bind ?_ (fun _ => ?_))
   | exact ih0 _ _ _ _ _ _ _
   | exact platformfwref08_Convert.mono _ _ _ _ _ _
   | exact platformfwref08_Integer.mono _ _ _ _ _
   | exact platformfwref08_explicit.mono _ _ _ _ _
   | exact platformfwref08_written.mono _ _ _ _ _ _ _ _
   | exact LeO.none _
   | refine LeO.ite ?_ ?_
   | refine LeO.bind ?_ (fun _ => ?_)
set_option maxHeartbeats 8000000 in
set_option maxRecDepth 100000 in
theorem platformfwref08_Unary.calls (k : Nat) (a0 : Int) (a1_0 : Int) (a1_1 : Int) (a1_2 : ByteArray) (a1_3 : Int) (r1 : Int) (r2 : Int) (r3 : ByteArray) (r4 : Int) (r5 : Int) (w : World) (h : platformfwref08_Unary.f k a0 a1_0 a1_1 a1_2 a1_3 = some (r1, r2, r3, r4, r5)) :
  Calls Tryz.prog 5 #[.int .i64 a0, .agg #[.int .i64 a1_0, .int .u64 a1_1, .string a1_2, .int .i64 a1_3]] w fun e w' => e = .returned (.tuple #[.agg #[.int .i64 r1, .int .u64 r2, .string r3, .int .i64 r4], .int .i64 r5]) ∧ Below w.heap.size w w' := by
 have hu24 := Tryz.underlying24
 have HB := Aside0.mk (Below.refl w.heap.size w)
 have H : ((platformfwref08_Valid.f a1_0 a1_1 a1_2 a1_3).bind fun t295 => (if t295 = true then (if a0 = 77 then (platformfwref08_Unary.j0 k a0 a0 (a0 == 77) a1_0 a1_1 a1_2 a1_3) else (platformfwref08_Unary.j0 k a0 a0 (a0 == 78) a1_0 a1_1 a1_2 a1_3)) else (some (0, 0, (⟨#[]⟩ : ByteArray), 0, 1)))) = some (r1, r2, r3, r4, r5) := h
 clear h
 replace H := Option.bind_eq_some_iff.mp H
 obtain ⟨t295, A30, H⟩ := H
 replace H : (if t295 = true then (if a0 = 77 then (platformfwref08_Unary.j0 k a0 a0 (a0 == 77) a1_0 a1_1 a1_2 a1_3) else (platformfwref08_Unary.j0 k a0 a0 (a0 == 78) a1_0 a1_1 a1_2 a1_3)) else (some (0, 0, (⟨#[]⟩ : ByteArray), 0, 1))) = some (r1, r2, r3, r4, r5) := H
 have A3 := Aside0.mk A30
 clear A30
 by_cases c4 : t295 = true
 ·subst c4
  have H1 : (if a0 = 77 then (platformfwref08_Unary.j0 k a0 a0 (a0 == 77) a1_0 a1_1 a1_2 a1_3) else (platformfwref08_Unary.j0 k a0 a0 (a0 == 78) a1_0 a1_1 a1_2 a1_3)) = some (r1, r2, r3, r4, r5) := by rw [if_pos rfl] at H; exact H
  clear H
  have H := H1
  clear H1
  have HC5 := Aside0.mk H
  clear H
  go_enter Tryz.func5, Tryz.ntmps5
  go_upto_if 13 with (first | ((with_reducible refine gate_dst (N := 3) rfl ?_); refine box_event ?hg (N := 3) ?hd (cs := #[.int .i64 a1_0, .int .u64 a1_1, .string a1_2, .int .i64 a1_3]) (t := 24) ?hr ?_; (case hd => rfl); (case hg => rfl); (case hr => first | (go_simp; done) | (go_simp; rfl)); intro gb293 hg w6 hbox hb; replace HB := sqN_ (by repeat (first | (with_reducible first | exact HB.out | apply bA_ | apply bN_ | apply bD_) | exact HB.out)) hg hb; obtain ⟨HB, GE293⟩ := HB; have BK293 := Aside0.mk hbox; clear hb hbox hg) | ((with_reducible refine gate_dst (N := 4) rfl ?_); refine box_event ?hg (N := 4) ?hd (cs := #[.int .i64 0, .int .u64 0, .string ⟨#[]⟩, .int .i64 0]) (t := 24) ?hr ?_; (case hd => rfl); (case hg => rfl); (case hr => first | (go_simp; done) | (go_simp; rfl)); intro gb294 hg w7 hbox hb; replace BK293 := sqO_ (g := gb293) (by (with_reducible repeat (first | apply kN_ | apply kD_ | apply kA_)); exact BK293.out) hg hb; obtain ⟨BK293, NB293_294, NB294_293⟩ := BK293; replace HB := sqN_ (by repeat (first | (with_reducible first | exact HB.out | apply bA_ | apply bN_ | apply bD_ | refine bS_ ?_ GE293.out) | exact HB.out)) hg hb; obtain ⟨HB, GE294⟩ := HB; have BK294 := Aside0.mk hbox; clear hb hbox hg; have hnb8 := NB293_294.out; have hnc8 := NB294_293.out; obtain ⟨hcz9_0, hcz9_1, hcz9_2, hcz9_3⟩ := cells4_ BK293.out; obtain ⟨hfz9_0, hfz9_1, hfz9_2, hfz9_3⟩ := froz4_ BK293.out) | ((with_reducible refine gate_callee (f := 25) rfl ?_); refine goesL_ (some 9) rfl rfl Tryz.func25 (by kernel_rfl) rfl #[.agg #[.int .i64 a1_0, .int .u64 a1_1, .string a1_2, .int .i64 a1_3]] rfl (by (try simp only [List.map_toArray, List.map_cons, List.map_nil]); first | done | rfl) ?_; (with_reducible refine (platformfwref08_Valid.calls a1_0 a1_1 a1_2 a1_3 true _ A3.out).mono ?_); rintro e w10 ⟨rfl, hb⟩; refine ⟨_, rfl, ?_⟩; replace BK293 := sqB_ (g := gb293) (by (with_reducible repeat (first | apply kN_ | apply kD_ | apply kA_)); exact BK293.out) hb; replace BK294 := sqB_ (g := gb294) (by (with_reducible repeat (first | apply kN_ | apply kD_ | apply kA_)); exact BK294.out) hb; replace HB := sqS_ (by repeat (first | (with_reducible first | exact HB.out | apply bA_ | apply bN_ | apply bD_ | refine bS_ ?_ GE293.out | refine bS_ ?_ GE294.out) | exact HB.out)) hb; (try clear hb); (try clear hb2); (try clear hk); (try clear hi)))
  (try simp only [Act.put, sA_, sB_, sC_])
  go_cut [13] (fun v13 wc => ∃ (kq : Nat) (x13_4 : Bool), v13 = .bool x13_4 ∧ Aside0 (platformfwref08_Unary.j0 kq a0 a0 x13_4 a1_0 a1_1 a1_2 a1_3 = some (r1, r2, r3, r4, r5)) ∧ Aside0 (kq ≤ k) ∧ Aside0 (wc.heap[gb293]? = some (.cells #[.int .i64 a1_0, .int .u64 a1_1, .string a1_2, .int .i64 a1_3] 24 (0, 0))) ∧ Aside0 (wc.heap[gb294]? = some (.cells #[.int .i64 0, .int .u64 0, .string ⟨#[]⟩, .int .i64 0] 24 (0, 0))) ∧ Aside0 (Below w.heap.size w wc))
  case first =>
   have H := HC5.out
   clear HC5
   by_cases c11 : a0 = 77
   ·rw [if_pos c11] at H
    have c11b0 : (a0 == 77) = true := beq_iff_eq.mpr c11
    have c11b1 : (a0 != 77) = false := bne_eq_false_iff_eq.mpr c11
    clear c11
    (first | rw [c11b0] | (simp only [i64_w, i32_w]; rw [c11b0]) | skip)
    have H' := Aside0.mk H
    clear H
    go_wp2
    go_meet
    case rel => exact ⟨_, ((a0 == 77)), (by first | rfl | (simp; done) | (simp [*]; done)), H', ⟨by first | omega | exact Nat.le_refl _⟩, ⟨by (with_reducible repeat (first | apply kN_ | apply kD_ | apply kA_)); exact BK293.out⟩, ⟨by (with_reducible repeat (first | apply kN_ | apply kD_ | apply kA_)); exact BK294.out⟩, ⟨by repeat (first | (with_reducible first | exact HB.out | apply bA_ | apply bN_ | apply bD_ | refine bS_ ?_ GE293.out | refine bS_ ?_ GE294.out) | exact HB.out)⟩⟩
   ·rw [if_neg c11] at H
    have c11b0 : (a0 == 77) = false := beq_eq_false_iff_ne.mpr c11
    have c11b1 : (a0 != 77) = true := bne_iff_ne.mpr c11
    (first | rw [c11b0] | (simp only [i64_w, i32_w]; rw [c11b0]) | skip)
    have H' := Aside0.mk H
    clear H
    go_wp2
    go_meet
    case rel => exact ⟨_, ((a0 == 78)), (by first | rfl | (simp; done) | (simp [*]; done)), H', ⟨by first | omega | exact Nat.le_refl _⟩, ⟨by (with_reducible repeat (first | apply kN_ | apply kD_ | apply kA_)); exact BK293.out⟩, ⟨by (with_reducible repeat (first | apply kN_ | apply kD_ | apply kA_)); exact BK294.out⟩, ⟨by repeat (first | (with_reducible first | exact HB.out | apply bA_ | apply bN_ | apply bD_ | refine bS_ ?_ GE293.out | refine bS_ ?_ GE294.out) | exact HB.out)⟩⟩
  case rest =>
   clear HC5
   try clear c1
   try clear c2
   try clear p2
   try clear c4
   try clear c5
   try clear c8
   try clear c11
   try clear c11b0
   try clear c11b1
   try clear hcz9_0 hcz9_1 hcz9_2 hcz9_3
   try clear hfz9_0 hfz9_1 hfz9_2 hfz9_3
   obtain ⟨kq, x13_4, rfl, HA, HJ4, BK293, BK294, HB⟩ := hcut
   cases kq with
   | zero => exact absurd HA.out (by simp [platformfwref08_Unary.j0])
   | succ kj4 =>
    have H := HA.out
    clear HA
    simp only [platformfwref08_Unary.j0] at H
    by_cases c12 : x13_4 = true
    ·subst c12
     have H1 : ((platformfwref08_Integer.f kj4 a1_0 a1_1 a1_2 a1_3).bind fun bt296 => (if bt296.2 = 0 then (if a0 = 77 then ((platformfwref08_Number.f (Go.bits .xor .u64 18446744073709551615 bt296.1)).bind fun bt298 => (some (bt298.1, bt298.2.1, bt298.2.2.1, bt298.2.2.2, 0))) else ((platformfwref08_Bool.f (bt296.1 == 0)).bind fun bt302 => (some (bt302.1, bt302.2.1, bt302.2.2.1, bt302.2.2.2, 0)))) else (some (0, 0, (⟨#[]⟩ : ByteArray), 0, bt296.2)))) = some (r1, r2, r3, r4, r5) := by rw [if_pos rfl] at H; exact H
     clear H
     have H := H1
     clear H1
     replace H := Option.bind_eq_some_iff.mp H
     obtain ⟨⟨t296, t297⟩, A130, H⟩ := H
     replace H : (if t297 = 0 then (if a0 = 77 then ((platformfwref08_Number.f (Go.bits .xor .u64 18446744073709551615 t296)).bind fun bt298 => (some (bt298.1, bt298.2.1, bt298.2.2.1, bt298.2.2.2, 0))) else ((platformfwref08_Bool.f (t296 == 0)).bind fun bt302 => (some (bt302.1, bt302.2.1, bt302.2.2.1, bt302.2.2.2, 0)))) else (some (0, 0, (⟨#[]⟩ : ByteArray), 0, t297))) = some (r1, r2, r3, r4, r5) := H
     have A13 := Aside0.mk A130
     clear A130
     by_cases c14 : t297 = 0
     ·rw [if_pos c14] at H
      have c14b0 : (t297 == 0) = true := beq_iff_eq.mpr c14
      have c14b1 : (t297 != 0) = false := bne_eq_false_iff_eq.mpr c14
      clear c14
      by_cases c15 : a0 = 77
      ·rw [if_pos c15] at H
       have c15b0 : (a0 == 77) = true := beq_iff_eq.mpr c15
       have c15b1 : (a0 != 77) = false := bne_eq_false_iff_eq.mpr c15
       clear c15
       replace H := Option.bind_eq_some_iff.mp H
       obtain ⟨⟨t298, t299, t300, t301⟩, A160, H⟩ := H
       replace H : (some (t298, t299, t300, t301, 0)) = some (r1, r2, r3, r4, r5) := H
       have A16 := Aside0.mk A160
       clear A160
       simp only [Option.some.injEq, Prod.mk.injEq] at H
       obtain ⟨rfl, rfl, rfl, rfl, rfl⟩ := H
       have hnb17 := NB293_294.out
       have hnc17 := NB294_293.out
       obtain ⟨hcz18_0, hcz18_1, hcz18_2, hcz18_3⟩ := cells4_ BK293.out
       obtain ⟨hfz18_0, hfz18_1, hfz18_2, hfz18_3⟩ := froz4_ BK293.out
       go_wp2_with (first | ((with_reducible refine gate_callee (f := 26) rfl ?_); refine goesL_ (some 18) rfl rfl Tryz.func26 (by kernel_rfl) rfl #[.agg #[.int .i64 a1_0, .int .u64 a1_1, .string a1_2, .int .i64 a1_3]] rfl (by (try simp only [List.map_toArray, List.map_cons, List.map_nil]); first | done | rfl) ?_; (with_reducible refine (platformfwref08_Integer.calls kj4 a1_0 a1_1 a1_2 a1_3 t296 t297 _ A13.out).mono ?_); rintro e w19 ⟨rfl, hb⟩; refine ⟨_, rfl, ?_⟩; replace BK293 := sqB_ (g := gb293) (by (with_reducible repeat (first | apply kN_ | apply kD_ | apply kA_)); exact BK293.out) hb; replace BK294 := sqB_ (g := gb294) (by (with_reducible repeat (first | apply kN_ | apply kD_ | apply kA_)); exact BK294.out) hb; replace HB := sqS_ (by repeat (first | (with_reducible first | exact HB.out | apply bA_ | apply bN_ | apply bD_ | refine bS_ ?_ GE293.out | refine bS_ ?_ GE294.out) | exact HB.out)) hb; (try clear hb); (try clear hb2); (try clear hk); (try clear hi)) | ((with_reducible refine gate_callee (f := 27) rfl ?_); refine goesL_ (some 31) rfl rfl Tryz.func27 (by kernel_rfl) rfl #[.int .u64 (Go.bits .xor .u64 18446744073709551615 t296)] rfl (by (try simp only [List.map_toArray, List.map_cons, List.map_nil]); first | done | rfl) ?_; (with_reducible refine (platformfwref08_Number.calls (Go.bits .xor .u64 18446744073709551615 t296) t298 t299 t300 t301 _ A16.out).mono ?_); rintro e w20 ⟨rfl, hb⟩; refine ⟨_, rfl, ?_⟩; replace BK293 := sqB_ (g := gb293) (by (with_reducible repeat (first | apply kN_ | apply kD_ | apply kA_)); exact BK293.out) hb; replace BK294 := sqB_ (g := gb294) (by (with_reducible repeat (first | apply kN_ | apply kD_ | apply kA_)); exact BK294.out) hb; replace HB := sqS_ (by repeat (first | (with_reducible first | exact HB.out | apply bA_ | apply bN_ | apply bD_ | refine bS_ ?_ GE293.out | refine bS_ ?_ GE294.out) | exact HB.out)) hb; (try clear hb); (try clear hb2); (try clear hk); (try clear hi); obtain ⟨hcz21_0, hcz21_1, hcz21_2, hcz21_3⟩ := cells4_ BK294.out; obtain ⟨hfz21_0, hfz21_1, hfz21_2, hfz21_3⟩ := froz4_ BK294.out))
       refine bodyPost_ret (results_ct rfl _ _ gb294 24 #[.int .i64 t298, .int .u64 t299, .string t300, .int .i64 t301] (0, 0) _ rfl (by (with_reducible repeat (first | apply kN_ | apply kD_ | apply kA_)); refine blk_put (cs := #[.int .i64 t298, .int .u64 t299, .string t300, .int .i64 0]) ?_ 3 _ rfl; (with_reducible repeat (first | apply kN_ | apply kD_ | apply kA_)); refine blk_put (cs := #[.int .i64 t298, .int .u64 t299, .string ⟨#[]⟩, .int .i64 0]) ?_ 2 _ rfl; (with_reducible repeat (first | apply kN_ | apply kD_ | apply kA_)); refine blk_put (cs := #[.int .i64 t298, .int .u64 0, .string ⟨#[]⟩, .int .i64 0]) ?_ 1 _ rfl; (with_reducible repeat (first | apply kN_ | apply kD_ | apply kA_)); refine blk_put (cs := #[.int .i64 0, .int .u64 0, .string ⟨#[]⟩, .int .i64 0]) ?_ 0 _ rfl; (with_reducible repeat (first | apply kN_ | apply kD_ | apply kA_)); exact BK294.out) Tryz.underlying24 rfl (by kernel_rfl)) rfl ?_
       exact ⟨by first | rfl | (simp [errW_none, errW_some] <;> rfl) | (simp [*, errW_none, errW_some] <;> rfl), by repeat (first | (with_reducible first | exact HB.out | apply bA_ | apply bN_ | apply bD_ | refine bS_ ?_ GE293.out | refine bS_ ?_ GE294.out) | exact HB.out)⟩
      ·rw [if_neg c15] at H
       have c15b0 : (a0 == 77) = false := beq_eq_false_iff_ne.mpr c15
       have c15b1 : (a0 != 77) = true := bne_iff_ne.mpr c15
       replace H := Option.bind_eq_some_iff.mp H
       obtain ⟨⟨t302, t303, t304, t305⟩, A220, H⟩ := H
       replace H : (some (t302, t303, t304, t305, 0)) = some (r1, r2, r3, r4, r5) := H
       have A22 := Aside0.mk A220
       clear A220
       simp only [Option.some.injEq, Prod.mk.injEq] at H
       obtain ⟨rfl, rfl, rfl, rfl, rfl⟩ := H
       have hnb23 := NB293_294.out
       have hnc23 := NB294_293.out
       obtain ⟨hcz24_0, hcz24_1, hcz24_2, hcz24_3⟩ := cells4_ BK293.out
       obtain ⟨hfz24_0, hfz24_1, hfz24_2, hfz24_3⟩ := froz4_ BK293.out
       go_wp2_with (first | ((with_reducible refine gate_callee (f := 26) rfl ?_); refine goesL_ (some 18) rfl rfl Tryz.func26 (by kernel_rfl) rfl #[.agg #[.int .i64 a1_0, .int .u64 a1_1, .string a1_2, .int .i64 a1_3]] rfl (by (try simp only [List.map_toArray, List.map_cons, List.map_nil]); first | done | rfl) ?_; (with_reducible refine (platformfwref08_Integer.calls kj4 a1_0 a1_1 a1_2 a1_3 t296 t297 _ A13.out).mono ?_); rintro e w25 ⟨rfl, hb⟩; refine ⟨_, rfl, ?_⟩; replace BK293 := sqB_ (g := gb293) (by (with_reducible repeat (first | apply kN_ | apply kD_ | apply kA_)); exact BK293.out) hb; replace BK294 := sqB_ (g := gb294) (by (with_reducible repeat (first | apply kN_ | apply kD_ | apply kA_)); exact BK294.out) hb; replace HB := sqS_ (by repeat (first | (with_reducible first | exact HB.out | apply bA_ | apply bN_ | apply bD_ | refine bS_ ?_ GE293.out | refine bS_ ?_ GE294.out) | exact HB.out)) hb; (try clear hb); (try clear hb2); (try clear hk); (try clear hi)) | ((with_reducible refine gate_callee (f := 28) rfl ?_); refine goesL_ (some 34) rfl rfl Tryz.func28 (by kernel_rfl) rfl #[.bool (t296 == 0)] rfl (by (try simp only [List.map_toArray, List.map_cons, List.map_nil]); first | done | rfl) ?_; (with_reducible refine (platformfwref08_Bool.calls (t296 == 0) t302 t303 t304 t305 _ A22.out).mono ?_); rintro e w26 ⟨rfl, hb⟩; refine ⟨_, rfl, ?_⟩; replace BK293 := sqB_ (g := gb293) (by (with_reducible repeat (first | apply kN_ | apply kD_ | apply kA_)); exact BK293.out) hb; replace BK294 := sqB_ (g := gb294) (by (with_reducible repeat (first | apply kN_ | apply kD_ | apply kA_)); exact BK294.out) hb; replace HB := sqS_ (by repeat (first | (with_reducible first | exact HB.out | apply bA_ | apply bN_ | apply bD_ | refine bS_ ?_ GE293.out | refine bS_ ?_ GE294.out) | exact HB.out)) hb; (try clear hb); (try clear hb2); (try clear hk); (try clear hi); obtain ⟨hcz27_0, hcz27_1, hcz27_2, hcz27_3⟩ := cells4_ BK294.out; obtain ⟨hfz27_0, hfz27_1, hfz27_2, hfz27_3⟩ := froz4_ BK294.out))
       refine bodyPost_ret (results_ct rfl _ _ gb294 24 #[.int .i64 t302, .int .u64 t303, .string t304, .int .i64 t305] (0, 0) _ rfl (by (with_reducible repeat (first | apply kN_ | apply kD_ | apply kA_)); refine blk_put (cs := #[.int .i64 t302, .int .u64 t303, .string t304, .int .i64 0]) ?_ 3 _ rfl; (with_reducible repeat (first | apply kN_ | apply kD_ | apply kA_)); refine blk_put (cs := #[.int .i64 t302, .int .u64 t303, .string ⟨#[]⟩, .int .i64 0]) ?_ 2 _ rfl; (with_reducible repeat (first | apply kN_ | apply kD_ | apply kA_)); refine blk_put (cs := #[.int .i64 t302, .int .u64 0, .string ⟨#[]⟩, .int .i64 0]) ?_ 1 _ rfl; (with_reducible repeat (first | apply kN_ | apply kD_ | apply kA_)); refine blk_put (cs := #[.int .i64 0, .int .u64 0, .string ⟨#[]⟩, .int .i64 0]) ?_ 0 _ rfl; (with_reducible repeat (first | apply kN_ | apply kD_ | apply kA_)); exact BK294.out) Tryz.underlying24 rfl (by kernel_rfl)) rfl ?_
       exact ⟨by first | rfl | (simp [errW_none, errW_some] <;> rfl) | (simp [*, errW_none, errW_some] <;> rfl), by repeat (first | (with_reducible first | exact HB.out | apply bA_ | apply bN_ | apply bD_ | refine bS_ ?_ GE293.out | refine bS_ ?_ GE294.out) | exact HB.out)⟩
     ·rw [if_neg c14] at H
      have c14b0 : (t297 == 0) = false := beq_eq_false_iff_ne.mpr c14
      have c14b1 : (t297 != 0) = true := bne_iff_ne.mpr c14
      simp only [Option.some.injEq, Prod.mk.injEq] at H
      obtain ⟨rfl, rfl, rfl, rfl, rfl⟩ := H
      have hnb28 := NB293_294.out
      have hnc28 := NB294_293.out
      obtain ⟨hcz29_0, hcz29_1, hcz29_2, hcz29_3⟩ := cells4_ BK293.out
      obtain ⟨hfz29_0, hfz29_1, hfz29_2, hfz29_3⟩ := froz4_ BK293.out
      go_wp2_with (first | ((with_reducible refine gate_callee (f := 26) rfl ?_); refine goesL_ (some 18) rfl rfl Tryz.func26 (by kernel_rfl) rfl #[.agg #[.int .i64 a1_0, .int .u64 a1_1, .string a1_2, .int .i64 a1_3]] rfl (by (try simp only [List.map_toArray, List.map_cons, List.map_nil]); first | done | rfl) ?_; (with_reducible refine (platformfwref08_Integer.calls kj4 a1_0 a1_1 a1_2 a1_3 t296 t297 _ A13.out).mono ?_); rintro e w30 ⟨rfl, hb⟩; refine ⟨_, rfl, ?_⟩; replace BK293 := sqB_ (g := gb293) (by (with_reducible repeat (first | apply kN_ | apply kD_ | apply kA_)); exact BK293.out) hb; replace BK294 := sqB_ (g := gb294) (by (with_reducible repeat (first | apply kN_ | apply kD_ | apply kA_)); exact BK294.out) hb; replace HB := sqS_ (by repeat (first | (with_reducible first | exact HB.out | apply bA_ | apply bN_ | apply bD_ | refine bS_ ?_ GE293.out | refine bS_ ?_ GE294.out) | exact HB.out)) hb; (try clear hb); (try clear hb2); (try clear hk); (try clear hi); obtain ⟨hcz31_0, hcz31_1, hcz31_2, hcz31_3⟩ := cells4_ BK294.out; obtain ⟨hfz31_0, hfz31_1, hfz31_2, hfz31_3⟩ := froz4_ BK294.out))
      refine bodyPost_ret (results_ct rfl _ _ gb294 24 #[.int .i64 0, .int .u64 0, .string ⟨#[]⟩, .int .i64 0] (0, 0) _ rfl (by (with_reducible repeat (first | apply kN_ | apply kD_ | apply kA_)); refine blk_put (cs := #[.int .i64 0, .int .u64 0, .string ⟨#[]⟩, .int .i64 0]) ?_ 3 _ rfl; (with_reducible repeat (first | apply kN_ | apply kD_ | apply kA_)); refine blk_put (cs := #[.int .i64 0, .int .u64 0, .string ⟨#[]⟩, .int .i64 0]) ?_ 2 _ rfl; (with_reducible repeat (first | apply kN_ | apply kD_ | apply kA_)); refine blk_put (cs := #[.int .i64 0, .int .u64 0, .string ⟨#[]⟩, .int .i64 0]) ?_ 1 _ rfl; (with_reducible repeat (first | apply kN_ | apply kD_ | apply kA_)); refine blk_put (cs := #[.int .i64 0, .int .u64 0, .string ⟨#[]⟩, .int .i64 0]) ?_ 0 _ rfl; (with_reducible repeat (first | apply kN_ | apply kD_ | apply kA_)); exact BK294.out) Tryz.underlying24 rfl (by kernel_rfl)) rfl ?_
      exact ⟨by first | rfl | (simp [errW_none, errW_some] <;> rfl) | (simp [*, errW_none, errW_some] <;> rfl), by repeat (first | (with_reducible first | exact HB.out | apply bA_ | apply bN_ | apply bD_ | refine bS_ ?_ GE293.out | refine bS_ ?_ GE294.out) | exact HB.out)⟩
    ·replace c12 := Bool.eq_false_iff.mpr c12
     subst c12
     have H1 : (if a0 = 79 then (if a1_0 = 2 then ((platformfwref08_Number.f (IntKind.u64.wrap ((a1_2.size : Int)))).bind fun bt306 => (some (bt306.1, bt306.2.1, bt306.2.2.1, bt306.2.2.2, 0))) else (if a1_0 = 3 then ((platformfwref08_Number.f (IntKind.u64.wrap ((a1_2.size : Int)))).bind fun bt310 => (some (bt310.1, bt310.2.1, bt310.2.2.1, bt310.2.2.2, 0))) else (some (0, 0, (⟨#[]⟩ : ByteArray), 0, 10)))) else (if a0 = 80 then ((platformfwref08_explicit.f kj4 a1_0 a1_1 a1_2 a1_3).bind fun bt314 => (some (bt314.1, bt314.2.1, bt314.2.2.1, bt314.2.2.2.1, bt314.2.2.2.2))) else (if a0 = 81 then ((platformfwref08_Convert.f kj4 a1_0 a1_1 a1_2 a1_3 3).bind fun bt319 => (some (bt319.1, bt319.2.1, bt319.2.2.1, bt319.2.2.2.1, bt319.2.2.2.2))) else (if a0 = 82 then ((platformfwref08_written.f kj4 a1_0 a1_1 a1_2 a1_3 (⟨#[48, 120]⟩ : ByteArray) 16 2).bind fun bt324 => (some (bt324.1, bt324.2.1, bt324.2.2.1, bt324.2.2.2.1, bt324.2.2.2.2))) else (if a0 = 83 then ((platformfwref08_written.f kj4 a1_0 a1_1 a1_2 a1_3 (⟨#[]⟩ : ByteArray) 10 1).bind fun bt329 => (some (bt329.1, bt329.2.1, bt329.2.2.1, bt329.2.2.2.1, bt329.2.2.2.2))) else (some (0, 0, (⟨#[]⟩ : ByteArray), 0, 1))))))) = some (r1, r2, r3, r4, r5) := by rw [if_neg (show ¬ (false = true) by decide)] at H; exact H
     clear H
     have H := H1
     clear H1
     by_cases c32 : a0 = 79
     ·rw [if_pos c32] at H
      have c32b0 : (a0 == 79) = true := beq_iff_eq.mpr c32
      have c32b1 : (a0 != 79) = false := bne_eq_false_iff_eq.mpr c32
      clear c32
      by_cases c33 : a1_0 = 2
      ·rw [if_pos c33] at H
       have c33b0 : (a1_0 == 2) = true := beq_iff_eq.mpr c33
       have c33b1 : (a1_0 != 2) = false := bne_eq_false_iff_eq.mpr c33
       clear c33
       replace H := Option.bind_eq_some_iff.mp H
       obtain ⟨⟨t306, t307, t308, t309⟩, A340, H⟩ := H
       replace H : (some (t306, t307, t308, t309, 0)) = some (r1, r2, r3, r4, r5) := H
       have A34 := Aside0.mk A340
       clear A340
       simp only [Option.some.injEq, Prod.mk.injEq] at H
       obtain ⟨rfl, rfl, rfl, rfl, rfl⟩ := H
       have hnb35 := NB293_294.out
       have hnc35 := NB294_293.out
       obtain ⟨hcz36_0, hcz36_1, hcz36_2, hcz36_3⟩ := cells4_ BK293.out
       obtain ⟨hfz36_0, hfz36_1, hfz36_2, hfz36_3⟩ := froz4_ BK293.out
       go_wp2_with (first | ((with_reducible refine gate_callee (f := 27) rfl ?_); refine goesL_ (some 50) rfl rfl Tryz.func27 (by kernel_rfl) rfl #[.int .u64 (IntKind.u64.wrap ((a1_2.size : Int)))] rfl (by (try simp only [List.map_toArray, List.map_cons, List.map_nil]); first | done | rfl) ?_; (with_reducible refine (platformfwref08_Number.calls (IntKind.u64.wrap ((a1_2.size : Int))) t306 t307 t308 t309 _ A34.out).mono ?_); rintro e w37 ⟨rfl, hb⟩; refine ⟨_, rfl, ?_⟩; replace BK293 := sqB_ (g := gb293) (by (with_reducible repeat (first | apply kN_ | apply kD_ | apply kA_)); exact BK293.out) hb; replace BK294 := sqB_ (g := gb294) (by (with_reducible repeat (first | apply kN_ | apply kD_ | apply kA_)); exact BK294.out) hb; replace HB := sqS_ (by repeat (first | (with_reducible first | exact HB.out | apply bA_ | apply bN_ | apply bD_ | refine bS_ ?_ GE293.out | refine bS_ ?_ GE294.out) | exact HB.out)) hb; (try clear hb); (try clear hb2); (try clear hk); (try clear hi); obtain ⟨hcz38_0, hcz38_1, hcz38_2, hcz38_3⟩ := cells4_ BK294.out; obtain ⟨hfz38_0, hfz38_1, hfz38_2, hfz38_3⟩ := froz4_ BK294.out))
       refine bodyPost_ret (results_ct rfl _ _ gb294 24 #[.int .i64 t306, .int .u64 t307, .string t308, .int .i64 t309] (0, 0) _ rfl (by (with_reducible repeat (first | apply kN_ | apply kD_ | apply kA_)); refine blk_put (cs := #[.int .i64 t306, .int .u64 t307, .string t308, .int .i64 0]) ?_ 3 _ rfl; (with_reducible repeat (first | apply kN_ | apply kD_ | apply kA_)); refine blk_put (cs := #[.int .i64 t306, .int .u64 t307, .string ⟨#[]⟩, .int .i64 0]) ?_ 2 _ rfl; (with_reducible repeat (first | apply kN_ | apply kD_ | apply kA_)); refine blk_put (cs := #[.int .i64 t306, .int .u64 0, .string ⟨#[]⟩, .int .i64 0]) ?_ 1 _ rfl; (with_reducible repeat (first | apply kN_ | apply kD_ | apply kA_)); refine blk_put (cs := #[.int .i64 0, .int .u64 0, .string ⟨#[]⟩, .int .i64 0]) ?_ 0 _ rfl; (with_reducible repeat (first | apply kN_ | apply kD_ | apply kA_)); exact BK294.out) Tryz.underlying24 rfl (by kernel_rfl)) rfl ?_
       exact ⟨by first | rfl | (simp [errW_none, errW_some] <;> rfl) | (simp [*, errW_none, errW_some] <;> rfl), by repeat (first | (with_reducible first | exact HB.out | apply bA_ | apply bN_ | apply bD_ | refine bS_ ?_ GE293.out | refine bS_ ?_ GE294.out) | exact HB.out)⟩
      ·rw [if_neg c33] at H
       have c33b0 : (a1_0 == 2) = false := beq_eq_false_iff_ne.mpr c33
       have c33b1 : (a1_0 != 2) = true := bne_iff_ne.mpr c33
       by_cases c39 : a1_0 = 3
       ·rw [if_pos c39] at H
        have c39b0 : (a1_0 == 3) = true := beq_iff_eq.mpr c39
        have c39b1 : (a1_0 != 3) = false := bne_eq_false_iff_eq.mpr c39
        clear c39
        replace H := Option.bind_eq_some_iff.mp H
        obtain ⟨⟨t310, t311, t312, t313⟩, A400, H⟩ := H
        replace H : (some (t310, t311, t312, t313, 0)) = some (r1, r2, r3, r4, r5) := H
        have A40 := Aside0.mk A400
        clear A400
        simp only [Option.some.injEq, Prod.mk.injEq] at H
        obtain ⟨rfl, rfl, rfl, rfl, rfl⟩ := H
        have hnb41 := NB293_294.out
        have hnc41 := NB294_293.out
        obtain ⟨hcz42_0, hcz42_1, hcz42_2, hcz42_3⟩ := cells4_ BK293.out
        obtain ⟨hfz42_0, hfz42_1, hfz42_2, hfz42_3⟩ := froz4_ BK293.out
        go_wp2_with (first | ((with_reducible refine gate_callee (f := 27) rfl ?_); refine goesL_ (some 50) rfl rfl Tryz.func27 (by kernel_rfl) rfl #[.int .u64 (IntKind.u64.wrap ((a1_2.size : Int)))] rfl (by (try simp only [List.map_toArray, List.map_cons, List.map_nil]); first | done | rfl) ?_; (with_reducible refine (platformfwref08_Number.calls (IntKind.u64.wrap ((a1_2.size : Int))) t310 t311 t312 t313 _ A40.out).mono ?_); rintro e w43 ⟨rfl, hb⟩; refine ⟨_, rfl, ?_⟩; replace BK293 := sqB_ (g := gb293) (by (with_reducible repeat (first | apply kN_ | apply kD_ | apply kA_)); exact BK293.out) hb; replace BK294 := sqB_ (g := gb294) (by (with_reducible repeat (first | apply kN_ | apply kD_ | apply kA_)); exact BK294.out) hb; replace HB := sqS_ (by repeat (first | (with_reducible first | exact HB.out | apply bA_ | apply bN_ | apply bD_ | refine bS_ ?_ GE293.out | refine bS_ ?_ GE294.out) | exact HB.out)) hb; (try clear hb); (try clear hb2); (try clear hk); (try clear hi); obtain ⟨hcz44_0, hcz44_1, hcz44_2, hcz44_3⟩ := cells4_ BK294.out; obtain ⟨hfz44_0, hfz44_1, hfz44_2, hfz44_3⟩ := froz4_ BK294.out))
        refine bodyPost_ret (results_ct rfl _ _ gb294 24 #[.int .i64 t310, .int .u64 t311, .string t312, .int .i64 t313] (0, 0) _ rfl (by (with_reducible repeat (first | apply kN_ | apply kD_ | apply kA_)); refine blk_put (cs := #[.int .i64 t310, .int .u64 t311, .string t312, .int .i64 0]) ?_ 3 _ rfl; (with_reducible repeat (first | apply kN_ | apply kD_ | apply kA_)); refine blk_put (cs := #[.int .i64 t310, .int .u64 t311, .string ⟨#[]⟩, .int .i64 0]) ?_ 2 _ rfl; (with_reducible repeat (first | apply kN_ | apply kD_ | apply kA_)); refine blk_put (cs := #[.int .i64 t310, .int .u64 0, .string ⟨#[]⟩, .int .i64 0]) ?_ 1 _ rfl; (with_reducible repeat (first | apply kN_ | apply kD_ | apply kA_)); refine blk_put (cs := #[.int .i64 0, .int .u64 0, .string ⟨#[]⟩, .int .i64 0]) ?_ 0 _ rfl; (with_reducible repeat (first | apply kN_ | apply kD_ | apply kA_)); exact BK294.out) Tryz.underlying24 rfl (by kernel_rfl)) rfl ?_
        exact ⟨by first | rfl | (simp [errW_none, errW_some] <;> rfl) | (simp [*, errW_none, errW_some] <;> rfl), by repeat (first | (with_reducible first | exact HB.out | apply bA_ | apply bN_ | apply bD_ | refine bS_ ?_ GE293.out | refine bS_ ?_ GE294.out) | exact HB.out)⟩
       ·rw [if_neg c39] at H
        have c39b0 : (a1_0 == 3) = false := beq_eq_false_iff_ne.mpr c39
        have c39b1 : (a1_0 != 3) = true := bne_iff_ne.mpr c39
        simp only [Option.some.injEq, Prod.mk.injEq] at H
        obtain ⟨rfl, rfl, rfl, rfl, rfl⟩ := H
        have hnb45 := NB293_294.out
        have hnc45 := NB294_293.out
        obtain ⟨hcz46_0, hcz46_1, hcz46_2, hcz46_3⟩ := cells4_ BK293.out
        obtain ⟨hfz46_0, hfz46_1, hfz46_2, hfz46_3⟩ := froz4_ BK293.out
        obtain ⟨hcz47_0, hcz47_1, hcz47_2, hcz47_3⟩ := cells4_ BK294.out
        obtain ⟨hfz47_0, hfz47_1, hfz47_2, hfz47_3⟩ := froz4_ BK294.out
        go_wp2
        refine bodyPost_ret (results_ct rfl _ _ gb294 24 #[.int .i64 0, .int .u64 0, .string ⟨#[]⟩, .int .i64 0] (0, 0) _ rfl (by (with_reducible repeat (first | apply kN_ | apply kD_ | apply kA_)); refine blk_put (cs := #[.int .i64 0, .int .u64 0, .string ⟨#[]⟩, .int .i64 0]) ?_ 3 _ rfl; (with_reducible repeat (first | apply kN_ | apply kD_ | apply kA_)); refine blk_put (cs := #[.int .i64 0, .int .u64 0, .string ⟨#[]⟩, .int .i64 0]) ?_ 2 _ rfl; (with_reducible repeat (first | apply kN_ | apply kD_ | apply kA_)); refine blk_put (cs := #[.int .i64 0, .int .u64 0, .string ⟨#[]⟩, .int .i64 0]) ?_ 1 _ rfl; (with_reducible repeat (first | apply kN_ | apply kD_ | apply kA_)); refine blk_put (cs := #[.int .i64 0, .int .u64 0, .string ⟨#[]⟩, .int .i64 0]) ?_ 0 _ rfl; (with_reducible repeat (first | apply kN_ | apply kD_ | apply kA_)); exact BK294.out) Tryz.underlying24 rfl (by kernel_rfl)) rfl ?_
        exact ⟨by first | rfl | (simp [errW_none, errW_some] <;> rfl) | (simp [*, errW_none, errW_some] <;> rfl), by repeat (first | (with_reducible first | exact HB.out | apply bA_ | apply bN_ | apply bD_ | refine bS_ ?_ GE293.out | refine bS_ ?_ GE294.out) | exact HB.out)⟩
     ·rw [if_neg c32] at H
      have c32b0 : (a0 == 79) = false := beq_eq_false_iff_ne.mpr c32
      have c32b1 : (a0 != 79) = true := bne_iff_ne.mpr c32
      by_cases c48 : a0 = 80
      ·rw [if_pos c48] at H
       have c48b0 : (a0 == 80) = true := beq_iff_eq.mpr c48
       have c48b1 : (a0 != 80) = false := bne_eq_false_iff_eq.mpr c48
       clear c48
       replace H := Option.bind_eq_some_iff.mp H
       obtain ⟨⟨t314, t315, t316, t317, t318⟩, A490, H⟩ := H
       replace H : (some (t314, t315, t316, t317, t318)) = some (r1, r2, r3, r4, r5) := H
       have A49 := Aside0.mk A490
       clear A490
       simp only [Option.some.injEq, Prod.mk.injEq] at H
       obtain ⟨rfl, rfl, rfl, rfl, rfl⟩ := H
       have hnb50 := NB293_294.out
       have hnc50 := NB294_293.out
       obtain ⟨hcz51_0, hcz51_1, hcz51_2, hcz51_3⟩ := cells4_ BK293.out
       obtain ⟨hfz51_0, hfz51_1, hfz51_2, hfz51_3⟩ := froz4_ BK293.out
       go_wp2_with (first | ((with_reducible refine gate_callee (f := 29) rfl ?_); refine goesL_ (some 54) rfl rfl Tryz.func29 (by kernel_rfl) rfl #[.agg #[.int .i64 a1_0, .int .u64 a1_1, .string a1_2, .int .i64 a1_3]] rfl (by (try simp only [List.map_toArray, List.map_cons, List.map_nil]); first | done | rfl) ?_; (with_reducible refine (platformfwref08_explicit.calls kj4 a1_0 a1_1 a1_2 a1_3 t314 t315 t316 t317 t318 _ A49.out).mono ?_); rintro e w52 ⟨rfl, hb⟩; refine ⟨_, rfl, ?_⟩; replace BK293 := sqB_ (g := gb293) (by (with_reducible repeat (first | apply kN_ | apply kD_ | apply kA_)); exact BK293.out) hb; replace BK294 := sqB_ (g := gb294) (by (with_reducible repeat (first | apply kN_ | apply kD_ | apply kA_)); exact BK294.out) hb; replace HB := sqS_ (by repeat (first | (with_reducible first | exact HB.out | apply bA_ | apply bN_ | apply bD_ | refine bS_ ?_ GE293.out | refine bS_ ?_ GE294.out) | exact HB.out)) hb; (try clear hb); (try clear hb2); (try clear hk); (try clear hi); obtain ⟨hcz53_0, hcz53_1, hcz53_2, hcz53_3⟩ := cells4_ BK294.out; obtain ⟨hfz53_0, hfz53_1, hfz53_2, hfz53_3⟩ := froz4_ BK294.out))
       refine bodyPost_ret (results_ct rfl _ _ gb294 24 #[.int .i64 t314, .int .u64 t315, .string t316, .int .i64 t317] (0, 0) _ rfl (by (with_reducible repeat (first | apply kN_ | apply kD_ | apply kA_)); refine blk_put (cs := #[.int .i64 t314, .int .u64 t315, .string t316, .int .i64 0]) ?_ 3 _ rfl; (with_reducible repeat (first | apply kN_ | apply kD_ | apply kA_)); refine blk_put (cs := #[.int .i64 t314, .int .u64 t315, .string ⟨#[]⟩, .int .i64 0]) ?_ 2 _ rfl; (with_reducible repeat (first | apply kN_ | apply kD_ | apply kA_)); refine blk_put (cs := #[.int .i64 t314, .int .u64 0, .string ⟨#[]⟩, .int .i64 0]) ?_ 1 _ rfl; (with_reducible repeat (first | apply kN_ | apply kD_ | apply kA_)); refine blk_put (cs := #[.int .i64 0, .int .u64 0, .string ⟨#[]⟩, .int .i64 0]) ?_ 0 _ rfl; (with_reducible repeat (first | apply kN_ | apply kD_ | apply kA_)); exact BK294.out) Tryz.underlying24 rfl (by kernel_rfl)) rfl ?_
       exact ⟨by first | rfl | (simp [errW_none, errW_some] <;> rfl) | (simp [*, errW_none, errW_some] <;> rfl), by repeat (first | (with_reducible first | exact HB.out | apply bA_ | apply bN_ | apply bD_ | refine bS_ ?_ GE293.out | refine bS_ ?_ GE294.out) | exact HB.out)⟩
      ·rw [if_neg c48] at H
       have c48b0 : (a0 == 80) = false := beq_eq_false_iff_ne.mpr c48
       have c48b1 : (a0 != 80) = true := bne_iff_ne.mpr c48
       by_cases c54 : a0 = 81
       ·rw [if_pos c54] at H
        have c54b0 : (a0 == 81) = true := beq_iff_eq.mpr c54
        have c54b1 : (a0 != 81) = false := bne_eq_false_iff_eq.mpr c54
        clear c54
        replace H := Option.bind_eq_some_iff.mp H
        obtain ⟨⟨t319, t320, t321, t322, t323⟩, A550, H⟩ := H
        replace H : (some (t319, t320, t321, t322, t323)) = some (r1, r2, r3, r4, r5) := H
        have A55 := Aside0.mk A550
        clear A550
        simp only [Option.some.injEq, Prod.mk.injEq] at H
        obtain ⟨rfl, rfl, rfl, rfl, rfl⟩ := H
        have hnb56 := NB293_294.out
        have hnc56 := NB294_293.out
        obtain ⟨hcz57_0, hcz57_1, hcz57_2, hcz57_3⟩ := cells4_ BK293.out
        obtain ⟨hfz57_0, hfz57_1, hfz57_2, hfz57_3⟩ := froz4_ BK293.out
        go_wp2_with (first | ((with_reducible refine gate_callee (f := 30) rfl ?_); refine goesL_ (some 60) rfl rfl Tryz.func30 (by kernel_rfl) rfl #[.agg #[.int .i64 a1_0, .int .u64 a1_1, .string a1_2, .int .i64 a1_3], .int .i64 3] rfl (by (try simp only [List.map_toArray, List.map_cons, List.map_nil]); first | done | rfl) ?_; (with_reducible refine (platformfwref08_Convert.calls kj4 a1_0 a1_1 a1_2 a1_3 3 t319 t320 t321 t322 t323 _ A55.out).mono ?_); rintro e w58 ⟨rfl, hb⟩; refine ⟨_, rfl, ?_⟩; replace BK293 := sqB_ (g := gb293) (by (with_reducible repeat (first | apply kN_ | apply kD_ | apply kA_)); exact BK293.out) hb; replace BK294 := sqB_ (g := gb294) (by (with_reducible repeat (first | apply kN_ | apply kD_ | apply kA_)); exact BK294.out) hb; replace HB := sqS_ (by repeat (first | (with_reducible first | exact HB.out | apply bA_ | apply bN_ | apply bD_ | refine bS_ ?_ GE293.out | refine bS_ ?_ GE294.out) | exact HB.out)) hb; (try clear hb); (try clear hb2); (try clear hk); (try clear hi); obtain ⟨hcz59_0, hcz59_1, hcz59_2, hcz59_3⟩ := cells4_ BK294.out; obtain ⟨hfz59_0, hfz59_1, hfz59_2, hfz59_3⟩ := froz4_ BK294.out))
        refine bodyPost_ret (results_ct rfl _ _ gb294 24 #[.int .i64 t319, .int .u64 t320, .string t321, .int .i64 t322] (0, 0) _ rfl (by (with_reducible repeat (first | apply kN_ | apply kD_ | apply kA_)); refine blk_put (cs := #[.int .i64 t319, .int .u64 t320, .string t321, .int .i64 0]) ?_ 3 _ rfl; (with_reducible repeat (first | apply kN_ | apply kD_ | apply kA_)); refine blk_put (cs := #[.int .i64 t319, .int .u64 t320, .string ⟨#[]⟩, .int .i64 0]) ?_ 2 _ rfl; (with_reducible repeat (first | apply kN_ | apply kD_ | apply kA_)); refine blk_put (cs := #[.int .i64 t319, .int .u64 0, .string ⟨#[]⟩, .int .i64 0]) ?_ 1 _ rfl; (with_reducible repeat (first | apply kN_ | apply kD_ | apply kA_)); refine blk_put (cs := #[.int .i64 0, .int .u64 0, .string ⟨#[]⟩, .int .i64 0]) ?_ 0 _ rfl; (with_reducible repeat (first | apply kN_ | apply kD_ | apply kA_)); exact BK294.out) Tryz.underlying24 rfl (by kernel_rfl)) rfl ?_
        exact ⟨by first | rfl | (simp [errW_none, errW_some] <;> rfl) | (simp [*, errW_none, errW_some] <;> rfl), by repeat (first | (with_reducible first | exact HB.out | apply bA_ | apply bN_ | apply bD_ | refine bS_ ?_ GE293.out | refine bS_ ?_ GE294.out) | exact HB.out)⟩
       ·rw [if_neg c54] at H
        have c54b0 : (a0 == 81) = false := beq_eq_false_iff_ne.mpr c54
        have c54b1 : (a0 != 81) = true := bne_iff_ne.mpr c54
        by_cases c60 : a0 = 82
        ·rw [if_pos c60] at H
         have c60b0 : (a0 == 82) = true := beq_iff_eq.mpr c60
         have c60b1 : (a0 != 82) = false := bne_eq_false_iff_eq.mpr c60
         clear c60
         replace H := Option.bind_eq_some_iff.mp H
         obtain ⟨⟨t324, t325, t326, t327, t328⟩, A610, H⟩ := H
         replace H : (some (t324, t325, t326, t327, t328)) = some (r1, r2, r3, r4, r5) := H
         have A61 := Aside0.mk A610
         clear A610
         simp only [Option.some.injEq, Prod.mk.injEq] at H
         obtain ⟨rfl, rfl, rfl, rfl, rfl⟩ := H
         have hnb62 := NB293_294.out
         have hnc62 := NB294_293.out
         obtain ⟨hcz63_0, hcz63_1, hcz63_2, hcz63_3⟩ := cells4_ BK293.out
         obtain ⟨hfz63_0, hfz63_1, hfz63_2, hfz63_3⟩ := froz4_ BK293.out
         go_wp2_with (first | ((with_reducible refine gate_callee (f := 31) rfl ?_); refine goesL_ (some 66) rfl rfl Tryz.func31 (by kernel_rfl) rfl #[.agg #[.int .i64 a1_0, .int .u64 a1_1, .string a1_2, .int .i64 a1_3], .string (⟨#[48, 120]⟩ : ByteArray), .int .u64 16, .int .i64 2] rfl (by (try simp only [List.map_toArray, List.map_cons, List.map_nil]); first | done | rfl) ?_; (with_reducible refine (platformfwref08_written.calls kj4 a1_0 a1_1 a1_2 a1_3 (⟨#[48, 120]⟩ : ByteArray) 16 2 t324 t325 t326 t327 t328 _ A61.out).mono ?_); rintro e w64 ⟨rfl, hb⟩; refine ⟨_, rfl, ?_⟩; replace BK293 := sqB_ (g := gb293) (by (with_reducible repeat (first | apply kN_ | apply kD_ | apply kA_)); exact BK293.out) hb; replace BK294 := sqB_ (g := gb294) (by (with_reducible repeat (first | apply kN_ | apply kD_ | apply kA_)); exact BK294.out) hb; replace HB := sqS_ (by repeat (first | (with_reducible first | exact HB.out | apply bA_ | apply bN_ | apply bD_ | refine bS_ ?_ GE293.out | refine bS_ ?_ GE294.out) | exact HB.out)) hb; (try clear hb); (try clear hb2); (try clear hk); (try clear hi); obtain ⟨hcz65_0, hcz65_1, hcz65_2, hcz65_3⟩ := cells4_ BK294.out; obtain ⟨hfz65_0, hfz65_1, hfz65_2, hfz65_3⟩ := froz4_ BK294.out))
         refine bodyPost_ret (results_ct rfl _ _ gb294 24 #[.int .i64 t324, .int .u64 t325, .string t326, .int .i64 t327] (0, 0) _ rfl (by (with_reducible repeat (first | apply kN_ | apply kD_ | apply kA_)); refine blk_put (cs := #[.int .i64 t324, .int .u64 t325, .string t326, .int .i64 0]) ?_ 3 _ rfl; (with_reducible repeat (first | apply kN_ | apply kD_ | apply kA_)); refine blk_put (cs := #[.int .i64 t324, .int .u64 t325, .string ⟨#[]⟩, .int .i64 0]) ?_ 2 _ rfl; (with_reducible repeat (first | apply kN_ | apply kD_ | apply kA_)); refine blk_put (cs := #[.int .i64 t324, .int .u64 0, .string ⟨#[]⟩, .int .i64 0]) ?_ 1 _ rfl; (with_reducible repeat (first | apply kN_ | apply kD_ | apply kA_)); refine blk_put (cs := #[.int .i64 0, .int .u64 0, .string ⟨#[]⟩, .int .i64 0]) ?_ 0 _ rfl; (with_reducible repeat (first | apply kN_ | apply kD_ | apply kA_)); exact BK294.out) Tryz.underlying24 rfl (by kernel_rfl)) rfl ?_
         exact ⟨by first | rfl | (simp [errW_none, errW_some] <;> rfl) | (simp [*, errW_none, errW_some] <;> rfl), by repeat (first | (with_reducible first | exact HB.out | apply bA_ | apply bN_ | apply bD_ | refine bS_ ?_ GE293.out | refine bS_ ?_ GE294.out) | exact HB.out)⟩
        ·rw [if_neg c60] at H
         have c60b0 : (a0 == 82) = false := beq_eq_false_iff_ne.mpr c60
         have c60b1 : (a0 != 82) = true := bne_iff_ne.mpr c60
         by_cases c66 : a0 = 83
         ·rw [if_pos c66] at H
          have c66b0 : (a0 == 83) = true := beq_iff_eq.mpr c66
          have c66b1 : (a0 != 83) = false := bne_eq_false_iff_eq.mpr c66
          clear c66
          replace H := Option.bind_eq_some_iff.mp H
          obtain ⟨⟨t329, t330, t331, t332, t333⟩, A670, H⟩ := H
          replace H : (some (t329, t330, t331, t332, t333)) = some (r1, r2, r3, r4, r5) := H
          have A67 := Aside0.mk A670
          clear A670
          simp only [Option.some.injEq, Prod.mk.injEq] at H
          obtain ⟨rfl, rfl, rfl, rfl, rfl⟩ := H
          have hnb68 := NB293_294.out
          have hnc68 := NB294_293.out
          obtain ⟨hcz69_0, hcz69_1, hcz69_2, hcz69_3⟩ := cells4_ BK293.out
          obtain ⟨hfz69_0, hfz69_1, hfz69_2, hfz69_3⟩ := froz4_ BK293.out
          go_wp2_with (first | ((with_reducible refine gate_callee (f := 31) rfl ?_); refine goesL_ (some 72) rfl rfl Tryz.func31 (by kernel_rfl) rfl #[.agg #[.int .i64 a1_0, .int .u64 a1_1, .string a1_2, .int .i64 a1_3], .string ⟨#[]⟩, .int .u64 10, .int .i64 1] rfl (by (try simp only [List.map_toArray, List.map_cons, List.map_nil]); first | done | rfl) ?_; (with_reducible refine (platformfwref08_written.calls kj4 a1_0 a1_1 a1_2 a1_3 (⟨#[]⟩ : ByteArray) 10 1 t329 t330 t331 t332 t333 _ A67.out).mono ?_); rintro e w70 ⟨rfl, hb⟩; refine ⟨_, rfl, ?_⟩; replace BK293 := sqB_ (g := gb293) (by (with_reducible repeat (first | apply kN_ | apply kD_ | apply kA_)); exact BK293.out) hb; replace BK294 := sqB_ (g := gb294) (by (with_reducible repeat (first | apply kN_ | apply kD_ | apply kA_)); exact BK294.out) hb; replace HB := sqS_ (by repeat (first | (with_reducible first | exact HB.out | apply bA_ | apply bN_ | apply bD_ | refine bS_ ?_ GE293.out | refine bS_ ?_ GE294.out) | exact HB.out)) hb; (try clear hb); (try clear hb2); (try clear hk); (try clear hi); obtain ⟨hcz71_0, hcz71_1, hcz71_2, hcz71_3⟩ := cells4_ BK294.out; obtain ⟨hfz71_0, hfz71_1, hfz71_2, hfz71_3⟩ := froz4_ BK294.out))
          refine bodyPost_ret (results_ct rfl _ _ gb294 24 #[.int .i64 t329, .int .u64 t330, .string t331, .int .i64 t332] (0, 0) _ rfl (by (with_reducible repeat (first | apply kN_ | apply kD_ | apply kA_)); refine blk_put (cs := #[.int .i64 t329, .int .u64 t330, .string t331, .int .i64 0]) ?_ 3 _ rfl; (with_reducible repeat (first | apply kN_ | apply kD_ | apply kA_)); refine blk_put (cs := #[.int .i64 t329, .int .u64 t330, .string ⟨#[]⟩, .int .i64 0]) ?_ 2 _ rfl; (with_reducible repeat (first | apply kN_ | apply kD_ | apply kA_)); refine blk_put (cs := #[.int .i64 t329, .int .u64 0, .string ⟨#[]⟩, .int .i64 0]) ?_ 1 _ rfl; (with_reducible repeat (first | apply kN_ | apply kD_ | apply kA_)); refine blk_put (cs := #[.int .i64 0, .int .u64 0, .string ⟨#[]⟩, .int .i64 0]) ?_ 0 _ rfl; (with_reducible repeat (first | apply kN_ | apply kD_ | apply kA_)); exact BK294.out) Tryz.underlying24 rfl (by kernel_rfl)) rfl ?_
          exact ⟨by first | rfl | (simp [errW_none, errW_some] <;> rfl) | (simp [*, errW_none, errW_some] <;> rfl), by repeat (first | (with_reducible first | exact HB.out | apply bA_ | apply bN_ | apply bD_ | refine bS_ ?_ GE293.out | refine bS_ ?_ GE294.out) | exact HB.out)⟩
         ·rw [if_neg c66] at H
          have c66b0 : (a0 == 83) = false := beq_eq_false_iff_ne.mpr c66
          have c66b1 : (a0 != 83) = true := bne_iff_ne.mpr c66
          simp only [Option.some.injEq, Prod.mk.injEq] at H
          obtain ⟨rfl, rfl, rfl, rfl, rfl⟩ := H
          have hnb72 := NB294_293.out
          have hnc72 := NB293_294.out
          obtain ⟨hcz73_0, hcz73_1, hcz73_2, hcz73_3⟩ := cells4_ BK294.out
          obtain ⟨hfz73_0, hfz73_1, hfz73_2, hfz73_3⟩ := froz4_ BK294.out
          go_wp2
          refine bodyPost_ret (results_ct rfl _ _ gb294 24 #[.int .i64 0, .int .u64 0, .string ⟨#[]⟩, .int .i64 0] (0, 0) _ rfl (by (with_reducible repeat (first | apply kN_ | apply kD_ | apply kA_)); refine blk_put (cs := #[.int .i64 0, .int .u64 0, .string ⟨#[]⟩, .int .i64 0]) ?_ 3 _ rfl; (with_reducible repeat (first | apply kN_ | apply kD_ | apply kA_)); refine blk_put (cs := #[.int .i64 0, .int .u64 0, .string ⟨#[]⟩, .int .i64 0]) ?_ 2 _ rfl; (with_reducible repeat (first | apply kN_ | apply kD_ | apply kA_)); refine blk_put (cs := #[.int .i64 0, .int .u64 0, .string ⟨#[]⟩, .int .i64 0]) ?_ 1 _ rfl; (with_reducible repeat (first | apply kN_ | apply kD_ | apply kA_)); refine blk_put (cs := #[.int .i64 0, .int .u64 0, .string ⟨#[]⟩, .int .i64 0]) ?_ 0 _ rfl; (with_reducible repeat (first | apply kN_ | apply kD_ | apply kA_)); exact BK294.out) Tryz.underlying24 rfl (by kernel_rfl)) rfl ?_
          exact ⟨by first | rfl | (simp [errW_none, errW_some] <;> rfl) | (simp [*, errW_none, errW_some] <;> rfl), by repeat (first | (with_reducible first | exact HB.out | apply bA_ | apply bN_ | apply bD_ | refine bS_ ?_ GE293.out | refine bS_ ?_ GE294.out) | exact HB.out)⟩
 ·replace c4 := Bool.eq_false_iff.mpr c4
  subst c4
  have H1 : (some (0, 0, (⟨#[]⟩ : ByteArray), 0, 1)) = some (r1, r2, r3, r4, r5) := by rw [if_neg (show ¬ (false = true) by decide)] at H; exact H
  clear H
  have H := H1
  clear H1
  simp only [Option.some.injEq, Prod.mk.injEq] at H
  obtain ⟨rfl, rfl, rfl, rfl, rfl⟩ := H
  go_enter Tryz.func5, Tryz.ntmps5
  go_wp2_with (first | ((with_reducible refine gate_dst (N := 3) rfl ?_); refine box_event ?hg (N := 3) ?hd (cs := #[.int .i64 a1_0, .int .u64 a1_1, .string a1_2, .int .i64 a1_3]) (t := 24) ?hr ?_; (case hd => rfl); (case hg => rfl); (case hr => first | (go_simp; done) | (go_simp; rfl)); intro gb293 hg w74 hbox hb; replace HB := sqN_ (by repeat (first | (with_reducible first | exact HB.out | apply bA_ | apply bN_ | apply bD_) | exact HB.out)) hg hb; obtain ⟨HB, GE293⟩ := HB; have BK293 := Aside0.mk hbox; clear hb hbox hg) | ((with_reducible refine gate_dst (N := 4) rfl ?_); refine box_event ?hg (N := 4) ?hd (cs := #[.int .i64 0, .int .u64 0, .string ⟨#[]⟩, .int .i64 0]) (t := 24) ?hr ?_; (case hd => rfl); (case hg => rfl); (case hr => first | (go_simp; done) | (go_simp; rfl)); intro gb294 hg w75 hbox hb; replace BK293 := sqO_ (g := gb293) (by (with_reducible repeat (first | apply kN_ | apply kD_ | apply kA_)); exact BK293.out) hg hb; obtain ⟨BK293, NB293_294, NB294_293⟩ := BK293; replace HB := sqN_ (by repeat (first | (with_reducible first | exact HB.out | apply bA_ | apply bN_ | apply bD_ | refine bS_ ?_ GE293.out) | exact HB.out)) hg hb; obtain ⟨HB, GE294⟩ := HB; have BK294 := Aside0.mk hbox; clear hb hbox hg; have hnb76 := NB293_294.out; have hnc76 := NB294_293.out; obtain ⟨hcz77_0, hcz77_1, hcz77_2, hcz77_3⟩ := cells4_ BK293.out; obtain ⟨hfz77_0, hfz77_1, hfz77_2, hfz77_3⟩ := froz4_ BK293.out) | ((with_reducible refine gate_callee (f := 25) rfl ?_); refine goesL_ (some 9) rfl rfl Tryz.func25 (by kernel_rfl) rfl #[.agg #[.int .i64 a1_0, .int .u64 a1_1, .string a1_2, .int .i64 a1_3]] rfl (by (try simp only [List.map_toArray, List.map_cons, List.map_nil]); first | done | rfl) ?_; (with_reducible refine (platformfwref08_Valid.calls a1_0 a1_1 a1_2 a1_3 false _ A3.out).mono ?_); rintro e w78 ⟨rfl, hb⟩; refine ⟨_, rfl, ?_⟩; replace BK293 := sqB_ (g := gb293) (by (with_reducible repeat (first | apply kN_ | apply kD_ | apply kA_)); exact BK293.out) hb; replace BK294 := sqB_ (g := gb294) (by (with_reducible repeat (first | apply kN_ | apply kD_ | apply kA_)); exact BK294.out) hb; replace HB := sqS_ (by repeat (first | (with_reducible first | exact HB.out | apply bA_ | apply bN_ | apply bD_ | refine bS_ ?_ GE293.out | refine bS_ ?_ GE294.out) | exact HB.out)) hb; (try clear hb); (try clear hb2); (try clear hk); (try clear hi); obtain ⟨hcz79_0, hcz79_1, hcz79_2, hcz79_3⟩ := cells4_ BK294.out; obtain ⟨hfz79_0, hfz79_1, hfz79_2, hfz79_3⟩ := froz4_ BK294.out))
  refine bodyPost_ret (results_ct rfl _ _ gb294 24 #[.int .i64 0, .int .u64 0, .string ⟨#[]⟩, .int .i64 0] (0, 0) _ rfl (by (with_reducible repeat (first | apply kN_ | apply kD_ | apply kA_)); refine blk_put (cs := #[.int .i64 0, .int .u64 0, .string ⟨#[]⟩, .int .i64 0]) ?_ 3 _ rfl; (with_reducible repeat (first | apply kN_ | apply kD_ | apply kA_)); refine blk_put (cs := #[.int .i64 0, .int .u64 0, .string ⟨#[]⟩, .int .i64 0]) ?_ 2 _ rfl; (with_reducible repeat (first | apply kN_ | apply kD_ | apply kA_)); refine blk_put (cs := #[.int .i64 0, .int .u64 0, .string ⟨#[]⟩, .int .i64 0]) ?_ 1 _ rfl; (with_reducible repeat (first | apply kN_ | apply kD_ | apply kA_)); refine blk_put (cs := #[.int .i64 0, .int .u64 0, .string ⟨#[]⟩, .int .i64 0]) ?_ 0 _ rfl; (with_reducible repeat (first | apply kN_ | apply kD_ | apply kA_)); exact BK294.out) Tryz.underlying24 rfl (by kernel_rfl)) rfl ?_
  exact ⟨by first | rfl | (simp [errW_none, errW_some] <;> rfl) | (simp [*, errW_none, errW_some] <;> rfl), by repeat (first | (with_reducible first | exact HB.out | apply bA_ | apply bN_ | apply bD_ | refine bS_ ?_ GE293.out | refine bS_ ?_ GE294.out) | exact HB.out)⟩

/-! ### platformfwhelp_Mod: function 6 -/
def platformfwhelp_Mod.f (a0 : Int) (a1 : Int) : Option (Int) := if (IntKind.u64.wrap (a1)) = 0 then (none) else (some (wrap64 (Int.tmod (IntKind.u64.wrap (a0)) (IntKind.u64.wrap (a1)))))
set_option maxHeartbeats 8000000 in
set_option maxRecDepth 100000 in
theorem platformfwhelp_Mod.calls (a0 : Int) (a1 : Int) (r : Int) (w : World) (h : platformfwhelp_Mod.f a0 a1 = some r) :
  Calls Tryz.prog 6 #[.int .i64 a0, .int .i64 a1] w fun e w' => e = .returned (.int .i64 r) ∧ Drawn0 w w' := by
 have H : (if (IntKind.u64.wrap (a1)) = 0 then (none) else (some (wrap64 (Int.tmod (IntKind.u64.wrap (a0)) (IntKind.u64.wrap (a1)))))) = some r := h
 clear h
 by_cases c3 : (IntKind.u64.wrap (a1)) = 0
 ·rw [if_pos c3] at H
  exact absurd H (by simp)
 ·rw [if_neg c3] at H
  have c3b0 : ((IntKind.u64.wrap (a1)) == 0) = false := beq_eq_false_iff_ne.mpr c3
  have c3b1 : ((IntKind.u64.wrap (a1)) != 0) = true := bne_iff_ne.mpr c3
  obtain rfl := Option.some.inj H
  go_enter Tryz.func6, Tryz.ntmps6
  go_wp2
  go_ret
  exact ⟨by first | rfl | (simp; done) | (simp [*]; done), by repeat (first | exact Drawn0.refl _ | apply Drawn0.step)⟩

end Go.Proofs.YtdmeglmmihaonaaGreatDoor.PValueUnary
