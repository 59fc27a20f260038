-- Written by a program of this session's (wip/print_patch.py over the kit's print) out of the translation; Lean checks it.
import Derived.Test.YtmnmidclaaiffaaPFieldPlansx0
import Derived.Test.YtmnmidclaaiffaaPFieldPlansx3
import Derived.Test.YtmnmidclaaiffaaPFieldPlansx8
import Derived.Test.YtmnmidclaaiffaaPFieldPlansx12
namespace Go.Proofs.Ytmnmidclaaiffaa.PFieldPlans
open Go.RowKit Go.Proofs.YtmnmidclaaiffaaW.PrintWords Go.Proofs.YtmnmidclaaiffaaW.PrintLast Go.Proofs.YtmnmidclaaiffaaW.PrintMore
attribute [local go_sem] max2_int min2_int max_two min_two max_three min_three max_four min_four   -- for this text's walks alone
set_option linter.unusedVariables false
set_option linter.unusedSimpArgs false

/-! ### platformfwlaw11_FieldPlans: function 9 -/
def platformfwlaw11_FieldPlans.f (k : Nat) (a0_0 : Int) (a0_1 : Int) (a0_2 : Int) (a0_3 : Int) (a0_4 : Int) (a0_5 : Int) (a0_6 : Int) (a0_7 : Int) (a0_8 : Int) : Option (Bool) := (platformfwlaw11_awake.f k).bind fun t275 => (if t275 = true then ((platformfwlaw11_plans.f k a0_0 a0_1 a0_2 a0_3 a0_4 a0_5 a0_6 a0_7 a0_8).bind fun t276 => (if t276 = true then ((platformfwlaw11_spec.f k a0_0 a0_1 a0_2 a0_3 a0_4 a0_5 a0_6 a0_7 a0_8).bind fun bt277 => ((platformfwlaw11_plans.f k bt277.1 bt277.2.1 bt277.2.2.1 bt277.2.2.2.1 bt277.2.2.2.2.1 bt277.2.2.2.2.2.1 bt277.2.2.2.2.2.2.1 bt277.2.2.2.2.2.2.2.1 bt277.2.2.2.2.2.2.2.2).bind fun t286 => (some t286))) else (some false))) else (some false))
theorem platformfwlaw11_FieldPlans.mono : ∀ a0 a1 a2 a3 a4 a5 a6 a7 a8 k, LeO (platformfwlaw11_FieldPlans.f k a0 a1 a2 a3 a4 a5 a6 a7 a8) (platformfwlaw11_FieldPlans.f (k + 1) a0 a1 a2 a3 a4 a5 a6 a7 a8) := by
 intro a0 a1 a2 a3 a4 a5 a6 a7 a8 k
 unfold platformfwlaw11_FieldPlans.f
 repeat' first
   | (with_reducible exact platformfwlaw11_awake.mono _)
   | (with_reducible exact platformfwlaw11_plans.mono _ _ _ _ _ _ _ _ _ _)
   | (with_reducible exact platformfwlaw11_spec.mono _ _ _ _ _ _ _ _ _ _)
   | (with_reducible exact LeO.refl _)
   | (with_reducible exact LeO.none _)
   | (with_reducible refine LeO.ite ?_ ?_)
   | (with_reducible refine LeO.bind ?_ (fun _ => ?_))
   | exact platformfwlaw11_awake.mono _
   | exact platformfwlaw11_plans.mono _ _ _ _ _ _ _ _ _ _
   | exact platformfwlaw11_spec.mono _ _ _ _ _ _ _ _ _ _
   | exact LeO.none _
   | refine LeO.ite ?_ ?_
   | refine LeO.bind ?_ (fun _ => ?_)
set_option maxHeartbeats 8000000 in
set_option maxRecDepth 100000 in
theorem platformfwlaw11_FieldPlans.calls (k : Nat) (a0_0 : Int) (a0_1 : Int) (a0_2 : Int) (a0_3 : Int) (a0_4 : Int) (a0_5 : Int) (a0_6 : Int) (a0_7 : Int) (a0_8 : Int) (r : Bool) (w : World) (h : platformfwlaw11_FieldPlans.f k a0_0 a0_1 a0_2 a0_3 a0_4 a0_5 a0_6 a0_7 a0_8 = some r) :
  Calls Try.prog 9 #[.agg #[.int .i64 a0_0, .int .u64 a0_1, .int .u64 a0_2, .int .i64 a0_3, .int .i64 a0_4, .int .i64 a0_5, .int .i64 a0_6, .int .i64 a0_7, .int .i64 a0_8]] w fun e w' => e = .returned (.bool r) ∧ Below w.heap.size w w' := by
 have hu26 := Try.underlying26
 have HB := Aside0.mk (Below.refl w.heap.size w)
 have H : ((platformfwlaw11_awake.f k).bind fun t275 => (if t275 = true then ((platformfwlaw11_plans.f k a0_0 a0_1 a0_2 a0_3 a0_4 a0_5 a0_6 a0_7 a0_8).bind fun t276 => (if t276 = true then ((platformfwlaw11_spec.f k a0_0 a0_1 a0_2 a0_3 a0_4 a0_5 a0_6 a0_7 a0_8).bind fun bt277 => ((platformfwlaw11_plans.f k bt277.1 bt277.2.1 bt277.2.2.1 bt277.2.2.2.1 bt277.2.2.2.2.1 bt277.2.2.2.2.2.1 bt277.2.2.2.2.2.2.1 bt277.2.2.2.2.2.2.2.1 bt277.2.2.2.2.2.2.2.2).bind fun t286 => (some t286))) else (some false))) else (some false))) = some r := h
 clear h
 replace H := Option.bind_eq_some_iff.mp H
 obtain ⟨t275, A20, H⟩ := H
 replace H : (if t275 = true then ((platformfwlaw11_plans.f k a0_0 a0_1 a0_2 a0_3 a0_4 a0_5 a0_6 a0_7 a0_8).bind fun t276 => (if t276 = true then ((platformfwlaw11_spec.f k a0_0 a0_1 a0_2 a0_3 a0_4 a0_5 a0_6 a0_7 a0_8).bind fun bt277 => ((platformfwlaw11_plans.f k bt277.1 bt277.2.1 bt277.2.2.1 bt277.2.2.2.1 bt277.2.2.2.2.1 bt277.2.2.2.2.2.1 bt277.2.2.2.2.2.2.1 bt277.2.2.2.2.2.2.2.1 bt277.2.2.2.2.2.2.2.2).bind fun t286 => (some t286))) else (some false))) else (some false)) = some r := H
 have A2 := Aside0.mk A20
 clear A20
 by_cases c3 : t275 = true
 ·subst c3
  have H1 : ((platformfwlaw11_plans.f k a0_0 a0_1 a0_2 a0_3 a0_4 a0_5 a0_6 a0_7 a0_8).bind fun t276 => (if t276 = true then ((platformfwlaw11_spec.f k a0_0 a0_1 a0_2 a0_3 a0_4 a0_5 a0_6 a0_7 a0_8).bind fun bt277 => ((platformfwlaw11_plans.f k bt277.1 bt277.2.1 bt277.2.2.1 bt277.2.2.2.1 bt277.2.2.2.2.1 bt277.2.2.2.2.2.1 bt277.2.2.2.2.2.2.1 bt277.2.2.2.2.2.2.2.1 bt277.2.2.2.2.2.2.2.2).bind fun t286 => (some t286))) else (some false))) = some r := by rw [if_pos rfl] at H; exact H
  clear H
  have H := H1
  clear H1
  replace H := Option.bind_eq_some_iff.mp H
  obtain ⟨t276, A40, H⟩ := H
  replace H : (if t276 = true then ((platformfwlaw11_spec.f k a0_0 a0_1 a0_2 a0_3 a0_4 a0_5 a0_6 a0_7 a0_8).bind fun bt277 => ((platformfwlaw11_plans.f k bt277.1 bt277.2.1 bt277.2.2.1 bt277.2.2.2.1 bt277.2.2.2.2.1 bt277.2.2.2.2.2.1 bt277.2.2.2.2.2.2.1 bt277.2.2.2.2.2.2.2.1 bt277.2.2.2.2.2.2.2.2).bind fun t286 => (some t286))) else (some false)) = some r := H
  have A4 := Aside0.mk A40
  clear A40
  by_cases c5 : t276 = true
  ·subst c5
   have H1 : ((platformfwlaw11_spec.f k a0_0 a0_1 a0_2 a0_3 a0_4 a0_5 a0_6 a0_7 a0_8).bind fun bt277 => ((platformfwlaw11_plans.f k bt277.1 bt277.2.1 bt277.2.2.1 bt277.2.2.2.1 bt277.2.2.2.2.1 bt277.2.2.2.2.2.1 bt277.2.2.2.2.2.2.1 bt277.2.2.2.2.2.2.2.1 bt277.2.2.2.2.2.2.2.2).bind fun t286 => (some t286))) = some r := by rw [if_pos rfl] at H; exact H
   clear H
   have H := H1
   clear H1
   replace H := Option.bind_eq_some_iff.mp H
   obtain ⟨⟨t277, t278, t279, t280, t281, t282, t283, t284, t285⟩, A60, H⟩ := H
   replace H : ((platformfwlaw11_plans.f k t277 t278 t279 t280 t281 t282 t283 t284 t285).bind fun t286 => (some t286)) = some r := H
   have A6 := Aside0.mk A60
   clear A60
   replace H := Option.bind_eq_some_iff.mp H
   obtain ⟨t286, A70, H⟩ := H
   replace H : (some t286) = some r := H
   have A7 := Aside0.mk A70
   clear A70
   obtain rfl := Option.some.inj H
   go_enter Try.func9, Try.ntmps9
   go_wp2_with (first | ((with_reducible refine gate_dst (N := 1) rfl ?_); refine box_event ?hg (N := 1) ?hd (cs := #[.int .i64 a0_0, .int .u64 a0_1, .int .u64 a0_2, .int .i64 a0_3, .int .i64 a0_4, .int .i64 a0_5, .int .i64 a0_6, .int .i64 a0_7, .int .i64 a0_8]) (t := 26) ?hr ?_; (case hd => rfl); (case hg => rfl); (case hr => first | (go_simp; done) | (go_simp; rfl)); intro gb274 hg w8 hbox hb; have n0_ := Aside0.mk (below_step (by repeat (first | (with_reducible first | exact HB.out | apply bA_ | apply bN_ | apply bD_) | exact HB.out)) hb); have n1_ := Aside0.mk (hbox); have n2_ := Aside0.mk ((by rw [hg]; exact (below_size (by repeat (first | (with_reducible first | exact HB.out | apply bA_ | apply bN_ | apply bD_) | exact HB.out))) : w.heap.size ≤ gb274)); have n3_ := Aside0.mk ((by rw [hg]; exact (below_size (by repeat (first | (with_reducible first | exact HB.out | apply bA_ | apply bN_ | apply bD_) | exact HB.out))) : w.heap.size ≤ gb274)); clear HB; have HB := n0_; have BK274 := n1_; have GW274 := n2_; have GE274 := n3_; clear n0_ n1_ n2_ n3_; clear hb hbox hg) | ((with_reducible refine gate_callee (f := 18) rfl ?_); refine goesL_ (some 3) rfl rfl Try.func18 (by kernel_rfl) rfl #[] rfl (by (try simp only [List.map_toArray, List.map_cons, List.map_nil]); first | done | rfl | (simp only [List.length_drop, List.length_take]; rfl)) ?_; (with_reducible refine (platformfwlaw11_awake.calls k  true _ A2.out).mono ?_); rintro e w9 ⟨rfl, hb⟩; refine ⟨_, rfl, ?_⟩; have n0_ := Aside0.mk (blk_below (g := gb274) (o := .cells #[.int .i64 a0_0, .int .u64 a0_1, .int .u64 a0_2, .int .i64 a0_3, .int .i64 a0_4, .int .i64 a0_5, .int .i64 a0_6, .int .i64 a0_7, .int .i64 a0_8] 26 (0, 0)) (by (with_reducible repeat (first | refine kN_ ?_ _ | refine kD_ ?_ | refine kA_ ?_ _)); exact BK274.out) hb); have n1_ := Aside0.mk (below_step (by repeat (first | (with_reducible first | exact HB.out | apply bA_ | apply bN_ | apply bD_ | refine bS_ ?_ GE274.out) | exact HB.out)) hb); clear BK274; clear HB; have BK274 := n0_; have HB := n1_; clear n0_ n1_; (try clear hb); (try clear hb2); (try clear hk); (try clear hi); obtain ⟨hcz10_0, hcz10_1, hcz10_2, hcz10_3, hcz10_4, hcz10_5, hcz10_6, hcz10_7, hcz10_8⟩ := cells9_ BK274.out; obtain ⟨hfz10_0, hfz10_1, hfz10_2, hfz10_3, hfz10_4, hfz10_5, hfz10_6, hfz10_7, hfz10_8⟩ := froz9_ BK274.out) | (go_at_call 37; (with_reducible refine (platformfwlaw11_plans.calls k a0_0 a0_1 a0_2 a0_3 a0_4 a0_5 a0_6 a0_7 a0_8 true _ A4.out).mono ?_); rintro e w11 ⟨rfl, hb⟩; have n0_ := Aside0.mk (blk_below (g := gb274) (o := .cells #[.int .i64 a0_0, .int .u64 a0_1, .int .u64 a0_2, .int .i64 a0_3, .int .i64 a0_4, .int .i64 a0_5, .int .i64 a0_6, .int .i64 a0_7, .int .i64 a0_8] 26 (0, 0)) (by (with_reducible repeat (first | refine kN_ ?_ _ | refine kD_ ?_ | refine kA_ ?_ _)); exact BK274.out) hb); have n1_ := Aside0.mk (below_step (by repeat (first | (with_reducible first | exact HB.out | apply bA_ | apply bN_ | apply bD_ | refine bS_ ?_ GE274.out) | exact HB.out)) hb); clear BK274; clear HB; have BK274 := n0_; have HB := n1_; clear n0_ n1_; (try clear hb); (try clear hb2); (try clear hk); (try clear hi); obtain ⟨hcz12_0, hcz12_1, hcz12_2, hcz12_3, hcz12_4, hcz12_5, hcz12_6, hcz12_7, hcz12_8⟩ := cells9_ BK274.out; obtain ⟨hfz12_0, hfz12_1, hfz12_2, hfz12_3, hfz12_4, hfz12_5, hfz12_6, hfz12_7, hfz12_8⟩ := froz9_ BK274.out) | (go_at_call 15; (with_reducible refine (platformfwlaw11_spec.calls k a0_0 a0_1 a0_2 a0_3 a0_4 a0_5 a0_6 a0_7 a0_8 t277 t278 t279 t280 t281 t282 t283 t284 t285 _ A6.out).mono ?_); rintro e w13 ⟨rfl, hb⟩; have n0_ := Aside0.mk (blk_below (g := gb274) (o := .cells #[.int .i64 a0_0, .int .u64 a0_1, .int .u64 a0_2, .int .i64 a0_3, .int .i64 a0_4, .int .i64 a0_5, .int .i64 a0_6, .int .i64 a0_7, .int .i64 a0_8] 26 (0, 0)) (by (with_reducible repeat (first | refine kN_ ?_ _ | refine kD_ ?_ | refine kA_ ?_ _)); exact BK274.out) hb); have n1_ := Aside0.mk (below_step (by repeat (first | (with_reducible first | exact HB.out | apply bA_ | apply bN_ | apply bD_ | refine bS_ ?_ GE274.out) | exact HB.out)) hb); clear BK274; clear HB; have BK274 := n0_; have HB := n1_; clear n0_ n1_; (try clear hb); (try clear hb2); (try clear hk); (try clear hi)) | (go_at_call 37; (with_reducible refine (platformfwlaw11_plans.calls k t277 t278 t279 t280 t281 t282 t283 t284 t285 t286 _ A7.out).mono ?_); rintro e w14 ⟨rfl, hb⟩; have n0_ := Aside0.mk (blk_below (g := gb274) (o := .cells #[.int .i64 a0_0, .int .u64 a0_1, .int .u64 a0_2, .int .i64 a0_3, .int .i64 a0_4, .int .i64 a0_5, .int .i64 a0_6, .int .i64 a0_7, .int .i64 a0_8] 26 (0, 0)) (by (with_reducible repeat (first | refine kN_ ?_ _ | refine kD_ ?_ | refine kA_ ?_ _)); exact BK274.out) hb); have n1_ := Aside0.mk (below_step (by repeat (first | (with_reducible first | exact HB.out | apply bA_ | apply bN_ | apply bD_ | refine bS_ ?_ GE274.out) | exact HB.out)) hb); clear BK274; clear HB; have BK274 := n0_; have HB := n1_; clear n0_ n1_; (try clear hb); (try clear hb2); (try clear hk); (try clear hi)))
   go_ret
   exact ⟨by first | rfl | (simp [errW_none, errW_some] <;> rfl) | (simp [*, errW_none, errW_some] <;> rfl), by repeat (first | (with_reducible first | exact HB.out | apply bA_ | apply bN_ | apply bD_ | refine bS_ ?_ GE274.out) | exact HB.out)⟩
  ·replace c5 := Bool.eq_false_iff.mpr c5
   subst c5
   have H1 : (some false) = some r := by rw [if_neg (show ¬ (false = true) by decide)] at H; exact H
   clear H
   have H := H1
   clear H1
   obtain rfl := Option.some.inj H
   go_enter Try.func9, Try.ntmps9
   go_wp2_with (first | ((with_reducible refine gate_dst (N := 1) rfl ?_); refine box_event ?hg (N := 1) ?hd (cs := #[.int .i64 a0_0, .int .u64 a0_1, .int .u64 a0_2, .int .i64 a0_3, .int .i64 a0_4, .int .i64 a0_5, .int .i64 a0_6, .int .i64 a0_7, .int .i64 a0_8]) (t := 26) ?hr ?_; (case hd => rfl); (case hg => rfl); (case hr => first | (go_simp; done) | (go_simp; rfl)); intro gb274 hg w15 hbox hb; have n0_ := Aside0.mk (below_step (by repeat (first | (with_reducible first | exact HB.out | apply bA_ | apply bN_ | apply bD_) | exact HB.out)) hb); have n1_ := Aside0.mk (hbox); have n2_ := Aside0.mk ((by rw [hg]; exact (below_size (by repeat (first | (with_reducible first | exact HB.out | apply bA_ | apply bN_ | apply bD_) | exact HB.out))) : w.heap.size ≤ gb274)); have n3_ := Aside0.mk ((by rw [hg]; exact (below_size (by repeat (first | (with_reducible first | exact HB.out | apply bA_ | apply bN_ | apply bD_) | exact HB.out))) : w.heap.size ≤ gb274)); clear HB; have HB := n0_; have BK274 := n1_; have GW274 := n2_; have GE274 := n3_; clear n0_ n1_ n2_ n3_; clear hb hbox hg) | ((with_reducible refine gate_callee (f := 18) rfl ?_); refine goesL_ (some 3) rfl rfl Try.func18 (by kernel_rfl) rfl #[] rfl (by (try simp only [List.map_toArray, List.map_cons, List.map_nil]); first | done | rfl | (simp only [List.length_drop, List.length_take]; rfl)) ?_; (with_reducible refine (platformfwlaw11_awake.calls k  true _ A2.out).mono ?_); rintro e w16 ⟨rfl, hb⟩; refine ⟨_, rfl, ?_⟩; have n0_ := Aside0.mk (blk_below (g := gb274) (o := .cells #[.int .i64 a0_0, .int .u64 a0_1, .int .u64 a0_2, .int .i64 a0_3, .int .i64 a0_4, .int .i64 a0_5, .int .i64 a0_6, .int .i64 a0_7, .int .i64 a0_8] 26 (0, 0)) (by (with_reducible repeat (first | refine kN_ ?_ _ | refine kD_ ?_ | refine kA_ ?_ _)); exact BK274.out) hb); have n1_ := Aside0.mk (below_step (by repeat (first | (with_reducible first | exact HB.out | apply bA_ | apply bN_ | apply bD_ | refine bS_ ?_ GE274.out) | exact HB.out)) hb); clear BK274; clear HB; have BK274 := n0_; have HB := n1_; clear n0_ n1_; (try clear hb); (try clear hb2); (try clear hk); (try clear hi); obtain ⟨hcz17_0, hcz17_1, hcz17_2, hcz17_3, hcz17_4, hcz17_5, hcz17_6, hcz17_7, hcz17_8⟩ := cells9_ BK274.out; obtain ⟨hfz17_0, hfz17_1, hfz17_2, hfz17_3, hfz17_4, hfz17_5, hfz17_6, hfz17_7, hfz17_8⟩ := froz9_ BK274.out) | (go_at_call 37; (with_reducible refine (platformfwlaw11_plans.calls k a0_0 a0_1 a0_2 a0_3 a0_4 a0_5 a0_6 a0_7 a0_8 false _ A4.out).mono ?_); rintro e w18 ⟨rfl, hb⟩; have n0_ := Aside0.mk (blk_below (g := gb274) (o := .cells #[.int .i64 a0_0, .int .u64 a0_1, .int .u64 a0_2, .int .i64 a0_3, .int .i64 a0_4, .int .i64 a0_5, .int .i64 a0_6, .int .i64 a0_7, .int .i64 a0_8] 26 (0, 0)) (by (with_reducible repeat (first | refine kN_ ?_ _ | refine kD_ ?_ | refine kA_ ?_ _)); exact BK274.out) hb); have n1_ := Aside0.mk (below_step (by repeat (first | (with_reducible first | exact HB.out | apply bA_ | apply bN_ | apply bD_ | refine bS_ ?_ GE274.out) | exact HB.out)) hb); clear BK274; clear HB; have BK274 := n0_; have HB := n1_; clear n0_ n1_; (try clear hb); (try clear hb2); (try clear hk); (try clear hi)))
   go_ret
   exact ⟨by first | rfl | (simp [errW_none, errW_some] <;> rfl) | (simp [*, errW_none, errW_some] <;> rfl), by repeat (first | (with_reducible first | exact HB.out | apply bA_ | apply bN_ | apply bD_ | refine bS_ ?_ GE274.out) | exact HB.out)⟩
 ·replace c3 := Bool.eq_false_iff.mpr c3
  subst c3
  have H1 : (some false) = some r := by rw [if_neg (show ¬ (false = true) by decide)] at H; exact H
  clear H
  have H := H1
  clear H1
  obtain rfl := Option.some.inj H
  go_enter Try.func9, Try.ntmps9
  go_wp2_with (first | ((with_reducible refine gate_dst (N := 1) rfl ?_); refine box_event ?hg (N := 1) ?hd (cs := #[.int .i64 a0_0, .int .u64 a0_1, .int .u64 a0_2, .int .i64 a0_3, .int .i64 a0_4, .int .i64 a0_5, .int .i64 a0_6, .int .i64 a0_7, .int .i64 a0_8]) (t := 26) ?hr ?_; (case hd => rfl); (case hg => rfl); (case hr => first | (go_simp; done) | (go_simp; rfl)); intro gb274 hg w19 hbox hb; have n0_ := Aside0.mk (below_step (by repeat (first | (with_reducible first | exact HB.out | apply bA_ | apply bN_ | apply bD_) | exact HB.out)) hb); have n1_ := Aside0.mk (hbox); have n2_ := Aside0.mk ((by rw [hg]; exact (below_size (by repeat (first | (with_reducible first | exact HB.out | apply bA_ | apply bN_ | apply bD_) | exact HB.out))) : w.heap.size ≤ gb274)); have n3_ := Aside0.mk ((by rw [hg]; exact (below_size (by repeat (first | (with_reducible first | exact HB.out | apply bA_ | apply bN_ | apply bD_) | exact HB.out))) : w.heap.size ≤ gb274)); clear HB; have HB := n0_; have BK274 := n1_; have GW274 := n2_; have GE274 := n3_; clear n0_ n1_ n2_ n3_; clear hb hbox hg) | ((with_reducible refine gate_callee (f := 18) rfl ?_); refine goesL_ (some 3) rfl rfl Try.func18 (by kernel_rfl) rfl #[] rfl (by (try simp only [List.map_toArray, List.map_cons, List.map_nil]); first | done | rfl | (simp only [List.length_drop, List.length_take]; rfl)) ?_; (with_reducible refine (platformfwlaw11_awake.calls k  false _ A2.out).mono ?_); rintro e w20 ⟨rfl, hb⟩; refine ⟨_, rfl, ?_⟩; have n0_ := Aside0.mk (blk_below (g := gb274) (o := .cells #[.int .i64 a0_0, .int .u64 a0_1, .int .u64 a0_2, .int .i64 a0_3, .int .i64 a0_4, .int .i64 a0_5, .int .i64 a0_6, .int .i64 a0_7, .int .i64 a0_8] 26 (0, 0)) (by (with_reducible repeat (first | refine kN_ ?_ _ | refine kD_ ?_ | refine kA_ ?_ _)); exact BK274.out) hb); have n1_ := Aside0.mk (below_step (by repeat (first | (with_reducible first | exact HB.out | apply bA_ | apply bN_ | apply bD_ | refine bS_ ?_ GE274.out) | exact HB.out)) hb); clear BK274; clear HB; have BK274 := n0_; have HB := n1_; clear n0_ n1_; (try clear hb); (try clear hb2); (try clear hk); (try clear hi)))
  go_ret
  exact ⟨by first | rfl | (simp [errW_none, errW_some] <;> rfl) | (simp [*, errW_none, errW_some] <;> rfl), by repeat (first | (with_reducible first | exact HB.out | apply bA_ | apply bN_ | apply bD_ | refine bS_ ?_ GE274.out) | exact HB.out)⟩

end Go.Proofs.Ytmnmidclaaiffaa.PFieldPlans
