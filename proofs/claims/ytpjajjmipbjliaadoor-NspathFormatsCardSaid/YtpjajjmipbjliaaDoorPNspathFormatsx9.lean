-- Written by a program of this session's (wip/print_patch.py over the kit's print) out of the translation; Lean checks it.
import Derived.Test.YtpjajjmipbjliaaDoorPNspathFormatsx0
import Derived.Test.YtpjajjmipbjliaaDoorPNspathFormatsx3
import Derived.Test.YtpjajjmipbjliaaDoorPNspathFormatsx6
import Derived.Test.YtpjajjmipbjliaaDoorPNspathFormatsx8
import Derived.Test.YtpjajjmipbjliaaDoorVNspathFormatsExtP
namespace Go.Proofs.YtpjajjmipbjliaaDoor.PNspathFormats
open Go.RowKit Go.Proofs.YtpjajjmipbjliaaDoor.Ext Go.Proofs.YtpjajjmipbjliaaDoorW.PrintWords Go.Proofs.YtpjajjmipbjliaaDoorW.PrintLast Go.Proofs.YtpjajjmipbjliaaDoorW.PrintMore
attribute [local go_sem] max2_int min2_int max_two min_two max_three min_three max_four min_four   -- for this text's walks alone
set_option linter.unusedVariables false
set_option linter.unusedSimpArgs false

/-! ### platformfwlaw02_NspathFormats: function 3 -/
def platformfwlaw02_NspathFormats.f (k : Nat) (a0_0 : Bool) (a0_1 : Int) (l0_2 : List ByteArray) : Option (Bool) := (platformfwlaw02_awake.f k).bind fun t285 => (if t285 = true then (if (l0_2.length : Int) > 100 then ((platformfwlaw02_path.f k a0_0 a0_1 l0_2).bind fun bt286 => ((platformfwlaw02_agrees.f k bt286.1 bt286.2.1 bt286.2.2).bind fun t291 => (some t291))) else ((platformfwlaw02_agrees.f k a0_0 a0_1 l0_2).bind fun t292 => (if t292 = true then ((platformfwlaw02_path.f k a0_0 a0_1 l0_2).bind fun bt293 => ((platformfwlaw02_agrees.f k bt293.1 bt293.2.1 bt293.2.2).bind fun t298 => (some t298))) else (some false)))) else (some false))
theorem platformfwlaw02_NspathFormats.mono : ∀ a0 a1 a2 k, LeO (platformfwlaw02_NspathFormats.f k a0 a1 a2) (platformfwlaw02_NspathFormats.f (k + 1) a0 a1 a2) := by
 intro a0 a1 a2 k
 unfold platformfwlaw02_NspathFormats.f
 repeat' first
   | (with_reducible exact platformfwlaw02_agrees.mono _ _ _ _)
   | (with_reducible exact platformfwlaw02_awake.mono _)
   | (with_reducible exact platformfwlaw02_path.mono _ _ _ _)
   | (with_reducible exact LeO.refl _)
   | (with_reducible exact LeO.none _)
   | (with_reducible refine LeO.ite ?_ ?_)
   | (with_reducible refine LeO.bind ?_ (fun _ => ?_))
   | exact platformfwlaw02_agrees.mono _ _ _ _
   | exact platformfwlaw02_awake.mono _
   | exact platformfwlaw02_path.mono _ _ _ _
   | exact LeO.none _
   | refine LeO.ite ?_ ?_
   | refine LeO.bind ?_ (fun _ => ?_)
set_option maxHeartbeats 8000000 in
set_option maxRecDepth 100000 in
theorem platformfwlaw02_NspathFormats.calls (k : Nat) (a0_0 : Bool) (a0_1 : Int) (A0_2 : Option Addr) (c0_2 : Nat) (l0_2 : List ByteArray) (r : Bool) (w : World) (hr0_2 : Kd.C Kd.string w A0_2 l0_2.length l0_2) (hc0_2 : l0_2.length ≤ c0_2) (hr_ : Aside0 (r = true)) (h : platformfwlaw02_NspathFormats.f k a0_0 a0_1 l0_2 = some r) :
  Calls Tryd.prog 3 #[.agg #[.bool a0_0, .int .i64 a0_1, .slice A0_2 l0_2.length c0_2]] w fun e w' => e = .returned (.bool r) ∧ Below w.heap.size w w' := by
 have hu24 := Tryd.underlying24
 have HR0_2 := Aside0.mk hr0_2
 have HC0_2 := Aside0.mk hc0_2
 clear hr0_2 hc0_2
 have HB := Aside0.mk (Below.refl w.heap.size w)
 have H : ((platformfwlaw02_awake.f k).bind fun t285 => (if t285 = true then (if (l0_2.length : Int) > 100 then ((platformfwlaw02_path.f k a0_0 a0_1 l0_2).bind fun bt286 => ((platformfwlaw02_agrees.f k bt286.1 bt286.2.1 bt286.2.2).bind fun t291 => (some t291))) else ((platformfwlaw02_agrees.f k a0_0 a0_1 l0_2).bind fun t292 => (if t292 = true then ((platformfwlaw02_path.f k a0_0 a0_1 l0_2).bind fun bt293 => ((platformfwlaw02_agrees.f k bt293.1 bt293.2.1 bt293.2.2).bind fun t298 => (some t298))) else (some false)))) else (some false))) = some r := h
 clear h
 replace H := Option.bind_eq_some_iff.mp H
 obtain ⟨t285, A20, H⟩ := H
 replace H : (if t285 = true then (if (l0_2.length : Int) > 100 then ((platformfwlaw02_path.f k a0_0 a0_1 l0_2).bind fun bt286 => ((platformfwlaw02_agrees.f k bt286.1 bt286.2.1 bt286.2.2).bind fun t291 => (some t291))) else ((platformfwlaw02_agrees.f k a0_0 a0_1 l0_2).bind fun t292 => (if t292 = true then ((platformfwlaw02_path.f k a0_0 a0_1 l0_2).bind fun bt293 => ((platformfwlaw02_agrees.f k bt293.1 bt293.2.1 bt293.2.2).bind fun t298 => (some t298))) else (some false)))) else (some false)) = some r := H
 have A2 := Aside0.mk A20
 clear A20
 by_cases c3 : t285 = true
 ·subst c3
  have H1 : (if (l0_2.length : Int) > 100 then ((platformfwlaw02_path.f k a0_0 a0_1 l0_2).bind fun bt286 => ((platformfwlaw02_agrees.f k bt286.1 bt286.2.1 bt286.2.2).bind fun t291 => (some t291))) else ((platformfwlaw02_agrees.f k a0_0 a0_1 l0_2).bind fun t292 => (if t292 = true then ((platformfwlaw02_path.f k a0_0 a0_1 l0_2).bind fun bt293 => ((platformfwlaw02_agrees.f k bt293.1 bt293.2.1 bt293.2.2).bind fun t298 => (some t298))) else (some false)))) = some r := by rw [if_pos rfl] at H; exact H
  clear H
  have H := H1
  clear H1
  by_cases c4 : (l0_2.length : Int) > 100
  ·rw [if_pos c4] at H
   have c4b0 : decide (100 < (l0_2.length : Int)) = true := decide_eq_true c4
   have c4b1 : decide (100 < l0_2.length) = true := decide_eq_true (by omega)
   clear c4
   replace H := Option.bind_eq_some_iff.mp H
   obtain ⟨⟨t286, t287, t288⟩, A50, H⟩ := H
   replace H : ((platformfwlaw02_agrees.f k t286 t287 t288).bind fun t291 => (some t291)) = some r := H
   have A5 := Aside0.mk A50
   clear A50
   replace H := Option.bind_eq_some_iff.mp H
   obtain ⟨t291, A60, H⟩ := H
   replace H : (some t291) = some r := H
   have A6 := Aside0.mk A60
   clear A60
   obtain rfl := Option.some.inj H
   go_enter Tryd.func3, Tryd.ntmps3
   go_wp2_with (first | ((with_reducible refine gate_dst (N := 1) rfl ?_); (try (refine gate_guard (by rfl) ?_; dsimp only)); refine box_event ?hg (N := 1) ?hd (cs := #[.bool a0_0, .int .i64 a0_1, .slice A0_2 l0_2.length c0_2]) (t := 24) ?hr ?_; (case hd => rfl); (case hg => rfl); (case hr => first | (go_simp; done) | (go_simp; rfl)); intro gb284 hg w7 hbox hb; have n0_ := Aside0.mk (below_step (by repeat (first | (with_reducible first | exact HB.out | apply bA_ | apply bN_ | apply bD_) | exact HB.out)) hb); have n1_ := Aside0.mk (hbox); have n2_ := Aside0.mk ((by rw [hg]; exact (below_size (by repeat (first | (with_reducible first | exact HB.out | apply bA_ | apply bN_ | apply bD_) | exact HB.out))) : w.heap.size ≤ gb284)); have n3_ := Aside0.mk ((by rw [hg]; exact (below_size (by repeat (first | (with_reducible first | exact HB.out | apply bA_ | apply bN_ | apply bD_) | exact HB.out))) : w.heap.size ≤ gb284)); clear HB; have HB := n0_; have BK284 := n1_; have GW284 := n2_; have GE284 := n3_; clear n0_ n1_ n2_ n3_; clear hb hbox hg) | ((with_reducible refine gate_callee (f := 11) rfl ?_); refine goesL_ (some 3) rfl rfl Tryd.func11 (by kernel_rfl) rfl #[] rfl (by (try simp only [List.map_toArray, List.map_cons, List.map_nil]); first | done | rfl | (simp only [List.length_drop, List.length_take]; rfl)) ?_; (with_reducible refine (platformfwlaw02_awake.calls k  true _ A2.out).mono ?_); rintro e w8 ⟨rfl, hb⟩; refine ⟨_, rfl, ?_⟩; have n0_ := Aside0.mk (blk_below (g := gb284) (o := .cells #[.bool a0_0, .int .i64 a0_1, .slice A0_2 l0_2.length c0_2] 24 (0, 0)) (by (with_reducible repeat (first | refine kN_ ?_ _ | refine kD_ ?_ | refine kA_ ?_ _)); exact BK284.out) hb); have n1_ := Aside0.mk (below_step (by repeat (first | (with_reducible first | exact HB.out | apply bA_ | apply bN_ | apply bD_ | refine bS_ ?_ GE284.out) | exact HB.out)) hb); clear BK284; clear HB; have BK284 := n0_; have HB := n1_; clear n0_ n1_; (try clear hb); (try clear hb2); (try clear hk); (try clear hi); obtain ⟨hcz9_0, hcz9_1, hcz9_2⟩ := cells3_ BK284.out; obtain ⟨hfz9_0, hfz9_1, hfz9_2⟩ := froz3_ BK284.out) | (go_at_call 13; (with_reducible refine (platformfwlaw02_path.calls k a0_0 a0_1 _ _ l0_2 t286 t287 t288 _ ?side1 ?side2 A5.out).mono ?_); (case side1 => repeat (first | exact (Kd.C_below HR0_2.out HB.out) | (with_reducible refine Kd.C_alloc ?_ _) | (with_reducible refine Kd.C_drewN ?_ _) | (with_reducible refine Kd.C_drew ?_))); (case side2 => exact HC0_2.out); rintro e w10 ⟨v289, rfl, ho0, hb⟩; have n0_ := Aside0.mk (Kd.R_lower ho0 (below_size (by repeat (first | (with_reducible first | exact HB.out | apply bA_ | apply bN_ | apply bD_ | refine bS_ ?_ GE284.out) | exact HB.out)))); have n1_ := Aside0.mk (blk_below (g := gb284) (o := .cells #[.bool a0_0, .int .i64 a0_1, .slice A0_2 l0_2.length c0_2] 24 (0, 0)) (by (with_reducible repeat (first | refine kN_ ?_ _ | refine kD_ ?_ | refine kA_ ?_ _)); exact BK284.out) hb); have n2_ := Aside0.mk (below_step (by repeat (first | (with_reducible first | exact HB.out | apply bA_ | apply bN_ | apply bD_ | refine bS_ ?_ GE284.out) | exact HB.out)) hb); clear BK284; clear HB; have HO290 := n0_; have BK284 := n1_; have HB := n2_; clear n0_ n1_ n2_; (try clear hb); (try clear hb2); (try clear hk); (try clear hi); (try clear ho0); obtain ⟨Ao11, co11, eo11⟩ := Kd.R_slice HO290.out; subst eo11) | (go_at_call 12; (with_reducible refine (platformfwlaw02_agrees.calls k t286 t287 _ _ t288 t291 _ ?side1 ?side2 A6.out).mono ?_); (case side1 => repeat (first | exact (Kd.R_reads' HO290.out).2.2 | (with_reducible refine Kd.C_alloc ?_ _) | (with_reducible refine Kd.C_drewN ?_ _) | (with_reducible refine Kd.C_drew ?_))); (case side2 => exact (Kd.R_reads' HO290.out).2.1); rintro e w12 ⟨rfl, hb⟩; have n0_ := Aside0.mk (Kd.R_below (by (with_reducible repeat (first | apply Kd.R_alloc | apply Kd.R_drewN | apply Kd.R_drew)); exact HO290.out) hb); have n1_ := Aside0.mk (blk_below (g := gb284) (o := .cells #[.bool a0_0, .int .i64 a0_1, .slice A0_2 l0_2.length c0_2] 24 (0, 0)) (by (with_reducible repeat (first | refine kN_ ?_ _ | refine kD_ ?_ | refine kA_ ?_ _)); exact BK284.out) hb); have n2_ := Aside0.mk (below_step (by repeat (first | (with_reducible first | exact HB.out | apply bA_ | apply bN_ | apply bD_ | refine bS_ ?_ GE284.out) | exact HB.out)) hb); clear HO290; clear BK284; clear HB; have HO290 := n0_; have BK284 := n1_; have HB := n2_; clear n0_ n1_ n2_; (try clear hb); (try clear hb2); (try clear hk); (try clear hi)))
   go_ret
   exact ⟨by first | rfl | (simp [errW_none, errW_some] <;> rfl) | (simp [*, errW_none, errW_some] <;> rfl), by repeat (first | (with_reducible first | exact HB.out | apply bA_ | apply bN_ | apply bD_ | refine bS_ ?_ GE284.out) | exact HB.out)⟩
  ·rw [if_neg c4] at H
   have c4b0 : decide (100 < (l0_2.length : Int)) = false := decide_eq_false c4
   have c4b1 : decide (100 < l0_2.length) = false := decide_eq_false (by omega)
   clear c4
   replace H := Option.bind_eq_some_iff.mp H
   obtain ⟨t292, A130, H⟩ := H
   replace H : (if t292 = true then ((platformfwlaw02_path.f k a0_0 a0_1 l0_2).bind fun bt293 => ((platformfwlaw02_agrees.f k bt293.1 bt293.2.1 bt293.2.2).bind fun t298 => (some t298))) else (some false)) = some r := H
   have A13 := Aside0.mk A130
   clear A130
   by_cases c14 : t292 = true
   ·subst c14
    have H1 : ((platformfwlaw02_path.f k a0_0 a0_1 l0_2).bind fun bt293 => ((platformfwlaw02_agrees.f k bt293.1 bt293.2.1 bt293.2.2).bind fun t298 => (some t298))) = some r := by rw [if_pos rfl] at H; exact H
    clear H
    have H := H1
    clear H1
    replace H := Option.bind_eq_some_iff.mp H
    obtain ⟨⟨t293, t294, t295⟩, A150, H⟩ := H
    replace H : ((platformfwlaw02_agrees.f k t293 t294 t295).bind fun t298 => (some t298)) = some r := H
    have A15 := Aside0.mk A150
    clear A150
    replace H := Option.bind_eq_some_iff.mp H
    obtain ⟨t298, A160, H⟩ := H
    replace H : (some t298) = some r := H
    have A16 := Aside0.mk A160
    clear A160
    obtain rfl := Option.some.inj H
    go_enter Tryd.func3, Tryd.ntmps3
    go_wp2_with (first | ((with_reducible refine gate_dst (N := 1) rfl ?_); (try (refine gate_guard (by rfl) ?_; dsimp only)); refine box_event ?hg (N := 1) ?hd (cs := #[.bool a0_0, .int .i64 a0_1, .slice A0_2 l0_2.length c0_2]) (t := 24) ?hr ?_; (case hd => rfl); (case hg => rfl); (case hr => first | (go_simp; done) | (go_simp; rfl)); intro gb284 hg w17 hbox hb; have n0_ := Aside0.mk (below_step (by repeat (first | (with_reducible first | exact HB.out | apply bA_ | apply bN_ | apply bD_) | exact HB.out)) hb); have n1_ := Aside0.mk (hbox); have n2_ := Aside0.mk ((by rw [hg]; exact (below_size (by repeat (first | (with_reducible first | exact HB.out | apply bA_ | apply bN_ | apply bD_) | exact HB.out))) : w.heap.size ≤ gb284)); have n3_ := Aside0.mk ((by rw [hg]; exact (below_size (by repeat (first | (with_reducible first | exact HB.out | apply bA_ | apply bN_ | apply bD_) | exact HB.out))) : w.heap.size ≤ gb284)); clear HB; have HB := n0_; have BK284 := n1_; have GW284 := n2_; have GE284 := n3_; clear n0_ n1_ n2_ n3_; clear hb hbox hg) | ((with_reducible refine gate_callee (f := 11) rfl ?_); refine goesL_ (some 3) rfl rfl Tryd.func11 (by kernel_rfl) rfl #[] rfl (by (try simp only [List.map_toArray, List.map_cons, List.map_nil]); first | done | rfl | (simp only [List.length_drop, List.length_take]; rfl)) ?_; (with_reducible refine (platformfwlaw02_awake.calls k  true _ A2.out).mono ?_); rintro e w18 ⟨rfl, hb⟩; refine ⟨_, rfl, ?_⟩; have n0_ := Aside0.mk (blk_below (g := gb284) (o := .cells #[.bool a0_0, .int .i64 a0_1, .slice A0_2 l0_2.length c0_2] 24 (0, 0)) (by (with_reducible repeat (first | refine kN_ ?_ _ | refine kD_ ?_ | refine kA_ ?_ _)); exact BK284.out) hb); have n1_ := Aside0.mk (below_step (by repeat (first | (with_reducible first | exact HB.out | apply bA_ | apply bN_ | apply bD_ | refine bS_ ?_ GE284.out) | exact HB.out)) hb); clear BK284; clear HB; have BK284 := n0_; have HB := n1_; clear n0_ n1_; (try clear hb); (try clear hb2); (try clear hk); (try clear hi); obtain ⟨hcz19_0, hcz19_1, hcz19_2⟩ := cells3_ BK284.out; obtain ⟨hfz19_0, hfz19_1, hfz19_2⟩ := froz3_ BK284.out) | (go_at_call 12; (with_reducible refine (platformfwlaw02_agrees.calls k a0_0 a0_1 _ _ l0_2 true _ ?side1 ?side2 A13.out).mono ?_); (case side1 => repeat (first | exact (Kd.C_below HR0_2.out HB.out) | (with_reducible refine Kd.C_alloc ?_ _) | (with_reducible refine Kd.C_drewN ?_ _) | (with_reducible refine Kd.C_drew ?_))); (case side2 => exact HC0_2.out); rintro e w20 ⟨rfl, hb⟩; have n0_ := Aside0.mk (blk_below (g := gb284) (o := .cells #[.bool a0_0, .int .i64 a0_1, .slice A0_2 l0_2.length c0_2] 24 (0, 0)) (by (with_reducible repeat (first | refine kN_ ?_ _ | refine kD_ ?_ | refine kA_ ?_ _)); exact BK284.out) hb); have n1_ := Aside0.mk (below_step (by repeat (first | (with_reducible first | exact HB.out | apply bA_ | apply bN_ | apply bD_ | refine bS_ ?_ GE284.out) | exact HB.out)) hb); clear BK284; clear HB; have BK284 := n0_; have HB := n1_; clear n0_ n1_; (try clear hb); (try clear hb2); (try clear hk); (try clear hi); obtain ⟨hcz21_0, hcz21_1, hcz21_2⟩ := cells3_ BK284.out; obtain ⟨hfz21_0, hfz21_1, hfz21_2⟩ := froz3_ BK284.out) | (go_at_call 13; (with_reducible refine (platformfwlaw02_path.calls k a0_0 a0_1 _ _ l0_2 t293 t294 t295 _ ?side1 ?side2 A15.out).mono ?_); (case side1 => repeat (first | exact (Kd.C_below HR0_2.out HB.out) | (with_reducible refine Kd.C_alloc ?_ _) | (with_reducible refine Kd.C_drewN ?_ _) | (with_reducible refine Kd.C_drew ?_))); (case side2 => exact HC0_2.out); rintro e w22 ⟨v296, rfl, ho0, hb⟩; have n0_ := Aside0.mk (Kd.R_lower ho0 (below_size (by repeat (first | (with_reducible first | exact HB.out | apply bA_ | apply bN_ | apply bD_ | refine bS_ ?_ GE284.out) | exact HB.out)))); have n1_ := Aside0.mk (blk_below (g := gb284) (o := .cells #[.bool a0_0, .int .i64 a0_1, .slice A0_2 l0_2.length c0_2] 24 (0, 0)) (by (with_reducible repeat (first | refine kN_ ?_ _ | refine kD_ ?_ | refine kA_ ?_ _)); exact BK284.out) hb); have n2_ := Aside0.mk (below_step (by repeat (first | (with_reducible first | exact HB.out | apply bA_ | apply bN_ | apply bD_ | refine bS_ ?_ GE284.out) | exact HB.out)) hb); clear BK284; clear HB; have HO297 := n0_; have BK284 := n1_; have HB := n2_; clear n0_ n1_ n2_; (try clear hb); (try clear hb2); (try clear hk); (try clear hi); (try clear ho0); obtain ⟨Ao23, co23, eo23⟩ := Kd.R_slice HO297.out; subst eo23) | (go_at_call 12; (with_reducible refine (platformfwlaw02_agrees.calls k t293 t294 _ _ t295 t298 _ ?side1 ?side2 A16.out).mono ?_); (case side1 => repeat (first | exact (Kd.R_reads' HO297.out).2.2 | (with_reducible refine Kd.C_alloc ?_ _) | (with_reducible refine Kd.C_drewN ?_ _) | (with_reducible refine Kd.C_drew ?_))); (case side2 => exact (Kd.R_reads' HO297.out).2.1); rintro e w24 ⟨rfl, hb⟩; have n0_ := Aside0.mk (Kd.R_below (by (with_reducible repeat (first | apply Kd.R_alloc | apply Kd.R_drewN | apply Kd.R_drew)); exact HO297.out) hb); have n1_ := Aside0.mk (blk_below (g := gb284) (o := .cells #[.bool a0_0, .int .i64 a0_1, .slice A0_2 l0_2.length c0_2] 24 (0, 0)) (by (with_reducible repeat (first | refine kN_ ?_ _ | refine kD_ ?_ | refine kA_ ?_ _)); exact BK284.out) hb); have n2_ := Aside0.mk (below_step (by repeat (first | (with_reducible first | exact HB.out | apply bA_ | apply bN_ | apply bD_ | refine bS_ ?_ GE284.out) | exact HB.out)) hb); clear HO297; clear BK284; clear HB; have HO297 := n0_; have BK284 := n1_; have HB := n2_; clear n0_ n1_ n2_; (try clear hb); (try clear hb2); (try clear hk); (try clear hi)))
    go_ret
    exact ⟨by first | rfl | (simp [errW_none, errW_some] <;> rfl) | (simp [*, errW_none, errW_some] <;> rfl), by repeat (first | (with_reducible first | exact HB.out | apply bA_ | apply bN_ | apply bD_ | refine bS_ ?_ GE284.out) | exact HB.out)⟩
   ·replace c14 := Bool.eq_false_iff.mpr c14
    subst c14
    have H1 : (some false) = some r := by rw [if_neg (show ¬ (false = true) by decide)] at H; exact H
    clear H
    have H := H1
    clear H1
    obtain rfl := Option.some.inj H
    exact absurd hr_.out (by simp)
 ·replace c3 := Bool.eq_false_iff.mpr c3
  subst c3
  have H1 : (some false) = some r := by rw [if_neg (show ¬ (false = true) by decide)] at H; exact H
  clear H
  have H := H1
  clear H1
  obtain rfl := Option.some.inj H
  exact absurd hr_.out (by simp)

end Go.Proofs.YtpjajjmipbjliaaDoor.PNspathFormats
