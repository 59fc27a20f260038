-- Written by a program of this session's (wip/print_patch.py over the kit's print) out of the translation; Lean checks it.
import Derived.Test.YtpjajjmipbjliaaDoorPNspathSearchOrderx0
import Derived.Test.YtpjajjmipbjliaaDoorPNspathSearchOrderx2
import Derived.Test.YtpjajjmipbjliaaDoorPNspathSearchOrderx3
import Derived.Test.YtpjajjmipbjliaaDoorExtP
namespace Go.Proofs.YtpjajjmipbjliaaDoor.PNspathSearchOrder
open Go.RowKit Go.Proofs.YtpjajjmipbjliaaDoor.Ext Go.Proofs.YtpjajjmipbjliaaDoorW.PrintWords Go.Proofs.YtpjajjmipbjliaaDoorW.PrintLast Go.Proofs.YtpjajjmipbjliaaDoorW.PrintMore
attribute [local go_sem] max2_int min2_int max_two min_two max_three min_three max_four min_four   -- for this text's walks alone
set_option linter.unusedVariables false
set_option linter.unusedSimpArgs false

/-! ### platformfwref01_Segment: function 27 -/
def platformfwref01_Segment.f (k : Nat) (a0 : ByteArray) : Option (Bool) := if (a0.size : Int) ≥ 1 then (if (a0.size : Int) ≤ 4 then (if 0 < (a0.size : Int) then ((platformfwref01_letter.f (bt a0 0)).bind fun t231 => (if t231 = true then ((platformfwref01_identifier.f k a0 0).bind fun t232 => (if t232 = (a0.size : Int) then ((platformfwref01_lower.f k a0).bind fun t233 => (some (!t233))) else (some false))) else (some false))) else (none)) else (some false)) else (some false)
theorem platformfwref01_Segment.mono : ∀ a0 k, LeO (platformfwref01_Segment.f k a0) (platformfwref01_Segment.f (k + 1) a0) := by
 intro a0 k
 unfold platformfwref01_Segment.f
 repeat' first
   | (with_reducible exact platformfwref01_identifier.mono _ _ _)
   | (with_reducible exact platformfwref01_lower.mono _ _)
   | (with_reducible exact LeO.refl _)
   | (with_reducible exact LeO.none _)
   | (with_reducible refine LeO.ite ?_ ?_)
   | (with_reducible refine LeO.bind ?_ (fun _ => ?_))
   | exact platformfwref01_identifier.mono _ _ _
   | exact platformfwref01_lower.mono _ _
   | exact LeO.none _
   | refine LeO.ite ?_ ?_
   | refine LeO.bind ?_ (fun _ => ?_)
set_option maxHeartbeats 8000000 in
set_option maxRecDepth 100000 in
theorem platformfwref01_Segment.calls (k : Nat) (a0 : ByteArray) (r : Bool) (w : World) (h : platformfwref01_Segment.f k a0 = some r) :
  Calls Tryd.prog 27 #[.string a0] w fun e w' => e = .returned (.bool r) ∧ Drawn0 w w' := by
 have H : (if (a0.size : Int) ≥ 1 then (if (a0.size : Int) ≤ 4 then (if 0 < (a0.size : Int) then ((platformfwref01_letter.f (bt a0 0)).bind fun t231 => (if t231 = true then ((platformfwref01_identifier.f k a0 0).bind fun t232 => (if t232 = (a0.size : Int) then ((platformfwref01_lower.f k a0).bind fun t233 => (some (!t233))) else (some false))) else (some false))) else (none)) else (some false)) else (some false)) = some r := h
 clear h
 by_cases c2 : (a0.size : Int) ≥ 1
 ·rw [if_pos c2] at H
  have c2b0 : decide (1 ≤ (a0.size : Int)) = true := decide_eq_true c2
  have c2b1 : decide (1 ≤ a0.size) = true := decide_eq_true (by omega)
  clear c2
  by_cases c3 : (a0.size : Int) ≤ 4
  ·rw [if_pos c3] at H
   have c3b0 : decide ((a0.size : Int) ≤ 4) = true := decide_eq_true c3
   have c3b1 : decide (a0.size ≤ 4) = true := decide_eq_true (by omega)
   clear c3
   by_cases c4 : 0 < (a0.size : Int)
   ·rw [if_pos c4] at H
    have c4b0 : decide (0 < (a0.size : Int)) = true := decide_eq_true c4
    have c4b1 : decide (0 < a0.size) = true := decide_eq_true (by omega)
    clear c4
    replace H := Option.bind_eq_some_iff.mp H
    obtain ⟨t231, A60, H⟩ := H
    replace H : (if t231 = true then ((platformfwref01_identifier.f k a0 0).bind fun t232 => (if t232 = (a0.size : Int) then ((platformfwref01_lower.f k a0).bind fun t233 => (some (!t233))) else (some false))) else (some false)) = some r := H
    have A6 := Aside0.mk A60
    clear A60
    by_cases c7 : t231 = true
    ·subst c7
     have H1 : ((platformfwref01_identifier.f k a0 0).bind fun t232 => (if t232 = (a0.size : Int) then ((platformfwref01_lower.f k a0).bind fun t233 => (some (!t233))) else (some false))) = some r := by rw [if_pos rfl] at H; exact H
     clear H
     have H := H1
     clear H1
     replace H := Option.bind_eq_some_iff.mp H
     obtain ⟨t232, A80, H⟩ := H
     replace H : (if t232 = (a0.size : Int) then ((platformfwref01_lower.f k a0).bind fun t233 => (some (!t233))) else (some false)) = some r := H
     have A8 := Aside0.mk A80
     clear A80
     by_cases c9 : t232 = (a0.size : Int)
     ·rw [if_pos c9] at H
      have c9b0 : (t232 == (a0.size : Int)) = true := beq_iff_eq.mpr c9
      have c9b1 : (t232 != (a0.size : Int)) = false := bne_eq_false_iff_eq.mpr c9
      clear c9
      replace H := Option.bind_eq_some_iff.mp H
      obtain ⟨t233, A100, H⟩ := H
      replace H : (some (!t233)) = some r := H
      have A10 := Aside0.mk A100
      clear A100
      obtain rfl := Option.some.inj H
      have p5 : 0 ≤ (0 : Int) := (by omega)
      have q5 : 0 < a0.size := (by have : (0 : Int) < (a0.size : Int) := of_decide_eq_true (by first | (with_reducible assumption) | assumption); omega)
      have hx5 : ∀ h : 0 < a0.size, ((a0[0]'h).toNat : Int) = bt a0 0 := bt_at a0 0
      clear p5
      have qi5 : (0 < (a0.size : Int)) = True := eq_true (of_decide_eq_true (by first | (with_reducible assumption) | assumption))
      replace q5 := eq_true q5
      go_enter Tryd.func27, Tryd.ntmps27
      go_wp2_with (first | (go_at_call 46; (with_reducible refine (platformfwref01_letter.calls (bt a0 0) true _ A6.out).mono ?_); rintro e w' ⟨rfl, ⟨nd, rfl⟩⟩) | (go_at_call 47; (with_reducible refine (platformfwref01_identifier.calls k a0 0 t232 _ A8.out).mono ?_); rintro e w' ⟨rfl, ⟨nd, rfl⟩⟩) | (go_at_call 48; (with_reducible refine (platformfwref01_lower.calls k a0 t233 _ A10.out).mono ?_); rintro e w' ⟨rfl, ⟨nd, rfl⟩⟩))
      go_ret
      exact ⟨by first | rfl | (simp; done) | (simp [*]; done), by repeat (first | exact Drawn0.refl _ | apply Drawn0.step)⟩
     ·rw [if_neg c9] at H
      have c9b0 : (t232 == (a0.size : Int)) = false := beq_eq_false_iff_ne.mpr c9
      have c9b1 : (t232 != (a0.size : Int)) = true := bne_iff_ne.mpr c9
      obtain rfl := Option.some.inj H
      have p5 : 0 ≤ (0 : Int) := (by omega)
      have q5 : 0 < a0.size := (by have : (0 : Int) < (a0.size : Int) := of_decide_eq_true (by first | (with_reducible assumption) | assumption); omega)
      have hx5 : ∀ h : 0 < a0.size, ((a0[0]'h).toNat : Int) = bt a0 0 := bt_at a0 0
      clear p5
      have qi5 : (0 < (a0.size : Int)) = True := eq_true (of_decide_eq_true (by first | (with_reducible assumption) | assumption))
      replace q5 := eq_true q5
      go_enter Tryd.func27, Tryd.ntmps27
      go_wp2_with (first | (go_at_call 46; (with_reducible refine (platformfwref01_letter.calls (bt a0 0) true _ A6.out).mono ?_); rintro e w' ⟨rfl, ⟨nd, rfl⟩⟩) | (go_at_call 47; (with_reducible refine (platformfwref01_identifier.calls k a0 0 t232 _ A8.out).mono ?_); rintro e w' ⟨rfl, ⟨nd, rfl⟩⟩))
      go_ret
      exact ⟨by first | rfl | (simp; done) | (simp [*]; done), by repeat (first | exact Drawn0.refl _ | apply Drawn0.step)⟩
    ·replace c7 := Bool.eq_false_iff.mpr c7
     subst c7
     have H1 : (some false) = some r := by rw [if_neg (show ¬ (false = true) by decide)] at H; exact H
     clear H
     have H := H1
     clear H1
     obtain rfl := Option.some.inj H
     have p5 : 0 ≤ (0 : Int) := (by omega)
     have q5 : 0 < a0.size := (by have : (0 : Int) < (a0.size : Int) := of_decide_eq_true (by first | (with_reducible assumption) | assumption); omega)
     have hx5 : ∀ h : 0 < a0.size, ((a0[0]'h).toNat : Int) = bt a0 0 := bt_at a0 0
     clear p5
     have qi5 : (0 < (a0.size : Int)) = True := eq_true (of_decide_eq_true (by first | (with_reducible assumption) | assumption))
     replace q5 := eq_true q5
     go_enter Tryd.func27, Tryd.ntmps27
     go_wp2_with (first | (go_at_call 46; (with_reducible refine (platformfwref01_letter.calls (bt a0 0) false _ A6.out).mono ?_); rintro e w' ⟨rfl, ⟨nd, rfl⟩⟩))
     go_ret
     exact ⟨by first | rfl | (simp; done) | (simp [*]; done), by repeat (first | exact Drawn0.refl _ | apply Drawn0.step)⟩
   ·rw [if_neg c4] at H
    exact absurd H (by simp)
  ·rw [if_neg c3] at H
   have c3b0 : decide ((a0.size : Int) ≤ 4) = false := decide_eq_false c3
   have c3b1 : decide (a0.size ≤ 4) = false := decide_eq_false (by omega)
   clear c3
   obtain rfl := Option.some.inj H
   go_enter Tryd.func27, Tryd.ntmps27
   go_wp2
   go_ret
   exact ⟨by first | rfl | (simp; done) | (simp [*]; done), by repeat (first | exact Drawn0.refl _ | apply Drawn0.step)⟩
 ·rw [if_neg c2] at H
  have c2b0 : decide (1 ≤ (a0.size : Int)) = false := decide_eq_false c2
  have c2b1 : decide (1 ≤ a0.size) = false := decide_eq_false (by omega)
  clear c2
  obtain rfl := Option.some.inj H
  go_enter Tryd.func27, Tryd.ntmps27
  go_wp2
  go_ret
  exact ⟨by first | rfl | (simp; done) | (simp [*]; done), by repeat (first | exact Drawn0.refl _ | apply Drawn0.step)⟩

/-! ### platformfwlaw02_absolute: function 19 -/
mutual
def platformfwlaw02_absolute.l0 : Nat → Int → Bool → Int → List ByteArray → Bool → Int → List ByteArray → Option (Bool × Int × List ByteArray)
 | 0, _, _, _, _, _, _, _ => none
 | k + 1, x4, x235000, x235001, x235002, x237000, x237001, x237002 => if x4 < (x235002.length : Int) then (platformfwlaw02_absolute.j1 k x4 (decide (x4 < 12)) x235000 x235001 x235002 x237000 x237001 x237002) else (platformfwlaw02_absolute.j1 k x4 false x235000 x235001 x235002 x237000 x237001 x237002)
def platformfwlaw02_absolute.j1 : Nat → Int → Bool → Bool → Int → List ByteArray → Bool → Int → List ByteArray → Option (Bool × Int × List ByteArray)
 | 0, _, _, _, _, _, _, _, _ => none
 | k + 1, x4, x15, x235000, x235001, x235002, x237000, x237001, x237002 => if x15 = true then (if 0 ≤ x4 then (if x4 < (x235002.length : Int) then ((platformfwlaw02_seg.f (rdOf ByteArray.empty x235002 x4)).bind fun t238 => ((platformfwref01_Segment.f k t238).bind fun t239 => (if t239 = true then (if x237002.length < 8796093022208 then (platformfwlaw02_absolute.l0 k (wrap64 (x4 + 1)) x235000 x235001 x235002 x237000 x237001 (x237002 ++ [t238])) else (none)) else (platformfwlaw02_absolute.l0 k (wrap64 (x4 + 1)) x235000 x235001 x235002 x237000 x237001 x237002)))) else (none)) else (none)) else (some (x237000, x237001, x237002))
end
def platformfwlaw02_absolute.f (k : Nat) (a0_0 : Bool) (a0_1 : Int) (l0_2 : List ByteArray) : Option (Bool × Int × List ByteArray) := platformfwlaw02_absolute.l0 k 0 a0_0 a0_1 l0_2 true 0 ([] : List ByteArray)
theorem platformfwlaw02_absolute.mono_l : ∀ k, (∀ y0 y1 y2 y3 y4 y5 y6, LeO (platformfwlaw02_absolute.l0 k y0 y1 y2 y3 y4 y5 y6) (platformfwlaw02_absolute.l0 (k + 1) y0 y1 y2 y3 y4 y5 y6)) ∧ (∀ y0 y1 y2 y3 y4 y5 y6 y7, LeO (platformfwlaw02_absolute.j1 k y0 y1 y2 y3 y4 y5 y6 y7) (platformfwlaw02_absolute.j1 (k + 1) y0 y1 y2 y3 y4 y5 y6 y7))
 | 0 => ⟨fun _ _ _ _ _ _ _ r h => by simp [platformfwlaw02_absolute.l0] at h, fun _ _ _ _ _ _ _ _ r h => by simp [platformfwlaw02_absolute.j1] at h⟩
 | k + 1 => by
  obtain ⟨ih0, ih1⟩ := platformfwlaw02_absolute.mono_l k
  refine ⟨?_, ?_⟩
  ·intro y0 y1 y2 y3 y4 y5 y6
   unfold platformfwlaw02_absolute.l0
   repeat' first
   | (with_reducible exact ih0 _ _ _ _ _ _ _)
   | (with_reducible exact ih1 _ _ _ _ _ _ _ _)
   | (with_reducible exact platformfwref01_Segment.mono _ _)
   | (with_reducible exact LeO.refl _)
   | (with_reducible exact LeO.none _)
   | (with_reducible refine LeO.ite ?_ ?_)
   | (with_reducible refine LeO.bind ?_ (fun _ => ?_))
   | exact ih0 _ _ _ _ _ _ _
   | exact ih1 _ _ _ _ _ _ _ _
   | exact platformfwref01_Segment.mono _ _
   | exact LeO.none _
   | refine LeO.ite ?_ ?_
   | refine LeO.bind ?_ (fun _ => ?_)
  ·intro y0 y1 y2 y3 y4 y5 y6 y7
   unfold platformfwlaw02_absolute.j1
   repeat' first
   | (with_reducible exact ih0 _ _ _ _ _ _ _)
   | (with_reducible exact ih1 _ _ _ _ _ _ _ _)
   | (with_reducible exact platformfwref01_Segment.mono _ _)
   | (with_reducible exact LeO.refl _)
   | (with_reducible exact LeO.none _)
   | (with_reducible refine LeO.ite ?_ ?_)
   | (with_reducible refine LeO.bind ?_ (fun _ => ?_))
   | exact ih0 _ _ _ _ _ _ _
   | exact ih1 _ _ _ _ _ _ _ _
   | exact platformfwref01_Segment.mono _ _
   | exact LeO.none _
   | refine LeO.ite ?_ ?_
   | refine LeO.bind ?_ (fun _ => ?_)
theorem platformfwlaw02_absolute.mono : ∀ a0 a1 a2 k, LeO (platformfwlaw02_absolute.f k a0 a1 a2) (platformfwlaw02_absolute.f (k + 1) a0 a1 a2) := by
 intro a0 a1 a2 k
 obtain ⟨ih0, ih1⟩ := platformfwlaw02_absolute.mono_l k
 unfold platformfwlaw02_absolute.f
 repeat' first
   | (with_reducible exact ih0 _ _ _ _ _ _ _)
   | (with_reducible exact ih1 _ _ _ _ _ _ _ _)
   | (with_reducible exact platformfwref01_Segment.mono _ _)
   | (with_reducible exact LeO.refl _)
   | (with_reducible exact LeO.none _)
   | (with_reducible refine LeO.ite ?_ ?_)
   | (with_reducible refine LeO.bind ?_ (fun _ => ?_))
   | exact ih0 _ _ _ _ _ _ _
   | exact ih1 _ _ _ _ _ _ _ _
   | exact platformfwref01_Segment.mono _ _
   | exact LeO.none _
   | refine LeO.ite ?_ ?_
   | refine LeO.bind ?_ (fun _ => ?_)
set_option maxHeartbeats 8000000 in
set_option maxRecDepth 100000 in
theorem platformfwlaw02_absolute.calls (k : Nat) (a0_0 : Bool) (a0_1 : Int) (A0_2 : Option Addr) (c0_2 : Nat) (l0_2 : List ByteArray) (r1 : Bool) (r2 : Int) (r3 : List ByteArray) (w : World) (hr0_2 : Kd.C Kd.string w A0_2 l0_2.length l0_2) (hc0_2 : l0_2.length ≤ c0_2) (h : platformfwlaw02_absolute.f k a0_0 a0_1 l0_2 = some (r1, r2, r3)) :
  Calls Tryd.prog 19 #[.agg #[.bool a0_0, .int .i64 a0_1, .slice A0_2 l0_2.length c0_2]] w fun e w' => ∃ v2_ : Value, e = .returned (.agg #[.bool r1, .int .i64 r2, v2_]) ∧ Kd.R Kd.string 9 w' w.heap.size (fun _ => True) v2_ r3 ∧ Below w.heap.size w w' := by
 have hu24 := Tryd.underlying24
 have HR0_2 := Aside0.mk hr0_2
 have HC0_2 := Aside0.mk hc0_2
 clear hr0_2 hc0_2
 have HB := Aside0.mk (Below.refl w.heap.size w)
 have H : (platformfwlaw02_absolute.l0 k 0 a0_0 a0_1 l0_2 true 0 ([] : List ByteArray)) = some (r1, r2, r3) := h
 clear h
 have H' := Aside0.mk H
 clear H
 go_enter Tryd.func19, Tryd.ntmps19
 go_wp2_with (first | ((with_reducible refine gate_dst (N := 1) rfl ?_); refine box_event ?hg (N := 1) ?hd (cs := #[.bool a0_0, .int .i64 a0_1, .slice A0_2 l0_2.length c0_2]) (t := 24) ?hr ?_; (case hd => rfl); (case hg => rfl); (case hr => first | (go_simp; done) | (go_simp; rfl)); intro gb234 hg w2 hbox hb; have n0_ := Aside0.mk (below_step (by repeat (first | (with_reducible first | exact HB.out | apply bA_ | apply bN_ | apply bD_) | exact HB.out)) hb); have n1_ := Aside0.mk (hbox); have n2_ := Aside0.mk ((by rw [hg]; exact (below_size (by repeat (first | (with_reducible first | exact HB.out | apply bA_ | apply bN_ | apply bD_) | exact HB.out))) : w.heap.size ≤ gb234)); have n3_ := Aside0.mk ((by rw [hg]; exact (below_size (by repeat (first | (with_reducible first | exact HB.out | apply bA_ | apply bN_ | apply bD_) | exact HB.out))) : w.heap.size ≤ gb234)); clear HB; have HB := n0_; have BK234 := n1_; have GW234 := n2_; have GE234 := n3_; clear n0_ n1_ n2_ n3_; clear hb hbox hg) | ((with_reducible refine gate_dst (N := 2) rfl ?_); refine box_event ?hg (N := 2) ?hd (cs := #[.bool false, .int .i64 0, .slice none 0 0]) (t := 24) ?hr ?_; (case hd => rfl); (case hg => rfl); (case hr => first | (go_simp; done) | (go_simp; rfl)); intro gb235 hg w3 hbox hb; have n0_ := Aside0.mk (blk_below (g := gb234) (o := .cells #[.bool a0_0, .int .i64 a0_1, .slice A0_2 l0_2.length c0_2] 24 (0, 0)) (by (with_reducible repeat (first | refine kN_ ?_ _ | refine kD_ ?_ | refine kA_ ?_ _)); exact BK234.out) hb); have n1_ := Aside0.mk (below_step (by repeat (first | (with_reducible first | exact HB.out | apply bA_ | apply bN_ | apply bD_ | refine bS_ ?_ GE234.out) | exact HB.out)) hb); have n2_ := Aside0.mk (hbox); have n3_ := Aside0.mk ((by rw [hg]; exact (below_size (by repeat (first | (with_reducible first | exact HB.out | apply bA_ | apply bN_ | apply bD_ | refine bS_ ?_ GE234.out) | exact HB.out))) : w.heap.size ≤ gb235)); have n4_ := Aside0.mk ((by rw [hg]; exact (below_size (by repeat (first | (with_reducible first | exact HB.out | apply bA_ | apply bN_ | apply bD_ | refine bS_ ?_ GE234.out) | exact HB.out))) : w.heap.size ≤ gb235)); have n5_ := Aside0.mk ((by rw [hg]; exact Nat.ne_of_lt (blk_lt (g := gb234) (o := .cells #[.bool a0_0, .int .i64 a0_1, .slice A0_2 l0_2.length c0_2] 24 (0, 0)) (by (with_reducible repeat (first | refine kN_ ?_ _ | refine kD_ ?_ | refine kA_ ?_ _)); exact BK234.out)) : gb234 ≠ gb235)); have n6_ := Aside0.mk ((by rw [hg]; exact Nat.ne_of_gt (blk_lt (g := gb234) (o := .cells #[.bool a0_0, .int .i64 a0_1, .slice A0_2 l0_2.length c0_2] 24 (0, 0)) (by (with_reducible repeat (first | refine kN_ ?_ _ | refine kD_ ?_ | refine kA_ ?_ _)); exact BK234.out)) : gb235 ≠ gb234)); clear BK234; clear HB; have BK234 := n0_; have HB := n1_; have BK235 := n2_; have GW235 := n3_; have GE235 := n4_; have NB234_235 := n5_; have NB235_234 := n6_; clear n0_ n1_ n2_ n3_ n4_ n5_ n6_; clear hb hbox hg) | ((with_reducible refine gate_dst (N := 3) rfl ?_); refine box_event ?hg (N := 3) ?hd (cs := #[.bool false, .int .i64 0, .slice none 0 0]) (t := 24) ?hr ?_; (case hd => rfl); (case hg => rfl); (case hr => first | (go_simp; done) | (go_simp; rfl)); intro gb236 hg w4 hbox hb; have n0_ := Aside0.mk (blk_below (g := gb234) (o := .cells #[.bool a0_0, .int .i64 a0_1, .slice A0_2 l0_2.length c0_2] 24 (0, 0)) (by (with_reducible repeat (first | refine kN_ ?_ _ | refine kD_ ?_ | refine kA_ ?_ _)); exact BK234.out) hb); have n1_ := Aside0.mk (blk_below (g := gb235) (o := .cells #[.bool false, .int .i64 0, .slice none 0 0] 24 (0, 0)) (by (with_reducible repeat (first | refine kN_ ?_ _ | refine kD_ ?_ | refine kA_ ?_ _)); exact BK235.out) hb); have n2_ := Aside0.mk (below_step (by repeat (first | (with_reducible first | exact HB.out | apply bA_ | apply bN_ | apply bD_ | refine bS_ ?_ GE234.out | refine bS_ ?_ GE235.out) | exact HB.out)) hb); have n3_ := Aside0.mk (hbox); have n4_ := Aside0.mk ((by rw [hg]; exact (below_size (by repeat (first | (with_reducible first | exact HB.out | apply bA_ | apply bN_ | apply bD_ | refine bS_ ?_ GE234.out | refine bS_ ?_ GE235.out) | exact HB.out))) : w.heap.size ≤ gb236)); have n5_ := Aside0.mk ((by rw [hg]; exact (below_size (by repeat (first | (with_reducible first | exact HB.out | apply bA_ | apply bN_ | apply bD_ | refine bS_ ?_ GE234.out | refine bS_ ?_ GE235.out) | exact HB.out))) : w.heap.size ≤ gb236)); have n6_ := Aside0.mk ((by rw [hg]; exact Nat.ne_of_lt (blk_lt (g := gb234) (o := .cells #[.bool a0_0, .int .i64 a0_1, .slice A0_2 l0_2.length c0_2] 24 (0, 0)) (by (with_reducible repeat (first | refine kN_ ?_ _ | refine kD_ ?_ | refine kA_ ?_ _)); exact BK234.out)) : gb234 ≠ gb236)); have n7_ := Aside0.mk ((by rw [hg]; exact Nat.ne_of_gt (blk_lt (g := gb234) (o := .cells #[.bool a0_0, .int .i64 a0_1, .slice A0_2 l0_2.length c0_2] 24 (0, 0)) (by (with_reducible repeat (first | refine kN_ ?_ _ | refine kD_ ?_ | refine kA_ ?_ _)); exact BK234.out)) : gb236 ≠ gb234)); have n8_ := Aside0.mk ((by rw [hg]; exact Nat.ne_of_lt (blk_lt (g := gb235) (o := .cells #[.bool false, .int .i64 0, .slice none 0 0] 24 (0, 0)) (by (with_reducible repeat (first | refine kN_ ?_ _ | refine kD_ ?_ | refine kA_ ?_ _)); exact BK235.out)) : gb235 ≠ gb236)); have n9_ := Aside0.mk ((by rw [hg]; exact Nat.ne_of_gt (blk_lt (g := gb235) (o := .cells #[.bool false, .int .i64 0, .slice none 0 0] 24 (0, 0)) (by (with_reducible repeat (first | refine kN_ ?_ _ | refine kD_ ?_ | refine kA_ ?_ _)); exact BK235.out)) : gb236 ≠ gb235)); clear BK234; clear BK235; clear HB; have BK234 := n0_; have BK235 := n1_; have HB := n2_; have BK236 := n3_; have GW236 := n4_; have GE236 := n5_; have NB234_236 := n6_; have NB236_234 := n7_; have NB235_236 := n8_; have NB236_235 := n9_; clear n0_ n1_ n2_ n3_ n4_ n5_ n6_ n7_ n8_ n9_; clear hb hbox hg; have hnb5 := NB236_234.out; have hnc5 := NB234_236.out; have hnb6 := NB236_235.out; have hnc6 := NB235_236.out; obtain ⟨hcz7_0, hcz7_1, hcz7_2⟩ := cells3_ BK236.out; obtain ⟨hfz7_0, hfz7_1, hfz7_2⟩ := froz3_ BK236.out))
 go_loopg [4] k (fun kq v4 w' => ∃ (x4_1 : Int) (x237002_1 : List ByteArray) (u237002 : Value), v4 = .int .i64 x4_1 ∧ Aside0 (platformfwlaw02_absolute.l0 kq x4_1 a0_0 a0_1 l0_2 true 0 x237002_1 = some (r1, r2, r3)) ∧ Aside0 (kq ≤ k) ∧ Aside0 (Kd.R Kd.string 9 w' w.heap.size (fun _ => True) u237002 x237002_1) ∧ Aside0 (w'.heap[gb234]? = some (.cells #[.bool a0_0, .int .i64 a0_1, (.slice A0_2 l0_2.length c0_2)] 24 (0, 0))) ∧ Aside0 (w'.heap[gb235]? = some (.cells #[.bool false, .int .i64 0, (.slice none 0 0)] 24 (0, 0))) ∧ Aside0 (w'.heap[gb236]? = some (.cells #[.bool true, .int .i64 0, u237002] 24 (0, 0))) ∧ Aside0 (Below w.heap.size w w'))
 case atStart => exact ⟨(0), (([] : List ByteArray)), (.slice none 0 0), (by first | rfl | (simp; done) | (simp [*]; done)), H', ⟨Nat.le_refl _⟩, ⟨by first | exact Kd.R_nil _ _ _ _ _ | exact Kd.N_nil _ _ _ _ _ | exact Kd.V_nil _ _ _ _ _ | exact Kd.Q_nil _ _ _ _ _ | exact Kd.S_nil _ _ _ _ _⟩, ⟨by (with_reducible repeat (first | refine kN_ ?_ _ | refine kD_ ?_ | refine kA_ ?_ _)); refine blk_far ?_ NB234_236.out _; (with_reducible repeat (first | refine kN_ ?_ _ | refine kD_ ?_ | refine kA_ ?_ _)); refine blk_far ?_ NB234_236.out _; (with_reducible repeat (first | refine kN_ ?_ _ | refine kD_ ?_ | refine kA_ ?_ _)); refine blk_far ?_ NB234_236.out _; (with_reducible repeat (first | refine kN_ ?_ _ | refine kD_ ?_ | refine kA_ ?_ _)); exact BK234.out⟩, ⟨by (with_reducible repeat (first | refine kN_ ?_ _ | refine kD_ ?_ | refine kA_ ?_ _)); refine blk_far ?_ NB235_236.out _; (with_reducible repeat (first | refine kN_ ?_ _ | refine kD_ ?_ | refine kA_ ?_ _)); refine blk_far ?_ NB235_236.out _; (with_reducible repeat (first | refine kN_ ?_ _ | refine kD_ ?_ | refine kA_ ?_ _)); refine blk_far ?_ NB235_236.out _; (with_reducible repeat (first | refine kN_ ?_ _ | refine kD_ ?_ | refine kA_ ?_ _)); exact BK235.out⟩, ⟨by (with_reducible repeat (first | refine kN_ ?_ _ | refine kD_ ?_ | refine kA_ ?_ _)); refine blk_put (cs := #[.bool true, .int .i64 0, .slice none 0 0]) ?_ 2 _ rfl; (with_reducible repeat (first | refine kN_ ?_ _ | refine kD_ ?_ | refine kA_ ?_ _)); refine blk_put (cs := #[.bool true, .int .i64 0, .slice none 0 0]) ?_ 1 _ rfl; (with_reducible repeat (first | refine kN_ ?_ _ | refine kD_ ?_ | refine kA_ ?_ _)); refine blk_put (cs := #[.bool false, .int .i64 0, .slice none 0 0]) ?_ 0 _ rfl; (with_reducible repeat (first | refine kN_ ?_ _ | refine kD_ ?_ | refine kA_ ?_ _)); exact BK236.out⟩, ⟨by repeat (first | (with_reducible first | exact HB.out | apply bA_ | apply bN_ | apply bD_ | refine bS_ ?_ GE234.out | refine bS_ ?_ GE235.out | refine bS_ ?_ GE236.out) | exact HB.out)⟩⟩
 case round =>
  clear H'
  try clear c1
  try clear p2
  try clear c5
  try clear c6
  try clear hcz7_0 hcz7_1 hcz7_2
  try clear hfz7_0 hfz7_1 hfz7_2
  obtain ⟨x4_1, x237002_1, u237002, rfl, HA, HK1, HO_237002, BK234, BK235, BK236, HB⟩ := hrel
  cases gk with
  | zero => exact absurd HA.out (by simp [platformfwlaw02_absolute.l0])
  | succ k1 =>
   have H := HA.out
   clear HA
   simp only [platformfwlaw02_absolute.l0] at H
   have HC8 := Aside0.mk H
   clear H
   go_upto_region 3 with (fail)
   go_cut [15] (fun v15 wc => ∃ (kq : Nat) (x15_7 : Bool), v15 = .bool x15_7 ∧ Aside0 (platformfwlaw02_absolute.j1 kq x4_1 x15_7 a0_0 a0_1 l0_2 true 0 x237002_1 = some (r1, r2, r3)) ∧ Aside0 (kq ≤ k1) ∧ Aside0 (Kd.R Kd.string 9 wc w.heap.size (fun _ => True) u237002 x237002_1) ∧ Aside0 (wc.heap[gb234]? = some (.cells #[.bool a0_0, .int .i64 a0_1, (.slice A0_2 l0_2.length c0_2)] 24 (0, 0))) ∧ Aside0 (wc.heap[gb235]? = some (.cells #[.bool false, .int .i64 0, (.slice none 0 0)] 24 (0, 0))) ∧ Aside0 (wc.heap[gb236]? = some (.cells #[.bool true, .int .i64 0, u237002] 24 (0, 0))) ∧ Aside0 (Below w.heap.size w wc))
   case first =>
    have H := HC8.out
    clear HC8
    by_cases c9 : x4_1 < (l0_2.length : Int)
    ·rw [if_pos c9] at H
     have c9b0 : decide (x4_1 < (l0_2.length : Int)) = true := decide_eq_true c9
     clear c9
     (first | rw [c9b0] | (simp only [i64_w, i32_w]; rw [c9b0]) | skip)
     have H' := Aside0.mk H
     clear H
     have hnb10 := NB234_235.out
     have hnc10 := NB235_234.out
     have hnb11 := NB234_236.out
     have hnc11 := NB236_234.out
     obtain ⟨hcz12_0, hcz12_1, hcz12_2⟩ := cells3_ BK234.out
     obtain ⟨hfz12_0, hfz12_1, hfz12_2⟩ := froz3_ BK234.out
     go_wp2
     go_meet
     case rel => exact ⟨_, (decide (x4_1 < 12)), (by first | rfl | (simp; done) | (simp [*]; done)), H', ⟨by have := HK1.out; first | omega | exact Nat.le_refl _⟩, ⟨by (with_reducible repeat (first | apply Kd.R_alloc | apply Kd.R_drewN | apply Kd.R_drew)); exact HO_237002.out⟩, ⟨by (with_reducible repeat (first | refine kN_ ?_ _ | refine kD_ ?_ | refine kA_ ?_ _)); exact BK234.out⟩, ⟨by (with_reducible repeat (first | refine kN_ ?_ _ | refine kD_ ?_ | refine kA_ ?_ _)); exact BK235.out⟩, ⟨by (with_reducible repeat (first | refine kN_ ?_ _ | refine kD_ ?_ | refine kA_ ?_ _)); exact BK236.out⟩, ⟨by repeat (first | (with_reducible first | exact HB.out | apply bA_ | apply bN_ | apply bD_ | refine bS_ ?_ GE234.out | refine bS_ ?_ GE235.out | refine bS_ ?_ GE236.out) | exact HB.out)⟩⟩
    ·rw [if_neg c9] at H
     have c9b0 : decide (x4_1 < (l0_2.length : Int)) = false := decide_eq_false c9
     clear c9
     (first | rw [c9b0] | (simp only [i64_w, i32_w]; rw [c9b0]) | skip)
     have H' := Aside0.mk H
     clear H
     have hnb13 := NB234_235.out
     have hnc13 := NB235_234.out
     have hnb14 := NB234_236.out
     have hnc14 := NB236_234.out
     obtain ⟨hcz15_0, hcz15_1, hcz15_2⟩ := cells3_ BK234.out
     obtain ⟨hfz15_0, hfz15_1, hfz15_2⟩ := froz3_ BK234.out
     go_wp2
     go_meet
     case rel => exact ⟨_, (false), (by first | rfl | (simp; done) | (simp [*]; done)), H', ⟨by have := HK1.out; first | omega | exact Nat.le_refl _⟩, ⟨by (with_reducible repeat (first | apply Kd.R_alloc | apply Kd.R_drewN | apply Kd.R_drew)); exact HO_237002.out⟩, ⟨by (with_reducible repeat (first | refine kN_ ?_ _ | refine kD_ ?_ | refine kA_ ?_ _)); exact BK234.out⟩, ⟨by (with_reducible repeat (first | refine kN_ ?_ _ | refine kD_ ?_ | refine kA_ ?_ _)); exact BK235.out⟩, ⟨by (with_reducible repeat (first | refine kN_ ?_ _ | refine kD_ ?_ | refine kA_ ?_ _)); exact BK236.out⟩, ⟨by repeat (first | (with_reducible first | exact HB.out | apply bA_ | apply bN_ | apply bD_ | refine bS_ ?_ GE234.out | refine bS_ ?_ GE235.out | refine bS_ ?_ GE236.out) | exact HB.out)⟩⟩
   case rest =>
    clear HC8
    try clear c1
    try clear p2
    try clear c5
    try clear c6
    try clear c9
    try clear c9b0
    try clear c10
    try clear c11
    try clear c13
    try clear c14
    try clear hcz12_0 hcz12_1 hcz12_2
    try clear hcz15_0 hcz15_1 hcz15_2
    try clear hcz7_0 hcz7_1 hcz7_2
    try clear hfz12_0 hfz12_1 hfz12_2
    try clear hfz15_0 hfz15_1 hfz15_2
    try clear hfz7_0 hfz7_1 hfz7_2
    try clear p2
    obtain ⟨kq, x15_7, rfl, HA, HJ7, HO_237002, BK234, BK235, BK236, HB⟩ := hcut
    cases kq with
    | zero => exact absurd HA.out (by simp [platformfwlaw02_absolute.j1])
    | succ kj7 =>
     have H := HA.out
     clear HA
     simp only [platformfwlaw02_absolute.j1] at H
     by_cases c16 : x15_7 = true
     ·subst c16
      have H1 : (if 0 ≤ x4_1 then (if x4_1 < (l0_2.length : Int) then ((platformfwlaw02_seg.f (rdOf ByteArray.empty l0_2 x4_1)).bind fun t238 => ((platformfwref01_Segment.f kj7 t238).bind fun t239 => (if t239 = true then (if x237002_1.length < 8796093022208 then (platformfwlaw02_absolute.l0 kj7 (wrap64 (x4_1 + 1)) a0_0 a0_1 l0_2 true 0 (x237002_1 ++ [t238])) else (none)) else (platformfwlaw02_absolute.l0 kj7 (wrap64 (x4_1 + 1)) a0_0 a0_1 l0_2 true 0 x237002_1)))) else (none)) else (none)) = some (r1, r2, r3) := by rw [if_pos rfl] at H; exact H
      clear H
      have H := H1
      clear H1
      by_cases c17 : 0 ≤ x4_1
      ·rw [if_pos c17] at H
       have c17b0 : decide (0 ≤ x4_1) = true := decide_eq_true c17
       clear c17
       by_cases c18 : x4_1 < (l0_2.length : Int)
       ·rw [if_pos c18] at H
        have c18b0 : decide (x4_1 < (l0_2.length : Int)) = true := decide_eq_true c18
        clear c18
        replace H := Option.bind_eq_some_iff.mp H
        obtain ⟨t238, A190, H⟩ := H
        replace H : ((platformfwref01_Segment.f kj7 t238).bind fun t239 => (if t239 = true then (if x237002_1.length < 8796093022208 then (platformfwlaw02_absolute.l0 kj7 (wrap64 (x4_1 + 1)) a0_0 a0_1 l0_2 true 0 (x237002_1 ++ [t238])) else (none)) else (platformfwlaw02_absolute.l0 kj7 (wrap64 (x4_1 + 1)) a0_0 a0_1 l0_2 true 0 x237002_1))) = some (r1, r2, r3) := H
        have A19 := Aside0.mk A190
        clear A190
        replace H := Option.bind_eq_some_iff.mp H
        obtain ⟨t239, A200, H⟩ := H
        replace H : (if t239 = true then (if x237002_1.length < 8796093022208 then (platformfwlaw02_absolute.l0 kj7 (wrap64 (x4_1 + 1)) a0_0 a0_1 l0_2 true 0 (x237002_1 ++ [t238])) else (none)) else (platformfwlaw02_absolute.l0 kj7 (wrap64 (x4_1 + 1)) a0_0 a0_1 l0_2 true 0 x237002_1)) = some (r1, r2, r3) := H
        have A20 := Aside0.mk A200
        clear A200
        by_cases c21 : t239 = true
        ·subst c21
         have H1 : (if x237002_1.length < 8796093022208 then (platformfwlaw02_absolute.l0 kj7 (wrap64 (x4_1 + 1)) a0_0 a0_1 l0_2 true 0 (x237002_1 ++ [t238])) else (none)) = some (r1, r2, r3) := by rw [if_pos rfl] at H; exact H
         clear H
         have H := H1
         clear H1
         by_cases c22 : x237002_1.length < 8796093022208
         ·rw [if_pos c22] at H
          have LMc22 := Aside0.mk c22
          clear c22
          obtain ⟨y240, hy240⟩ : ∃ y_ : List ByteArray, y_ = (x237002_1 ++ [t238]) := ⟨_, rfl⟩
          replace H : (platformfwlaw02_absolute.l0 kj7 (wrap64 (x4_1 + 1)) a0_0 a0_1 l0_2 true 0 y240) = some (r1, r2, r3) := by first | (rw [hy240]; with_reducible exact H) | (have H2_ := (Option.bind_some _ _).symm.trans H; rw [hy240]; with_reducible exact H2_) | (have H2_ := (Option.bind_some _ _).symm.trans H; with_reducible exact H2_) | with_reducible exact H | (rw [hy240]; exact H) | exact H
          have Ny240 := Aside0.mk hy240
          clear hy240
          have H' := Aside0.mk H
          clear H
          have hnb23 := NB234_235.out
          have hnc23 := NB235_234.out
          have hnb24 := NB234_236.out
          have hnc24 := NB236_234.out
          obtain ⟨hcz25_0, hcz25_1, hcz25_2⟩ := cells3_ BK234.out
          obtain ⟨hfz25_0, hfz25_1, hfz25_2⟩ := froz3_ BK234.out
          have p237 : 0 ≤ (x4_1 : Int) := of_decide_eq_true (by first | (with_reducible assumption) | assumption)
          have q237 : x4_1 < (l0_2.length : Int) := of_decide_eq_true (by first | (with_reducible assumption) | assumption)
          obtain ⟨ad237, e237, hx237_0⟩ := Kd.at_string HR0_2.out x4_1 p237 q237
          cases e237
          replace hx237_0 := (HB.out.cell (World.block_lt_of_cell? w _ hx237_0)).trans hx237_0
          replace p237 := eq_true p237
          replace q237 := eq_true q237
          go_wp2_with (first | ((with_reducible refine gate_callee (f := 26) rfl ?_); refine goesL_ (some 23) rfl rfl Tryd.func26 (by kernel_rfl) rfl #[.string (rdOf ByteArray.empty l0_2 x4_1)] rfl (by (try simp only [List.map_toArray, List.map_cons, List.map_nil]); first | done | rfl | (simp only [List.length_drop, List.length_take]; rfl)) ?_; (with_reducible refine (platformfwlaw02_seg.calls (rdOf ByteArray.empty l0_2 x4_1) t238 _ A19.out).mono ?_); rintro e w26 ⟨rfl, hb⟩; refine ⟨_, rfl, ?_⟩; have n0_ := Aside0.mk (Kd.R_below (by (with_reducible repeat (first | apply Kd.R_alloc | apply Kd.R_drewN | apply Kd.R_drew)); exact HO_237002.out) hb); have n1_ := Aside0.mk (blk_below (g := gb234) (o := .cells #[.bool a0_0, .int .i64 a0_1, .slice (some ad237) l0_2.length c0_2] 24 (0, 0)) (by (with_reducible repeat (first | refine kN_ ?_ _ | refine kD_ ?_ | refine kA_ ?_ _)); exact BK234.out) hb); have n2_ := Aside0.mk (blk_below (g := gb235) (o := .cells #[.bool false, .int .i64 0, .slice none 0 0] 24 (0, 0)) (by (with_reducible repeat (first | refine kN_ ?_ _ | refine kD_ ?_ | refine kA_ ?_ _)); exact BK235.out) hb); have n3_ := Aside0.mk (blk_below (g := gb236) (o := .cells #[.bool true, .int .i64 0, u237002] 24 (0, 0)) (by (with_reducible repeat (first | refine kN_ ?_ _ | refine kD_ ?_ | refine kA_ ?_ _)); exact BK236.out) hb); have n4_ := Aside0.mk (below_step (by repeat (first | (with_reducible first | exact HB.out | apply bA_ | apply bN_ | apply bD_ | refine bS_ ?_ GE234.out | refine bS_ ?_ GE235.out | refine bS_ ?_ GE236.out) | exact HB.out)) hb); clear HO_237002; clear BK234; clear BK235; clear BK236; clear HB; have HO_237002 := n0_; have BK234 := n1_; have BK235 := n2_; have BK236 := n3_; have HB := n4_; clear n0_ n1_ n2_ n3_ n4_; (try clear hb); (try clear hb2); (try clear hk); (try clear hi)) | ((with_reducible refine gate_callee (f := 27) rfl ?_); refine goesL_ (some 25) rfl rfl Tryd.func27 (by kernel_rfl) rfl #[.string t238] rfl (by (try simp only [List.map_toArray, List.map_cons, List.map_nil]); first | done | rfl | (simp only [List.length_drop, List.length_take]; rfl)) ?_; (with_reducible refine (platformfwref01_Segment.calls kj7 t238 true _ A20.out).mono ?_); rintro e w' ⟨rfl, ⟨nd, rfl⟩⟩; refine ⟨_, rfl, ?_⟩; (try (rw [drewN_self w26]; generalize hq_ : World.drewN w26 _ = w26; have n0_ : Aside0 (Kd.R Kd.string 9 w26 w.heap.size (fun _ => True) u237002 x237002_1) := ⟨by rw [← hq_]; exact (by (with_reducible repeat (first | apply Kd.R_alloc | apply Kd.R_drewN | apply Kd.R_drew)); exact HO_237002.out)⟩; have n1_ : Aside0 (w26.heap[gb234]? = some (.cells #[.bool a0_0, .int .i64 a0_1, .slice (some ad237) l0_2.length c0_2] 24 (0, 0))) := ⟨by rw [← hq_]; exact (by (with_reducible repeat (first | refine kN_ ?_ _ | refine kD_ ?_ | refine kA_ ?_ _)); exact BK234.out)⟩; have n2_ : Aside0 (w26.heap[gb235]? = some (.cells #[.bool false, .int .i64 0, .slice none 0 0] 24 (0, 0))) := ⟨by rw [← hq_]; exact (by (with_reducible repeat (first | refine kN_ ?_ _ | refine kD_ ?_ | refine kA_ ?_ _)); exact BK235.out)⟩; have n3_ : Aside0 (w26.heap[gb236]? = some (.cells #[.bool true, .int .i64 0, u237002] 24 (0, 0))) := ⟨by rw [← hq_]; exact (by (with_reducible repeat (first | refine kN_ ?_ _ | refine kD_ ?_ | refine kA_ ?_ _)); exact BK236.out)⟩; have n4_ : Aside0 (Below w.heap.size w w26) := ⟨by rw [← hq_]; exact (by repeat (first | (with_reducible first | exact HB.out | apply bA_ | apply bN_ | apply bD_ | refine bS_ ?_ GE234.out | refine bS_ ?_ GE235.out | refine bS_ ?_ GE236.out) | exact HB.out))⟩; clear HO_237002 BK234 BK235 BK236 HB hq_; have HO_237002 := n0_; have BK234 := n1_; have BK235 := n2_; have BK236 := n3_; have HB := n4_; clear n0_ n1_ n2_ n3_ n4_)); have hnb27 := NB236_235.out; have hnc27 := NB235_236.out; obtain ⟨hcz28_0, hcz28_1, hcz28_2⟩ := cells3_ BK236.out; obtain ⟨hfz28_0, hfz28_1, hfz28_2⟩ := froz3_ BK236.out) | ((with_reducible refine gate_builtin (b := .append) (xs := #[.tmp 27, .tmp 29]) rfl ?_); at_builtin; refine Kd.R_append Kd.string (w0 := w) w.heap.size rfl (.tmp 27) (.tmp 29) 22 9 (.string ⟨#[]⟩) 16 rfl Tryd.underlying22 info9 rfl (by decide) (by omega) u237002 x237002_1 t238 [.string t238] (fun _ => True) (fun _ => False) rfl rfl ?aP (fun _ hk => hk.elim) ?aF ?aO ?aB ?aS ?aL ?_; (case aP => exact rfl); (case aB => exact (by repeat (first | (with_reducible first | exact HB.out | apply bA_ | apply bN_ | apply bD_ | refine bS_ ?_ GE234.out | refine bS_ ?_ GE235.out | refine bS_ ?_ GE236.out) | exact HB.out))); (case aF => exact (fun _ _ => trivial)); (case aO => exact (by (with_reducible repeat (first | apply Kd.R_alloc | apply Kd.R_drewN | apply Kd.R_drew)); exact HO_237002.out)); (case aS => exact (below_size (by repeat (first | (with_reducible first | exact HB.out | apply bA_ | apply bN_ | apply bD_ | refine bS_ ?_ GE234.out | refine bS_ ?_ GE235.out | refine bS_ ?_ GE236.out) | exact HB.out)))); (case aL => have := LMc22.out; omega); intro v241 w29 ho hb hg hat; rw [← Ny240.out] at ho; have n0_ := Aside0.mk (blk_grown (g := gb234) (o := .cells #[.bool a0_0, .int .i64 a0_1, .slice (some ad237) l0_2.length c0_2] 24 (0, 0)) (by (with_reducible repeat (first | refine kN_ ?_ _ | refine kD_ ?_ | refine kA_ ?_ _)); exact BK234.out) hg (Kd.R_ne HO_237002.out BK234.out (by decide))); have n1_ := Aside0.mk (blk_grown (g := gb235) (o := .cells #[.bool false, .int .i64 0, .slice none 0 0] 24 (0, 0)) (by (with_reducible repeat (first | refine kN_ ?_ _ | refine kD_ ?_ | refine kA_ ?_ _)); exact BK235.out) hg (Kd.R_ne HO_237002.out BK235.out (by decide))); have n2_ := Aside0.mk (blk_grown (g := gb236) (o := .cells #[.bool true, .int .i64 0, u237002] 24 (0, 0)) (by (with_reducible repeat (first | refine kN_ ?_ _ | refine kD_ ?_ | refine kA_ ?_ _)); exact BK236.out) hg (Kd.R_ne HO_237002.out BK236.out (by decide))); have n3_ := Aside0.mk (hb); have n4_ := Aside0.mk (ho); clear BK234; clear BK235; clear BK236; clear HB; clear HO_237002; have BK234 := n0_; have BK235 := n1_; have BK236 := n2_; have HB := n3_; have HO242 := n4_; clear n0_ n1_ n2_ n3_ n4_; clear ho hb hg hat; obtain ⟨Ao30, co30, eo30⟩ := Kd.R_slice HO242.out; subst eo30; obtain ⟨hcz31_0, hcz31_1, hcz31_2⟩ := cells3_ BK236.out; obtain ⟨hfz31_0, hfz31_1, hfz31_2⟩ := froz3_ BK236.out))
          go_roundg kj7
          case measure => have := HK1.out; have := HJ7.out; omega
          case rel => exact ⟨(wrap64 (x4_1 + 1)), (y240), (.slice Ao30 y240.length co30), (by first | rfl | (simp; done) | (simp [*]; done)), H', ⟨by have := HK1.out; have := HJ7.out; omega⟩, ⟨by (with_reducible repeat (first | apply Kd.R_alloc | apply Kd.R_drewN | apply Kd.R_drew)); exact Kd.R_mono (Kd.R_far (p := ⟨gb236, 2, none⟩) (Kd.R_types HO242.out BK236.out (by decide)) (fun _ hk => hk.2) (.slice Ao30 y240.length co30)) (fun _ hk => trivial)⟩, ⟨by (with_reducible repeat (first | refine kN_ ?_ _ | refine kD_ ?_ | refine kA_ ?_ _)); refine blk_far ?_ NB234_236.out _; (with_reducible repeat (first | refine kN_ ?_ _ | refine kD_ ?_ | refine kA_ ?_ _)); exact BK234.out⟩, ⟨by (with_reducible repeat (first | refine kN_ ?_ _ | refine kD_ ?_ | refine kA_ ?_ _)); refine blk_far ?_ NB235_236.out _; (with_reducible repeat (first | refine kN_ ?_ _ | refine kD_ ?_ | refine kA_ ?_ _)); exact BK235.out⟩, ⟨by (with_reducible repeat (first | refine kN_ ?_ _ | refine kD_ ?_ | refine kA_ ?_ _)); refine blk_put (cs := #[.bool true, .int .i64 0, u237002]) ?_ 2 _ rfl; (with_reducible repeat (first | refine kN_ ?_ _ | refine kD_ ?_ | refine kA_ ?_ _)); exact BK236.out⟩, ⟨by repeat (first | (with_reducible first | exact HB.out | apply bA_ | apply bN_ | apply bD_ | refine bS_ ?_ GE234.out | refine bS_ ?_ GE235.out | refine bS_ ?_ GE236.out) | exact HB.out)⟩⟩
         ·rw [if_neg c22] at H
          exact absurd H (by simp)
        ·replace c21 := Bool.eq_false_iff.mpr c21
         subst c21
         have H1 : (platformfwlaw02_absolute.l0 kj7 (wrap64 (x4_1 + 1)) a0_0 a0_1 l0_2 true 0 x237002_1) = some (r1, r2, r3) := by rw [if_neg (show ¬ (false = true) by decide)] at H; exact H
         clear H
         have H := H1
         clear H1
         have H' := Aside0.mk H
         clear H
         have hnb32 := NB234_235.out
         have hnc32 := NB235_234.out
         have hnb33 := NB234_236.out
         have hnc33 := NB236_234.out
         obtain ⟨hcz34_0, hcz34_1, hcz34_2⟩ := cells3_ BK234.out
         obtain ⟨hfz34_0, hfz34_1, hfz34_2⟩ := froz3_ BK234.out
         have p237 : 0 ≤ (x4_1 : Int) := of_decide_eq_true (by first | (with_reducible assumption) | assumption)
         have q237 : x4_1 < (l0_2.length : Int) := of_decide_eq_true (by first | (with_reducible assumption) | assumption)
         obtain ⟨ad237, e237, hx237_0⟩ := Kd.at_string HR0_2.out x4_1 p237 q237
         cases e237
         replace hx237_0 := (HB.out.cell (World.block_lt_of_cell? w _ hx237_0)).trans hx237_0
         replace p237 := eq_true p237
         replace q237 := eq_true q237
         go_wp2_with (first | ((with_reducible refine gate_callee (f := 26) rfl ?_); refine goesL_ (some 23) rfl rfl Tryd.func26 (by kernel_rfl) rfl #[.string (rdOf ByteArray.empty l0_2 x4_1)] rfl (by (try simp only [List.map_toArray, List.map_cons, List.map_nil]); first | done | rfl | (simp only [List.length_drop, List.length_take]; rfl)) ?_; (with_reducible refine (platformfwlaw02_seg.calls (rdOf ByteArray.empty l0_2 x4_1) t238 _ A19.out).mono ?_); rintro e w35 ⟨rfl, hb⟩; refine ⟨_, rfl, ?_⟩; have n0_ := Aside0.mk (Kd.R_below (by (with_reducible repeat (first | apply Kd.R_alloc | apply Kd.R_drewN | apply Kd.R_drew)); exact HO_237002.out) hb); have n1_ := Aside0.mk (blk_below (g := gb234) (o := .cells #[.bool a0_0, .int .i64 a0_1, .slice (some ad237) l0_2.length c0_2] 24 (0, 0)) (by (with_reducible repeat (first | refine kN_ ?_ _ | refine kD_ ?_ | refine kA_ ?_ _)); exact BK234.out) hb); have n2_ := Aside0.mk (blk_below (g := gb235) (o := .cells #[.bool false, .int .i64 0, .slice none 0 0] 24 (0, 0)) (by (with_reducible repeat (first | refine kN_ ?_ _ | refine kD_ ?_ | refine kA_ ?_ _)); exact BK235.out) hb); have n3_ := Aside0.mk (blk_below (g := gb236) (o := .cells #[.bool true, .int .i64 0, u237002] 24 (0, 0)) (by (with_reducible repeat (first | refine kN_ ?_ _ | refine kD_ ?_ | refine kA_ ?_ _)); exact BK236.out) hb); have n4_ := Aside0.mk (below_step (by repeat (first | (with_reducible first | exact HB.out | apply bA_ | apply bN_ | apply bD_ | refine bS_ ?_ GE234.out | refine bS_ ?_ GE235.out | refine bS_ ?_ GE236.out) | exact HB.out)) hb); clear HO_237002; clear BK234; clear BK235; clear BK236; clear HB; have HO_237002 := n0_; have BK234 := n1_; have BK235 := n2_; have BK236 := n3_; have HB := n4_; clear n0_ n1_ n2_ n3_ n4_; (try clear hb); (try clear hb2); (try clear hk); (try clear hi)) | ((with_reducible refine gate_callee (f := 27) rfl ?_); refine goesL_ (some 25) rfl rfl Tryd.func27 (by kernel_rfl) rfl #[.string t238] rfl (by (try simp only [List.map_toArray, List.map_cons, List.map_nil]); first | done | rfl | (simp only [List.length_drop, List.length_take]; rfl)) ?_; (with_reducible refine (platformfwref01_Segment.calls kj7 t238 false _ A20.out).mono ?_); rintro e w' ⟨rfl, ⟨nd, rfl⟩⟩; refine ⟨_, rfl, ?_⟩))
         go_roundg kj7
         case measure => have := HK1.out; have := HJ7.out; omega
         case rel => exact ⟨(wrap64 (x4_1 + 1)), (x237002_1), (u237002), (by first | rfl | (simp; done) | (simp [*]; done)), H', ⟨by have := HK1.out; have := HJ7.out; omega⟩, ⟨by (with_reducible repeat (first | apply Kd.R_alloc | apply Kd.R_drewN | apply Kd.R_drew)); exact HO_237002.out⟩, ⟨by (with_reducible repeat (first | refine kN_ ?_ _ | refine kD_ ?_ | refine kA_ ?_ _)); exact BK234.out⟩, ⟨by (with_reducible repeat (first | refine kN_ ?_ _ | refine kD_ ?_ | refine kA_ ?_ _)); exact BK235.out⟩, ⟨by (with_reducible repeat (first | refine kN_ ?_ _ | refine kD_ ?_ | refine kA_ ?_ _)); exact BK236.out⟩, ⟨by repeat (first | (with_reducible first | exact HB.out | apply bA_ | apply bN_ | apply bD_ | refine bS_ ?_ GE234.out | refine bS_ ?_ GE235.out | refine bS_ ?_ GE236.out) | exact HB.out)⟩⟩
       ·rw [if_neg c18] at H
        exact absurd H (by simp)
      ·rw [if_neg c17] at H
       exact absurd H (by simp)
     ·replace c16 := Bool.eq_false_iff.mpr c16
      subst c16
      have H1 : (some (true, 0, x237002_1)) = some (r1, r2, r3) := by rw [if_neg (show ¬ (false = true) by decide)] at H; exact H
      clear H
      have H := H1
      clear H1
      simp only [Option.some.injEq, Prod.mk.injEq] at H
      obtain ⟨rfl, rfl, rfl⟩ := H
      have hnb36 := NB236_234.out
      have hnc36 := NB234_236.out
      have hnb37 := NB236_235.out
      have hnc37 := NB235_236.out
      obtain ⟨hcz38_0, hcz38_1, hcz38_2⟩ := cells3_ BK236.out
      obtain ⟨hfz38_0, hfz38_1, hfz38_2⟩ := froz3_ BK236.out
      have hnb39 := NB235_234.out
      have hnc39 := NB234_235.out
      obtain ⟨hcz40_0, hcz40_1, hcz40_2⟩ := cells3_ BK235.out
      obtain ⟨hfz40_0, hfz40_1, hfz40_2⟩ := froz3_ BK235.out
      obtain ⟨Ao41, co41, eo41⟩ := Kd.R_slice HO_237002.out
      subst eo41
      go_wp2
      refine bodyPost_ret (results_cell_row rfl _ _ gb235 24 #[.bool true, .int .i64 0, .slice Ao41 x237002_1.length co41] (0, 0) _ rfl (by (with_reducible repeat (first | refine kN_ ?_ _ | refine kD_ ?_ | refine kA_ ?_ _)); refine blk_put (cs := #[.bool true, .int .i64 0, .slice none 0 0]) ?_ 2 _ rfl; (with_reducible repeat (first | refine kN_ ?_ _ | refine kD_ ?_ | refine kA_ ?_ _)); refine blk_put (cs := #[.bool true, .int .i64 0, .slice none 0 0]) ?_ 1 _ rfl; (with_reducible repeat (first | refine kN_ ?_ _ | refine kD_ ?_ | refine kA_ ?_ _)); refine blk_put (cs := #[.bool false, .int .i64 0, .slice none 0 0]) ?_ 0 _ rfl; (with_reducible repeat (first | refine kN_ ?_ _ | refine kD_ ?_ | refine kA_ ?_ _)); exact BK235.out) Tryd.underlying24 rfl (by kernel_rfl)) rfl ?_
      exact ⟨_, by first | rfl | (simp [errW_none, errW_some] <;> rfl) | (simp [*, errW_none, errW_some] <;> rfl), by (with_reducible repeat (first | apply Kd.R_alloc | apply Kd.R_drewN | apply Kd.R_drew)); exact Kd.R_mono (Kd.R_far (p := ⟨gb235, 2, none⟩) (Kd.R_far (p := ⟨gb235, 1, none⟩) (Kd.R_far (p := ⟨gb235, 0, none⟩) (Kd.R_types HO_237002.out BK235.out (by decide)) (fun _ hk => hk.2) (.bool true)) (fun _ hk => hk.2) (.int .i64 0)) (fun _ hk => hk.2) (.slice Ao41 x237002_1.length co41)) (fun _ hk => trivial), by repeat (first | (with_reducible first | exact HB.out | apply bA_ | apply bN_ | apply bD_ | refine bS_ ?_ GE234.out | refine bS_ ?_ GE235.out | refine bS_ ?_ GE236.out) | exact HB.out)⟩

/-! ### platformfwlaw02_NspathSearchOrder: function 8 -/
mutual
def platformfwlaw02_NspathSearchOrder.j0 : Nat → ByteArray → Bool → Int → List ByteArray → Option (Bool)
 | 0, _, _, _, _ => none
 | k + 1, x6, x250000, x250001, x250002 => (nspath_Candidates.f k x250000 x250001 x250002 false 0 (([x6] : List ByteArray))).bind fun t255 => ((platformfwlaw02_awake.f k).bind fun t258 => (if t258 = true then (platformfwlaw02_NspathSearchOrder.j1 k x6 t255 ((t255.length : Int) != (wrap64 ((x250002.length : Int) + 1))) x250000 x250001 x250002) else (platformfwlaw02_NspathSearchOrder.j1 k x6 t255 true x250000 x250001 x250002)))
def platformfwlaw02_NspathSearchOrder.j1 : Nat → ByteArray → List (S24) → Bool → Bool → Int → List ByteArray → Option (Bool)
 | 0, _, _, _, _, _, _ => none
 | k + 1, x6, x7, x32, x250000, x250001, x250002 => if x32 = true then (some false) else (platformfwlaw02_NspathSearchOrder.l0 k x6 x7 0 x250000 x250001 x250002)
def platformfwlaw02_NspathSearchOrder.l0 : Nat → ByteArray → List (S24) → Int → Bool → Int → List ByteArray → Option (Bool)
 | 0, _, _, _, _, _, _ => none
 | k + 1, x6, x7, x8, x250000, x250001, x250002 => if x8 < (x7.length : Int) then (if 0 ≤ (wrap64 ((x250002.length : Int) - x8)) then (if (wrap64 ((x250002.length : Int) - x8)) ≤ (x250002.length : Int) then ((some (x250002.take ((wrap64 ((x250002.length : Int) - x8)) : Int).toNat : List ByteArray)).bind fun y259 => (if ([] : List ByteArray).length + y259.length < 8796093022208 then ((some (([] : List ByteArray) ++ y259 : List ByteArray)).bind fun y263 => (if y263.length < 8796093022208 then (if 0 ≤ x8 then ((platformfwlaw02_same.f k ((rd_T24 x7 x8).f0) ((rd_T24 x7 x8).f1) ((rd_T24 x7 x8).f2) true 0 (y263 ++ [x6])).bind fun t270 => (if t270 = true then (platformfwlaw02_NspathSearchOrder.l0 k x6 x7 (wrap64 (x8 + 1)) x250000 x250001 x250002) else (some false))) else (none)) else (none))) else (none))) else (none)) else (none)) else (some true)
end
def platformfwlaw02_NspathSearchOrder.f (k : Nat) (a0_0 : Bool) (a0_1 : Int) (l0_2 : List ByteArray) (a1 : ByteArray) : Option (Bool) := (platformfwlaw02_absolute.f k a0_0 a0_1 l0_2).bind fun bt244 => ((platformfwlaw02_seg.f a1).bind fun t250 => ((platformfwref01_Segment.f k t250).bind fun t251 => (if t251 = true then (platformfwlaw02_NspathSearchOrder.j0 k t250 bt244.1 bt244.2.1 bt244.2.2) else (platformfwlaw02_NspathSearchOrder.j0 k (⟨#[65]⟩ : ByteArray) bt244.1 bt244.2.1 bt244.2.2))))
theorem platformfwlaw02_NspathSearchOrder.mono_l : ∀ k, (∀ y0 y1 y2 y3, LeO (platformfwlaw02_NspathSearchOrder.j0 k y0 y1 y2 y3) (platformfwlaw02_NspathSearchOrder.j0 (k + 1) y0 y1 y2 y3)) ∧ (∀ y0 y1 y2 y3 y4 y5, LeO (platformfwlaw02_NspathSearchOrder.j1 k y0 y1 y2 y3 y4 y5) (platformfwlaw02_NspathSearchOrder.j1 (k + 1) y0 y1 y2 y3 y4 y5)) ∧ (∀ y0 y1 y2 y3 y4 y5, LeO (platformfwlaw02_NspathSearchOrder.l0 k y0 y1 y2 y3 y4 y5) (platformfwlaw02_NspathSearchOrder.l0 (k + 1) y0 y1 y2 y3 y4 y5))
 | 0 => ⟨fun _ _ _ _ r h => by simp [platformfwlaw02_NspathSearchOrder.j0] at h, fun _ _ _ _ _ _ r h => by simp [platformfwlaw02_NspathSearchOrder.j1] at h, fun _ _ _ _ _ _ r h => by simp [platformfwlaw02_NspathSearchOrder.l0] at h⟩
 | k + 1 => by
  obtain ⟨ih0, ih1, ih2⟩ := platformfwlaw02_NspathSearchOrder.mono_l k
  refine ⟨?_, ?_, ?_⟩
  ·intro y0 y1 y2 y3
   unfold platformfwlaw02_NspathSearchOrder.j0
   repeat' first
   | (with_reducible exact ih0 _ _ _ _)
   | (with_reducible exact ih1 _ _ _ _ _ _)
   | (with_reducible exact ih2 _ _ _ _ _ _)
   | (with_reducible exact nspath_Candidates.mono _ _ _ _ _ _ _)
   | (with_reducible exact platformfwlaw02_absolute.mono _ _ _ _)
   | (with_reducible exact platformfwlaw02_awake.mono _)
   | (with_reducible exact platformfwlaw02_same.mono _ _ _ _ _ _ _)
   | (with_reducible exact platformfwref01_Segment.mono _ _)
   | (with_reducible exact LeO.refl _)
   | (with_reducible exact LeO.none _)
   | (with_reducible refine LeO.ite ?_ ?_)
   | (with_reducible refine LeO.bind ?_ (fun _ => ?_))
   | exact ih0 _ _ _ _
   | exact ih1 _ _ _ _ _ _
   | exact ih2 _ _ _ _ _ _
   | exact nspath_Candidates.mono _ _ _ _ _ _ _
   | exact platformfwlaw02_absolute.mono _ _ _ _
   | exact platformfwlaw02_awake.mono _
   | exact platformfwlaw02_same.mono _ _ _ _ _ _ _
   | exact platformfwref01_Segment.mono _ _
   | exact LeO.none _
   | refine LeO.ite ?_ ?_
   | refine LeO.bind ?_ (fun _ => ?_)
  ·intro y0 y1 y2 y3 y4 y5
   unfold platformfwlaw02_NspathSearchOrder.j1
   repeat' first
   | (with_reducible exact ih0 _ _ _ _)
   | (with_reducible exact ih1 _ _ _ _ _ _)
   | (with_reducible exact ih2 _ _ _ _ _ _)
   | (with_reducible exact nspath_Candidates.mono _ _ _ _ _ _ _)
   | (with_reducible exact platformfwlaw02_absolute.mono _ _ _ _)
   | (with_reducible exact platformfwlaw02_awake.mono _)
   | (with_reducible exact platformfwlaw02_same.mono _ _ _ _ _ _ _)
   | (with_reducible exact platformfwref01_Segment.mono _ _)
   | (with_reducible exact LeO.refl _)
   | (with_reducible exact LeO.none _)
   | (with_reducible refine LeO.ite ?_ ?_)
   | (with_reducible refine LeO.bind ?_ (fun _ => ?_))
   | exact ih0 _ _ _ _
   | exact ih1 _ _ _ _ _ _
   | exact ih2 _ _ _ _ _ _
   | exact nspath_Candidates.mono _ _ _ _ _ _ _
   | exact platformfwlaw02_absolute.mono _ _ _ _
   | exact platformfwlaw02_awake.mono _
   | exact platformfwlaw02_same.mono _ _ _ _ _ _ _
   | exact platformfwref01_Segment.mono _ _
   | exact LeO.none _
   | refine LeO.ite ?_ ?_
   | refine LeO.bind ?_ (fun _ => ?_)
  ·intro y0 y1 y2 y3 y4 y5
   unfold platformfwlaw02_NspathSearchOrder.l0
   repeat' first
   | (with_reducible exact ih0 _ _ _ _)
   | (with_reducible exact ih1 _ _ _ _ _ _)
   | (with_reducible exact ih2 _ _ _ _ _ _)
   | (with_reducible exact nspath_Candidates.mono _ _ _ _ _ _ _)
   | (with_reducible exact platformfwlaw02_absolute.mono _ _ _ _)
   | (with_reducible exact platformfwlaw02_awake.mono _)
   | (with_reducible exact platformfwlaw02_same.mono _ _ _ _ _ _ _)
   | (with_reducible exact platformfwref01_Segment.mono _ _)
   | (with_reducible exact LeO.refl _)
   | (with_reducible exact LeO.none _)
   | (with_reducible refine LeO.ite ?_ ?_)
   | (with_reducible refine LeO.bind ?_ (fun _ => ?_))
   | exact ih0 _ _ _ _
   | exact ih1 _ _ _ _ _ _
   | exact ih2 _ _ _ _ _ _
   | exact nspath_Candidates.mono _ _ _ _ _ _ _
   | exact platformfwlaw02_absolute.mono _ _ _ _
   | exact platformfwlaw02_awake.mono _
   | exact platformfwlaw02_same.mono _ _ _ _ _ _ _
   | exact platformfwref01_Segment.mono _ _
   | exact LeO.none _
   | refine LeO.ite ?_ ?_
   | refine LeO.bind ?_ (fun _ => ?_)
theorem platformfwlaw02_NspathSearchOrder.mono : ∀ a0 a1 a2 a3 k, LeO (platformfwlaw02_NspathSearchOrder.f k a0 a1 a2 a3) (platformfwlaw02_NspathSearchOrder.f (k + 1) a0 a1 a2 a3) := by
 intro a0 a1 a2 a3 k
 obtain ⟨ih0, ih1, ih2⟩ := platformfwlaw02_NspathSearchOrder.mono_l k
 unfold platformfwlaw02_NspathSearchOrder.f
 repeat' first
   | (with_reducible exact ih0 _ _ _ _)
   | (with_reducible exact ih1 _ _ _ _ _ _)
   | (with_reducible exact ih2 _ _ _ _ _ _)
   | (with_reducible exact nspath_Candidates.mono _ _ _ _ _ _ _)
   | (with_reducible exact platformfwlaw02_absolute.mono _ _ _ _)
   | (with_reducible exact platformfwlaw02_awake.mono _)
   | (with_reducible exact platformfwlaw02_same.mono _ _ _ _ _ _ _)
   | (with_reducible exact platformfwref01_Segment.mono _ _)
   | (with_reducible exact LeO.refl _)
   | (with_reducible exact LeO.none _)
   | (with_reducible refine LeO.ite ?_ ?_)
   | (with_reducible refine LeO.bind ?_ (fun _ => ?_))
   | exact ih0 _ _ _ _
   | exact ih1 _ _ _ _ _ _
   | exact ih2 _ _ _ _ _ _
   | exact nspath_Candidates.mono _ _ _ _ _ _ _
   | exact platformfwlaw02_absolute.mono _ _ _ _
   | exact platformfwlaw02_awake.mono _
   | exact platformfwlaw02_same.mono _ _ _ _ _ _ _
   | exact platformfwref01_Segment.mono _ _
   | exact LeO.none _
   | refine LeO.ite ?_ ?_
   | refine LeO.bind ?_ (fun _ => ?_)
set_option maxHeartbeats 8000000 in
set_option maxRecDepth 100000 in
theorem platformfwlaw02_NspathSearchOrder.calls (k : Nat) (a0_0 : Bool) (a0_1 : Int) (A0_2 : Option Addr) (c0_2 : Nat) (l0_2 : List ByteArray) (a1 : ByteArray) (r : Bool) (w : World) (hr0_2 : Kd.C Kd.string w A0_2 l0_2.length l0_2) (hc0_2 : l0_2.length ≤ c0_2) (hr_ : Aside0 (r = true)) (h : platformfwlaw02_NspathSearchOrder.f k a0_0 a0_1 l0_2 a1 = some r) :
  Calls Tryd.prog 8 #[.agg #[.bool a0_0, .int .i64 a0_1, .slice A0_2 l0_2.length c0_2], .string a1] w fun e w' => e = .returned (.bool r) ∧ Below w.heap.size w w' := by
 have hu24 := Tryd.underlying24
 have HR0_2 := Aside0.mk hr0_2
 have HC0_2 := Aside0.mk hc0_2
 clear hr0_2 hc0_2
 have HB := Aside0.mk (Below.refl w.heap.size w)
 have H : ((platformfwlaw02_absolute.f k a0_0 a0_1 l0_2).bind fun bt244 => ((platformfwlaw02_seg.f a1).bind fun t250 => ((platformfwref01_Segment.f k t250).bind fun t251 => (if t251 = true then (platformfwlaw02_NspathSearchOrder.j0 k t250 bt244.1 bt244.2.1 bt244.2.2) else (platformfwlaw02_NspathSearchOrder.j0 k (⟨#[65]⟩ : ByteArray) bt244.1 bt244.2.1 bt244.2.2))))) = some r := h
 clear h
 replace H := Option.bind_eq_some_iff.mp H
 obtain ⟨⟨t244, t245, t246⟩, A30, H⟩ := H
 replace H : ((platformfwlaw02_seg.f a1).bind fun t250 => ((platformfwref01_Segment.f k t250).bind fun t251 => (if t251 = true then (platformfwlaw02_NspathSearchOrder.j0 k t250 t244 t245 t246) else (platformfwlaw02_NspathSearchOrder.j0 k (⟨#[65]⟩ : ByteArray) t244 t245 t246)))) = some r := H
 have A3 := Aside0.mk A30
 clear A30
 replace H := Option.bind_eq_some_iff.mp H
 obtain ⟨t250, A40, H⟩ := H
 replace H : ((platformfwref01_Segment.f k t250).bind fun t251 => (if t251 = true then (platformfwlaw02_NspathSearchOrder.j0 k t250 t244 t245 t246) else (platformfwlaw02_NspathSearchOrder.j0 k (⟨#[65]⟩ : ByteArray) t244 t245 t246))) = some r := H
 have A4 := Aside0.mk A40
 clear A40
 replace H := Option.bind_eq_some_iff.mp H
 obtain ⟨t251, A50, H⟩ := H
 replace H : (if t251 = true then (platformfwlaw02_NspathSearchOrder.j0 k t250 t244 t245 t246) else (platformfwlaw02_NspathSearchOrder.j0 k (⟨#[65]⟩ : ByteArray) t244 t245 t246)) = some r := H
 have A5 := Aside0.mk A50
 clear A50
 have HC6 := Aside0.mk H
 clear H
 go_enter Tryd.func8, Tryd.ntmps8
 go_upto_if 16 with (first | ((with_reducible refine gate_dst (N := 2) rfl ?_); (try (refine gate_guard (by rfl) ?_; dsimp only)); refine box_event ?hg (N := 2) ?hd (cs := #[.bool a0_0, .int .i64 a0_1, .slice A0_2 l0_2.length c0_2]) (t := 24) ?hr ?_; (case hd => rfl); (case hg => rfl); (case hr => first | (go_simp; done) | (go_simp; rfl)); intro gb243 hg w7 hbox hb; have n0_ := Aside0.mk (below_step (by repeat (first | (with_reducible first | exact HB.out | apply bA_ | apply bN_ | apply bD_) | exact HB.out)) hb); have n1_ := Aside0.mk (hbox); have n2_ := Aside0.mk ((by rw [hg]; exact (below_size (by repeat (first | (with_reducible first | exact HB.out | apply bA_ | apply bN_ | apply bD_) | exact HB.out))) : w.heap.size ≤ gb243)); have n3_ := Aside0.mk ((by rw [hg]; exact (below_size (by repeat (first | (with_reducible first | exact HB.out | apply bA_ | apply bN_ | apply bD_) | exact HB.out))) : w.heap.size ≤ gb243)); clear HB; have HB := n0_; have BK243 := n1_; have GW243 := n2_; have GE243 := n3_; clear n0_ n1_ n2_ n3_; clear hb hbox hg; obtain ⟨hcz8_0, hcz8_1, hcz8_2⟩ := cells3_ BK243.out; obtain ⟨hfz8_0, hfz8_1, hfz8_2⟩ := froz3_ BK243.out) | ((with_reducible refine gate_callee (f := 19) rfl ?_); refine goesL_ (some 11) rfl rfl Tryd.func19 (by kernel_rfl) rfl #[.agg #[.bool a0_0, .int .i64 a0_1, .slice A0_2 l0_2.length c0_2]] rfl (by (try simp only [List.map_toArray, List.map_cons, List.map_nil]); first | done | rfl | (simp only [List.length_drop, List.length_take]; rfl)) ?_; (with_reducible refine (platformfwlaw02_absolute.calls k a0_0 a0_1 _ _ l0_2 t244 t245 t246 _ ?side1 ?side2 A3.out).mono ?_); (case side1 => repeat (first | exact (Kd.C_below HR0_2.out HB.out) | (with_reducible refine Kd.C_alloc ?_ _) | (with_reducible refine Kd.C_drewN ?_ _) | (with_reducible refine Kd.C_drew ?_))); (case side2 => exact HC0_2.out); rintro e w9 ⟨v247, rfl, ho0, hb⟩; refine ⟨_, rfl, ?_⟩; have n0_ := Aside0.mk (Kd.R_lower ho0 (below_size (by repeat (first | (with_reducible first | exact HB.out | apply bA_ | apply bN_ | apply bD_ | refine bS_ ?_ GE243.out) | exact HB.out)))); have n1_ := Aside0.mk (blk_below (g := gb243) (o := .cells #[.bool a0_0, .int .i64 a0_1, .slice A0_2 l0_2.length c0_2] 24 (0, 0)) (by (with_reducible repeat (first | refine kN_ ?_ _ | refine kD_ ?_ | refine kA_ ?_ _)); exact BK243.out) hb); have n2_ := Aside0.mk (below_step (by repeat (first | (with_reducible first | exact HB.out | apply bA_ | apply bN_ | apply bD_ | refine bS_ ?_ GE243.out) | exact HB.out)) hb); clear BK243; clear HB; have HO248 := n0_; have BK243 := n1_; have HB := n2_; clear n0_ n1_ n2_; (try clear hb); (try clear hb2); (try clear hk); (try clear hi); (try clear ho0)) | ((with_reducible refine gate_dst (N := 5) rfl ?_); (try (refine gate_guard (by rfl) ?_; dsimp only)); refine box_event ?hg (N := 5) ?hd (cs := #[.bool false, .int .i64 0, .slice none 0 0]) (t := 24) ?hr ?_; (case hd => rfl); (case hg => rfl); (case hr => first | (go_simp; done) | (go_simp; rfl)); intro gb249 hg w10 hbox hb; have n0_ := Aside0.mk (Kd.R_below (by (with_reducible repeat (first | apply Kd.R_alloc | apply Kd.R_drewN | apply Kd.R_drew)); exact HO248.out) hb); have n1_ := Aside0.mk (blk_below (g := gb243) (o := .cells #[.bool a0_0, .int .i64 a0_1, .slice A0_2 l0_2.length c0_2] 24 (0, 0)) (by (with_reducible repeat (first | refine kN_ ?_ _ | refine kD_ ?_ | refine kA_ ?_ _)); exact BK243.out) hb); have n2_ := Aside0.mk (below_step (by repeat (first | (with_reducible first | exact HB.out | apply bA_ | apply bN_ | apply bD_ | refine bS_ ?_ GE243.out) | exact HB.out)) hb); have n3_ := Aside0.mk (hbox); have n4_ := Aside0.mk ((by rw [hg]; exact (below_size (by repeat (first | (with_reducible first | exact HB.out | apply bA_ | apply bN_ | apply bD_ | refine bS_ ?_ GE243.out) | exact HB.out))) : w.heap.size ≤ gb249)); have n5_ := Aside0.mk ((by rw [hg]; exact (below_size (by repeat (first | (with_reducible first | exact HB.out | apply bA_ | apply bN_ | apply bD_ | refine bS_ ?_ GE243.out) | exact HB.out))) : w.heap.size ≤ gb249)); have n6_ := Aside0.mk ((by rw [hg]; exact Nat.ne_of_lt (blk_lt (g := gb243) (o := .cells #[.bool a0_0, .int .i64 a0_1, .slice A0_2 l0_2.length c0_2] 24 (0, 0)) (by (with_reducible repeat (first | refine kN_ ?_ _ | refine kD_ ?_ | refine kA_ ?_ _)); exact BK243.out)) : gb243 ≠ gb249)); have n7_ := Aside0.mk ((by rw [hg]; exact Nat.ne_of_gt (blk_lt (g := gb243) (o := .cells #[.bool a0_0, .int .i64 a0_1, .slice A0_2 l0_2.length c0_2] 24 (0, 0)) (by (with_reducible repeat (first | refine kN_ ?_ _ | refine kD_ ?_ | refine kA_ ?_ _)); exact BK243.out)) : gb249 ≠ gb243)); clear HO248; clear BK243; clear HB; have HO248 := n0_; have BK243 := n1_; have HB := n2_; have BK249 := n3_; have GW249 := n4_; have GE249 := n5_; have NB243_249 := n6_; have NB249_243 := n7_; clear n0_ n1_ n2_ n3_ n4_ n5_ n6_ n7_; clear hb hbox hg; have hnb11 := NB249_243.out; have hnc11 := NB243_249.out; obtain ⟨hcz12_0, hcz12_1, hcz12_2⟩ := cells3_ BK249.out; obtain ⟨hfz12_0, hfz12_1, hfz12_2⟩ := froz3_ BK249.out; obtain ⟨Ao13, co13, eo13⟩ := Kd.R_slice HO248.out; subst eo13) | ((with_reducible refine gate_callee (f := 26) rfl ?_); refine goesL_ (some 13) rfl rfl Tryd.func26 (by kernel_rfl) rfl #[.string a1] rfl (by (try simp only [List.map_toArray, List.map_cons, List.map_nil]); first | done | rfl | (simp only [List.length_drop, List.length_take]; rfl)) ?_; (with_reducible refine (platformfwlaw02_seg.calls a1 t250 _ A4.out).mono ?_); rintro e w14 ⟨rfl, hb⟩; refine ⟨_, rfl, ?_⟩; have n0_ := Aside0.mk (Kd.R_below (by (with_reducible repeat (first | apply Kd.R_alloc | apply Kd.R_drewN | apply Kd.R_drew)); exact (Kd.R_mono (Kd.R_far (p := ⟨gb249, 2, none⟩) (Kd.R_far (p := ⟨gb249, 1, none⟩) (Kd.R_far (p := ⟨gb249, 0, none⟩) (Kd.R_types HO248.out BK249.out (by decide)) (fun _ hk => hk.2) (.bool t244)) (fun _ hk => hk.2) (.int .i64 t245)) (fun _ hk => hk.2) (.slice Ao13 t246.length co13)) (fun _ h_ => h_.1))) hb); have n1_ := Aside0.mk (blk_below (g := gb243) (o := .cells #[.bool a0_0, .int .i64 a0_1, .slice A0_2 l0_2.length c0_2] 24 (0, 0)) (by (with_reducible repeat (first | refine kN_ ?_ _ | refine kD_ ?_ | refine kA_ ?_ _)); refine blk_far ?_ NB243_249.out _; (with_reducible repeat (first | refine kN_ ?_ _ | refine kD_ ?_ | refine kA_ ?_ _)); refine blk_far ?_ NB243_249.out _; (with_reducible repeat (first | refine kN_ ?_ _ | refine kD_ ?_ | refine kA_ ?_ _)); refine blk_far ?_ NB243_249.out _; (with_reducible repeat (first | refine kN_ ?_ _ | refine kD_ ?_ | refine kA_ ?_ _)); exact BK243.out) hb); have n2_ := Aside0.mk (blk_below (g := gb249) (o := .cells #[.bool t244, .int .i64 t245, .slice Ao13 t246.length co13] 24 (0, 0)) (by (with_reducible repeat (first | refine kN_ ?_ _ | refine kD_ ?_ | refine kA_ ?_ _)); refine blk_put (cs := #[.bool t244, .int .i64 t245, .slice none 0 0]) ?_ 2 _ rfl; (with_reducible repeat (first | refine kN_ ?_ _ | refine kD_ ?_ | refine kA_ ?_ _)); refine blk_put (cs := #[.bool t244, .int .i64 0, .slice none 0 0]) ?_ 1 _ rfl; (with_reducible repeat (first | refine kN_ ?_ _ | refine kD_ ?_ | refine kA_ ?_ _)); refine blk_put (cs := #[.bool false, .int .i64 0, .slice none 0 0]) ?_ 0 _ rfl; (with_reducible repeat (first | refine kN_ ?_ _ | refine kD_ ?_ | refine kA_ ?_ _)); exact BK249.out) hb); have n3_ := Aside0.mk (below_step (by repeat (first | (with_reducible first | exact HB.out | apply bA_ | apply bN_ | apply bD_ | refine bS_ ?_ GE243.out | refine bS_ ?_ GE249.out) | exact HB.out)) hb); clear HO248; clear BK243; clear BK249; clear HB; have HO248 := n0_; have BK243 := n1_; have BK249 := n2_; have HB := n3_; clear n0_ n1_ n2_ n3_; (try clear hb); (try clear hb2); (try clear hk); (try clear hi)) | ((with_reducible refine gate_callee (f := 27) rfl ?_); refine goesL_ (some 15) rfl rfl Tryd.func27 (by kernel_rfl) rfl #[.string t250] rfl (by (try simp only [List.map_toArray, List.map_cons, List.map_nil]); first | done | rfl | (simp only [List.length_drop, List.length_take]; rfl)) ?_; (with_reducible refine (platformfwref01_Segment.calls k t250 t251 _ A5.out).mono ?_); rintro e w' ⟨rfl, ⟨nd, rfl⟩⟩; refine ⟨_, rfl, ?_⟩))
 (try simp only [Act.put, sA_, sB_, sC_])
 go_cut [6] (fun v6 wc => ∃ (kq : Nat) (x6_5 : ByteArray), v6 = .string x6_5 ∧ Aside0 (platformfwlaw02_NspathSearchOrder.j0 kq x6_5 t244 t245 t246 = some r) ∧ Aside0 (kq ≤ k) ∧ Aside0 (Kd.R Kd.string 9 wc w.heap.size (fun _ => True) (.slice Ao13 t246.length co13) t246) ∧ Aside0 (wc.heap[gb243]? = some (.cells #[.bool a0_0, .int .i64 a0_1, (.slice A0_2 l0_2.length c0_2)] 24 (0, 0))) ∧ Aside0 (wc.heap[gb249]? = some (.cells #[.bool t244, .int .i64 t245, (.slice Ao13 t246.length co13)] 24 (0, 0))) ∧ Aside0 (Below w.heap.size w wc))
 case first =>
  have H := HC6.out
  clear HC6
  by_cases c15 : t251 = true
  ·subst c15
   have H1 : (platformfwlaw02_NspathSearchOrder.j0 k t250 t244 t245 t246) = some r := by rw [if_pos rfl] at H; exact H
   clear H
   have H := H1
   clear H1
   have H' := Aside0.mk H
   clear H
   go_wp2
   go_meet
   case rel => exact ⟨_, (t250), (by first | rfl | (simp; done) | (simp [*]; done)), H', ⟨by first | omega | exact Nat.le_refl _⟩, ⟨by (with_reducible repeat (first | apply Kd.R_alloc | apply Kd.R_drewN | apply Kd.R_drew)); exact HO248.out⟩, ⟨by (with_reducible repeat (first | refine kN_ ?_ _ | refine kD_ ?_ | refine kA_ ?_ _)); exact BK243.out⟩, ⟨by (with_reducible repeat (first | refine kN_ ?_ _ | refine kD_ ?_ | refine kA_ ?_ _)); exact BK249.out⟩, ⟨by repeat (first | (with_reducible first | exact HB.out | apply bA_ | apply bN_ | apply bD_ | refine bS_ ?_ GE243.out | refine bS_ ?_ GE249.out) | exact HB.out)⟩⟩
  ·replace c15 := Bool.eq_false_iff.mpr c15
   subst c15
   have H1 : (platformfwlaw02_NspathSearchOrder.j0 k (⟨#[65]⟩ : ByteArray) t244 t245 t246) = some r := by rw [if_neg (show ¬ (false = true) by decide)] at H; exact H
   clear H
   have H := H1
   clear H1
   have H' := Aside0.mk H
   clear H
   go_wp2
   go_meet
   case rel => exact ⟨_, ((⟨#[65]⟩ : ByteArray)), (by first | rfl | (simp; done) | (simp [*]; done)), H', ⟨by first | omega | exact Nat.le_refl _⟩, ⟨by (with_reducible repeat (first | apply Kd.R_alloc | apply Kd.R_drewN | apply Kd.R_drew)); exact HO248.out⟩, ⟨by (with_reducible repeat (first | refine kN_ ?_ _ | refine kD_ ?_ | refine kA_ ?_ _)); exact BK243.out⟩, ⟨by (with_reducible repeat (first | refine kN_ ?_ _ | refine kD_ ?_ | refine kA_ ?_ _)); exact BK249.out⟩, ⟨by repeat (first | (with_reducible first | exact HB.out | apply bA_ | apply bN_ | apply bD_ | refine bS_ ?_ GE243.out | refine bS_ ?_ GE249.out) | exact HB.out)⟩⟩
 case rest =>
  clear HC6
  try clear c1
  try clear c2
  try clear p2
  try clear c8
  try clear c11
  try clear c15
  try clear hcz12_0 hcz12_1 hcz12_2
  try clear hcz8_0 hcz8_1 hcz8_2
  try clear hfz12_0 hfz12_1 hfz12_2
  try clear hfz8_0 hfz8_1 hfz8_2
  obtain ⟨kq, x6_5, rfl, HA, HJ5, HO_250002, BK243, BK249, HB⟩ := hcut
  cases kq with
  | zero => exact absurd HA.out (by simp [platformfwlaw02_NspathSearchOrder.j0])
  | succ kj5 =>
   have H := HA.out
   clear HA
   simp only [platformfwlaw02_NspathSearchOrder.j0] at H
   obtain ⟨y252, hy252⟩ : ∃ y_ : List ByteArray, y_ = (([x6_5] : List ByteArray)) := ⟨_, rfl⟩
   replace H : ((nspath_Candidates.f kj5 t244 t245 t246 false 0 y252).bind fun t255 => ((platformfwlaw02_awake.f kj5).bind fun t258 => (if t258 = true then (platformfwlaw02_NspathSearchOrder.j1 kj5 x6_5 t255 ((t255.length : Int) != (wrap64 ((t246.length : Int) + 1))) t244 t245 t246) else (platformfwlaw02_NspathSearchOrder.j1 kj5 x6_5 t255 true t244 t245 t246)))) = some r := by first | (rw [hy252]; with_reducible exact H) | (have H2_ := (Option.bind_some _ _).symm.trans H; rw [hy252]; with_reducible exact H2_) | (have H2_ := (Option.bind_some _ _).symm.trans H; with_reducible exact H2_) | with_reducible exact H | (rw [hy252]; exact H) | exact H
   have Ny252 := Aside0.mk hy252
   clear hy252
   replace H := Option.bind_eq_some_iff.mp H
   obtain ⟨t255, A160, H⟩ := H
   replace H : ((platformfwlaw02_awake.f kj5).bind fun t258 => (if t258 = true then (platformfwlaw02_NspathSearchOrder.j1 kj5 x6_5 t255 ((t255.length : Int) != (wrap64 ((t246.length : Int) + 1))) t244 t245 t246) else (platformfwlaw02_NspathSearchOrder.j1 kj5 x6_5 t255 true t244 t245 t246))) = some r := H
   have A16 := Aside0.mk A160
   clear A160
   have HC17 := Aside0.mk H
   clear H
   have hnb18 := NB249_243.out
   have hnc18 := NB243_249.out
   obtain ⟨hcz19_0, hcz19_1, hcz19_2⟩ := cells3_ BK249.out
   obtain ⟨hfz19_0, hfz19_1, hfz19_2⟩ := froz3_ BK249.out
   go_upto_region 6 with (first | ((with_reducible refine gate_dst (N := 19) rfl ?_); (try (refine gate_guard (by rfl) ?_; dsimp only)); refine Kd.R_lit Kd.string _ 9 ?hg (N := 19) ?hd (xs := ([x6_5] : List ByteArray)) (inner := [.string x6_5]) (ok := fun _ => True) (okp := fun _ => True) ?hr ?hp (fun _ hk => hk) trivial (Below.refl _ _) (Nat.le_refl _) (by simp) ?_; (case hd => rfl); (case hg => rfl); (case hr => first | (go_simp; done) | (go_simp; rfl)); (case hp => exact (Reps.one (show Kd.M Kd.string _ _ _ x6_5 [.string x6_5] from rfl) (Reps.none _ _))); intro v253 w20 ho21 hb hg_ hnew_; clear hg_ hnew_; (first | rw [← Ny252.out] at ho21 | (simp only [Int.reduceToNat] at ho21; rw [← Ny252.out] at ho21)); have n0_ := Aside0.mk (Kd.R_elder' (by (with_reducible repeat (first | apply Kd.R_alloc | apply Kd.R_drewN | apply Kd.R_drew)); exact HO_250002.out) (Kd.R_base ho21) hb); have n1_ := Aside0.mk (Kd.R_lower (Kd.R_new' ho21 (Kd.R_lt (by (with_reducible repeat (first | apply Kd.R_alloc | apply Kd.R_drewN | apply Kd.R_drew)); exact HO_250002.out))) (below_size (by repeat (first | (with_reducible first | exact HB.out | apply bA_ | apply bN_ | apply bD_ | refine bS_ ?_ GE243.out | refine bS_ ?_ GE249.out) | exact HB.out)))); have n2_ := Aside0.mk (blk_below (g := gb243) (o := .cells #[.bool a0_0, .int .i64 a0_1, .slice A0_2 l0_2.length c0_2] 24 (0, 0)) (by (with_reducible repeat (first | refine kN_ ?_ _ | refine kD_ ?_ | refine kA_ ?_ _)); exact BK243.out) hb); have n3_ := Aside0.mk (blk_below (g := gb249) (o := .cells #[.bool t244, .int .i64 t245, .slice Ao13 t246.length co13] 24 (0, 0)) (by (with_reducible repeat (first | refine kN_ ?_ _ | refine kD_ ?_ | refine kA_ ?_ _)); exact BK249.out) hb); have n4_ := Aside0.mk (below_step (by repeat (first | (with_reducible first | exact HB.out | apply bA_ | apply bN_ | apply bD_ | refine bS_ ?_ GE243.out | refine bS_ ?_ GE249.out) | exact HB.out)) hb); clear HO_250002; clear BK243; clear BK249; clear HB; have HO_250002 := n0_; have HO254 := n1_; have BK243 := n2_; have BK249 := n3_; have HB := n4_; clear n0_ n1_ n2_ n3_ n4_; clear hb ho21; obtain ⟨Ao22, co22, eo22⟩ := Kd.R_slice HO254.out; subst eo22) | ((with_reducible refine gate_callee (f := 23) rfl ?_); refine goesL_ (some 21) rfl rfl Tryd.func23 (by kernel_rfl) rfl #[.agg #[.bool t244, .int .i64 t245, .slice Ao13 t246.length co13], .agg #[.bool false, .int .i64 0, .slice Ao22 y252.length co22]] rfl (by (try simp only [List.map_toArray, List.map_cons, List.map_nil]); first | done | rfl | (simp only [List.length_drop, List.length_take]; rfl)) ?_; (with_reducible refine (nspath_Candidates.calls kj5 t244 t245 (fun k_ => some k_ = (.slice Ao13 t246.length co13 : Value).ownBlock) _ _ t246 false 0 _ _ y252 t255 _ ?side1 ?side2 ?side3 A16.out).mono ?_); (case side1 => exact Kd.R_V (Kd.R_tight rfl (Kd.R_types (Kd.R_types (HO_250002.out) BK243.out (by decide)) BK249.out (by decide)))); (case side2 => repeat (first | exact (Kd.R_reads' HO254.out).2.2 | (with_reducible refine Kd.C_alloc ?_ _) | (with_reducible refine Kd.C_drewN ?_ _) | (with_reducible refine Kd.C_drew ?_))); (case side3 => exact (Kd.R_reads' HO254.out).2.1); rintro e w23 ⟨v256, rfl, ho0, hb⟩; refine ⟨_, rfl, ?_⟩; have n0_ := Aside0.mk (Kd.R_below (by (with_reducible repeat (first | apply Kd.R_alloc | apply Kd.R_drewN | apply Kd.R_drew)); exact HO_250002.out) hb); have n1_ := Aside0.mk (Kd.R_below (by (with_reducible repeat (first | apply Kd.R_alloc | apply Kd.R_drewN | apply Kd.R_drew)); exact HO254.out) hb); have n2_ := Aside0.mk (Kd.S_lower (Kd.S_newB (Kd.S_newB (Kd.S_new' (Kd.S_new' (Kd.S_mono (ok' := fun k_ => True) ho0 (fun _ hk_ => trivial)) (Kd.R_lt (by (with_reducible repeat (first | apply Kd.R_alloc | apply Kd.R_drewN | apply Kd.R_drew)); exact HO_250002.out))) (Kd.R_lt (by (with_reducible repeat (first | apply Kd.R_alloc | apply Kd.R_drewN | apply Kd.R_drew)); exact HO254.out))) (g := gb243) (o := .cells #[.bool a0_0, .int .i64 a0_1, .slice A0_2 l0_2.length c0_2] 24 (0, 0)) (by (with_reducible repeat (first | refine kN_ ?_ _ | refine kD_ ?_ | refine kA_ ?_ _)); exact BK243.out)) (g := gb249) (o := .cells #[.bool t244, .int .i64 t245, .slice Ao13 t246.length co13] 24 (0, 0)) (by (with_reducible repeat (first | refine kN_ ?_ _ | refine kD_ ?_ | refine kA_ ?_ _)); exact BK249.out)) (below_size (by repeat (first | (with_reducible first | exact HB.out | apply bA_ | apply bN_ | apply bD_ | refine bS_ ?_ GE243.out | refine bS_ ?_ GE249.out) | exact HB.out)))); have n3_ := Aside0.mk (blk_below (g := gb243) (o := .cells #[.bool a0_0, .int .i64 a0_1, .slice A0_2 l0_2.length c0_2] 24 (0, 0)) (by (with_reducible repeat (first | refine kN_ ?_ _ | refine kD_ ?_ | refine kA_ ?_ _)); exact BK243.out) hb); have n4_ := Aside0.mk (blk_below (g := gb249) (o := .cells #[.bool t244, .int .i64 t245, .slice Ao13 t246.length co13] 24 (0, 0)) (by (with_reducible repeat (first | refine kN_ ?_ _ | refine kD_ ?_ | refine kA_ ?_ _)); exact BK249.out) hb); have n5_ := Aside0.mk (below_step (by repeat (first | (with_reducible first | exact HB.out | apply bA_ | apply bN_ | apply bD_ | refine bS_ ?_ GE243.out | refine bS_ ?_ GE249.out) | exact HB.out)) hb); clear HO_250002; clear HO254; clear BK243; clear BK249; clear HB; have HO_250002 := n0_; have HO254 := n1_; have HO257 := n2_; have BK243 := n3_; have BK249 := n4_; have HB := n5_; clear n0_ n1_ n2_ n3_ n4_ n5_; (try clear hb); (try clear hb2); (try clear hk); (try clear hi); (try clear ho0)))
   (try simp only [Act.put, sA_, sB_, sC_])
   go_cut [32] (fun v32 wc => ∃ (kq : Nat) (x32_16 : Bool), v32 = .bool x32_16 ∧ Aside0 (platformfwlaw02_NspathSearchOrder.j1 kq x6_5 t255 x32_16 t244 t245 t246 = some r) ∧ Aside0 (kq ≤ kj5) ∧ Aside0 (Kd.S k24 24 wc w.heap.size (fun k_ => some k_ ≠ ((.slice Ao13 t246.length co13) : Value).ownBlock ∧ k_ ≠ gb243 ∧ k_ ≠ gb249) v256 t255) ∧ Aside0 (Kd.R Kd.string 9 wc w.heap.size (fun _ => True) (.slice Ao13 t246.length co13) t246) ∧ Aside0 (wc.heap[gb243]? = some (.cells #[.bool a0_0, .int .i64 a0_1, (.slice A0_2 l0_2.length c0_2)] 24 (0, 0))) ∧ Aside0 (wc.heap[gb249]? = some (.cells #[.bool t244, .int .i64 t245, (.slice Ao13 t246.length co13)] 24 (0, 0))) ∧ Aside0 (Below w.heap.size w wc))
   case first =>
    have H := HC17.out
    clear HC17
    replace H := Option.bind_eq_some_iff.mp H
    obtain ⟨t258, A240, H⟩ := H
    replace H : (if t258 = true then (platformfwlaw02_NspathSearchOrder.j1 kj5 x6_5 t255 ((t255.length : Int) != (wrap64 ((t246.length : Int) + 1))) t244 t245 t246) else (platformfwlaw02_NspathSearchOrder.j1 kj5 x6_5 t255 true t244 t245 t246)) = some r := H
    have A24 := Aside0.mk A240
    clear A240
    by_cases c25 : t258 = true
    ·subst c25
     have H1 : (platformfwlaw02_NspathSearchOrder.j1 kj5 x6_5 t255 ((t255.length : Int) != (wrap64 ((t246.length : Int) + 1))) t244 t245 t246) = some r := by rw [if_pos rfl] at H; exact H
     clear H
     have H := H1
     clear H1
     have H' := Aside0.mk H
     clear H
     go_wp2_with (first | ((with_reducible refine gate_callee (f := 11) rfl ?_); refine goesL_ (some 22) rfl rfl Tryd.func11 (by kernel_rfl) rfl #[] rfl (by (try simp only [List.map_toArray, List.map_cons, List.map_nil]); first | done | rfl | (simp only [List.length_drop, List.length_take]; rfl)) ?_; (with_reducible refine (platformfwlaw02_awake.calls kj5  true _ A24.out).mono ?_); rintro e w26 ⟨rfl, hb⟩; refine ⟨_, rfl, ?_⟩; have n0_ := Aside0.mk (Kd.R_below (by (with_reducible repeat (first | apply Kd.R_alloc | apply Kd.R_drewN | apply Kd.R_drew)); exact HO_250002.out) hb); have n1_ := Aside0.mk (Kd.R_below (by (with_reducible repeat (first | apply Kd.R_alloc | apply Kd.R_drewN | apply Kd.R_drew)); exact HO254.out) hb); have n2_ := Aside0.mk (Kd.S_below (by (with_reducible repeat (first | apply Kd.S_alloc | apply Kd.S_drewN | apply Kd.S_drew)); exact HO257.out) hb); have n3_ := Aside0.mk (blk_below (g := gb243) (o := .cells #[.bool a0_0, .int .i64 a0_1, .slice A0_2 l0_2.length c0_2] 24 (0, 0)) (by (with_reducible repeat (first | refine kN_ ?_ _ | refine kD_ ?_ | refine kA_ ?_ _)); exact BK243.out) hb); have n4_ := Aside0.mk (blk_below (g := gb249) (o := .cells #[.bool t244, .int .i64 t245, .slice Ao13 t246.length co13] 24 (0, 0)) (by (with_reducible repeat (first | refine kN_ ?_ _ | refine kD_ ?_ | refine kA_ ?_ _)); exact BK249.out) hb); have n5_ := Aside0.mk (below_step (by repeat (first | (with_reducible first | exact HB.out | apply bA_ | apply bN_ | apply bD_ | refine bS_ ?_ GE243.out | refine bS_ ?_ GE249.out) | exact HB.out)) hb); clear HO_250002; clear HO254; clear HO257; clear BK243; clear BK249; clear HB; have HO_250002 := n0_; have HO254 := n1_; have HO257 := n2_; have BK243 := n3_; have BK249 := n4_; have HB := n5_; clear n0_ n1_ n2_ n3_ n4_ n5_; (try clear hb); (try clear hb2); (try clear hk); (try clear hi); obtain ⟨Ao27, co27, eo27⟩ := Kd.S_slice HO257.out; subst eo27; have hnb28 := NB249_243.out; have hnc28 := NB243_249.out; obtain ⟨hcz29_0, hcz29_1, hcz29_2⟩ := cells3_ BK249.out; obtain ⟨hfz29_0, hfz29_1, hfz29_2⟩ := froz3_ BK249.out))
     go_meet
     case rel => exact ⟨_, (((t255.length : Int) != (wrap64 ((t246.length : Int) + 1)))), (by first | rfl | (simp; done) | (simp [*]; done)), H', ⟨by have := HJ5.out; first | omega | exact Nat.le_refl _⟩, ⟨by (with_reducible repeat (first | apply Kd.S_alloc | apply Kd.S_drewN | apply Kd.S_drew)); exact Kd.S_mono HO257.out (fun _ hk => ⟨hk.1.1.1.2, ⟨hk.1.2, hk.2⟩⟩)⟩, ⟨by (with_reducible repeat (first | apply Kd.R_alloc | apply Kd.R_drewN | apply Kd.R_drew)); exact Kd.R_mono HO_250002.out (fun _ hk => trivial)⟩, ⟨by (with_reducible repeat (first | refine kN_ ?_ _ | refine kD_ ?_ | refine kA_ ?_ _)); exact BK243.out⟩, ⟨by (with_reducible repeat (first | refine kN_ ?_ _ | refine kD_ ?_ | refine kA_ ?_ _)); exact BK249.out⟩, ⟨by repeat (first | (with_reducible first | exact HB.out | apply bA_ | apply bN_ | apply bD_ | refine bS_ ?_ GE243.out | refine bS_ ?_ GE249.out) | exact HB.out)⟩⟩
    ·replace c25 := Bool.eq_false_iff.mpr c25
     subst c25
     have H1 : (platformfwlaw02_NspathSearchOrder.j1 kj5 x6_5 t255 true t244 t245 t246) = some r := by rw [if_neg (show ¬ (false = true) by decide)] at H; exact H
     clear H
     have H := H1
     clear H1
     have H' := Aside0.mk H
     clear H
     go_wp2_with (first | ((with_reducible refine gate_callee (f := 11) rfl ?_); refine goesL_ (some 22) rfl rfl Tryd.func11 (by kernel_rfl) rfl #[] rfl (by (try simp only [List.map_toArray, List.map_cons, List.map_nil]); first | done | rfl | (simp only [List.length_drop, List.length_take]; rfl)) ?_; (with_reducible refine (platformfwlaw02_awake.calls kj5  false _ A24.out).mono ?_); rintro e w30 ⟨rfl, hb⟩; refine ⟨_, rfl, ?_⟩; have n0_ := Aside0.mk (Kd.R_below (by (with_reducible repeat (first | apply Kd.R_alloc | apply Kd.R_drewN | apply Kd.R_drew)); exact HO_250002.out) hb); have n1_ := Aside0.mk (Kd.R_below (by (with_reducible repeat (first | apply Kd.R_alloc | apply Kd.R_drewN | apply Kd.R_drew)); exact HO254.out) hb); have n2_ := Aside0.mk (Kd.S_below (by (with_reducible repeat (first | apply Kd.S_alloc | apply Kd.S_drewN | apply Kd.S_drew)); exact HO257.out) hb); have n3_ := Aside0.mk (blk_below (g := gb243) (o := .cells #[.bool a0_0, .int .i64 a0_1, .slice A0_2 l0_2.length c0_2] 24 (0, 0)) (by (with_reducible repeat (first | refine kN_ ?_ _ | refine kD_ ?_ | refine kA_ ?_ _)); exact BK243.out) hb); have n4_ := Aside0.mk (blk_below (g := gb249) (o := .cells #[.bool t244, .int .i64 t245, .slice Ao13 t246.length co13] 24 (0, 0)) (by (with_reducible repeat (first | refine kN_ ?_ _ | refine kD_ ?_ | refine kA_ ?_ _)); exact BK249.out) hb); have n5_ := Aside0.mk (below_step (by repeat (first | (with_reducible first | exact HB.out | apply bA_ | apply bN_ | apply bD_ | refine bS_ ?_ GE243.out | refine bS_ ?_ GE249.out) | exact HB.out)) hb); clear HO_250002; clear HO254; clear HO257; clear BK243; clear BK249; clear HB; have HO_250002 := n0_; have HO254 := n1_; have HO257 := n2_; have BK243 := n3_; have BK249 := n4_; have HB := n5_; clear n0_ n1_ n2_ n3_ n4_ n5_; (try clear hb); (try clear hb2); (try clear hk); (try clear hi)))
     go_meet
     case rel => exact ⟨_, (true), (by first | rfl | (simp; done) | (simp [*]; done)), H', ⟨by have := HJ5.out; first | omega | exact Nat.le_refl _⟩, ⟨by (with_reducible repeat (first | apply Kd.S_alloc | apply Kd.S_drewN | apply Kd.S_drew)); exact Kd.S_mono HO257.out (fun _ hk => ⟨hk.1.1.1.2, ⟨hk.1.2, hk.2⟩⟩)⟩, ⟨by (with_reducible repeat (first | apply Kd.R_alloc | apply Kd.R_drewN | apply Kd.R_drew)); exact Kd.R_mono HO_250002.out (fun _ hk => trivial)⟩, ⟨by (with_reducible repeat (first | refine kN_ ?_ _ | refine kD_ ?_ | refine kA_ ?_ _)); exact BK243.out⟩, ⟨by (with_reducible repeat (first | refine kN_ ?_ _ | refine kD_ ?_ | refine kA_ ?_ _)); exact BK249.out⟩, ⟨by repeat (first | (with_reducible first | exact HB.out | apply bA_ | apply bN_ | apply bD_ | refine bS_ ?_ GE243.out | refine bS_ ?_ GE249.out) | exact HB.out)⟩⟩
   case rest =>
    clear HC17
    try clear c1
    try clear c2
    try clear p2
    try clear p6
    try clear c8
    try clear c11
    try clear c15
    try clear c18
    try clear c19
    try clear c23
    try clear c25
    try clear c26
    try clear c27
    try clear c28
    try clear hcz12_0 hcz12_1 hcz12_2
    try clear hcz19_0 hcz19_1 hcz19_2
    try clear hcz29_0 hcz29_1 hcz29_2
    try clear hcz8_0 hcz8_1 hcz8_2
    try clear hfz12_0 hfz12_1 hfz12_2
    try clear hfz19_0 hfz19_1 hfz19_2
    try clear hfz29_0 hfz29_1 hfz29_2
    try clear hfz8_0 hfz8_1 hfz8_2
    try clear p2
    obtain ⟨kq, x32_16, rfl, HA, HJ16, HO_7, HO_250002, BK243, BK249, HB⟩ := hcut
    cases kq with
    | zero => exact absurd HA.out (by simp [platformfwlaw02_NspathSearchOrder.j1])
    | succ kj16 =>
     have H := HA.out
     clear HA
     simp only [platformfwlaw02_NspathSearchOrder.j1] at H
     by_cases c31 : x32_16 = true
     ·subst c31
      have H1 : (some false) = some r := by rw [if_pos rfl] at H; exact H
      clear H
      have H := H1
      clear H1
      obtain rfl := Option.some.inj H
      exact absurd hr_.out (by simp)
     ·replace c31 := Bool.eq_false_iff.mpr c31
      subst c31
      have H1 : (platformfwlaw02_NspathSearchOrder.l0 kj16 x6_5 t255 0 t244 t245 t246) = some r := by rw [if_neg (show ¬ (false = true) by decide)] at H; exact H
      clear H
      have H := H1
      clear H1
      have H' := Aside0.mk H
      clear H
      go_wp2
      go_loopg [8] kj16 (fun kq v8 w' => ∃ (x8_3 : Int), v8 = .int .i64 x8_3 ∧ Aside0 (platformfwlaw02_NspathSearchOrder.l0 kq x6_5 t255 x8_3 t244 t245 t246 = some r) ∧ Aside0 (kq ≤ kj16) ∧ Aside0 (Kd.S k24 24 w' w.heap.size (fun k_ => some k_ ≠ ((.slice Ao13 t246.length co13) : Value).ownBlock ∧ k_ ≠ gb243 ∧ k_ ≠ gb249) v256 t255) ∧ Aside0 (Kd.R Kd.string 9 w' w.heap.size (fun _ => True) (.slice Ao13 t246.length co13) t246) ∧ Aside0 (w'.heap[gb243]? = some (.cells #[.bool a0_0, .int .i64 a0_1, (.slice A0_2 l0_2.length c0_2)] 24 (0, 0))) ∧ Aside0 (w'.heap[gb249]? = some (.cells #[.bool t244, .int .i64 t245, (.slice Ao13 t246.length co13)] 24 (0, 0))) ∧ Aside0 (Below w.heap.size w w'))
      case atStart => exact ⟨(0), (by first | rfl | (simp; done) | (simp [*]; done)), H', ⟨Nat.le_refl _⟩, ⟨by (with_reducible repeat (first | apply Kd.S_alloc | apply Kd.S_drewN | apply Kd.S_drew)); exact HO_7.out⟩, ⟨by (with_reducible repeat (first | apply Kd.R_alloc | apply Kd.R_drewN | apply Kd.R_drew)); exact HO_250002.out⟩, ⟨by (with_reducible repeat (first | refine kN_ ?_ _ | refine kD_ ?_ | refine kA_ ?_ _)); exact BK243.out⟩, ⟨by (with_reducible repeat (first | refine kN_ ?_ _ | refine kD_ ?_ | refine kA_ ?_ _)); exact BK249.out⟩, ⟨by repeat (first | (with_reducible first | exact HB.out | apply bA_ | apply bN_ | apply bD_ | refine bS_ ?_ GE243.out | refine bS_ ?_ GE249.out) | exact HB.out)⟩⟩
      case round =>
       clear H'
       try clear c1
       try clear c2
       try clear p2
       try clear c3
       try clear p6
       try clear c8
       try clear c11
       try clear c15
       try clear c18
       try clear c19
       try clear c23
       try clear c25
       try clear c26
       try clear c27
       try clear c28
       try clear c31
       try clear hcz12_0 hcz12_1 hcz12_2
       try clear hcz19_0 hcz19_1 hcz19_2
       try clear hcz29_0 hcz29_1 hcz29_2
       try clear hcz8_0 hcz8_1 hcz8_2
       try clear hfz12_0 hfz12_1 hfz12_2
       try clear hfz19_0 hfz19_1 hfz19_2
       try clear hfz29_0 hfz29_1 hfz29_2
       try clear hfz8_0 hfz8_1 hfz8_2
       try clear p2
       try clear p6
       obtain ⟨x8_3, rfl, HA, HK3, HO_7, HO_250002, BK243, BK249, HB⟩ := hrel
       cases gk with
       | zero => exact absurd HA.out (by simp [platformfwlaw02_NspathSearchOrder.l0])
       | succ k3 =>
        have H := HA.out
        clear HA
        simp only [platformfwlaw02_NspathSearchOrder.l0] at H
        by_cases c32 : x8_3 < (t255.length : Int)
        ·rw [if_pos c32] at H
         have c32b0 : decide (x8_3 < (t255.length : Int)) = true := decide_eq_true c32
         clear c32
         obtain ⟨ji33, hji33⟩ : ∃ j_ : Int, (wrap64 ((t246.length : Int) - x8_3)) = j_ := ⟨_, rfl⟩
         replace H : (if 0 ≤ (ji33) then (if (ji33) ≤ (t246.length : Int) then ((some (t246.take ((ji33) : Int).toNat : List ByteArray)).bind fun y259 => (if ([] : List ByteArray).length + y259.length < 8796093022208 then ((some (([] : List ByteArray) ++ y259 : List ByteArray)).bind fun y263 => (if y263.length < 8796093022208 then (if 0 ≤ x8_3 then ((platformfwlaw02_same.f k3 ((rd_T24 t255 x8_3).f0) ((rd_T24 t255 x8_3).f1) ((rd_T24 t255 x8_3).f2) true 0 (y263 ++ [x6_5])).bind fun t270 => (if t270 = true then (platformfwlaw02_NspathSearchOrder.l0 k3 x6_5 t255 (wrap64 (x8_3 + 1)) t244 t245 t246) else (some false))) else (none)) else (none))) else (none))) else (none)) else (none)) = some r := by first | (rw [hji33] at H; exact H) | (simp only [hji33] at H ⊢; exact H)
         have hji33w : (IntKind.i64.wrap ((t246.length : Int) - x8_3)) = ji33 := (i64_w _).trans hji33
         by_cases c34 : 0 ≤ (ji33)
         ·rw [if_pos c34] at H
          have c34b0 := eq_true c34
          have c34b1 : decide (0 ≤ (ji33)) = true := decide_eq_true c34
          clear c34
          by_cases c35 : (ji33) ≤ (t246.length : Int)
          ·rw [if_pos c35] at H
           have c35b0 := eq_true c35
           have c35b1 : decide ((ji33) ≤ (t246.length : Int)) = true := decide_eq_true c35
           clear c35
           obtain ⟨y259, hy259⟩ : ∃ y_ : List ByteArray, y_ = (t246.take ((ji33) : Int).toNat) := ⟨_, rfl⟩
           replace H : (if ([] : List ByteArray).length + y259.length < 8796093022208 then ((some (([] : List ByteArray) ++ y259 : List ByteArray)).bind fun y263 => (if y263.length < 8796093022208 then (if 0 ≤ x8_3 then ((platformfwlaw02_same.f k3 ((rd_T24 t255 x8_3).f0) ((rd_T24 t255 x8_3).f1) ((rd_T24 t255 x8_3).f2) true 0 (y263 ++ [x6_5])).bind fun t270 => (if t270 = true then (platformfwlaw02_NspathSearchOrder.l0 k3 x6_5 t255 (wrap64 (x8_3 + 1)) t244 t245 t246) else (some false))) else (none)) else (none))) else (none)) = some r := by first | (rw [hy259]; with_reducible exact H) | (have H2_ := (Option.bind_some _ _).symm.trans H; rw [hy259]; with_reducible exact H2_) | (have H2_ := (Option.bind_some _ _).symm.trans H; with_reducible exact H2_) | with_reducible exact H | (rw [hy259]; exact H) | exact H
           have Ny259 := Aside0.mk hy259
           clear hy259
           by_cases c36 : ([] : List ByteArray).length + y259.length < 8796093022208
           ·rw [if_pos c36] at H
            have LMc36 := Aside0.mk c36
            clear c36
            obtain ⟨y263, hy263⟩ : ∃ y_ : List ByteArray, y_ = (([] : List ByteArray) ++ y259) := ⟨_, rfl⟩
            replace H : (if y263.length < 8796093022208 then (if 0 ≤ x8_3 then ((platformfwlaw02_same.f k3 ((rd_T24 t255 x8_3).f0) ((rd_T24 t255 x8_3).f1) ((rd_T24 t255 x8_3).f2) true 0 (y263 ++ [x6_5])).bind fun t270 => (if t270 = true then (platformfwlaw02_NspathSearchOrder.l0 k3 x6_5 t255 (wrap64 (x8_3 + 1)) t244 t245 t246) else (some false))) else (none)) else (none)) = some r := by first | (rw [hy263]; with_reducible exact H) | (have H2_ := (Option.bind_some _ _).symm.trans H; rw [hy263]; with_reducible exact H2_) | (have H2_ := (Option.bind_some _ _).symm.trans H; with_reducible exact H2_) | with_reducible exact H | (rw [hy263]; exact H) | exact H
            have Ny263 := Aside0.mk hy263
            clear hy263
            by_cases c37 : y263.length < 8796093022208
            ·rw [if_pos c37] at H
             have LMc37 := Aside0.mk c37
             clear c37
             obtain ⟨y266, hy266⟩ : ∃ y_ : List ByteArray, y_ = (y263 ++ [x6_5]) := ⟨_, rfl⟩
             replace H : (if 0 ≤ x8_3 then ((platformfwlaw02_same.f k3 ((rd_T24 t255 x8_3).f0) ((rd_T24 t255 x8_3).f1) ((rd_T24 t255 x8_3).f2) true 0 y266).bind fun t270 => (if t270 = true then (platformfwlaw02_NspathSearchOrder.l0 k3 x6_5 t255 (wrap64 (x8_3 + 1)) t244 t245 t246) else (some false))) else (none)) = some r := by first | (rw [hy266]; with_reducible exact H) | (have H2_ := (Option.bind_some _ _).symm.trans H; rw [hy266]; with_reducible exact H2_) | (have H2_ := (Option.bind_some _ _).symm.trans H; with_reducible exact H2_) | with_reducible exact H | (rw [hy266]; exact H) | exact H
             have Ny266 := Aside0.mk hy266
             clear hy266
             by_cases c38 : 0 ≤ x8_3
             ·rw [if_pos c38] at H
              have c38b0 : decide (0 ≤ x8_3) = true := decide_eq_true c38
              clear c38
              replace H := Option.bind_eq_some_iff.mp H
              obtain ⟨t270, A390, H⟩ := H
              replace H : (if t270 = true then (platformfwlaw02_NspathSearchOrder.l0 k3 x6_5 t255 (wrap64 (x8_3 + 1)) t244 t245 t246) else (some false)) = some r := H
              have A39 := Aside0.mk A390
              clear A390
              by_cases c40 : t270 = true
              ·subst c40
               have H1 : (platformfwlaw02_NspathSearchOrder.l0 k3 x6_5 t255 (wrap64 (x8_3 + 1)) t244 t245 t246) = some r := by rw [if_pos rfl] at H; exact H
               clear H
               have H := H1
               clear H1
               have H' := Aside0.mk H
               clear H
               obtain ⟨Ao41, co41, eo41⟩ := Kd.S_slice HO_7.out
               subst eo41
               have hnb42 := NB249_243.out
               have hnc42 := NB243_249.out
               obtain ⟨hcz43_0, hcz43_1, hcz43_2⟩ := cells3_ BK249.out
               obtain ⟨hfz43_0, hfz43_1, hfz43_2⟩ := froz3_ BK249.out
               have q44 : ((ji33) : Int) ≤ ((t246.length : Int) : Int) := of_decide_eq_true (by first | (with_reducible assumption) | assumption)
               obtain ⟨i044, hi044, _, hsz44, _⟩ := info_parts info9
               have hroom44 : t246.length ≤ co13 := (Kd.R_reads' HO_250002.out).2.1
               have hC44 : Kd.C Kd.string _ Ao13 t246.length t246 := (Kd.R_reads' HO_250002.out).2.2
               have hcut44 := cut_to (P := Tryd.prog) 22 9 .i64 Tryd.underlying22 hi044 Ao13 t246.length co13 (ji33) (of_decide_eq_true (by first | (with_reducible assumption) | assumption)) q44 hroom44
               have hr44 := Kd.C_take (m := ((ji33) : Int).toNat) hC44 (by omega)
               have hy44 : y259.length = ((ji33) : Int).toNat := (by rw [Ny259.out, List.length_take]; omega)
               rw [← Ny259.out] at hr44
               rw [← hy44] at hcut44
               have HR262 := Aside0.mk hr44
               have HC262 := Aside0.mk (show y259.length ≤ co13 from by omega)
               clear hr44 hC44 hroom44 hi044 hsz44
               have KY44 := Aside0.mk hy44
               clear hy44
               have KL44 := Aside0.mk (show ((ji33) : Int).toNat ≤ t246.length from by omega)
               replace q44 := eq_true q44
               go_wp2_with (first | ((with_reducible refine gate_builtin (b := .append) (xs := #[.const (.slice none 0 0), .tmp 46]) rfl ?_); (try (refine gate_guard (by rfl) ?_; dsimp only)); at_builtin; refine Kd.R_append_rows Kd.string (w0 := w) w.heap.size rfl (.const (.slice none 0 0)) (.tmp 46) 22 9 (.string ⟨#[]⟩) 16 rfl Tryd.underlying22 info9 rfl (by decide) (by omega) (.slice none 0 0) ([] : List ByteArray) y259 _ _ _ (fun k_ => some k_ ≠ (.slice Ao13 t246.length co13 : Value).ownBlock) (fun _ => False) rfl rfl ?aO ?aR (fun _ _ h => h) (fun _ h => h.elim) ?aF ?aB ?aS ?aL ?_; (case aR => repeat (first | exact (by repeat (first | (with_reducible exact HR262.out) | (with_reducible refine Kd.C_alloc ?_ _) | (with_reducible refine Kd.C_drewN ?_ _) | (with_reducible refine Kd.C_drew ?_) | exact HR262.out)) | (with_reducible refine Kd.C_alloc ?_ _) | (with_reducible refine Kd.C_drewN ?_ _) | (with_reducible refine Kd.C_drew ?_))); (case aB => exact (by repeat (first | (with_reducible first | exact HB.out | apply bA_ | apply bN_ | apply bD_ | refine bS_ ?_ GE243.out | refine bS_ ?_ GE249.out) | exact HB.out))); (case aF => exact (fun k_ hk => Kd.fresh' (Kd.R_lt (by (with_reducible repeat (first | apply Kd.R_alloc | apply Kd.R_drewN | apply Kd.R_drew)); exact HO_250002.out)) k_ hk)); (case aO => exact ((Kd.R_nil _ _ _ _ (fun k_ => some k_ ≠ (.slice Ao13 t246.length co13 : Value).ownBlock)))); (case aS => exact (below_size (by repeat (first | (with_reducible first | exact HB.out | apply bA_ | apply bN_ | apply bD_ | refine bS_ ?_ GE243.out | refine bS_ ?_ GE249.out) | exact HB.out)))); (case aL => have := LMc36.out; omega); intro v264 w45 ho hb hg hat; rw [← Ny263.out] at ho; have n0_ := Aside0.mk (Kd.S_after (Kd.S_apart_nil (by (with_reducible repeat (first | apply Kd.S_alloc | apply Kd.S_drewN | apply Kd.S_drew)); exact HO_7.out)) hg hat); have n1_ := Aside0.mk (Kd.R_after (Kd.R_apart_nil (by (with_reducible repeat (first | apply Kd.R_alloc | apply Kd.R_drewN | apply Kd.R_drew)); exact HO_250002.out)) hg hat); have n2_ := Aside0.mk (blk_grown (g := gb243) (o := .cells #[.bool a0_0, .int .i64 a0_1, .slice A0_2 l0_2.length c0_2] 24 (0, 0)) (by (with_reducible repeat (first | refine kN_ ?_ _ | refine kD_ ?_ | refine kA_ ?_ _)); exact BK243.out) hg (by simp [Value.ownBlock])); have n3_ := Aside0.mk (blk_grown (g := gb249) (o := .cells #[.bool t244, .int .i64 t245, .slice Ao13 t246.length co13] 24 (0, 0)) (by (with_reducible repeat (first | refine kN_ ?_ _ | refine kD_ ?_ | refine kA_ ?_ _)); exact BK249.out) hg (by simp [Value.ownBlock])); have n4_ := Aside0.mk (hb); have n5_ := Aside0.mk ((show Kd.C Kd.string w45 Ao13 y259.length y259 from by rw [Ny259.out]; exact Kd.C_take (m := ((ji33) : Int).toNat) ((Kd.R_reads' (Kd.R_after (Kd.R_apart_nil (by (with_reducible repeat (first | apply Kd.R_alloc | apply Kd.R_drewN | apply Kd.R_drew)); exact HO_250002.out)) hg hat)).2.2) KL44.out)); have n6_ := Aside0.mk (ho); clear HO_7; clear HO_250002; clear BK243; clear BK249; clear HB; clear HR262; have HO_7 := n0_; have HO_250002 := n1_; have BK243 := n2_; have BK249 := n3_; have HB := n4_; have HR262 := n5_; have HO265 := n6_; clear n0_ n1_ n2_ n3_ n4_ n5_ n6_; clear ho hb hg hat) | ((with_reducible refine gate_builtin (b := .append) (xs := #[.tmp 47, .tmp 49]) rfl ?_); (try (refine gate_guard (by rfl) ?_; dsimp only)); at_builtin; refine Kd.R_append Kd.string (w0 := w) w.heap.size rfl (.tmp 47) (.tmp 49) 22 9 (.string ⟨#[]⟩) 16 rfl Tryd.underlying22 info9 rfl (by decide) (by omega) v264 y263 x6_5 [.string x6_5] (fun k_ => some k_ ≠ (.slice Ao13 t246.length co13 : Value).ownBlock) (fun _ => False) rfl rfl ?aP (fun _ hk => hk.elim) ?aF ?aO ?aB ?aS ?aL ?_; (case aP => exact rfl); (case aB => exact (by repeat (first | (with_reducible first | exact HB.out | apply bA_ | apply bN_ | apply bD_ | refine bS_ ?_ GE243.out | refine bS_ ?_ GE249.out) | exact HB.out))); (case aF => exact (fun k_ hk => Kd.fresh' (Kd.R_lt (by (with_reducible repeat (first | apply Kd.R_alloc | apply Kd.R_drewN | apply Kd.R_drew)); exact HO_250002.out)) k_ hk)); (case aO => exact (by (with_reducible repeat (first | apply Kd.R_alloc | apply Kd.R_drewN | apply Kd.R_drew)); exact HO265.out)); (case aS => exact (below_size (by repeat (first | (with_reducible first | exact HB.out | apply bA_ | apply bN_ | apply bD_ | refine bS_ ?_ GE243.out | refine bS_ ?_ GE249.out) | exact HB.out)))); (case aL => have := LMc37.out; omega); intro v267 w46 ho hb hg hat; rw [← Ny266.out] at ho; have n0_ := Aside0.mk (Kd.S_after (ok := (fun k_ => some k_ ≠ (.slice Ao13 t246.length co13 : Value).ownBlock ∧ k_ ≠ gb243 ∧ k_ ≠ gb249)) (by (with_reducible repeat (first | apply Kd.S_alloc | apply Kd.S_drewN | apply Kd.S_drew)); exact HO_7.out) hg hat); have n1_ := Aside0.mk (Kd.R_after (ok := (fun _ => True)) (by (with_reducible repeat (first | apply Kd.R_alloc | apply Kd.R_drewN | apply Kd.R_drew)); exact HO_250002.out) hg hat); have n2_ := Aside0.mk (blk_grown (g := gb243) (o := .cells #[.bool a0_0, .int .i64 a0_1, .slice A0_2 l0_2.length c0_2] 24 (0, 0)) (by (with_reducible repeat (first | refine kN_ ?_ _ | refine kD_ ?_ | refine kA_ ?_ _)); exact BK243.out) hg (Kd.R_ne HO265.out BK243.out (by decide))); have n3_ := Aside0.mk (blk_grown (g := gb249) (o := .cells #[.bool t244, .int .i64 t245, .slice Ao13 t246.length co13] 24 (0, 0)) (by (with_reducible repeat (first | refine kN_ ?_ _ | refine kD_ ?_ | refine kA_ ?_ _)); exact BK249.out) hg (Kd.R_ne HO265.out BK249.out (by decide))); have n4_ := Aside0.mk (hb); have n5_ := Aside0.mk ((show Kd.C Kd.string w46 Ao13 y259.length y259 from by rw [Ny259.out]; exact Kd.C_take (m := ((ji33) : Int).toNat) ((Kd.R_reads' (Kd.R_after (ok := (fun _ => True)) (by (with_reducible repeat (first | apply Kd.R_alloc | apply Kd.R_drewN | apply Kd.R_drew)); exact HO_250002.out) hg hat)).2.2) KL44.out)); have n6_ := Aside0.mk (ho); clear HO_7; clear HO_250002; clear BK243; clear BK249; clear HB; clear HR262; clear HO265; have HO_7 := n0_; have HO_250002 := n1_; have BK243 := n2_; have BK249 := n3_; have HB := n4_; have HR262 := n5_; have HO268 := n6_; clear n0_ n1_ n2_ n3_ n4_ n5_ n6_; clear ho hb hg hat; have p269 : 0 ≤ (x8_3 : Int) := of_decide_eq_true (by first | (with_reducible assumption) | assumption); have q269 : x8_3 < (t255.length : Int) := of_decide_eq_true (by first | (with_reducible assumption) | assumption); obtain ⟨ad269, A269_2, c269_2, e269, hx269_0, hx269_1, hx269_2, hl269_2, hi269_2⟩ := at_T24 (Kd.S_reads' HO_7.out).2.2 x8_3 p269 q269; cases e269; obtain ⟨ce269, hce269, hMe269, hcc269⟩ := Kd.S_get HO_7.out z24 x8_3 p269 (by first | exact q269 | exact of_decide_eq_true (by first | (with_reducible assumption) | assumption) | (have e_ := (Kd.S_reads' HO_7.out).1; omega)); obtain ⟨ve269_2, rfl, ge269_2⟩ := k24_openM hMe269; have hv269_2 := hcc269 2 _ rfl; rw [add_field _ _ 2 (by omega)] at hv269_2; replace hv269_2 := Option.some.inj (hv269_2.symm.trans hx269_2); rw [hv269_2] at ge269_2; have HL269_2 := Aside0.mk (show Kd.R Kd.string 9 _ _ _ _ ((rd_T24 t255 x8_3).f2) from ge269_2); clear hv269_2 ge269_2; clear hcc269 hce269; have HR269_2 := Aside0.mk hi269_2; have HC269_2 := Aside0.mk hl269_2; clear hi269_2 hl269_2; replace p269 := eq_true p269; replace q269 := eq_true q269; obtain ⟨Ao47, co47, eo47⟩ := Kd.R_slice HO268.out; subst eo47) | ((with_reducible refine gate_callee (f := 18) rfl ?_); refine goesL_ (some 57) rfl rfl Tryd.func18 (by kernel_rfl) rfl #[.agg #[.bool ((rd_T24 t255 x8_3).f0), .int .i64 ((rd_T24 t255 x8_3).f1), .slice A269_2 ((rd_T24 t255 x8_3).f2).length c269_2], .agg #[.bool true, .int .i64 0, .slice Ao47 y266.length co47]] rfl (by (try simp only [List.map_toArray, List.map_cons, List.map_nil]); first | done | rfl | (simp only [List.length_drop, List.length_take]; rfl)) ?_; (with_reducible refine (platformfwlaw02_same.calls k3 ((rd_T24 t255 x8_3).f0) ((rd_T24 t255 x8_3).f1) _ _ ((rd_T24 t255 x8_3).f2) true 0 _ _ y266 true _ ?side1 ?side2 ?side3 ?side4 A39.out).mono ?_); (case side1 => repeat (first | exact (by repeat (first | (with_reducible exact HR269_2.out) | (with_reducible refine Kd.C_alloc ?_ _) | (with_reducible refine Kd.C_drewN ?_ _) | (with_reducible refine Kd.C_drew ?_) | exact HR269_2.out)) | (with_reducible refine Kd.C_alloc ?_ _) | (with_reducible refine Kd.C_drewN ?_ _) | (with_reducible refine Kd.C_drew ?_))); (case side2 => exact HC269_2.out); (case side3 => repeat (first | exact (Kd.R_reads' HO268.out).2.2 | (with_reducible refine Kd.C_alloc ?_ _) | (with_reducible refine Kd.C_drewN ?_ _) | (with_reducible refine Kd.C_drew ?_))); (case side4 => exact (Kd.R_reads' HO268.out).2.1); rintro e w48 ⟨rfl, hb⟩; refine ⟨_, rfl, ?_⟩; have n0_ := Aside0.mk (Kd.S_below (by (with_reducible repeat (first | apply Kd.S_alloc | apply Kd.S_drewN | apply Kd.S_drew)); exact HO_7.out) hb); have n1_ := Aside0.mk (Kd.R_below (by (with_reducible repeat (first | apply Kd.R_alloc | apply Kd.R_drewN | apply Kd.R_drew)); exact HO_250002.out) hb); have n2_ := Aside0.mk (Kd.R_below (by (with_reducible repeat (first | apply Kd.R_alloc | apply Kd.R_drewN | apply Kd.R_drew)); exact HO268.out) hb); have n3_ := Aside0.mk (Kd.R_below (by (with_reducible repeat (first | apply Kd.R_alloc | apply Kd.R_drewN | apply Kd.R_drew)); exact HL269_2.out) hb); have n4_ := Aside0.mk (blk_below (g := gb243) (o := .cells #[.bool a0_0, .int .i64 a0_1, .slice A0_2 l0_2.length c0_2] 24 (0, 0)) (by (with_reducible repeat (first | refine kN_ ?_ _ | refine kD_ ?_ | refine kA_ ?_ _)); exact BK243.out) hb); have n5_ := Aside0.mk (blk_below (g := gb249) (o := .cells #[.bool t244, .int .i64 t245, .slice Ao13 t246.length co13] 24 (0, 0)) (by (with_reducible repeat (first | refine kN_ ?_ _ | refine kD_ ?_ | refine kA_ ?_ _)); exact BK249.out) hb); have n6_ := Aside0.mk (Kd.C_below (by repeat (first | (with_reducible exact HR262.out) | (with_reducible refine Kd.C_alloc ?_ _) | (with_reducible refine Kd.C_drewN ?_ _) | (with_reducible refine Kd.C_drew ?_) | exact HR262.out)) hb); have n7_ := Aside0.mk (Kd.C_below (by repeat (first | (with_reducible exact HR269_2.out) | (with_reducible refine Kd.C_alloc ?_ _) | (with_reducible refine Kd.C_drewN ?_ _) | (with_reducible refine Kd.C_drew ?_) | exact HR269_2.out)) hb); have n8_ := Aside0.mk (below_step (by repeat (first | (with_reducible first | exact HB.out | apply bA_ | apply bN_ | apply bD_ | refine bS_ ?_ GE243.out | refine bS_ ?_ GE249.out) | exact HB.out)) hb); clear HO_7; clear HO_250002; clear HO268; clear HL269_2; clear BK243; clear BK249; clear HR262; clear HR269_2; clear HB; have HO_7 := n0_; have HO_250002 := n1_; have HO268 := n2_; have HL269_2 := n3_; have BK243 := n4_; have BK249 := n5_; have HR262 := n6_; have HR269_2 := n7_; have HB := n8_; clear n0_ n1_ n2_ n3_ n4_ n5_ n6_ n7_ n8_; (try clear hb); (try clear hb2); (try clear hk); (try clear hi)))
               go_roundg k3
               case measure => have := HJ5.out; have := HJ16.out; have := HK3.out; omega
               case rel => exact ⟨(wrap64 (x8_3 + 1)), (by first | rfl | (simp; done) | (simp [*]; done)), H', ⟨by have := HJ5.out; have := HJ16.out; have := HK3.out; omega⟩, ⟨by (with_reducible repeat (first | apply Kd.S_alloc | apply Kd.S_drewN | apply Kd.S_drew)); exact Kd.S_mono HO_7.out (fun _ hk => ⟨hk.1.1, ⟨hk.1.2.1, hk.1.2.2⟩⟩)⟩, ⟨by (with_reducible repeat (first | apply Kd.R_alloc | apply Kd.R_drewN | apply Kd.R_drew)); exact Kd.R_mono HO_250002.out (fun _ hk => trivial)⟩, ⟨by (with_reducible repeat (first | refine kN_ ?_ _ | refine kD_ ?_ | refine kA_ ?_ _)); exact BK243.out⟩, ⟨by (with_reducible repeat (first | refine kN_ ?_ _ | refine kD_ ?_ | refine kA_ ?_ _)); exact BK249.out⟩, ⟨by repeat (first | (with_reducible first | exact HB.out | apply bA_ | apply bN_ | apply bD_ | refine bS_ ?_ GE243.out | refine bS_ ?_ GE249.out) | exact HB.out)⟩⟩
              ·replace c40 := Bool.eq_false_iff.mpr c40
               subst c40
               have H1 : (some false) = some r := by rw [if_neg (show ¬ (false = true) by decide)] at H; exact H
               clear H
               have H := H1
               clear H1
               obtain rfl := Option.some.inj H
               exact absurd hr_.out (by simp)
             ·rw [if_neg c38] at H
              exact absurd H (by simp)
            ·rw [if_neg c37] at H
             exact absurd H (by simp)
           ·rw [if_neg c36] at H
            exact absurd H (by simp)
          ·rw [if_neg c35] at H
           exact absurd H (by simp)
         ·rw [if_neg c34] at H
          exact absurd H (by simp)
        ·rw [if_neg c32] at H
         have c32b0 : decide (x8_3 < (t255.length : Int)) = false := decide_eq_false c32
         clear c32
         obtain rfl := Option.some.inj H
         obtain ⟨Ao49, co49, eo49⟩ := Kd.S_slice HO_7.out
         subst eo49
         go_wp2
         go_ret
         exact ⟨by first | rfl | (simp [errW_none, errW_some] <;> rfl) | (simp [*, errW_none, errW_some] <;> rfl), by repeat (first | (with_reducible first | exact HB.out | apply bA_ | apply bN_ | apply bD_ | refine bS_ ?_ GE243.out | refine bS_ ?_ GE249.out) | exact HB.out)⟩

end Go.Proofs.YtpjajjmipbjliaaDoor.PNspathSearchOrder
