-- Written by a program of this session's (wip/print_patch.py over the kit's print) out of the translation; Lean checks it.
import Derived.Test.YtpjajjmipbjliaaDoorPNspathRoundTripx0
import Derived.Test.YtpjajjmipbjliaaDoorPNspathRoundTripx1
import Derived.Test.YtpjajjmipbjliaaDoorPNspathRoundTripx3
import Derived.Test.YtpjajjmipbjliaaDoorPNspathRoundTripx4
import Derived.Test.YtpjajjmipbjliaaDoorExtP
namespace Go.Proofs.YtpjajjmipbjliaaDoor.PNspathRoundTrip
open Go.RowKit Go.Proofs.YtpjajjmipbjliaaDoor.Ext Go.Proofs.YtpjajjmipbjliaaDoorW.PrintWords Go.Proofs.YtpjajjmipbjliaaDoorW.PrintLast Go.Proofs.YtpjajjmipbjliaaDoorW.PrintMore
attribute [local go_sem] max2_int min2_int max_two min_two max_three min_three max_four min_four   -- for this text's walks alone
set_option linter.unusedVariables false
set_option linter.unusedSimpArgs false

/-! ### platformfwref01_ValidPath: function 15 -/
mutual
def platformfwref01_ValidPath.j0 : Nat → Bool → Bool → Int → List ByteArray → Option (Bool)
 | 0, _, _, _, _ => none
 | k + 1, x45, x246000, x246001, x246002 => if x45 = true then (some false) else (platformfwref01_ValidPath.l0 k 0 x246000 x246001 x246002)
def platformfwref01_ValidPath.l0 : Nat → Int → Bool → Int → List ByteArray → Option (Bool)
 | 0, _, _, _, _ => none
 | k + 1, x3, x246000, x246001, x246002 => if x3 < (x246002.length : Int) then (if 0 ≤ x3 then ((platformfwref01_Segment.f k (rdOf ByteArray.empty x246002 x3)).bind fun t247 => (if t247 = true then (platformfwref01_ValidPath.l0 k (wrap64 (x3 + 1)) x246000 x246001 x246002) else (some false))) else (none)) else (some true)
end
def platformfwref01_ValidPath.f (k : Nat) (a0_0 : Bool) (a0_1 : Int) (l0_2 : List ByteArray) : Option (Bool) := if a0_1 < 0 then (platformfwref01_ValidPath.j0 k true a0_0 a0_1 l0_2) else (if a0_1 > 32 then (platformfwref01_ValidPath.j0 k true a0_0 a0_1 l0_2) else (if a0_0 = true then (if a0_1 > 0 then (platformfwref01_ValidPath.j0 k true a0_0 a0_1 l0_2) else (if (l0_2.length : Int) > (wrap64 (32 - a0_1)) then (platformfwref01_ValidPath.j0 k true a0_0 a0_1 l0_2) else (platformfwref01_ValidPath.j0 k false a0_0 a0_1 l0_2))) else (if (l0_2.length : Int) > (wrap64 (32 - a0_1)) then (platformfwref01_ValidPath.j0 k true a0_0 a0_1 l0_2) else (if a0_1 = 0 then (platformfwref01_ValidPath.j0 k ((l0_2.length : Int) == 0) a0_0 a0_1 l0_2) else (platformfwref01_ValidPath.j0 k false a0_0 a0_1 l0_2)))))
theorem platformfwref01_ValidPath.mono_l : ∀ k, (∀ y0 y1 y2 y3, LeO (platformfwref01_ValidPath.j0 k y0 y1 y2 y3) (platformfwref01_ValidPath.j0 (k + 1) y0 y1 y2 y3)) ∧ (∀ y0 y1 y2 y3, LeO (platformfwref01_ValidPath.l0 k y0 y1 y2 y3) (platformfwref01_ValidPath.l0 (k + 1) y0 y1 y2 y3))
 | 0 => ⟨fun _ _ _ _ r h => by simp [platformfwref01_ValidPath.j0] at h, fun _ _ _ _ r h => by simp [platformfwref01_ValidPath.l0] at h⟩
 | k + 1 => by
  obtain ⟨ih0, ih1⟩ := platformfwref01_ValidPath.mono_l k
  refine ⟨?_, ?_⟩
  ·intro y0 y1 y2 y3
   unfold platformfwref01_ValidPath.j0
   repeat' first
   | (with_reducible exact ih0 _ _ _ _)
   | (with_reducible exact ih1 _ _ _ _)
   | (with_reducible exact platformfwref01_Segment.mono _ _)
   | (with_reducible exact LeO.refl _)
   | (with_reducible exact LeO.none _)
   | (with_reducible refine LeO.ite ?_ ?_)
   | (with_reducible refine LeO.bind ?_ (fun _ => ?_))
   | exact ih0 _ _ _ _
   | exact ih1 _ _ _ _
   | exact platformfwref01_Segment.mono _ _
   | exact LeO.none _
   | refine LeO.ite ?_ ?_
   | refine LeO.bind ?_ (fun _ => ?_)
  ·intro y0 y1 y2 y3
   unfold platformfwref01_ValidPath.l0
   repeat' first
   | (with_reducible exact ih0 _ _ _ _)
   | (with_reducible exact ih1 _ _ _ _)
   | (with_reducible exact platformfwref01_Segment.mono _ _)
   | (with_reducible exact LeO.refl _)
   | (with_reducible exact LeO.none _)
   | (with_reducible refine LeO.ite ?_ ?_)
   | (with_reducible refine LeO.bind ?_ (fun _ => ?_))
   | exact ih0 _ _ _ _
   | exact ih1 _ _ _ _
   | exact platformfwref01_Segment.mono _ _
   | exact LeO.none _
   | refine LeO.ite ?_ ?_
   | refine LeO.bind ?_ (fun _ => ?_)
theorem platformfwref01_ValidPath.mono : ∀ a0 a1 a2 k, LeO (platformfwref01_ValidPath.f k a0 a1 a2) (platformfwref01_ValidPath.f (k + 1) a0 a1 a2) := by
 intro a0 a1 a2 k
 obtain ⟨ih0, ih1⟩ := platformfwref01_ValidPath.mono_l k
 unfold platformfwref01_ValidPath.f
 repeat' first
   | (with_reducible exact ih0 _ _ _ _)
   | (with_reducible exact ih1 _ _ _ _)
   | (with_reducible exact platformfwref01_Segment.mono _ _)
   | (with_reducible exact LeO.refl _)
   | (with_reducible exact LeO.none _)
   | (with_reducible refine LeO.ite ?_ ?_)
   | (with_reducible refine LeO.bind ?_ (fun _ => ?_))
   | exact ih0 _ _ _ _
   | exact ih1 _ _ _ _
   | exact platformfwref01_Segment.mono _ _
   | exact LeO.none _
   | refine LeO.ite ?_ ?_
   | refine LeO.bind ?_ (fun _ => ?_)
set_option maxHeartbeats 8000000 in
set_option maxRecDepth 100000 in
theorem platformfwref01_ValidPath.calls (k : Nat) (a0_0 : Bool) (a0_1 : Int) (A0_2 : Option Addr) (c0_2 : Nat) (l0_2 : List ByteArray) (r : Bool) (w : World) (hr0_2 : Kd.C Kd.string w A0_2 l0_2.length l0_2) (hc0_2 : l0_2.length ≤ c0_2) (h : platformfwref01_ValidPath.f k a0_0 a0_1 l0_2 = some r) :
  Calls Tryd.prog 15 #[.agg #[.bool a0_0, .int .i64 a0_1, .slice A0_2 l0_2.length c0_2]] w fun e w' => e = .returned (.bool r) ∧ Below w.heap.size w w' := by
 have hu24 := Tryd.underlying24
 have HR0_2 := Aside0.mk hr0_2
 have HC0_2 := Aside0.mk hc0_2
 clear hr0_2 hc0_2
 have HB := Aside0.mk (Below.refl w.heap.size w)
 have H : (if a0_1 < 0 then (platformfwref01_ValidPath.j0 k true a0_0 a0_1 l0_2) else (if a0_1 > 32 then (platformfwref01_ValidPath.j0 k true a0_0 a0_1 l0_2) else (if a0_0 = true then (if a0_1 > 0 then (platformfwref01_ValidPath.j0 k true a0_0 a0_1 l0_2) else (if (l0_2.length : Int) > (wrap64 (32 - a0_1)) then (platformfwref01_ValidPath.j0 k true a0_0 a0_1 l0_2) else (platformfwref01_ValidPath.j0 k false a0_0 a0_1 l0_2))) else (if (l0_2.length : Int) > (wrap64 (32 - a0_1)) then (platformfwref01_ValidPath.j0 k true a0_0 a0_1 l0_2) else (if a0_1 = 0 then (platformfwref01_ValidPath.j0 k ((l0_2.length : Int) == 0) a0_0 a0_1 l0_2) else (platformfwref01_ValidPath.j0 k false a0_0 a0_1 l0_2)))))) = some r := h
 clear h
 have HC2 := Aside0.mk H
 clear H
 go_enter Tryd.func15, Tryd.ntmps15
 go_upto_region 1 with (first | ((with_reducible refine gate_dst (N := 1) rfl ?_); (try (refine gate_guard (by rfl) ?_; dsimp only)); refine box_event ?hg (N := 1) ?hd (cs := #[.bool a0_0, .int .i64 a0_1, .slice A0_2 l0_2.length c0_2]) (t := 24) ?hr ?_; (case hd => rfl); (case hg => rfl); (case hr => first | (go_simp; done) | (go_simp; rfl)); intro gb245 hg w3 hbox hb; have n0_ := Aside0.mk (below_step (by repeat (first | (with_reducible first | exact HB.out | apply bA_ | apply bN_ | apply bD_) | exact HB.out)) hb); have n1_ := Aside0.mk (hbox); have n2_ := Aside0.mk ((by rw [hg]; exact (below_size (by repeat (first | (with_reducible first | exact HB.out | apply bA_ | apply bN_ | apply bD_) | exact HB.out))) : w.heap.size ≤ gb245)); have n3_ := Aside0.mk ((by rw [hg]; exact (below_size (by repeat (first | (with_reducible first | exact HB.out | apply bA_ | apply bN_ | apply bD_) | exact HB.out))) : w.heap.size ≤ gb245)); clear HB; have HB := n0_; have BK245 := n1_; have GW245 := n2_; have GE245 := n3_; clear n0_ n1_ n2_ n3_; clear hb hbox hg))
 (try simp only [Act.put, sA_, sB_, sC_])
 go_cut [45] (fun v45 wc => ∃ (kq : Nat) (x45_1 : Bool), v45 = .bool x45_1 ∧ Aside0 (platformfwref01_ValidPath.j0 kq x45_1 a0_0 a0_1 l0_2 = some r) ∧ Aside0 (kq ≤ k) ∧ Aside0 (wc.heap[gb245]? = some (.cells #[.bool a0_0, .int .i64 a0_1, (.slice A0_2 l0_2.length c0_2)] 24 (0, 0))) ∧ Aside0 (Below w.heap.size w wc))
 case first =>
  have H := HC2.out
  clear HC2
  by_cases c4 : a0_1 < 0
  ·rw [if_pos c4] at H
   have c4b0 : decide (a0_1 < 0) = true := decide_eq_true c4
   clear c4
   (first | rw [c4b0] | (simp only [i64_w, i32_w]; rw [c4b0]) | skip)
   have H' := Aside0.mk H
   clear H
   obtain ⟨hcz5_0, hcz5_1, hcz5_2⟩ := cells3_ BK245.out
   obtain ⟨hfz5_0, hfz5_1, hfz5_2⟩ := froz3_ BK245.out
   go_wp2
   go_meet
   case rel => exact ⟨_, (true), (by first | rfl | (simp; done) | (simp [*]; done)), H', ⟨by first | omega | exact Nat.le_refl _⟩, ⟨by (with_reducible repeat (first | refine kN_ ?_ _ | refine kD_ ?_ | refine kA_ ?_ _)); exact BK245.out⟩, ⟨by repeat (first | (with_reducible first | exact HB.out | apply bA_ | apply bN_ | apply bD_ | refine bS_ ?_ GE245.out) | exact HB.out)⟩⟩
  ·rw [if_neg c4] at H
   have c4b0 : decide (a0_1 < 0) = false := decide_eq_false c4
   clear c4
   (first | rw [c4b0] | (simp only [i64_w, i32_w]; rw [c4b0]) | skip)
   by_cases c6 : a0_1 > 32
   ·rw [if_pos c6] at H
    have c6b0 : decide (32 < a0_1) = true := decide_eq_true c6
    clear c6
    have H' := Aside0.mk H
    clear H
    obtain ⟨hcz7_0, hcz7_1, hcz7_2⟩ := cells3_ BK245.out
    obtain ⟨hfz7_0, hfz7_1, hfz7_2⟩ := froz3_ BK245.out
    go_wp2
    go_meet
    case rel => exact ⟨_, (true), (by first | rfl | (simp; done) | (simp [*]; done)), H', ⟨by first | omega | exact Nat.le_refl _⟩, ⟨by (with_reducible repeat (first | refine kN_ ?_ _ | refine kD_ ?_ | refine kA_ ?_ _)); exact BK245.out⟩, ⟨by repeat (first | (with_reducible first | exact HB.out | apply bA_ | apply bN_ | apply bD_ | refine bS_ ?_ GE245.out) | exact HB.out)⟩⟩
   ·rw [if_neg c6] at H
    have c6b0 : decide (32 < a0_1) = false := decide_eq_false c6
    clear c6
    by_cases c8 : a0_0 = true
    ·subst c8
     have H1 : (if a0_1 > 0 then (platformfwref01_ValidPath.j0 k true true a0_1 l0_2) else (if (l0_2.length : Int) > (wrap64 (32 - a0_1)) then (platformfwref01_ValidPath.j0 k true true a0_1 l0_2) else (platformfwref01_ValidPath.j0 k false true a0_1 l0_2))) = some r := by rw [if_pos rfl] at H; exact H
     clear H
     have H := H1
     clear H1
     by_cases c9 : a0_1 > 0
     ·rw [if_pos c9] at H
      have c9b0 : decide (0 < a0_1) = true := decide_eq_true c9
      clear c9
      have H' := Aside0.mk H
      clear H
      obtain ⟨hcz10_0, hcz10_1, hcz10_2⟩ := cells3_ BK245.out
      obtain ⟨hfz10_0, hfz10_1, hfz10_2⟩ := froz3_ BK245.out
      go_wp2
      go_meet
      case rel => exact ⟨_, (true), (by first | rfl | (simp; done) | (simp [*]; done)), H', ⟨by first | omega | exact Nat.le_refl _⟩, ⟨by (with_reducible repeat (first | refine kN_ ?_ _ | refine kD_ ?_ | refine kA_ ?_ _)); exact BK245.out⟩, ⟨by repeat (first | (with_reducible first | exact HB.out | apply bA_ | apply bN_ | apply bD_ | refine bS_ ?_ GE245.out) | exact HB.out)⟩⟩
     ·rw [if_neg c9] at H
      have c9b0 : decide (0 < a0_1) = false := decide_eq_false c9
      clear c9
      by_cases c11 : (l0_2.length : Int) > (wrap64 (32 - a0_1))
      ·rw [if_pos c11] at H
       have c11b0 : decide ((wrap64 (32 - a0_1)) < (l0_2.length : Int)) = true := decide_eq_true c11
       clear c11
       have H' := Aside0.mk H
       clear H
       obtain ⟨hcz12_0, hcz12_1, hcz12_2⟩ := cells3_ BK245.out
       obtain ⟨hfz12_0, hfz12_1, hfz12_2⟩ := froz3_ BK245.out
       go_wp2
       go_meet
       case rel => exact ⟨_, (true), (by first | rfl | (simp; done) | (simp [*]; done)), H', ⟨by first | omega | exact Nat.le_refl _⟩, ⟨by (with_reducible repeat (first | refine kN_ ?_ _ | refine kD_ ?_ | refine kA_ ?_ _)); exact BK245.out⟩, ⟨by repeat (first | (with_reducible first | exact HB.out | apply bA_ | apply bN_ | apply bD_ | refine bS_ ?_ GE245.out) | exact HB.out)⟩⟩
      ·rw [if_neg c11] at H
       have c11b0 : decide ((wrap64 (32 - a0_1)) < (l0_2.length : Int)) = false := decide_eq_false c11
       clear c11
       have H' := Aside0.mk H
       clear H
       obtain ⟨hcz13_0, hcz13_1, hcz13_2⟩ := cells3_ BK245.out
       obtain ⟨hfz13_0, hfz13_1, hfz13_2⟩ := froz3_ BK245.out
       go_wp2
       go_meet
       case rel => exact ⟨_, (false), (by first | rfl | (simp; done) | (simp [*]; done)), H', ⟨by first | omega | exact Nat.le_refl _⟩, ⟨by (with_reducible repeat (first | refine kN_ ?_ _ | refine kD_ ?_ | refine kA_ ?_ _)); exact BK245.out⟩, ⟨by repeat (first | (with_reducible first | exact HB.out | apply bA_ | apply bN_ | apply bD_ | refine bS_ ?_ GE245.out) | exact HB.out)⟩⟩
    ·replace c8 := Bool.eq_false_iff.mpr c8
     subst c8
     have H1 : (if (l0_2.length : Int) > (wrap64 (32 - a0_1)) then (platformfwref01_ValidPath.j0 k true false a0_1 l0_2) else (if a0_1 = 0 then (platformfwref01_ValidPath.j0 k ((l0_2.length : Int) == 0) false a0_1 l0_2) else (platformfwref01_ValidPath.j0 k false false a0_1 l0_2))) = some r := by rw [if_neg (show ¬ (false = true) by decide)] at H; exact H
     clear H
     have H := H1
     clear H1
     by_cases c14 : (l0_2.length : Int) > (wrap64 (32 - a0_1))
     ·rw [if_pos c14] at H
      have c14b0 : decide ((wrap64 (32 - a0_1)) < (l0_2.length : Int)) = true := decide_eq_true c14
      clear c14
      have H' := Aside0.mk H
      clear H
      obtain ⟨hcz15_0, hcz15_1, hcz15_2⟩ := cells3_ BK245.out
      obtain ⟨hfz15_0, hfz15_1, hfz15_2⟩ := froz3_ BK245.out
      go_wp2
      go_meet
      case rel => exact ⟨_, (true), (by first | rfl | (simp; done) | (simp [*]; done)), H', ⟨by first | omega | exact Nat.le_refl _⟩, ⟨by (with_reducible repeat (first | refine kN_ ?_ _ | refine kD_ ?_ | refine kA_ ?_ _)); exact BK245.out⟩, ⟨by repeat (first | (with_reducible first | exact HB.out | apply bA_ | apply bN_ | apply bD_ | refine bS_ ?_ GE245.out) | exact HB.out)⟩⟩
     ·rw [if_neg c14] at H
      have c14b0 : decide ((wrap64 (32 - a0_1)) < (l0_2.length : Int)) = false := decide_eq_false c14
      clear c14
      by_cases c16 : a0_1 = 0
      ·rw [if_pos c16] at H
       have c16b0 : (a0_1 == 0) = true := beq_iff_eq.mpr c16
       have c16b1 : (a0_1 != 0) = false := bne_eq_false_iff_eq.mpr c16
       clear c16
       have H' := Aside0.mk H
       clear H
       obtain ⟨hcz17_0, hcz17_1, hcz17_2⟩ := cells3_ BK245.out
       obtain ⟨hfz17_0, hfz17_1, hfz17_2⟩ := froz3_ BK245.out
       go_wp2
       go_meet
       case rel => exact ⟨_, (((l0_2.length : Int) == 0)), (by first | rfl | (simp; done) | (simp [*]; done)), H', ⟨by first | omega | exact Nat.le_refl _⟩, ⟨by (with_reducible repeat (first | refine kN_ ?_ _ | refine kD_ ?_ | refine kA_ ?_ _)); exact BK245.out⟩, ⟨by repeat (first | (with_reducible first | exact HB.out | apply bA_ | apply bN_ | apply bD_ | refine bS_ ?_ GE245.out) | exact HB.out)⟩⟩
      ·rw [if_neg c16] at H
       have c16b0 : (a0_1 == 0) = false := beq_eq_false_iff_ne.mpr c16
       have c16b1 : (a0_1 != 0) = true := bne_iff_ne.mpr c16
       have H' := Aside0.mk H
       clear H
       obtain ⟨hcz18_0, hcz18_1, hcz18_2⟩ := cells3_ BK245.out
       obtain ⟨hfz18_0, hfz18_1, hfz18_2⟩ := froz3_ BK245.out
       go_wp2
       go_meet
       case rel => exact ⟨_, (false), (by first | rfl | (simp; done) | (simp [*]; done)), H', ⟨by first | omega | exact Nat.le_refl _⟩, ⟨by (with_reducible repeat (first | refine kN_ ?_ _ | refine kD_ ?_ | refine kA_ ?_ _)); exact BK245.out⟩, ⟨by repeat (first | (with_reducible first | exact HB.out | apply bA_ | apply bN_ | apply bD_ | refine bS_ ?_ GE245.out) | exact HB.out)⟩⟩
 case rest =>
  clear HC2
  try clear c1
  try clear p2
  try clear c4
  try clear c4b0
  try clear c6
  try clear c6b0
  try clear p6
  try clear c8
  try clear c9
  try clear c9b0
  try clear c11
  try clear c11b0
  try clear c14
  try clear c14b0
  try clear c15
  try clear c16
  try clear c16b0
  try clear c16b1
  try clear hcz10_0 hcz10_1 hcz10_2
  try clear hcz12_0 hcz12_1 hcz12_2
  try clear hcz13_0 hcz13_1 hcz13_2
  try clear hcz15_0 hcz15_1 hcz15_2
  try clear hcz17_0 hcz17_1 hcz17_2
  try clear hcz18_0 hcz18_1 hcz18_2
  try clear hcz5_0 hcz5_1 hcz5_2
  try clear hcz7_0 hcz7_1 hcz7_2
  try clear hfz10_0 hfz10_1 hfz10_2
  try clear hfz12_0 hfz12_1 hfz12_2
  try clear hfz13_0 hfz13_1 hfz13_2
  try clear hfz15_0 hfz15_1 hfz15_2
  try clear hfz17_0 hfz17_1 hfz17_2
  try clear hfz18_0 hfz18_1 hfz18_2
  try clear hfz5_0 hfz5_1 hfz5_2
  try clear hfz7_0 hfz7_1 hfz7_2
  obtain ⟨kq, x45_1, rfl, HA, HJ1, BK245, HB⟩ := hcut
  cases kq with
  | zero => exact absurd HA.out (by simp [platformfwref01_ValidPath.j0])
  | succ kj1 =>
   have H := HA.out
   clear HA
   simp only [platformfwref01_ValidPath.j0] at H
   by_cases c19 : x45_1 = true
   ·subst c19
    have H1 : (some false) = some r := by rw [if_pos rfl] at H; exact H
    clear H
    have H := H1
    clear H1
    obtain rfl := Option.some.inj H
    go_wp2
    go_ret
    exact ⟨by first | rfl | (simp [errW_none, errW_some] <;> rfl) | (simp [*, errW_none, errW_some] <;> rfl), by repeat (first | (with_reducible first | exact HB.out | apply bA_ | apply bN_ | apply bD_ | refine bS_ ?_ GE245.out) | exact HB.out)⟩
   ·replace c19 := Bool.eq_false_iff.mpr c19
    subst c19
    have H1 : (platformfwref01_ValidPath.l0 kj1 0 a0_0 a0_1 l0_2) = some r := by rw [if_neg (show ¬ (false = true) by decide)] at H; exact H
    clear H
    have H := H1
    clear H1
    have H' := Aside0.mk H
    clear H
    go_wp2
    go_loopg [3] kj1 (fun kq v3 w' => ∃ (x3_2 : Int), v3 = .int .i64 x3_2 ∧ Aside0 (platformfwref01_ValidPath.l0 kq x3_2 a0_0 a0_1 l0_2 = some r) ∧ Aside0 (kq ≤ kj1) ∧ Aside0 (w'.heap[gb245]? = some (.cells #[.bool a0_0, .int .i64 a0_1, (.slice A0_2 l0_2.length c0_2)] 24 (0, 0))) ∧ Aside0 (Below w.heap.size w w'))
    case atStart => exact ⟨(0), (by first | rfl | (simp; done) | (simp [*]; done)), H', ⟨Nat.le_refl _⟩, ⟨by (with_reducible repeat (first | refine kN_ ?_ _ | refine kD_ ?_ | refine kA_ ?_ _)); exact BK245.out⟩, ⟨by repeat (first | (with_reducible first | exact HB.out | apply bA_ | apply bN_ | apply bD_ | refine bS_ ?_ GE245.out) | exact HB.out)⟩⟩
    case round =>
     clear H'
     try clear c1
     try clear p2
     try clear c4
     try clear c4b0
     try clear c6
     try clear c6b0
     try clear p6
     try clear c8
     try clear c9
     try clear c9b0
     try clear c11
     try clear c11b0
     try clear c14
     try clear c14b0
     try clear c15
     try clear c16
     try clear c16b0
     try clear c16b1
     try clear c19
     try clear hcz10_0 hcz10_1 hcz10_2
     try clear hcz12_0 hcz12_1 hcz12_2
     try clear hcz13_0 hcz13_1 hcz13_2
     try clear hcz15_0 hcz15_1 hcz15_2
     try clear hcz17_0 hcz17_1 hcz17_2
     try clear hcz18_0 hcz18_1 hcz18_2
     try clear hcz5_0 hcz5_1 hcz5_2
     try clear hcz7_0 hcz7_1 hcz7_2
     try clear hfz10_0 hfz10_1 hfz10_2
     try clear hfz12_0 hfz12_1 hfz12_2
     try clear hfz13_0 hfz13_1 hfz13_2
     try clear hfz15_0 hfz15_1 hfz15_2
     try clear hfz17_0 hfz17_1 hfz17_2
     try clear hfz18_0 hfz18_1 hfz18_2
     try clear hfz5_0 hfz5_1 hfz5_2
     try clear hfz7_0 hfz7_1 hfz7_2
     try clear p2
     try clear p6
     obtain ⟨x3_2, rfl, HA, HK2, BK245, HB⟩ := hrel
     cases gk with
     | zero => exact absurd HA.out (by simp [platformfwref01_ValidPath.l0])
     | succ k2 =>
      have H := HA.out
      clear HA
      simp only [platformfwref01_ValidPath.l0] at H
      by_cases c20 : x3_2 < (l0_2.length : Int)
      ·rw [if_pos c20] at H
       have c20b0 : decide (x3_2 < (l0_2.length : Int)) = true := decide_eq_true c20
       clear c20
       by_cases c21 : 0 ≤ x3_2
       ·rw [if_pos c21] at H
        have c21b0 : decide (0 ≤ x3_2) = true := decide_eq_true c21
        clear c21
        replace H := Option.bind_eq_some_iff.mp H
        obtain ⟨t247, A220, H⟩ := H
        replace H : (if t247 = true then (platformfwref01_ValidPath.l0 k2 (wrap64 (x3_2 + 1)) a0_0 a0_1 l0_2) else (some false)) = some r := H
        have A22 := Aside0.mk A220
        clear A220
        by_cases c23 : t247 = true
        ·subst c23
         have H1 : (platformfwref01_ValidPath.l0 k2 (wrap64 (x3_2 + 1)) a0_0 a0_1 l0_2) = some r := by rw [if_pos rfl] at H; exact H
         clear H
         have H := H1
         clear H1
         have H' := Aside0.mk H
         clear H
         obtain ⟨hcz24_0, hcz24_1, hcz24_2⟩ := cells3_ BK245.out
         obtain ⟨hfz24_0, hfz24_1, hfz24_2⟩ := froz3_ BK245.out
         have p246 : 0 ≤ (x3_2 : Int) := of_decide_eq_true (by first | (with_reducible assumption) | assumption)
         have q246 : x3_2 < (l0_2.length : Int) := of_decide_eq_true (by first | (with_reducible assumption) | assumption)
         obtain ⟨ad246, e246, hx246_0⟩ := Kd.at_string HR0_2.out x3_2 p246 q246
         cases e246
         replace hx246_0 := (HB.out.cell (World.block_lt_of_cell? w _ hx246_0)).trans hx246_0
         replace p246 := eq_true p246
         replace q246 := eq_true q246
         go_wp2_with (first | ((with_reducible refine gate_callee (f := 27) rfl ?_); refine goesL_ (some 58) rfl rfl Tryd.func27 (by kernel_rfl) rfl #[.string (rdOf ByteArray.empty l0_2 x3_2)] rfl (by (try simp only [List.map_toArray, List.map_cons, List.map_nil]); first | done | rfl | (simp only [List.length_drop, List.length_take]; rfl)) ?_; (with_reducible refine (platformfwref01_Segment.calls k2 (rdOf ByteArray.empty l0_2 x3_2) true _ A22.out).mono ?_); rintro e w' ⟨rfl, ⟨nd, rfl⟩⟩; refine ⟨_, rfl, ?_⟩))
         go_roundg k2
         case measure => have := HJ1.out; have := HK2.out; omega
         case rel => exact ⟨(wrap64 (x3_2 + 1)), (by first | rfl | (simp; done) | (simp [*]; done)), H', ⟨by have := HJ1.out; have := HK2.out; omega⟩, ⟨by (with_reducible repeat (first | refine kN_ ?_ _ | refine kD_ ?_ | refine kA_ ?_ _)); exact BK245.out⟩, ⟨by repeat (first | (with_reducible first | exact HB.out | apply bA_ | apply bN_ | apply bD_ | refine bS_ ?_ GE245.out) | exact HB.out)⟩⟩
        ·replace c23 := Bool.eq_false_iff.mpr c23
         subst c23
         have H1 : (some false) = some r := by rw [if_neg (show ¬ (false = true) by decide)] at H; exact H
         clear H
         have H := H1
         clear H1
         obtain rfl := Option.some.inj H
         obtain ⟨hcz25_0, hcz25_1, hcz25_2⟩ := cells3_ BK245.out
         obtain ⟨hfz25_0, hfz25_1, hfz25_2⟩ := froz3_ BK245.out
         have p246 : 0 ≤ (x3_2 : Int) := of_decide_eq_true (by first | (with_reducible assumption) | assumption)
         have q246 : x3_2 < (l0_2.length : Int) := of_decide_eq_true (by first | (with_reducible assumption) | assumption)
         obtain ⟨ad246, e246, hx246_0⟩ := Kd.at_string HR0_2.out x3_2 p246 q246
         cases e246
         replace hx246_0 := (HB.out.cell (World.block_lt_of_cell? w _ hx246_0)).trans hx246_0
         replace p246 := eq_true p246
         replace q246 := eq_true q246
         go_wp2_with (first | ((with_reducible refine gate_callee (f := 27) rfl ?_); refine goesL_ (some 58) rfl rfl Tryd.func27 (by kernel_rfl) rfl #[.string (rdOf ByteArray.empty l0_2 x3_2)] rfl (by (try simp only [List.map_toArray, List.map_cons, List.map_nil]); first | done | rfl | (simp only [List.length_drop, List.length_take]; rfl)) ?_; (with_reducible refine (platformfwref01_Segment.calls k2 (rdOf ByteArray.empty l0_2 x3_2) false _ A22.out).mono ?_); rintro e w' ⟨rfl, ⟨nd, rfl⟩⟩; refine ⟨_, rfl, ?_⟩))
         go_ret
         exact ⟨by first | rfl | (simp [errW_none, errW_some] <;> rfl) | (simp [*, errW_none, errW_some] <;> rfl), by repeat (first | (with_reducible first | exact HB.out | apply bA_ | apply bN_ | apply bD_ | refine bS_ ?_ GE245.out) | exact HB.out)⟩
       ·rw [if_neg c21] at H
        exact absurd H (by simp)
      ·rw [if_neg c20] at H
       have c20b0 : decide (x3_2 < (l0_2.length : Int)) = false := decide_eq_false c20
       clear c20
       obtain rfl := Option.some.inj H
       obtain ⟨hcz26_0, hcz26_1, hcz26_2⟩ := cells3_ BK245.out
       obtain ⟨hfz26_0, hfz26_1, hfz26_2⟩ := froz3_ BK245.out
       go_wp2
       go_ret
       exact ⟨by first | rfl | (simp [errW_none, errW_some] <;> rfl) | (simp [*, errW_none, errW_some] <;> rfl), by repeat (first | (with_reducible first | exact HB.out | apply bA_ | apply bN_ | apply bD_ | refine bS_ ?_ GE245.out) | exact HB.out)⟩

/-! ### platformfwhelp_Equal_string: function 43 -/
def platformfwhelp_Equal_string.l0 : Nat → List ByteArray → List ByteArray → Int → Option (Bool)
 | 0, _, _, _ => none
 | k + 1, x0, x1, x5 => if x5 < (x0.length : Int) then (if 0 ≤ x5 then (if x5 < (x1.length : Int) then (if (rdOf ByteArray.empty x0 x5).toList = (rdOf ByteArray.empty x1 x5).toList then (platformfwhelp_Equal_string.l0 k x0 x1 (wrap64 (x5 + 1))) else (some false)) else (none)) else (none)) else (some true)
def platformfwhelp_Equal_string.f (k : Nat) (l0 : List ByteArray) (l1 : List ByteArray) : Option (Bool) := if (l0.length : Int) = (l1.length : Int) then (platformfwhelp_Equal_string.l0 k l0 l1 0) else (some false)
theorem platformfwhelp_Equal_string.mono_l : ∀ k, (∀ y0 y1 y2, LeO (platformfwhelp_Equal_string.l0 k y0 y1 y2) (platformfwhelp_Equal_string.l0 (k + 1) y0 y1 y2))
 | 0 => fun _ _ _ r h => by simp [platformfwhelp_Equal_string.l0] at h
 | k + 1 => by
  have ih0 := platformfwhelp_Equal_string.mono_l k
  ·intro y0 y1 y2
   unfold platformfwhelp_Equal_string.l0
   repeat' first
   | (with_reducible exact ih0 _ _ _)
   | (with_reducible exact LeO.refl _)
   | (with_reducible exact LeO.none _)
   | (with_reducible refine LeO.ite ?_ ?_)
   | (with_reducible refine LeO.bind ?_ (fun _ => ?_))
   | exact ih0 _ _ _
   | exact LeO.none _
   | refine LeO.ite ?_ ?_
   | refine LeO.bind ?_ (fun _ => ?_)
theorem platformfwhelp_Equal_string.mono : ∀ a0 a1 k, LeO (platformfwhelp_Equal_string.f k a0 a1) (platformfwhelp_Equal_string.f (k + 1) a0 a1) := by
 intro a0 a1 k
 have ih0 := platformfwhelp_Equal_string.mono_l k
 unfold platformfwhelp_Equal_string.f
 repeat' first
   | (with_reducible exact ih0 _ _ _)
   | (with_reducible exact LeO.refl _)
   | (with_reducible exact LeO.none _)
   | (with_reducible refine LeO.ite ?_ ?_)
   | (with_reducible refine LeO.bind ?_ (fun _ => ?_))
   | exact ih0 _ _ _
   | exact LeO.none _
   | refine LeO.ite ?_ ?_
   | refine LeO.bind ?_ (fun _ => ?_)
set_option maxHeartbeats 8000000 in
set_option maxRecDepth 100000 in
theorem platformfwhelp_Equal_string.calls (k : Nat) (A0 : Option Addr) (c0 : Nat) (l0 : List ByteArray) (A1 : Option Addr) (c1 : Nat) (l1 : List ByteArray) (r : Bool) (w : World) (hr0 : Kd.C Kd.string w A0 l0.length l0) (hc0 : l0.length ≤ c0) (hr1 : Kd.C Kd.string w A1 l1.length l1) (hc1 : l1.length ≤ c1) (h : platformfwhelp_Equal_string.f k l0 l1 = some r) :
  Calls Tryd.prog 43 #[.slice A0 l0.length c0, .slice A1 l1.length c1] w fun e w' => e = .returned (.bool r) ∧ Drawn0 w w' := by
 have HR0 := Aside0.mk hr0
 have HC0 := Aside0.mk hc0
 clear hr0 hc0
 have HR1 := Aside0.mk hr1
 have HC1 := Aside0.mk hc1
 clear hr1 hc1
 have H : (if (l0.length : Int) = (l1.length : Int) then (platformfwhelp_Equal_string.l0 k l0 l1 0) else (some false)) = some r := h
 clear h
 by_cases c3 : (l0.length : Int) = (l1.length : Int)
 ·rw [if_pos c3] at H
  have c3b0 : ((l0.length : Int) == (l1.length : Int)) = true := beq_iff_eq.mpr c3
  have c3b1 : ((l0.length : Int) != (l1.length : Int)) = false := bne_eq_false_iff_eq.mpr c3
  have c3b2 : (l0.length == l1.length) = true := by first | simpa using c3 | (simp at c3 ⊢; omega)
  clear c3
  have H' := Aside0.mk H
  clear H
  go_enter Tryd.func43, Tryd.ntmps43
  go_wp2
  repeat (go_quiet (fail); try go_wp2)
  go_loopg [5] k (fun kq v5 w' => ∃ (x5_1 : Int), v5 = .int .i64 x5_1 ∧ Aside0 (platformfwhelp_Equal_string.l0 kq l0 l1 x5_1 = some r) ∧ Aside0 (kq ≤ k) ∧ Drawn0 w w')
  case atStart => exact ⟨(0), (by first | rfl | (simp; done) | (simp [*]; done)), H', ⟨Nat.le_refl _⟩, by repeat (first | exact Drawn0.refl _ | apply Drawn0.step)⟩
  case round =>
   clear H'
   try clear c1
   try clear p2
   try clear c3
   try clear c3b0
   try clear c3b1
   try clear c3b2
   obtain ⟨x5_1, rfl, HA, HK1, ⟨m1, rfl⟩⟩ := hrel
   cases gk with
   | zero => exact absurd HA.out (by simp [platformfwhelp_Equal_string.l0])
   | succ k1 =>
    have H := HA.out
    clear HA
    simp only [platformfwhelp_Equal_string.l0] at H
    by_cases c4 : x5_1 < (l0.length : Int)
    ·rw [if_pos c4] at H
     have c4b0 : decide (x5_1 < (l0.length : Int)) = true := decide_eq_true c4
     clear c4
     by_cases c5 : 0 ≤ x5_1
     ·rw [if_pos c5] at H
      have c5b0 : decide (0 ≤ x5_1) = true := decide_eq_true c5
      clear c5
      by_cases c6 : x5_1 < (l1.length : Int)
      ·rw [if_pos c6] at H
       have c6b0 : decide (x5_1 < (l1.length : Int)) = true := decide_eq_true c6
       clear c6
       by_cases c7 : (rdOf ByteArray.empty l0 x5_1).toList = (rdOf ByteArray.empty l1 x5_1).toList
       ·rw [if_pos c7] at H
        have c7b0 : ((rdOf ByteArray.empty l0 x5_1).toList == (rdOf ByteArray.empty l1 x5_1).toList) = true := beq_iff_eq.mpr c7
        have c7b1 : ((rdOf ByteArray.empty l0 x5_1).toList != (rdOf ByteArray.empty l1 x5_1).toList) = false := bne_eq_false_iff_eq.mpr c7
        clear c7
        have H' := Aside0.mk H
        clear H
        have p248 : 0 ≤ (x5_1 : Int) := of_decide_eq_true (by first | (with_reducible assumption) | assumption)
        have q248 : x5_1 < (l0.length : Int) := of_decide_eq_true (by first | (with_reducible assumption) | assumption)
        obtain ⟨ad248, e248, hx248_0⟩ := Kd.at_string HR0.out x5_1 p248 q248
        cases e248
        replace p248 := eq_true p248
        replace q248 := eq_true q248
        have p249 : 0 ≤ (x5_1 : Int) := of_decide_eq_true (by first | (with_reducible assumption) | assumption)
        have q249 : x5_1 < (l1.length : Int) := of_decide_eq_true (by first | (with_reducible assumption) | assumption)
        obtain ⟨ad249, e249, hx249_0⟩ := Kd.at_string HR1.out x5_1 p249 q249
        cases e249
        replace p249 := eq_true p249
        replace q249 := eq_true q249
        go_wp2
        repeat (go_quiet (fail); try go_wp2)
        go_roundg k1
        case measure => have := HK1.out; omega
        case rel => exact ⟨(wrap64 (x5_1 + 1)), (by first | rfl | (simp; done) | (simp [*]; done)), H', ⟨by have := HK1.out; omega⟩, by repeat (first | exact Drawn0.refl _ | apply Drawn0.step)⟩
       ·rw [if_neg c7] at H
        have c7b0 : ((rdOf ByteArray.empty l0 x5_1).toList == (rdOf ByteArray.empty l1 x5_1).toList) = false := beq_eq_false_iff_ne.mpr c7
        have c7b1 : ((rdOf ByteArray.empty l0 x5_1).toList != (rdOf ByteArray.empty l1 x5_1).toList) = true := bne_iff_ne.mpr c7
        obtain rfl := Option.some.inj H
        have p248 : 0 ≤ (x5_1 : Int) := of_decide_eq_true (by first | (with_reducible assumption) | assumption)
        have q248 : x5_1 < (l0.length : Int) := of_decide_eq_true (by first | (with_reducible assumption) | assumption)
        obtain ⟨ad248, e248, hx248_0⟩ := Kd.at_string HR0.out x5_1 p248 q248
        cases e248
        replace p248 := eq_true p248
        replace q248 := eq_true q248
        have p249 : 0 ≤ (x5_1 : Int) := of_decide_eq_true (by first | (with_reducible assumption) | assumption)
        have q249 : x5_1 < (l1.length : Int) := of_decide_eq_true (by first | (with_reducible assumption) | assumption)
        obtain ⟨ad249, e249, hx249_0⟩ := Kd.at_string HR1.out x5_1 p249 q249
        cases e249
        replace p249 := eq_true p249
        replace q249 := eq_true q249
        go_wp2
        repeat (go_quiet (fail); try go_wp2)
        go_ret
        exact ⟨by first | rfl | (simp; done) | (simp [*]; done), by repeat (first | exact Drawn0.refl _ | apply Drawn0.step)⟩
      ·rw [if_neg c6] at H
       exact absurd H (by simp)
     ·rw [if_neg c5] at H
      exact absurd H (by simp)
    ·rw [if_neg c4] at H
     have c4b0 : decide (x5_1 < (l0.length : Int)) = false := decide_eq_false c4
     clear c4
     obtain rfl := Option.some.inj H
     go_wp2
     repeat (go_quiet (fail); try go_wp2)
     go_ret
     exact ⟨by first | rfl | (simp; done) | (simp [*]; done), by repeat (first | exact Drawn0.refl _ | apply Drawn0.step)⟩
 ·rw [if_neg c3] at H
  have c3b0 : ((l0.length : Int) == (l1.length : Int)) = false := beq_eq_false_iff_ne.mpr c3
  have c3b1 : ((l0.length : Int) != (l1.length : Int)) = true := bne_iff_ne.mpr c3
  have c3b2 : (l0.length == l1.length) = false := by first | simpa using c3 | (simp at c3 ⊢; omega)
  obtain rfl := Option.some.inj H
  go_enter Tryd.func43, Tryd.ntmps43
  go_wp2
  repeat (go_quiet (fail); try go_wp2)
  go_ret
  exact ⟨by first | rfl | (simp; done) | (simp [*]; done), by repeat (first | exact Drawn0.refl _ | apply Drawn0.step)⟩

/-! ### platformfwlaw02_same: function 18 -/
def platformfwlaw02_same.f (k : Nat) (a0_0 : Bool) (a0_1 : Int) (l0_2 : List ByteArray) (a1_0 : Bool) (a1_1 : Int) (l1_2 : List ByteArray) : Option (Bool) := if (a0_0 == a1_0) = true then (if a0_1 = a1_1 then ((platformfwhelp_Equal_string.f k l0_2 l1_2).bind fun t252 => (some t252)) else (some false)) else (some false)
theorem platformfwlaw02_same.mono : ∀ a0 a1 a2 a3 a4 a5 k, LeO (platformfwlaw02_same.f k a0 a1 a2 a3 a4 a5) (platformfwlaw02_same.f (k + 1) a0 a1 a2 a3 a4 a5) := by
 intro a0 a1 a2 a3 a4 a5 k
 unfold platformfwlaw02_same.f
 repeat' first
   | (with_reducible exact platformfwhelp_Equal_string.mono _ _ _)
   | (with_reducible exact LeO.refl _)
   | (with_reducible exact LeO.none _)
   | (with_reducible refine LeO.ite ?_ ?_)
   | (with_reducible refine LeO.bind ?_ (fun _ => ?_))
   | exact platformfwhelp_Equal_string.mono _ _ _
   | exact LeO.none _
   | refine LeO.ite ?_ ?_
   | refine LeO.bind ?_ (fun _ => ?_)
set_option maxHeartbeats 8000000 in
set_option maxRecDepth 100000 in
theorem platformfwlaw02_same.calls (k : Nat) (a0_0 : Bool) (a0_1 : Int) (A0_2 : Option Addr) (c0_2 : Nat) (l0_2 : List ByteArray) (a1_0 : Bool) (a1_1 : Int) (A1_2 : Option Addr) (c1_2 : Nat) (l1_2 : List ByteArray) (r : Bool) (w : World) (hr0_2 : Kd.C Kd.string w A0_2 l0_2.length l0_2) (hc0_2 : l0_2.length ≤ c0_2) (hr1_2 : Kd.C Kd.string w A1_2 l1_2.length l1_2) (hc1_2 : l1_2.length ≤ c1_2) (h : platformfwlaw02_same.f k a0_0 a0_1 l0_2 a1_0 a1_1 l1_2 = some r) :
  Calls Tryd.prog 18 #[.agg #[.bool a0_0, .int .i64 a0_1, .slice A0_2 l0_2.length c0_2], .agg #[.bool a1_0, .int .i64 a1_1, .slice A1_2 l1_2.length c1_2]] w fun e w' => e = .returned (.bool r) ∧ Below w.heap.size w w' := by
 have hu24 := Tryd.underlying24
 have HR0_2 := Aside0.mk hr0_2
 have HC0_2 := Aside0.mk hc0_2
 clear hr0_2 hc0_2
 have HR1_2 := Aside0.mk hr1_2
 have HC1_2 := Aside0.mk hc1_2
 clear hr1_2 hc1_2
 have HB := Aside0.mk (Below.refl w.heap.size w)
 have H : (if (a0_0 == a1_0) = true then (if a0_1 = a1_1 then ((platformfwhelp_Equal_string.f k l0_2 l1_2).bind fun t252 => (some t252)) else (some false)) else (some false)) = some r := h
 clear h
 by_cases c3 : (a0_0 == a1_0) = true
 ·rw [if_pos c3] at H
  have c3b0 : (a0_0 == a1_0) = true := c3
  (try (have c3b1 : decide (a0_0 = a1_0) = true := by simpa using c3))
  (try (have c3b2 : (a0_0 == a1_0) = true := by simpa using c3))
  clear c3
  by_cases c4 : a0_1 = a1_1
  ·rw [if_pos c4] at H
   have c4b0 : (a0_1 == a1_1) = true := beq_iff_eq.mpr c4
   have c4b1 : (a0_1 != a1_1) = false := bne_eq_false_iff_eq.mpr c4
   clear c4
   replace H := Option.bind_eq_some_iff.mp H
   obtain ⟨t252, A50, H⟩ := H
   replace H : (some t252) = some r := H
   have A5 := Aside0.mk A50
   clear A50
   obtain rfl := Option.some.inj H
   go_enter Tryd.func18, Tryd.ntmps18
   go_wp2_with (first | ((with_reducible refine gate_dst (N := 2) rfl ?_); refine box_event ?hg (N := 2) ?hd (cs := #[.bool a0_0, .int .i64 a0_1, .slice A0_2 l0_2.length c0_2]) (t := 24) ?hr ?_; (case hd => rfl); (case hg => rfl); (case hr => first | (go_simp; done) | (go_simp; rfl)); intro gb250 hg w6 hbox hb; have n0_ := Aside0.mk (below_step (by repeat (first | (with_reducible first | exact HB.out | apply bA_ | apply bN_ | apply bD_) | exact HB.out)) hb); have n1_ := Aside0.mk (hbox); have n2_ := Aside0.mk ((by rw [hg]; exact (below_size (by repeat (first | (with_reducible first | exact HB.out | apply bA_ | apply bN_ | apply bD_) | exact HB.out))) : w.heap.size ≤ gb250)); have n3_ := Aside0.mk ((by rw [hg]; exact (below_size (by repeat (first | (with_reducible first | exact HB.out | apply bA_ | apply bN_ | apply bD_) | exact HB.out))) : w.heap.size ≤ gb250)); clear HB; have HB := n0_; have BK250 := n1_; have GW250 := n2_; have GE250 := n3_; clear n0_ n1_ n2_ n3_; clear hb hbox hg) | ((with_reducible refine gate_dst (N := 3) rfl ?_); refine box_event ?hg (N := 3) ?hd (cs := #[.bool a1_0, .int .i64 a1_1, .slice A1_2 l1_2.length c1_2]) (t := 24) ?hr ?_; (case hd => rfl); (case hg => rfl); (case hr => first | (go_simp; done) | (go_simp; rfl)); intro gb251 hg w7 hbox hb; have n0_ := Aside0.mk (blk_below (g := gb250) (o := .cells #[.bool a0_0, .int .i64 a0_1, .slice A0_2 l0_2.length c0_2] 24 (0, 0)) (by (with_reducible repeat (first | refine kN_ ?_ _ | refine kD_ ?_ | refine kA_ ?_ _)); exact BK250.out) hb); have n1_ := Aside0.mk (below_step (by repeat (first | (with_reducible first | exact HB.out | apply bA_ | apply bN_ | apply bD_ | refine bS_ ?_ GE250.out) | exact HB.out)) hb); have n2_ := Aside0.mk (hbox); have n3_ := Aside0.mk ((by rw [hg]; exact (below_size (by repeat (first | (with_reducible first | exact HB.out | apply bA_ | apply bN_ | apply bD_ | refine bS_ ?_ GE250.out) | exact HB.out))) : w.heap.size ≤ gb251)); have n4_ := Aside0.mk ((by rw [hg]; exact (below_size (by repeat (first | (with_reducible first | exact HB.out | apply bA_ | apply bN_ | apply bD_ | refine bS_ ?_ GE250.out) | exact HB.out))) : w.heap.size ≤ gb251)); have n5_ := Aside0.mk ((by rw [hg]; exact Nat.ne_of_lt (blk_lt (g := gb250) (o := .cells #[.bool a0_0, .int .i64 a0_1, .slice A0_2 l0_2.length c0_2] 24 (0, 0)) (by (with_reducible repeat (first | refine kN_ ?_ _ | refine kD_ ?_ | refine kA_ ?_ _)); exact BK250.out)) : gb250 ≠ gb251)); have n6_ := Aside0.mk ((by rw [hg]; exact Nat.ne_of_gt (blk_lt (g := gb250) (o := .cells #[.bool a0_0, .int .i64 a0_1, .slice A0_2 l0_2.length c0_2] 24 (0, 0)) (by (with_reducible repeat (first | refine kN_ ?_ _ | refine kD_ ?_ | refine kA_ ?_ _)); exact BK250.out)) : gb251 ≠ gb250)); clear BK250; clear HB; have BK250 := n0_; have HB := n1_; have BK251 := n2_; have GW251 := n3_; have GE251 := n4_; have NB250_251 := n5_; have NB251_250 := n6_; clear n0_ n1_ n2_ n3_ n4_ n5_ n6_; clear hb hbox hg; have hnb8 := NB250_251.out; have hnc8 := NB251_250.out; obtain ⟨hcz9_0, hcz9_1, hcz9_2⟩ := cells3_ BK250.out; obtain ⟨hfz9_0, hfz9_1, hfz9_2⟩ := froz3_ BK250.out; obtain ⟨hcz10_0, hcz10_1, hcz10_2⟩ := cells3_ BK251.out; obtain ⟨hfz10_0, hfz10_1, hfz10_2⟩ := froz3_ BK251.out) | (go_at_call 43; (with_reducible refine (platformfwhelp_Equal_string.calls k _ _ l0_2 _ _ l1_2 t252 _ ?side1 ?side2 ?side3 ?side4 A5.out).mono ?_); (case side1 => repeat (first | exact (Kd.C_below HR0_2.out HB.out) | (with_reducible refine Kd.C_alloc ?_ _) | (with_reducible refine Kd.C_drewN ?_ _) | (with_reducible refine Kd.C_drew ?_))); (case side2 => exact HC0_2.out); (case side3 => repeat (first | exact (Kd.C_below HR1_2.out HB.out) | (with_reducible refine Kd.C_alloc ?_ _) | (with_reducible refine Kd.C_drewN ?_ _) | (with_reducible refine Kd.C_drew ?_))); (case side4 => exact HC1_2.out); rintro e w' ⟨rfl, ⟨nd, rfl⟩⟩))
   go_ret
   exact ⟨by first | rfl | (simp [errW_none, errW_some] <;> rfl) | (simp [*, errW_none, errW_some] <;> rfl), by repeat (first | (with_reducible first | exact HB.out | apply bA_ | apply bN_ | apply bD_ | refine bS_ ?_ GE250.out | refine bS_ ?_ GE251.out) | exact HB.out)⟩
  ·rw [if_neg c4] at H
   have c4b0 : (a0_1 == a1_1) = false := beq_eq_false_iff_ne.mpr c4
   have c4b1 : (a0_1 != a1_1) = true := bne_iff_ne.mpr c4
   obtain rfl := Option.some.inj H
   go_enter Tryd.func18, Tryd.ntmps18
   go_wp2_with (first | ((with_reducible refine gate_dst (N := 2) rfl ?_); refine box_event ?hg (N := 2) ?hd (cs := #[.bool a0_0, .int .i64 a0_1, .slice A0_2 l0_2.length c0_2]) (t := 24) ?hr ?_; (case hd => rfl); (case hg => rfl); (case hr => first | (go_simp; done) | (go_simp; rfl)); intro gb250 hg w11 hbox hb; have n0_ := Aside0.mk (below_step (by repeat (first | (with_reducible first | exact HB.out | apply bA_ | apply bN_ | apply bD_) | exact HB.out)) hb); have n1_ := Aside0.mk (hbox); have n2_ := Aside0.mk ((by rw [hg]; exact (below_size (by repeat (first | (with_reducible first | exact HB.out | apply bA_ | apply bN_ | apply bD_) | exact HB.out))) : w.heap.size ≤ gb250)); have n3_ := Aside0.mk ((by rw [hg]; exact (below_size (by repeat (first | (with_reducible first | exact HB.out | apply bA_ | apply bN_ | apply bD_) | exact HB.out))) : w.heap.size ≤ gb250)); clear HB; have HB := n0_; have BK250 := n1_; have GW250 := n2_; have GE250 := n3_; clear n0_ n1_ n2_ n3_; clear hb hbox hg) | ((with_reducible refine gate_dst (N := 3) rfl ?_); refine box_event ?hg (N := 3) ?hd (cs := #[.bool a1_0, .int .i64 a1_1, .slice A1_2 l1_2.length c1_2]) (t := 24) ?hr ?_; (case hd => rfl); (case hg => rfl); (case hr => first | (go_simp; done) | (go_simp; rfl)); intro gb251 hg w12 hbox hb; have n0_ := Aside0.mk (blk_below (g := gb250) (o := .cells #[.bool a0_0, .int .i64 a0_1, .slice A0_2 l0_2.length c0_2] 24 (0, 0)) (by (with_reducible repeat (first | refine kN_ ?_ _ | refine kD_ ?_ | refine kA_ ?_ _)); exact BK250.out) hb); have n1_ := Aside0.mk (below_step (by repeat (first | (with_reducible first | exact HB.out | apply bA_ | apply bN_ | apply bD_ | refine bS_ ?_ GE250.out) | exact HB.out)) hb); have n2_ := Aside0.mk (hbox); have n3_ := Aside0.mk ((by rw [hg]; exact (below_size (by repeat (first | (with_reducible first | exact HB.out | apply bA_ | apply bN_ | apply bD_ | refine bS_ ?_ GE250.out) | exact HB.out))) : w.heap.size ≤ gb251)); have n4_ := Aside0.mk ((by rw [hg]; exact (below_size (by repeat (first | (with_reducible first | exact HB.out | apply bA_ | apply bN_ | apply bD_ | refine bS_ ?_ GE250.out) | exact HB.out))) : w.heap.size ≤ gb251)); have n5_ := Aside0.mk ((by rw [hg]; exact Nat.ne_of_lt (blk_lt (g := gb250) (o := .cells #[.bool a0_0, .int .i64 a0_1, .slice A0_2 l0_2.length c0_2] 24 (0, 0)) (by (with_reducible repeat (first | refine kN_ ?_ _ | refine kD_ ?_ | refine kA_ ?_ _)); exact BK250.out)) : gb250 ≠ gb251)); have n6_ := Aside0.mk ((by rw [hg]; exact Nat.ne_of_gt (blk_lt (g := gb250) (o := .cells #[.bool a0_0, .int .i64 a0_1, .slice A0_2 l0_2.length c0_2] 24 (0, 0)) (by (with_reducible repeat (first | refine kN_ ?_ _ | refine kD_ ?_ | refine kA_ ?_ _)); exact BK250.out)) : gb251 ≠ gb250)); clear BK250; clear HB; have BK250 := n0_; have HB := n1_; have BK251 := n2_; have GW251 := n3_; have GE251 := n4_; have NB250_251 := n5_; have NB251_250 := n6_; clear n0_ n1_ n2_ n3_ n4_ n5_ n6_; clear hb hbox hg; have hnb13 := NB250_251.out; have hnc13 := NB251_250.out; obtain ⟨hcz14_0, hcz14_1, hcz14_2⟩ := cells3_ BK250.out; obtain ⟨hfz14_0, hfz14_1, hfz14_2⟩ := froz3_ BK250.out; obtain ⟨hcz15_0, hcz15_1, hcz15_2⟩ := cells3_ BK251.out; obtain ⟨hfz15_0, hfz15_1, hfz15_2⟩ := froz3_ BK251.out))
   go_ret
   exact ⟨by first | rfl | (simp [errW_none, errW_some] <;> rfl) | (simp [*, errW_none, errW_some] <;> rfl), by repeat (first | (with_reducible first | exact HB.out | apply bA_ | apply bN_ | apply bD_ | refine bS_ ?_ GE250.out | refine bS_ ?_ GE251.out) | exact HB.out)⟩
 ·rw [if_neg c3] at H
  have c3b0 : (a0_0 == a1_0) = false := by simpa using c3
  (try (have c3b1 : decide (a0_0 = a1_0) = false := by simpa using c3))
  (try (have c3b2 : (a0_0 == a1_0) = false := by simpa using c3))
  (try (have c3b3 : ¬ (a0_0 = a1_0) := by simpa using c3))
  clear c3
  obtain rfl := Option.some.inj H
  go_enter Tryd.func18, Tryd.ntmps18
  go_wp2_with (first | ((with_reducible refine gate_dst (N := 2) rfl ?_); refine box_event ?hg (N := 2) ?hd (cs := #[.bool a0_0, .int .i64 a0_1, .slice A0_2 l0_2.length c0_2]) (t := 24) ?hr ?_; (case hd => rfl); (case hg => rfl); (case hr => first | (go_simp; done) | (go_simp; rfl)); intro gb250 hg w16 hbox hb; have n0_ := Aside0.mk (below_step (by repeat (first | (with_reducible first | exact HB.out | apply bA_ | apply bN_ | apply bD_) | exact HB.out)) hb); have n1_ := Aside0.mk (hbox); have n2_ := Aside0.mk ((by rw [hg]; exact (below_size (by repeat (first | (with_reducible first | exact HB.out | apply bA_ | apply bN_ | apply bD_) | exact HB.out))) : w.heap.size ≤ gb250)); have n3_ := Aside0.mk ((by rw [hg]; exact (below_size (by repeat (first | (with_reducible first | exact HB.out | apply bA_ | apply bN_ | apply bD_) | exact HB.out))) : w.heap.size ≤ gb250)); clear HB; have HB := n0_; have BK250 := n1_; have GW250 := n2_; have GE250 := n3_; clear n0_ n1_ n2_ n3_; clear hb hbox hg) | ((with_reducible refine gate_dst (N := 3) rfl ?_); refine box_event ?hg (N := 3) ?hd (cs := #[.bool a1_0, .int .i64 a1_1, .slice A1_2 l1_2.length c1_2]) (t := 24) ?hr ?_; (case hd => rfl); (case hg => rfl); (case hr => first | (go_simp; done) | (go_simp; rfl)); intro gb251 hg w17 hbox hb; have n0_ := Aside0.mk (blk_below (g := gb250) (o := .cells #[.bool a0_0, .int .i64 a0_1, .slice A0_2 l0_2.length c0_2] 24 (0, 0)) (by (with_reducible repeat (first | refine kN_ ?_ _ | refine kD_ ?_ | refine kA_ ?_ _)); exact BK250.out) hb); have n1_ := Aside0.mk (below_step (by repeat (first | (with_reducible first | exact HB.out | apply bA_ | apply bN_ | apply bD_ | refine bS_ ?_ GE250.out) | exact HB.out)) hb); have n2_ := Aside0.mk (hbox); have n3_ := Aside0.mk ((by rw [hg]; exact (below_size (by repeat (first | (with_reducible first | exact HB.out | apply bA_ | apply bN_ | apply bD_ | refine bS_ ?_ GE250.out) | exact HB.out))) : w.heap.size ≤ gb251)); have n4_ := Aside0.mk ((by rw [hg]; exact (below_size (by repeat (first | (with_reducible first | exact HB.out | apply bA_ | apply bN_ | apply bD_ | refine bS_ ?_ GE250.out) | exact HB.out))) : w.heap.size ≤ gb251)); have n5_ := Aside0.mk ((by rw [hg]; exact Nat.ne_of_lt (blk_lt (g := gb250) (o := .cells #[.bool a0_0, .int .i64 a0_1, .slice A0_2 l0_2.length c0_2] 24 (0, 0)) (by (with_reducible repeat (first | refine kN_ ?_ _ | refine kD_ ?_ | refine kA_ ?_ _)); exact BK250.out)) : gb250 ≠ gb251)); have n6_ := Aside0.mk ((by rw [hg]; exact Nat.ne_of_gt (blk_lt (g := gb250) (o := .cells #[.bool a0_0, .int .i64 a0_1, .slice A0_2 l0_2.length c0_2] 24 (0, 0)) (by (with_reducible repeat (first | refine kN_ ?_ _ | refine kD_ ?_ | refine kA_ ?_ _)); exact BK250.out)) : gb251 ≠ gb250)); clear BK250; clear HB; have BK250 := n0_; have HB := n1_; have BK251 := n2_; have GW251 := n3_; have GE251 := n4_; have NB250_251 := n5_; have NB251_250 := n6_; clear n0_ n1_ n2_ n3_ n4_ n5_ n6_; clear hb hbox hg; have hnb18 := NB250_251.out; have hnc18 := NB251_250.out; obtain ⟨hcz19_0, hcz19_1, hcz19_2⟩ := cells3_ BK250.out; obtain ⟨hfz19_0, hfz19_1, hfz19_2⟩ := froz3_ BK250.out; obtain ⟨hcz20_0, hcz20_1, hcz20_2⟩ := cells3_ BK251.out; obtain ⟨hfz20_0, hfz20_1, hfz20_2⟩ := froz3_ BK251.out))
  go_ret
  exact ⟨by first | rfl | (simp [errW_none, errW_some] <;> rfl) | (simp [*, errW_none, errW_some] <;> rfl), by repeat (first | (with_reducible first | exact HB.out | apply bA_ | apply bN_ | apply bD_ | refine bS_ ?_ GE250.out | refine bS_ ?_ GE251.out) | exact HB.out)⟩

/-! ### platformfwlaw02_NspathRoundTrip: function 5 -/
def platformfwlaw02_NspathRoundTrip.f (k : Nat) (a0_0 : Bool) (a0_1 : Int) (l0_2 : List ByteArray) : Option (Bool) := (platformfwlaw02_path.f k a0_0 a0_1 l0_2).bind fun bt254 => ((platformfwref01_ValidPath.f k bt254.1 bt254.2.1 bt254.2.2).bind fun t260 => (if t260 = true then ((nspath_Format.f bt254.1 bt254.2.1 bt254.2.2).bind fun t262 => ((nspath_Parse.f k t262).bind fun bt263 => ((platformfwlaw02_awake.f k).bind fun t270 => (if t270 = true then (if bt263.2.2.2 = true then ((platformfwlaw02_same.f k bt263.1 bt263.2.1 bt263.2.2.1 bt254.1 bt254.2.1 bt254.2.2).bind fun t271 => (some t271)) else (some false)) else (some false))))) else ((platformfwlaw02_awake.f k).bind fun t261 => (some t261))))
theorem platformfwlaw02_NspathRoundTrip.mono : ∀ a0 a1 a2 k, LeO (platformfwlaw02_NspathRoundTrip.f k a0 a1 a2) (platformfwlaw02_NspathRoundTrip.f (k + 1) a0 a1 a2) := by
 intro a0 a1 a2 k
 unfold platformfwlaw02_NspathRoundTrip.f
 repeat' first
   | (with_reducible exact nspath_Parse.mono _ _)
   | (with_reducible exact platformfwlaw02_awake.mono _)
   | (with_reducible exact platformfwlaw02_path.mono _ _ _ _)
   | (with_reducible exact platformfwlaw02_same.mono _ _ _ _ _ _ _)
   | (with_reducible exact platformfwref01_ValidPath.mono _ _ _ _)
   | (with_reducible exact LeO.refl _)
   | (with_reducible exact LeO.none _)
   | (with_reducible refine LeO.ite ?_ ?_)
   | (with_reducible refine LeO.bind ?_ (fun _ => ?_))
   | exact nspath_Parse.mono _ _
   | exact platformfwlaw02_awake.mono _
   | exact platformfwlaw02_path.mono _ _ _ _
   | exact platformfwlaw02_same.mono _ _ _ _ _ _ _
   | exact platformfwref01_ValidPath.mono _ _ _ _
   | exact LeO.none _
   | refine LeO.ite ?_ ?_
   | refine LeO.bind ?_ (fun _ => ?_)
set_option maxHeartbeats 8000000 in
set_option maxRecDepth 100000 in
theorem platformfwlaw02_NspathRoundTrip.calls (k : Nat) (a0_0 : Bool) (a0_1 : Int) (A0_2 : Option Addr) (c0_2 : Nat) (l0_2 : List ByteArray) (r : Bool) (w : World) (hr0_2 : Kd.C Kd.string w A0_2 l0_2.length l0_2) (hc0_2 : l0_2.length ≤ c0_2) (hr_ : Aside0 (r = true)) (h : platformfwlaw02_NspathRoundTrip.f k a0_0 a0_1 l0_2 = some r) :
  Calls Tryd.prog 5 #[.agg #[.bool a0_0, .int .i64 a0_1, .slice A0_2 l0_2.length c0_2]] w fun e w' => e = .returned (.bool r) ∧ Below w.heap.size w w' := by
 have hu24 := Tryd.underlying24
 have HR0_2 := Aside0.mk hr0_2
 have HC0_2 := Aside0.mk hc0_2
 clear hr0_2 hc0_2
 have HB := Aside0.mk (Below.refl w.heap.size w)
 have H : ((platformfwlaw02_path.f k a0_0 a0_1 l0_2).bind fun bt254 => ((platformfwref01_ValidPath.f k bt254.1 bt254.2.1 bt254.2.2).bind fun t260 => (if t260 = true then ((nspath_Format.f bt254.1 bt254.2.1 bt254.2.2).bind fun t262 => ((nspath_Parse.f k t262).bind fun bt263 => ((platformfwlaw02_awake.f k).bind fun t270 => (if t270 = true then (if bt263.2.2.2 = true then ((platformfwlaw02_same.f k bt263.1 bt263.2.1 bt263.2.2.1 bt254.1 bt254.2.1 bt254.2.2).bind fun t271 => (some t271)) else (some false)) else (some false))))) else ((platformfwlaw02_awake.f k).bind fun t261 => (some t261))))) = some r := h
 clear h
 replace H := Option.bind_eq_some_iff.mp H
 obtain ⟨⟨t254, t255, t256⟩, A20, H⟩ := H
 replace H : ((platformfwref01_ValidPath.f k t254 t255 t256).bind fun t260 => (if t260 = true then ((nspath_Format.f t254 t255 t256).bind fun t262 => ((nspath_Parse.f k t262).bind fun bt263 => ((platformfwlaw02_awake.f k).bind fun t270 => (if t270 = true then (if bt263.2.2.2 = true then ((platformfwlaw02_same.f k bt263.1 bt263.2.1 bt263.2.2.1 t254 t255 t256).bind fun t271 => (some t271)) else (some false)) else (some false))))) else ((platformfwlaw02_awake.f k).bind fun t261 => (some t261)))) = some r := H
 have A2 := Aside0.mk A20
 clear A20
 replace H := Option.bind_eq_some_iff.mp H
 obtain ⟨t260, A30, H⟩ := H
 replace H : (if t260 = true then ((nspath_Format.f t254 t255 t256).bind fun t262 => ((nspath_Parse.f k t262).bind fun bt263 => ((platformfwlaw02_awake.f k).bind fun t270 => (if t270 = true then (if bt263.2.2.2 = true then ((platformfwlaw02_same.f k bt263.1 bt263.2.1 bt263.2.2.1 t254 t255 t256).bind fun t271 => (some t271)) else (some false)) else (some false))))) else ((platformfwlaw02_awake.f k).bind fun t261 => (some t261))) = some r := H
 have A3 := Aside0.mk A30
 clear A30
 by_cases c4 : t260 = true
 ·subst c4
  have H1 : ((nspath_Format.f t254 t255 t256).bind fun t262 => ((nspath_Parse.f k t262).bind fun bt263 => ((platformfwlaw02_awake.f k).bind fun t270 => (if t270 = true then (if bt263.2.2.2 = true then ((platformfwlaw02_same.f k bt263.1 bt263.2.1 bt263.2.2.1 t254 t255 t256).bind fun t271 => (some t271)) else (some false)) else (some false))))) = some r := by rw [if_pos rfl] at H; exact H
  clear H
  have H := H1
  clear H1
  replace H := Option.bind_eq_some_iff.mp H
  obtain ⟨t262, A50, H⟩ := H
  replace H : ((nspath_Parse.f k t262).bind fun bt263 => ((platformfwlaw02_awake.f k).bind fun t270 => (if t270 = true then (if bt263.2.2.2 = true then ((platformfwlaw02_same.f k bt263.1 bt263.2.1 bt263.2.2.1 t254 t255 t256).bind fun t271 => (some t271)) else (some false)) else (some false)))) = some r := H
  have A5 := Aside0.mk A50
  clear A50
  replace H := Option.bind_eq_some_iff.mp H
  obtain ⟨⟨t263, t264, t265, t268⟩, A60, H⟩ := H
  replace H : ((platformfwlaw02_awake.f k).bind fun t270 => (if t270 = true then (if t268 = true then ((platformfwlaw02_same.f k t263 t264 t265 t254 t255 t256).bind fun t271 => (some t271)) else (some false)) else (some false))) = some r := H
  have A6 := Aside0.mk A60
  clear A60
  replace H := Option.bind_eq_some_iff.mp H
  obtain ⟨t270, A70, H⟩ := H
  replace H : (if t270 = true then (if t268 = true then ((platformfwlaw02_same.f k t263 t264 t265 t254 t255 t256).bind fun t271 => (some t271)) else (some false)) else (some false)) = some r := H
  have A7 := Aside0.mk A70
  clear A70
  by_cases c8 : t270 = true
  ·subst c8
   have H1 : (if t268 = true then ((platformfwlaw02_same.f k t263 t264 t265 t254 t255 t256).bind fun t271 => (some t271)) else (some false)) = some r := by rw [if_pos rfl] at H; exact H
   clear H
   have H := H1
   clear H1
   by_cases c9 : t268 = true
   ·subst c9
    have H1 : ((platformfwlaw02_same.f k t263 t264 t265 t254 t255 t256).bind fun t271 => (some t271)) = some r := by rw [if_pos rfl] at H; exact H
    clear H
    have H := H1
    clear H1
    replace H := Option.bind_eq_some_iff.mp H
    obtain ⟨t271, A100, H⟩ := H
    replace H : (some t271) = some r := H
    have A10 := Aside0.mk A100
    clear A100
    obtain rfl := Option.some.inj H
    go_enter Tryd.func5, Tryd.ntmps5
    go_wp2_with (first | ((with_reducible refine gate_dst (N := 1) rfl ?_); refine box_event ?hg (N := 1) ?hd (cs := #[.bool a0_0, .int .i64 a0_1, .slice A0_2 l0_2.length c0_2]) (t := 24) ?hr ?_; (case hd => rfl); (case hg => rfl); (case hr => first | (go_simp; done) | (go_simp; rfl)); intro gb253 hg w11 hbox hb; have n0_ := Aside0.mk (below_step (by repeat (first | (with_reducible first | exact HB.out | apply bA_ | apply bN_ | apply bD_) | exact HB.out)) hb); have n1_ := Aside0.mk (hbox); have n2_ := Aside0.mk ((by rw [hg]; exact (below_size (by repeat (first | (with_reducible first | exact HB.out | apply bA_ | apply bN_ | apply bD_) | exact HB.out))) : w.heap.size ≤ gb253)); have n3_ := Aside0.mk ((by rw [hg]; exact (below_size (by repeat (first | (with_reducible first | exact HB.out | apply bA_ | apply bN_ | apply bD_) | exact HB.out))) : w.heap.size ≤ gb253)); clear HB; have HB := n0_; have BK253 := n1_; have GW253 := n2_; have GE253 := n3_; clear n0_ n1_ n2_ n3_; clear hb hbox hg; obtain ⟨hcz12_0, hcz12_1, hcz12_2⟩ := cells3_ BK253.out; obtain ⟨hfz12_0, hfz12_1, hfz12_2⟩ := froz3_ BK253.out) | ((with_reducible refine gate_callee (f := 13) rfl ?_); refine goesL_ (some 7) rfl rfl Tryd.func13 (by kernel_rfl) rfl #[.agg #[.bool a0_0, .int .i64 a0_1, .slice A0_2 l0_2.length c0_2]] rfl (by (try simp only [List.map_toArray, List.map_cons, List.map_nil]); first | done | rfl | (simp only [List.length_drop, List.length_take]; rfl)) ?_; (with_reducible refine (platformfwlaw02_path.calls k a0_0 a0_1 _ _ l0_2 t254 t255 t256 _ ?side1 ?side2 A2.out).mono ?_); (case side1 => repeat (first | exact (Kd.C_below HR0_2.out HB.out) | (with_reducible refine Kd.C_alloc ?_ _) | (with_reducible refine Kd.C_drewN ?_ _) | (with_reducible refine Kd.C_drew ?_))); (case side2 => exact HC0_2.out); rintro e w13 ⟨v257, rfl, ho0, hb⟩; refine ⟨_, rfl, ?_⟩; have n0_ := Aside0.mk (Kd.R_lower ho0 (below_size (by repeat (first | (with_reducible first | exact HB.out | apply bA_ | apply bN_ | apply bD_ | refine bS_ ?_ GE253.out) | exact HB.out)))); have n1_ := Aside0.mk (blk_below (g := gb253) (o := .cells #[.bool a0_0, .int .i64 a0_1, .slice A0_2 l0_2.length c0_2] 24 (0, 0)) (by (with_reducible repeat (first | refine kN_ ?_ _ | refine kD_ ?_ | refine kA_ ?_ _)); exact BK253.out) hb); have n2_ := Aside0.mk (below_step (by repeat (first | (with_reducible first | exact HB.out | apply bA_ | apply bN_ | apply bD_ | refine bS_ ?_ GE253.out) | exact HB.out)) hb); clear BK253; clear HB; have HO258 := n0_; have BK253 := n1_; have HB := n2_; clear n0_ n1_ n2_; (try clear hb); (try clear hb2); (try clear hk); (try clear hi); (try clear ho0)) | ((with_reducible refine gate_dst (N := 3) rfl ?_); refine box_event ?hg (N := 3) ?hd (cs := #[.bool false, .int .i64 0, .slice none 0 0]) (t := 24) ?hr ?_; (case hd => rfl); (case hg => rfl); (case hr => first | (go_simp; done) | (go_simp; rfl)); intro gb259 hg w14 hbox hb; have n0_ := Aside0.mk (Kd.R_below (by (with_reducible repeat (first | apply Kd.R_alloc | apply Kd.R_drewN | apply Kd.R_drew)); exact HO258.out) hb); have n1_ := Aside0.mk (blk_below (g := gb253) (o := .cells #[.bool a0_0, .int .i64 a0_1, .slice A0_2 l0_2.length c0_2] 24 (0, 0)) (by (with_reducible repeat (first | refine kN_ ?_ _ | refine kD_ ?_ | refine kA_ ?_ _)); exact BK253.out) hb); have n2_ := Aside0.mk (below_step (by repeat (first | (with_reducible first | exact HB.out | apply bA_ | apply bN_ | apply bD_ | refine bS_ ?_ GE253.out) | exact HB.out)) hb); have n3_ := Aside0.mk (hbox); have n4_ := Aside0.mk ((by rw [hg]; exact (below_size (by repeat (first | (with_reducible first | exact HB.out | apply bA_ | apply bN_ | apply bD_ | refine bS_ ?_ GE253.out) | exact HB.out))) : w.heap.size ≤ gb259)); have n5_ := Aside0.mk ((by rw [hg]; exact (below_size (by repeat (first | (with_reducible first | exact HB.out | apply bA_ | apply bN_ | apply bD_ | refine bS_ ?_ GE253.out) | exact HB.out))) : w.heap.size ≤ gb259)); have n6_ := Aside0.mk ((by rw [hg]; exact Nat.ne_of_lt (blk_lt (g := gb253) (o := .cells #[.bool a0_0, .int .i64 a0_1, .slice A0_2 l0_2.length c0_2] 24 (0, 0)) (by (with_reducible repeat (first | refine kN_ ?_ _ | refine kD_ ?_ | refine kA_ ?_ _)); exact BK253.out)) : gb253 ≠ gb259)); have n7_ := Aside0.mk ((by rw [hg]; exact Nat.ne_of_gt (blk_lt (g := gb253) (o := .cells #[.bool a0_0, .int .i64 a0_1, .slice A0_2 l0_2.length c0_2] 24 (0, 0)) (by (with_reducible repeat (first | refine kN_ ?_ _ | refine kD_ ?_ | refine kA_ ?_ _)); exact BK253.out)) : gb259 ≠ gb253)); clear HO258; clear BK253; clear HB; have HO258 := n0_; have BK253 := n1_; have HB := n2_; have BK259 := n3_; have GW259 := n4_; have GE259 := n5_; have NB253_259 := n6_; have NB259_253 := n7_; clear n0_ n1_ n2_ n3_ n4_ n5_ n6_ n7_; clear hb hbox hg; have hnb15 := NB259_253.out; have hnc15 := NB253_259.out; obtain ⟨hcz16_0, hcz16_1, hcz16_2⟩ := cells3_ BK259.out; obtain ⟨hfz16_0, hfz16_1, hfz16_2⟩ := froz3_ BK259.out; obtain ⟨Ao17, co17, eo17⟩ := Kd.R_slice HO258.out; subst eo17) | ((with_reducible refine gate_callee (f := 15) rfl ?_); refine goesL_ (some 9) rfl rfl Tryd.func15 (by kernel_rfl) rfl #[.agg #[.bool t254, .int .i64 t255, .slice Ao17 t256.length co17]] rfl (by (try simp only [List.map_toArray, List.map_cons, List.map_nil]); first | done | rfl | (simp only [List.length_drop, List.length_take]; rfl)) ?_; (with_reducible refine (platformfwref01_ValidPath.calls k t254 t255 _ _ t256 true _ ?side1 ?side2 A3.out).mono ?_); (case side1 => refine (Kd.R_reads' (e := 9) (base := w.heap.size) (ok := fun k_ => True) (n := t256.length) (c := co17) ?_).2.2; exact (by (with_reducible repeat (first | apply Kd.R_alloc | apply Kd.R_drewN | apply Kd.R_drew)); exact (Kd.R_mono (Kd.R_far (p := ⟨gb259, 2, none⟩) (Kd.R_far (p := ⟨gb259, 1, none⟩) (Kd.R_far (p := ⟨gb259, 0, none⟩) (Kd.R_types HO258.out BK259.out (by decide)) (fun _ hk => hk.2) (.bool t254)) (fun _ hk => hk.2) (.int .i64 t255)) (fun _ hk => hk.2) (.slice Ao17 t256.length co17)) (fun _ h_ => h_.1)))); (case side2 => exact (Kd.R_reads' HO258.out).2.1); rintro e w18 ⟨rfl, hb⟩; refine ⟨_, rfl, ?_⟩; have n0_ := Aside0.mk (Kd.R_below (by (with_reducible repeat (first | apply Kd.R_alloc | apply Kd.R_drewN | apply Kd.R_drew)); exact (Kd.R_mono (Kd.R_far (p := ⟨gb259, 2, none⟩) (Kd.R_far (p := ⟨gb259, 1, none⟩) (Kd.R_far (p := ⟨gb259, 0, none⟩) (Kd.R_types HO258.out BK259.out (by decide)) (fun _ hk => hk.2) (.bool t254)) (fun _ hk => hk.2) (.int .i64 t255)) (fun _ hk => hk.2) (.slice Ao17 t256.length co17)) (fun _ h_ => h_.1))) hb); have n1_ := Aside0.mk (blk_below (g := gb253) (o := .cells #[.bool a0_0, .int .i64 a0_1, .slice A0_2 l0_2.length c0_2] 24 (0, 0)) (by (with_reducible repeat (first | refine kN_ ?_ _ | refine kD_ ?_ | refine kA_ ?_ _)); refine blk_far ?_ NB253_259.out _; (with_reducible repeat (first | refine kN_ ?_ _ | refine kD_ ?_ | refine kA_ ?_ _)); refine blk_far ?_ NB253_259.out _; (with_reducible repeat (first | refine kN_ ?_ _ | refine kD_ ?_ | refine kA_ ?_ _)); refine blk_far ?_ NB253_259.out _; (with_reducible repeat (first | refine kN_ ?_ _ | refine kD_ ?_ | refine kA_ ?_ _)); exact BK253.out) hb); have n2_ := Aside0.mk (blk_below (g := gb259) (o := .cells #[.bool t254, .int .i64 t255, .slice Ao17 t256.length co17] 24 (0, 0)) (by (with_reducible repeat (first | refine kN_ ?_ _ | refine kD_ ?_ | refine kA_ ?_ _)); refine blk_put (cs := #[.bool t254, .int .i64 t255, .slice none 0 0]) ?_ 2 _ rfl; (with_reducible repeat (first | refine kN_ ?_ _ | refine kD_ ?_ | refine kA_ ?_ _)); refine blk_put (cs := #[.bool t254, .int .i64 0, .slice none 0 0]) ?_ 1 _ rfl; (with_reducible repeat (first | refine kN_ ?_ _ | refine kD_ ?_ | refine kA_ ?_ _)); refine blk_put (cs := #[.bool false, .int .i64 0, .slice none 0 0]) ?_ 0 _ rfl; (with_reducible repeat (first | refine kN_ ?_ _ | refine kD_ ?_ | refine kA_ ?_ _)); exact BK259.out) hb); have n3_ := Aside0.mk (below_step (by repeat (first | (with_reducible first | exact HB.out | apply bA_ | apply bN_ | apply bD_ | refine bS_ ?_ GE253.out | refine bS_ ?_ GE259.out) | exact HB.out)) hb); clear HO258; clear BK253; clear BK259; clear HB; have HO258 := n0_; have BK253 := n1_; have BK259 := n2_; have HB := n3_; clear n0_ n1_ n2_ n3_; (try clear hb); (try clear hb2); (try clear hk); (try clear hi); obtain ⟨hcz19_0, hcz19_1, hcz19_2⟩ := cells3_ BK259.out; obtain ⟨hfz19_0, hfz19_1, hfz19_2⟩ := froz3_ BK259.out) | ((with_reducible refine gate_callee (f := 17) rfl ?_); refine goesL_ (some 14) rfl rfl Tryd.func17 (by kernel_rfl) rfl #[.agg #[.bool t254, .int .i64 t255, .slice Ao17 t256.length co17]] rfl (by (try simp only [List.map_toArray, List.map_cons, List.map_nil]); first | done | rfl | (simp only [List.length_drop, List.length_take]; rfl)) ?_; (with_reducible refine (nspath_Format.calls t254 t255 _ _ t256 t262 _ ?side1 ?side2 A5.out).mono ?_); (case side1 => repeat (first | exact (Kd.R_reads' HO258.out).2.2 | (with_reducible refine Kd.C_alloc ?_ _) | (with_reducible refine Kd.C_drewN ?_ _) | (with_reducible refine Kd.C_drew ?_))); (case side2 => exact (Kd.R_reads' HO258.out).2.1); rintro e w20 ⟨rfl, hb⟩; refine ⟨_, rfl, ?_⟩; have n0_ := Aside0.mk (Kd.R_below (by (with_reducible repeat (first | apply Kd.R_alloc | apply Kd.R_drewN | apply Kd.R_drew)); exact HO258.out) hb); have n1_ := Aside0.mk (blk_below (g := gb253) (o := .cells #[.bool a0_0, .int .i64 a0_1, .slice A0_2 l0_2.length c0_2] 24 (0, 0)) (by (with_reducible repeat (first | refine kN_ ?_ _ | refine kD_ ?_ | refine kA_ ?_ _)); exact BK253.out) hb); have n2_ := Aside0.mk (blk_below (g := gb259) (o := .cells #[.bool t254, .int .i64 t255, .slice Ao17 t256.length co17] 24 (0, 0)) (by (with_reducible repeat (first | refine kN_ ?_ _ | refine kD_ ?_ | refine kA_ ?_ _)); exact BK259.out) hb); have n3_ := Aside0.mk (below_step (by repeat (first | (with_reducible first | exact HB.out | apply bA_ | apply bN_ | apply bD_ | refine bS_ ?_ GE253.out | refine bS_ ?_ GE259.out) | exact HB.out)) hb); clear HO258; clear BK253; clear BK259; clear HB; have HO258 := n0_; have BK253 := n1_; have BK259 := n2_; have HB := n3_; clear n0_ n1_ n2_ n3_; (try clear hb); (try clear hb2); (try clear hk); (try clear hi)) | ((with_reducible refine gate_callee (f := 16) rfl ?_); refine goesL_ (some 15) rfl rfl Tryd.func16 (by kernel_rfl) rfl #[.string t262] rfl (by (try simp only [List.map_toArray, List.map_cons, List.map_nil]); first | done | rfl | (simp only [List.length_drop, List.length_take]; rfl)) ?_; (with_reducible refine (nspath_Parse.calls k t262 t263 t264 t265 true _ A6.out).mono ?_); rintro e w21 ⟨v266, rfl, ho0, hb⟩; refine ⟨_, rfl, ?_⟩; have n0_ := Aside0.mk (Kd.R_elder' (by (with_reducible repeat (first | apply Kd.R_alloc | apply Kd.R_drewN | apply Kd.R_drew)); exact HO258.out) (Kd.R_base ho0) hb); have n1_ := Aside0.mk (Kd.R_lower (Kd.R_new' ho0 (Kd.R_lt (by (with_reducible repeat (first | apply Kd.R_alloc | apply Kd.R_drewN | apply Kd.R_drew)); exact HO258.out))) (below_size (by repeat (first | (with_reducible first | exact HB.out | apply bA_ | apply bN_ | apply bD_ | refine bS_ ?_ GE253.out | refine bS_ ?_ GE259.out) | exact HB.out)))); have n2_ := Aside0.mk (blk_below (g := gb253) (o := .cells #[.bool a0_0, .int .i64 a0_1, .slice A0_2 l0_2.length c0_2] 24 (0, 0)) (by (with_reducible repeat (first | refine kN_ ?_ _ | refine kD_ ?_ | refine kA_ ?_ _)); exact BK253.out) hb); have n3_ := Aside0.mk (blk_below (g := gb259) (o := .cells #[.bool t254, .int .i64 t255, .slice Ao17 t256.length co17] 24 (0, 0)) (by (with_reducible repeat (first | refine kN_ ?_ _ | refine kD_ ?_ | refine kA_ ?_ _)); exact BK259.out) hb); have n4_ := Aside0.mk (below_step (by repeat (first | (with_reducible first | exact HB.out | apply bA_ | apply bN_ | apply bD_ | refine bS_ ?_ GE253.out | refine bS_ ?_ GE259.out) | exact HB.out)) hb); clear HO258; clear BK253; clear BK259; clear HB; have HO258 := n0_; have HO267 := n1_; have BK253 := n2_; have BK259 := n3_; have HB := n4_; clear n0_ n1_ n2_ n3_ n4_; (try clear hb); (try clear hb2); (try clear hk); (try clear hi); (try clear ho0)) | ((with_reducible refine gate_dst (N := 4) rfl ?_); refine box_event ?hg (N := 4) ?hd (cs := #[.bool false, .int .i64 0, .slice none 0 0]) (t := 24) ?hr ?_; (case hd => rfl); (case hg => rfl); (case hr => first | (go_simp; done) | (go_simp; rfl)); intro gb269 hg w22 hbox hb; have n0_ := Aside0.mk (Kd.R_below (by (with_reducible repeat (first | apply Kd.R_alloc | apply Kd.R_drewN | apply Kd.R_drew)); exact HO258.out) hb); have n1_ := Aside0.mk (Kd.R_below (by (with_reducible repeat (first | apply Kd.R_alloc | apply Kd.R_drewN | apply Kd.R_drew)); exact HO267.out) hb); have n2_ := Aside0.mk (blk_below (g := gb253) (o := .cells #[.bool a0_0, .int .i64 a0_1, .slice A0_2 l0_2.length c0_2] 24 (0, 0)) (by (with_reducible repeat (first | refine kN_ ?_ _ | refine kD_ ?_ | refine kA_ ?_ _)); exact BK253.out) hb); have n3_ := Aside0.mk (blk_below (g := gb259) (o := .cells #[.bool t254, .int .i64 t255, .slice Ao17 t256.length co17] 24 (0, 0)) (by (with_reducible repeat (first | refine kN_ ?_ _ | refine kD_ ?_ | refine kA_ ?_ _)); exact BK259.out) hb); have n4_ := Aside0.mk (below_step (by repeat (first | (with_reducible first | exact HB.out | apply bA_ | apply bN_ | apply bD_ | refine bS_ ?_ GE253.out | refine bS_ ?_ GE259.out) | exact HB.out)) hb); have n5_ := Aside0.mk (hbox); have n6_ := Aside0.mk ((by rw [hg]; exact (below_size (by repeat (first | (with_reducible first | exact HB.out | apply bA_ | apply bN_ | apply bD_ | refine bS_ ?_ GE253.out | refine bS_ ?_ GE259.out) | exact HB.out))) : w.heap.size ≤ gb269)); have n7_ := Aside0.mk ((by rw [hg]; exact (below_size (by repeat (first | (with_reducible first | exact HB.out | apply bA_ | apply bN_ | apply bD_ | refine bS_ ?_ GE253.out | refine bS_ ?_ GE259.out) | exact HB.out))) : w.heap.size ≤ gb269)); have n8_ := Aside0.mk ((by rw [hg]; exact Nat.ne_of_lt (blk_lt (g := gb253) (o := .cells #[.bool a0_0, .int .i64 a0_1, .slice A0_2 l0_2.length c0_2] 24 (0, 0)) (by (with_reducible repeat (first | refine kN_ ?_ _ | refine kD_ ?_ | refine kA_ ?_ _)); exact BK253.out)) : gb253 ≠ gb269)); have n9_ := Aside0.mk ((by rw [hg]; exact Nat.ne_of_gt (blk_lt (g := gb253) (o := .cells #[.bool a0_0, .int .i64 a0_1, .slice A0_2 l0_2.length c0_2] 24 (0, 0)) (by (with_reducible repeat (first | refine kN_ ?_ _ | refine kD_ ?_ | refine kA_ ?_ _)); exact BK253.out)) : gb269 ≠ gb253)); have n10_ := Aside0.mk ((by rw [hg]; exact Nat.ne_of_lt (blk_lt (g := gb259) (o := .cells #[.bool t254, .int .i64 t255, .slice Ao17 t256.length co17] 24 (0, 0)) (by (with_reducible repeat (first | refine kN_ ?_ _ | refine kD_ ?_ | refine kA_ ?_ _)); exact BK259.out)) : gb259 ≠ gb269)); have n11_ := Aside0.mk ((by rw [hg]; exact Nat.ne_of_gt (blk_lt (g := gb259) (o := .cells #[.bool t254, .int .i64 t255, .slice Ao17 t256.length co17] 24 (0, 0)) (by (with_reducible repeat (first | refine kN_ ?_ _ | refine kD_ ?_ | refine kA_ ?_ _)); exact BK259.out)) : gb269 ≠ gb259)); clear HO258; clear HO267; clear BK253; clear BK259; clear HB; have HO258 := n0_; have HO267 := n1_; have BK253 := n2_; have BK259 := n3_; have HB := n4_; have BK269 := n5_; have GW269 := n6_; have GE269 := n7_; have NB253_269 := n8_; have NB269_253 := n9_; have NB259_269 := n10_; have NB269_259 := n11_; clear n0_ n1_ n2_ n3_ n4_ n5_ n6_ n7_ n8_ n9_ n10_ n11_; clear hb hbox hg; have hnb23 := NB269_253.out; have hnc23 := NB253_269.out; have hnb24 := NB269_259.out; have hnc24 := NB259_269.out; obtain ⟨hcz25_0, hcz25_1, hcz25_2⟩ := cells3_ BK269.out; obtain ⟨hfz25_0, hfz25_1, hfz25_2⟩ := froz3_ BK269.out; obtain ⟨Ao26, co26, eo26⟩ := Kd.R_slice HO267.out; subst eo26) | ((with_reducible refine gate_callee (f := 11) rfl ?_); refine goesL_ (some 18) rfl rfl Tryd.func11 (by kernel_rfl) rfl #[] rfl (by (try simp only [List.map_toArray, List.map_cons, List.map_nil]); first | done | rfl | (simp only [List.length_drop, List.length_take]; rfl)) ?_; (with_reducible refine (platformfwlaw02_awake.calls k  true _ A7.out).mono ?_); rintro e w27 ⟨rfl, hb⟩; refine ⟨_, rfl, ?_⟩; have n0_ := Aside0.mk (Kd.R_below (by (with_reducible repeat (first | apply Kd.R_alloc | apply Kd.R_drewN | apply Kd.R_drew)); exact (Kd.R_mono (Kd.R_far (p := ⟨gb269, 2, none⟩) (Kd.R_far (p := ⟨gb269, 1, none⟩) (Kd.R_far (p := ⟨gb269, 0, none⟩) (Kd.R_types HO258.out BK269.out (by decide)) (fun _ hk => hk.2) (.bool t263)) (fun _ hk => hk.2) (.int .i64 t264)) (fun _ hk => hk.2) (.slice Ao26 t265.length co26)) (fun _ h_ => h_.1))) hb); have n1_ := Aside0.mk (Kd.R_below (by (with_reducible repeat (first | apply Kd.R_alloc | apply Kd.R_drewN | apply Kd.R_drew)); exact (Kd.R_mono (Kd.R_far (p := ⟨gb269, 2, none⟩) (Kd.R_far (p := ⟨gb269, 1, none⟩) (Kd.R_far (p := ⟨gb269, 0, none⟩) (Kd.R_types HO267.out BK269.out (by decide)) (fun _ hk => hk.2) (.bool t263)) (fun _ hk => hk.2) (.int .i64 t264)) (fun _ hk => hk.2) (.slice Ao26 t265.length co26)) (fun _ h_ => h_.1))) hb); have n2_ := Aside0.mk (blk_below (g := gb253) (o := .cells #[.bool a0_0, .int .i64 a0_1, .slice A0_2 l0_2.length c0_2] 24 (0, 0)) (by (with_reducible repeat (first | refine kN_ ?_ _ | refine kD_ ?_ | refine kA_ ?_ _)); refine blk_far ?_ NB253_269.out _; (with_reducible repeat (first | refine kN_ ?_ _ | refine kD_ ?_ | refine kA_ ?_ _)); refine blk_far ?_ NB253_269.out _; (with_reducible repeat (first | refine kN_ ?_ _ | refine kD_ ?_ | refine kA_ ?_ _)); refine blk_far ?_ NB253_269.out _; (with_reducible repeat (first | refine kN_ ?_ _ | refine kD_ ?_ | refine kA_ ?_ _)); exact BK253.out) hb); have n3_ := Aside0.mk (blk_below (g := gb259) (o := .cells #[.bool t254, .int .i64 t255, .slice Ao17 t256.length co17] 24 (0, 0)) (by (with_reducible repeat (first | refine kN_ ?_ _ | refine kD_ ?_ | refine kA_ ?_ _)); refine blk_far ?_ NB259_269.out _; (with_reducible repeat (first | refine kN_ ?_ _ | refine kD_ ?_ | refine kA_ ?_ _)); refine blk_far ?_ NB259_269.out _; (with_reducible repeat (first | refine kN_ ?_ _ | refine kD_ ?_ | refine kA_ ?_ _)); refine blk_far ?_ NB259_269.out _; (with_reducible repeat (first | refine kN_ ?_ _ | refine kD_ ?_ | refine kA_ ?_ _)); exact BK259.out) hb); have n4_ := Aside0.mk (blk_below (g := gb269) (o := .cells #[.bool t263, .int .i64 t264, .slice Ao26 t265.length co26] 24 (0, 0)) (by (with_reducible repeat (first | refine kN_ ?_ _ | refine kD_ ?_ | refine kA_ ?_ _)); refine blk_put (cs := #[.bool t263, .int .i64 t264, .slice none 0 0]) ?_ 2 _ rfl; (with_reducible repeat (first | refine kN_ ?_ _ | refine kD_ ?_ | refine kA_ ?_ _)); refine blk_put (cs := #[.bool t263, .int .i64 0, .slice none 0 0]) ?_ 1 _ rfl; (with_reducible repeat (first | refine kN_ ?_ _ | refine kD_ ?_ | refine kA_ ?_ _)); refine blk_put (cs := #[.bool false, .int .i64 0, .slice none 0 0]) ?_ 0 _ rfl; (with_reducible repeat (first | refine kN_ ?_ _ | refine kD_ ?_ | refine kA_ ?_ _)); exact BK269.out) hb); have n5_ := Aside0.mk (below_step (by repeat (first | (with_reducible first | exact HB.out | apply bA_ | apply bN_ | apply bD_ | refine bS_ ?_ GE253.out | refine bS_ ?_ GE259.out | refine bS_ ?_ GE269.out) | exact HB.out)) hb); clear HO258; clear HO267; clear BK253; clear BK259; clear BK269; clear HB; have HO258 := n0_; have HO267 := n1_; have BK253 := n2_; have BK259 := n3_; have BK269 := n4_; have HB := n5_; clear n0_ n1_ n2_ n3_ n4_ n5_; (try clear hb); (try clear hb2); (try clear hk); (try clear hi); obtain ⟨hcz28_0, hcz28_1, hcz28_2⟩ := cells3_ BK269.out; obtain ⟨hfz28_0, hfz28_1, hfz28_2⟩ := froz3_ BK269.out; obtain ⟨hcz29_0, hcz29_1, hcz29_2⟩ := cells3_ BK259.out; obtain ⟨hfz29_0, hfz29_1, hfz29_2⟩ := froz3_ BK259.out) | (go_at_call 18; (with_reducible refine (platformfwlaw02_same.calls k t263 t264 _ _ t265 t254 t255 _ _ t256 t271 _ ?side1 ?side2 ?side3 ?side4 A10.out).mono ?_); (case side1 => repeat (first | exact (Kd.R_reads' HO267.out).2.2 | (with_reducible refine Kd.C_alloc ?_ _) | (with_reducible refine Kd.C_drewN ?_ _) | (with_reducible refine Kd.C_drew ?_))); (case side2 => exact (Kd.R_reads' HO267.out).2.1); (case side3 => repeat (first | exact (Kd.R_reads' HO258.out).2.2 | (with_reducible refine Kd.C_alloc ?_ _) | (with_reducible refine Kd.C_drewN ?_ _) | (with_reducible refine Kd.C_drew ?_))); (case side4 => exact (Kd.R_reads' HO258.out).2.1); rintro e w30 ⟨rfl, hb⟩; have n0_ := Aside0.mk (Kd.R_below (by (with_reducible repeat (first | apply Kd.R_alloc | apply Kd.R_drewN | apply Kd.R_drew)); exact HO258.out) hb); have n1_ := Aside0.mk (Kd.R_below (by (with_reducible repeat (first | apply Kd.R_alloc | apply Kd.R_drewN | apply Kd.R_drew)); exact HO267.out) hb); have n2_ := Aside0.mk (blk_below (g := gb253) (o := .cells #[.bool a0_0, .int .i64 a0_1, .slice A0_2 l0_2.length c0_2] 24 (0, 0)) (by (with_reducible repeat (first | refine kN_ ?_ _ | refine kD_ ?_ | refine kA_ ?_ _)); exact BK253.out) hb); have n3_ := Aside0.mk (blk_below (g := gb259) (o := .cells #[.bool t254, .int .i64 t255, .slice Ao17 t256.length co17] 24 (0, 0)) (by (with_reducible repeat (first | refine kN_ ?_ _ | refine kD_ ?_ | refine kA_ ?_ _)); exact BK259.out) hb); have n4_ := Aside0.mk (blk_below (g := gb269) (o := .cells #[.bool t263, .int .i64 t264, .slice Ao26 t265.length co26] 24 (0, 0)) (by (with_reducible repeat (first | refine kN_ ?_ _ | refine kD_ ?_ | refine kA_ ?_ _)); exact BK269.out) hb); have n5_ := Aside0.mk (below_step (by repeat (first | (with_reducible first | exact HB.out | apply bA_ | apply bN_ | apply bD_ | refine bS_ ?_ GE253.out | refine bS_ ?_ GE259.out | refine bS_ ?_ GE269.out) | exact HB.out)) hb); clear HO258; clear HO267; clear BK253; clear BK259; clear BK269; clear HB; have HO258 := n0_; have HO267 := n1_; have BK253 := n2_; have BK259 := n3_; have BK269 := n4_; have HB := n5_; clear n0_ n1_ n2_ n3_ n4_ n5_; (try clear hb); (try clear hb2); (try clear hk); (try clear hi)))
    go_ret
    exact ⟨by first | rfl | (simp [errW_none, errW_some] <;> rfl) | (simp [*, errW_none, errW_some] <;> rfl), by repeat (first | (with_reducible first | exact HB.out | apply bA_ | apply bN_ | apply bD_ | refine bS_ ?_ GE253.out | refine bS_ ?_ GE259.out | refine bS_ ?_ GE269.out) | exact HB.out)⟩
   ·replace c9 := Bool.eq_false_iff.mpr c9
    subst c9
    have H1 : (some false) = some r := by rw [if_neg (show ¬ (false = true) by decide)] at H; exact H
    clear H
    have H := H1
    clear H1
    obtain rfl := Option.some.inj H
    exact absurd hr_.out (by simp)
  ·replace c8 := Bool.eq_false_iff.mpr c8
   subst c8
   have H1 : (some false) = some r := by rw [if_neg (show ¬ (false = true) by decide)] at H; exact H
   clear H
   have H := H1
   clear H1
   obtain rfl := Option.some.inj H
   exact absurd hr_.out (by simp)
 ·replace c4 := Bool.eq_false_iff.mpr c4
  subst c4
  have H1 : ((platformfwlaw02_awake.f k).bind fun t261 => (some t261)) = some r := by rw [if_neg (show ¬ (false = true) by decide)] at H; exact H
  clear H
  have H := H1
  clear H1
  replace H := Option.bind_eq_some_iff.mp H
  obtain ⟨t261, A310, H⟩ := H
  replace H : (some t261) = some r := H
  have A31 := Aside0.mk A310
  clear A310
  obtain rfl := Option.some.inj H
  go_enter Tryd.func5, Tryd.ntmps5
  go_wp2_with (first | ((with_reducible refine gate_dst (N := 1) rfl ?_); refine box_event ?hg (N := 1) ?hd (cs := #[.bool a0_0, .int .i64 a0_1, .slice A0_2 l0_2.length c0_2]) (t := 24) ?hr ?_; (case hd => rfl); (case hg => rfl); (case hr => first | (go_simp; done) | (go_simp; rfl)); intro gb253 hg w32 hbox hb; have n0_ := Aside0.mk (below_step (by repeat (first | (with_reducible first | exact HB.out | apply bA_ | apply bN_ | apply bD_) | exact HB.out)) hb); have n1_ := Aside0.mk (hbox); have n2_ := Aside0.mk ((by rw [hg]; exact (below_size (by repeat (first | (with_reducible first | exact HB.out | apply bA_ | apply bN_ | apply bD_) | exact HB.out))) : w.heap.size ≤ gb253)); have n3_ := Aside0.mk ((by rw [hg]; exact (below_size (by repeat (first | (with_reducible first | exact HB.out | apply bA_ | apply bN_ | apply bD_) | exact HB.out))) : w.heap.size ≤ gb253)); clear HB; have HB := n0_; have BK253 := n1_; have GW253 := n2_; have GE253 := n3_; clear n0_ n1_ n2_ n3_; clear hb hbox hg; obtain ⟨hcz33_0, hcz33_1, hcz33_2⟩ := cells3_ BK253.out; obtain ⟨hfz33_0, hfz33_1, hfz33_2⟩ := froz3_ BK253.out) | ((with_reducible refine gate_callee (f := 13) rfl ?_); refine goesL_ (some 7) rfl rfl Tryd.func13 (by kernel_rfl) rfl #[.agg #[.bool a0_0, .int .i64 a0_1, .slice A0_2 l0_2.length c0_2]] rfl (by (try simp only [List.map_toArray, List.map_cons, List.map_nil]); first | done | rfl | (simp only [List.length_drop, List.length_take]; rfl)) ?_; (with_reducible refine (platformfwlaw02_path.calls k a0_0 a0_1 _ _ l0_2 t254 t255 t256 _ ?side1 ?side2 A2.out).mono ?_); (case side1 => repeat (first | exact (Kd.C_below HR0_2.out HB.out) | (with_reducible refine Kd.C_alloc ?_ _) | (with_reducible refine Kd.C_drewN ?_ _) | (with_reducible refine Kd.C_drew ?_))); (case side2 => exact HC0_2.out); rintro e w34 ⟨v257, rfl, ho0, hb⟩; refine ⟨_, rfl, ?_⟩; have n0_ := Aside0.mk (Kd.R_lower ho0 (below_size (by repeat (first | (with_reducible first | exact HB.out | apply bA_ | apply bN_ | apply bD_ | refine bS_ ?_ GE253.out) | exact HB.out)))); have n1_ := Aside0.mk (blk_below (g := gb253) (o := .cells #[.bool a0_0, .int .i64 a0_1, .slice A0_2 l0_2.length c0_2] 24 (0, 0)) (by (with_reducible repeat (first | refine kN_ ?_ _ | refine kD_ ?_ | refine kA_ ?_ _)); exact BK253.out) hb); have n2_ := Aside0.mk (below_step (by repeat (first | (with_reducible first | exact HB.out | apply bA_ | apply bN_ | apply bD_ | refine bS_ ?_ GE253.out) | exact HB.out)) hb); clear BK253; clear HB; have HO258 := n0_; have BK253 := n1_; have HB := n2_; clear n0_ n1_ n2_; (try clear hb); (try clear hb2); (try clear hk); (try clear hi); (try clear ho0)) | ((with_reducible refine gate_dst (N := 3) rfl ?_); refine box_event ?hg (N := 3) ?hd (cs := #[.bool false, .int .i64 0, .slice none 0 0]) (t := 24) ?hr ?_; (case hd => rfl); (case hg => rfl); (case hr => first | (go_simp; done) | (go_simp; rfl)); intro gb259 hg w35 hbox hb; have n0_ := Aside0.mk (Kd.R_below (by (with_reducible repeat (first | apply Kd.R_alloc | apply Kd.R_drewN | apply Kd.R_drew)); exact HO258.out) hb); have n1_ := Aside0.mk (blk_below (g := gb253) (o := .cells #[.bool a0_0, .int .i64 a0_1, .slice A0_2 l0_2.length c0_2] 24 (0, 0)) (by (with_reducible repeat (first | refine kN_ ?_ _ | refine kD_ ?_ | refine kA_ ?_ _)); exact BK253.out) hb); have n2_ := Aside0.mk (below_step (by repeat (first | (with_reducible first | exact HB.out | apply bA_ | apply bN_ | apply bD_ | refine bS_ ?_ GE253.out) | exact HB.out)) hb); have n3_ := Aside0.mk (hbox); have n4_ := Aside0.mk ((by rw [hg]; exact (below_size (by repeat (first | (with_reducible first | exact HB.out | apply bA_ | apply bN_ | apply bD_ | refine bS_ ?_ GE253.out) | exact HB.out))) : w.heap.size ≤ gb259)); have n5_ := Aside0.mk ((by rw [hg]; exact (below_size (by repeat (first | (with_reducible first | exact HB.out | apply bA_ | apply bN_ | apply bD_ | refine bS_ ?_ GE253.out) | exact HB.out))) : w.heap.size ≤ gb259)); have n6_ := Aside0.mk ((by rw [hg]; exact Nat.ne_of_lt (blk_lt (g := gb253) (o := .cells #[.bool a0_0, .int .i64 a0_1, .slice A0_2 l0_2.length c0_2] 24 (0, 0)) (by (with_reducible repeat (first | refine kN_ ?_ _ | refine kD_ ?_ | refine kA_ ?_ _)); exact BK253.out)) : gb253 ≠ gb259)); have n7_ := Aside0.mk ((by rw [hg]; exact Nat.ne_of_gt (blk_lt (g := gb253) (o := .cells #[.bool a0_0, .int .i64 a0_1, .slice A0_2 l0_2.length c0_2] 24 (0, 0)) (by (with_reducible repeat (first | refine kN_ ?_ _ | refine kD_ ?_ | refine kA_ ?_ _)); exact BK253.out)) : gb259 ≠ gb253)); clear HO258; clear BK253; clear HB; have HO258 := n0_; have BK253 := n1_; have HB := n2_; have BK259 := n3_; have GW259 := n4_; have GE259 := n5_; have NB253_259 := n6_; have NB259_253 := n7_; clear n0_ n1_ n2_ n3_ n4_ n5_ n6_ n7_; clear hb hbox hg; have hnb36 := NB259_253.out; have hnc36 := NB253_259.out; obtain ⟨hcz37_0, hcz37_1, hcz37_2⟩ := cells3_ BK259.out; obtain ⟨hfz37_0, hfz37_1, hfz37_2⟩ := froz3_ BK259.out; obtain ⟨Ao38, co38, eo38⟩ := Kd.R_slice HO258.out; subst eo38) | ((with_reducible refine gate_callee (f := 15) rfl ?_); refine goesL_ (some 9) rfl rfl Tryd.func15 (by kernel_rfl) rfl #[.agg #[.bool t254, .int .i64 t255, .slice Ao38 t256.length co38]] rfl (by (try simp only [List.map_toArray, List.map_cons, List.map_nil]); first | done | rfl | (simp only [List.length_drop, List.length_take]; rfl)) ?_; (with_reducible refine (platformfwref01_ValidPath.calls k t254 t255 _ _ t256 false _ ?side1 ?side2 A3.out).mono ?_); (case side1 => refine (Kd.R_reads' (e := 9) (base := w.heap.size) (ok := fun k_ => True) (n := t256.length) (c := co38) ?_).2.2; exact (by (with_reducible repeat (first | apply Kd.R_alloc | apply Kd.R_drewN | apply Kd.R_drew)); exact (Kd.R_mono (Kd.R_far (p := ⟨gb259, 2, none⟩) (Kd.R_far (p := ⟨gb259, 1, none⟩) (Kd.R_far (p := ⟨gb259, 0, none⟩) (Kd.R_types HO258.out BK259.out (by decide)) (fun _ hk => hk.2) (.bool t254)) (fun _ hk => hk.2) (.int .i64 t255)) (fun _ hk => hk.2) (.slice Ao38 t256.length co38)) (fun _ h_ => h_.1)))); (case side2 => exact (Kd.R_reads' HO258.out).2.1); rintro e w39 ⟨rfl, hb⟩; refine ⟨_, rfl, ?_⟩; have n0_ := Aside0.mk (Kd.R_below (by (with_reducible repeat (first | apply Kd.R_alloc | apply Kd.R_drewN | apply Kd.R_drew)); exact (Kd.R_mono (Kd.R_far (p := ⟨gb259, 2, none⟩) (Kd.R_far (p := ⟨gb259, 1, none⟩) (Kd.R_far (p := ⟨gb259, 0, none⟩) (Kd.R_types HO258.out BK259.out (by decide)) (fun _ hk => hk.2) (.bool t254)) (fun _ hk => hk.2) (.int .i64 t255)) (fun _ hk => hk.2) (.slice Ao38 t256.length co38)) (fun _ h_ => h_.1))) hb); have n1_ := Aside0.mk (blk_below (g := gb253) (o := .cells #[.bool a0_0, .int .i64 a0_1, .slice A0_2 l0_2.length c0_2] 24 (0, 0)) (by (with_reducible repeat (first | refine kN_ ?_ _ | refine kD_ ?_ | refine kA_ ?_ _)); refine blk_far ?_ NB253_259.out _; (with_reducible repeat (first | refine kN_ ?_ _ | refine kD_ ?_ | refine kA_ ?_ _)); refine blk_far ?_ NB253_259.out _; (with_reducible repeat (first | refine kN_ ?_ _ | refine kD_ ?_ | refine kA_ ?_ _)); refine blk_far ?_ NB253_259.out _; (with_reducible repeat (first | refine kN_ ?_ _ | refine kD_ ?_ | refine kA_ ?_ _)); exact BK253.out) hb); have n2_ := Aside0.mk (blk_below (g := gb259) (o := .cells #[.bool t254, .int .i64 t255, .slice Ao38 t256.length co38] 24 (0, 0)) (by (with_reducible repeat (first | refine kN_ ?_ _ | refine kD_ ?_ | refine kA_ ?_ _)); refine blk_put (cs := #[.bool t254, .int .i64 t255, .slice none 0 0]) ?_ 2 _ rfl; (with_reducible repeat (first | refine kN_ ?_ _ | refine kD_ ?_ | refine kA_ ?_ _)); refine blk_put (cs := #[.bool t254, .int .i64 0, .slice none 0 0]) ?_ 1 _ rfl; (with_reducible repeat (first | refine kN_ ?_ _ | refine kD_ ?_ | refine kA_ ?_ _)); refine blk_put (cs := #[.bool false, .int .i64 0, .slice none 0 0]) ?_ 0 _ rfl; (with_reducible repeat (first | refine kN_ ?_ _ | refine kD_ ?_ | refine kA_ ?_ _)); exact BK259.out) hb); have n3_ := Aside0.mk (below_step (by repeat (first | (with_reducible first | exact HB.out | apply bA_ | apply bN_ | apply bD_ | refine bS_ ?_ GE253.out | refine bS_ ?_ GE259.out) | exact HB.out)) hb); clear HO258; clear BK253; clear BK259; clear HB; have HO258 := n0_; have BK253 := n1_; have BK259 := n2_; have HB := n3_; clear n0_ n1_ n2_ n3_; (try clear hb); (try clear hb2); (try clear hk); (try clear hi)) | ((with_reducible refine gate_callee (f := 11) rfl ?_); refine goesL_ (some 11) rfl rfl Tryd.func11 (by kernel_rfl) rfl #[] rfl (by (try simp only [List.map_toArray, List.map_cons, List.map_nil]); first | done | rfl | (simp only [List.length_drop, List.length_take]; rfl)) ?_; (with_reducible refine (platformfwlaw02_awake.calls k  t261 _ A31.out).mono ?_); rintro e w40 ⟨rfl, hb⟩; refine ⟨_, rfl, ?_⟩; have n0_ := Aside0.mk (Kd.R_below (by (with_reducible repeat (first | apply Kd.R_alloc | apply Kd.R_drewN | apply Kd.R_drew)); exact HO258.out) hb); have n1_ := Aside0.mk (blk_below (g := gb253) (o := .cells #[.bool a0_0, .int .i64 a0_1, .slice A0_2 l0_2.length c0_2] 24 (0, 0)) (by (with_reducible repeat (first | refine kN_ ?_ _ | refine kD_ ?_ | refine kA_ ?_ _)); exact BK253.out) hb); have n2_ := Aside0.mk (blk_below (g := gb259) (o := .cells #[.bool t254, .int .i64 t255, .slice Ao38 t256.length co38] 24 (0, 0)) (by (with_reducible repeat (first | refine kN_ ?_ _ | refine kD_ ?_ | refine kA_ ?_ _)); exact BK259.out) hb); have n3_ := Aside0.mk (below_step (by repeat (first | (with_reducible first | exact HB.out | apply bA_ | apply bN_ | apply bD_ | refine bS_ ?_ GE253.out | refine bS_ ?_ GE259.out) | exact HB.out)) hb); clear HO258; clear BK253; clear BK259; clear HB; have HO258 := n0_; have BK253 := n1_; have BK259 := n2_; have HB := n3_; clear n0_ n1_ n2_ n3_; (try clear hb); (try clear hb2); (try clear hk); (try clear hi)))
  go_ret
  exact ⟨by first | rfl | (simp [errW_none, errW_some] <;> rfl) | (simp [*, errW_none, errW_some] <;> rfl), by repeat (first | (with_reducible first | exact HB.out | apply bA_ | apply bN_ | apply bD_ | refine bS_ ?_ GE253.out | refine bS_ ?_ GE259.out) | exact HB.out)⟩

end Go.Proofs.YtpjajjmipbjliaaDoor.PNspathRoundTrip
