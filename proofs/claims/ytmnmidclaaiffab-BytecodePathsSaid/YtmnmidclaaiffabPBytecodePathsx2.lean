-- Written by a program of this session's (wip/print_patch.py over the kit's print) out of the translation; Lean checks it.
import Derived.Test.YtmnmidclaaiffabPBytecodePathsx0
import Derived.Test.YtmnmidclaaiffabPBytecodePathsx1
import Derived.Test.YtmnmidclaaiffabExtP
namespace Go.Proofs.Ytmnmidclaaiffab.PBytecodePaths
open Go.RowKit Go.Proofs.Ytmnmidclaaiffab.Ext Go.Proofs.YtmnmidclaaiffabW.PrintWords Go.Proofs.YtmnmidclaaiffabW.PrintLast Go.Proofs.YtmnmidclaaiffabW.PrintMore
attribute [local go_sem] max2_int min2_int max_two min_two max_three min_three max_four min_four   -- for this text's walks alone
set_option linter.unusedVariables false
set_option linter.unusedSimpArgs false

/-! ### platformfwref01_ValidPath: function 4 -/
mutual
def platformfwref01_ValidPath.j0 : Nat → Bool → Bool → Int → List ByteArray → Option (Bool)
 | 0, _, _, _, _ => none
 | k + 1, x45, x107000, x107001, x107002 => if x45 = true then (some false) else (platformfwref01_ValidPath.l0 k 0 x107000 x107001 x107002)
def platformfwref01_ValidPath.l0 : Nat → Int → Bool → Int → List ByteArray → Option (Bool)
 | 0, _, _, _, _ => none
 | k + 1, x3, x107000, x107001, x107002 => if x3 < (x107002.length : Int) then (if 0 ≤ x3 then ((platformfwref01_Segment.f k (rdOf ByteArray.empty x107002 x3)).bind fun t108 => (if t108 = true then (platformfwref01_ValidPath.l0 k (wrap64 (x3 + 1)) x107000 x107001 x107002) else (some false))) else (none)) else (some true)
end
def platformfwref01_ValidPath.f (k : Nat) (a0_0 : Bool) (a0_1 : Int) (l0_2 : List ByteArray) : Option (Bool) := if a0_1 < 0 then (platformfwref01_ValidPath.j0 k true a0_0 a0_1 l0_2) else (if a0_1 > 32 then (platformfwref01_ValidPath.j0 k true a0_0 a0_1 l0_2) else (if a0_0 = true then (if a0_1 > 0 then (platformfwref01_ValidPath.j0 k true a0_0 a0_1 l0_2) else (if (l0_2.length : Int) > (wrap64 (32 - a0_1)) then (platformfwref01_ValidPath.j0 k true a0_0 a0_1 l0_2) else (platformfwref01_ValidPath.j0 k false a0_0 a0_1 l0_2))) else (if (l0_2.length : Int) > (wrap64 (32 - a0_1)) then (platformfwref01_ValidPath.j0 k true a0_0 a0_1 l0_2) else (if a0_1 = 0 then (platformfwref01_ValidPath.j0 k ((l0_2.length : Int) == 0) a0_0 a0_1 l0_2) else (platformfwref01_ValidPath.j0 k false a0_0 a0_1 l0_2)))))
theorem platformfwref01_ValidPath.mono_l : ∀ k, (∀ y0 y1 y2 y3, LeO (platformfwref01_ValidPath.j0 k y0 y1 y2 y3) (platformfwref01_ValidPath.j0 (k + 1) y0 y1 y2 y3)) ∧ (∀ y0 y1 y2 y3, LeO (platformfwref01_ValidPath.l0 k y0 y1 y2 y3) (platformfwref01_ValidPath.l0 (k + 1) y0 y1 y2 y3))
 | 0 => ⟨fun _ _ _ _ r h => by simp [platformfwref01_ValidPath.j0] at h, fun _ _ _ _ r h => by simp [platformfwref01_ValidPath.l0] at h⟩
 | k + 1 => by
  obtain ⟨ih0, ih1⟩ := platformfwref01_ValidPath.mono_l k
  refine ⟨?_, ?_⟩
  ·intro y0 y1 y2 y3
   unfold platformfwref01_ValidPath.j0
   repeat' first
   | (with_reducible exact ih0 _ _ _ _)
   | (with_reducible exact ih1 _ _ _ _)
   | (with_reducible exact platformfwref01_Segment.mono _ _)
   | (with_reducible exact LeO.refl _)
   | (with_reducible exact LeO.none _)
   | (with_reducible refine LeO.ite ?_ ?_)
   | (with_reducible refine LeO.bind ?_ (fun _ => ?_))
   | exact ih0 _ _ _ _
   | exact ih1 _ _ _ _
   | exact platformfwref01_Segment.mono _ _
   | exact LeO.none _
   | refine LeO.ite ?_ ?_
   | refine LeO.bind ?_ (fun _ => ?_)
  ·intro y0 y1 y2 y3
   unfold platformfwref01_ValidPath.l0
   repeat' first
   | (with_reducible exact ih0 _ _ _ _)
   | (with_reducible exact ih1 _ _ _ _)
   | (with_reducible exact platformfwref01_Segment.mono _ _)
   | (with_reducible exact LeO.refl _)
   | (with_reducible exact LeO.none _)
   | (with_reducible refine LeO.ite ?_ ?_)
   | (with_reducible refine LeO.bind ?_ (fun _ => ?_))
   | exact ih0 _ _ _ _
   | exact ih1 _ _ _ _
   | exact platformfwref01_Segment.mono _ _
   | exact LeO.none _
   | refine LeO.ite ?_ ?_
   | refine LeO.bind ?_ (fun _ => ?_)
theorem platformfwref01_ValidPath.mono : ∀ a0 a1 a2 k, LeO (platformfwref01_ValidPath.f k a0 a1 a2) (platformfwref01_ValidPath.f (k + 1) a0 a1 a2) := by
 intro a0 a1 a2 k
 obtain ⟨ih0, ih1⟩ := platformfwref01_ValidPath.mono_l k
 unfold platformfwref01_ValidPath.f
 repeat' first
   | (with_reducible exact ih0 _ _ _ _)
   | (with_reducible exact ih1 _ _ _ _)
   | (with_reducible exact platformfwref01_Segment.mono _ _)
   | (with_reducible exact LeO.refl _)
   | (with_reducible exact LeO.none _)
   | (with_reducible refine LeO.ite ?_ ?_)
   | (with_reducible refine LeO.bind ?_ (fun _ => ?_))
   | exact ih0 _ _ _ _
   | exact ih1 _ _ _ _
   | exact platformfwref01_Segment.mono _ _
   | exact LeO.none _
   | refine LeO.ite ?_ ?_
   | refine LeO.bind ?_ (fun _ => ?_)
set_option maxHeartbeats 8000000 in
set_option maxRecDepth 100000 in
theorem platformfwref01_ValidPath.calls (k : Nat) (a0_0 : Bool) (a0_1 : Int) (A0_2 : Option Addr) (c0_2 : Nat) (l0_2 : List ByteArray) (r : Bool) (w : World) (hr0_2 : Kd.C Kd.string w A0_2 l0_2.length l0_2) (hc0_2 : l0_2.length ≤ c0_2) (h : platformfwref01_ValidPath.f k a0_0 a0_1 l0_2 = some r) :
  Calls Try.prog 4 #[.agg #[.bool a0_0, .int .i64 a0_1, .slice A0_2 l0_2.length c0_2]] w fun e w' => e = .returned (.bool r) ∧ Below w.heap.size w w' := by
 have hu24 := Try.underlying24
 have HR0_2 := Aside0.mk hr0_2
 have HC0_2 := Aside0.mk hc0_2
 clear hr0_2 hc0_2
 have HB := Aside0.mk (Below.refl w.heap.size w)
 have H : (if a0_1 < 0 then (platformfwref01_ValidPath.j0 k true a0_0 a0_1 l0_2) else (if a0_1 > 32 then (platformfwref01_ValidPath.j0 k true a0_0 a0_1 l0_2) else (if a0_0 = true then (if a0_1 > 0 then (platformfwref01_ValidPath.j0 k true a0_0 a0_1 l0_2) else (if (l0_2.length : Int) > (wrap64 (32 - a0_1)) then (platformfwref01_ValidPath.j0 k true a0_0 a0_1 l0_2) else (platformfwref01_ValidPath.j0 k false a0_0 a0_1 l0_2))) else (if (l0_2.length : Int) > (wrap64 (32 - a0_1)) then (platformfwref01_ValidPath.j0 k true a0_0 a0_1 l0_2) else (if a0_1 = 0 then (platformfwref01_ValidPath.j0 k ((l0_2.length : Int) == 0) a0_0 a0_1 l0_2) else (platformfwref01_ValidPath.j0 k false a0_0 a0_1 l0_2)))))) = some r := h
 clear h
 have HC2 := Aside0.mk H
 clear H
 go_enter Try.func4, Try.ntmps4
 go_upto_region 1 with (first | ((with_reducible refine gate_dst (N := 1) rfl ?_); (try (refine gate_guard (by rfl) ?_; dsimp only)); refine box_event ?hg (N := 1) ?hd (cs := #[.bool a0_0, .int .i64 a0_1, .slice A0_2 l0_2.length c0_2]) (t := 24) ?hr ?_; (case hd => rfl); (case hg => rfl); (case hr => first | (go_simp; done) | (go_simp; rfl)); intro gb106 hg w3 hbox hb; have n0_ := Aside0.mk (below_step (by repeat (first | (with_reducible first | exact HB.out | apply bA_ | apply bN_ | apply bD_) | exact HB.out)) hb); have n1_ := Aside0.mk (hbox); have n2_ := Aside0.mk ((by rw [hg]; exact (below_size (by repeat (first | (with_reducible first | exact HB.out | apply bA_ | apply bN_ | apply bD_) | exact HB.out))) : w.heap.size ≤ gb106)); have n3_ := Aside0.mk ((by rw [hg]; exact (below_size (by repeat (first | (with_reducible first | exact HB.out | apply bA_ | apply bN_ | apply bD_) | exact HB.out))) : w.heap.size ≤ gb106)); clear HB; have HB := n0_; have BK106 := n1_; have GW106 := n2_; have GE106 := n3_; clear n0_ n1_ n2_ n3_; clear hb hbox hg))
 (try simp only [Act.put, sA_, sB_, sC_])
 go_cut [45] (fun v45 wc => ∃ (kq : Nat) (x45_1 : Bool), v45 = .bool x45_1 ∧ Aside0 (platformfwref01_ValidPath.j0 kq x45_1 a0_0 a0_1 l0_2 = some r) ∧ Aside0 (kq ≤ k) ∧ Aside0 (wc.heap[gb106]? = some (.cells #[.bool a0_0, .int .i64 a0_1, (.slice A0_2 l0_2.length c0_2)] 24 (0, 0))) ∧ Aside0 (Below w.heap.size w wc))
 case first =>
  have H := HC2.out
  clear HC2
  by_cases c4 : a0_1 < 0
  ·rw [if_pos c4] at H
   have c4b0 : decide (a0_1 < 0) = true := decide_eq_true c4
   clear c4
   (first | rw [c4b0] | (simp only [i64_w, i32_w]; rw [c4b0]) | skip)
   have H' := Aside0.mk H
   clear H
   obtain ⟨hcz5_0, hcz5_1, hcz5_2⟩ := cells3_ BK106.out
   obtain ⟨hfz5_0, hfz5_1, hfz5_2⟩ := froz3_ BK106.out
   go_wp2
   go_meet
   case rel => exact ⟨_, (true), (by first | rfl | (simp; done) | (simp [*]; done)), H', ⟨by first | omega | exact Nat.le_refl _⟩, ⟨by (with_reducible repeat (first | refine kN_ ?_ _ | refine kD_ ?_ | refine kA_ ?_ _)); exact BK106.out⟩, ⟨by repeat (first | (with_reducible first | exact HB.out | apply bA_ | apply bN_ | apply bD_ | refine bS_ ?_ GE106.out) | exact HB.out)⟩⟩
  ·rw [if_neg c4] at H
   have c4b0 : decide (a0_1 < 0) = false := decide_eq_false c4
   clear c4
   (first | rw [c4b0] | (simp only [i64_w, i32_w]; rw [c4b0]) | skip)
   by_cases c6 : a0_1 > 32
   ·rw [if_pos c6] at H
    have c6b0 : decide (32 < a0_1) = true := decide_eq_true c6
    clear c6
    have H' := Aside0.mk H
    clear H
    obtain ⟨hcz7_0, hcz7_1, hcz7_2⟩ := cells3_ BK106.out
    obtain ⟨hfz7_0, hfz7_1, hfz7_2⟩ := froz3_ BK106.out
    go_wp2
    go_meet
    case rel => exact ⟨_, (true), (by first | rfl | (simp; done) | (simp [*]; done)), H', ⟨by first | omega | exact Nat.le_refl _⟩, ⟨by (with_reducible repeat (first | refine kN_ ?_ _ | refine kD_ ?_ | refine kA_ ?_ _)); exact BK106.out⟩, ⟨by repeat (first | (with_reducible first | exact HB.out | apply bA_ | apply bN_ | apply bD_ | refine bS_ ?_ GE106.out) | exact HB.out)⟩⟩
   ·rw [if_neg c6] at H
    have c6b0 : decide (32 < a0_1) = false := decide_eq_false c6
    clear c6
    by_cases c8 : a0_0 = true
    ·subst c8
     have H1 : (if a0_1 > 0 then (platformfwref01_ValidPath.j0 k true true a0_1 l0_2) else (if (l0_2.length : Int) > (wrap64 (32 - a0_1)) then (platformfwref01_ValidPath.j0 k true true a0_1 l0_2) else (platformfwref01_ValidPath.j0 k false true a0_1 l0_2))) = some r := by rw [if_pos rfl] at H; exact H
     clear H
     have H := H1
     clear H1
     by_cases c9 : a0_1 > 0
     ·rw [if_pos c9] at H
      have c9b0 : decide (0 < a0_1) = true := decide_eq_true c9
      clear c9
      have H' := Aside0.mk H
      clear H
      obtain ⟨hcz10_0, hcz10_1, hcz10_2⟩ := cells3_ BK106.out
      obtain ⟨hfz10_0, hfz10_1, hfz10_2⟩ := froz3_ BK106.out
      go_wp2
      go_meet
      case rel => exact ⟨_, (true), (by first | rfl | (simp; done) | (simp [*]; done)), H', ⟨by first | omega | exact Nat.le_refl _⟩, ⟨by (with_reducible repeat (first | refine kN_ ?_ _ | refine kD_ ?_ | refine kA_ ?_ _)); exact BK106.out⟩, ⟨by repeat (first | (with_reducible first | exact HB.out | apply bA_ | apply bN_ | apply bD_ | refine bS_ ?_ GE106.out) | exact HB.out)⟩⟩
     ·rw [if_neg c9] at H
      have c9b0 : decide (0 < a0_1) = false := decide_eq_false c9
      clear c9
      by_cases c11 : (l0_2.length : Int) > (wrap64 (32 - a0_1))
      ·rw [if_pos c11] at H
       have c11b0 : decide ((wrap64 (32 - a0_1)) < (l0_2.length : Int)) = true := decide_eq_true c11
       clear c11
       have H' := Aside0.mk H
       clear H
       obtain ⟨hcz12_0, hcz12_1, hcz12_2⟩ := cells3_ BK106.out
       obtain ⟨hfz12_0, hfz12_1, hfz12_2⟩ := froz3_ BK106.out
       go_wp2
       go_meet
       case rel => exact ⟨_, (true), (by first | rfl | (simp; done) | (simp [*]; done)), H', ⟨by first | omega | exact Nat.le_refl _⟩, ⟨by (with_reducible repeat (first | refine kN_ ?_ _ | refine kD_ ?_ | refine kA_ ?_ _)); exact BK106.out⟩, ⟨by repeat (first | (with_reducible first | exact HB.out | apply bA_ | apply bN_ | apply bD_ | refine bS_ ?_ GE106.out) | exact HB.out)⟩⟩
      ·rw [if_neg c11] at H
       have c11b0 : decide ((wrap64 (32 - a0_1)) < (l0_2.length : Int)) = false := decide_eq_false c11
       clear c11
       have H' := Aside0.mk H
       clear H
       obtain ⟨hcz13_0, hcz13_1, hcz13_2⟩ := cells3_ BK106.out
       obtain ⟨hfz13_0, hfz13_1, hfz13_2⟩ := froz3_ BK106.out
       go_wp2
       go_meet
       case rel => exact ⟨_, (false), (by first | rfl | (simp; done) | (simp [*]; done)), H', ⟨by first | omega | exact Nat.le_refl _⟩, ⟨by (with_reducible repeat (first | refine kN_ ?_ _ | refine kD_ ?_ | refine kA_ ?_ _)); exact BK106.out⟩, ⟨by repeat (first | (with_reducible first | exact HB.out | apply bA_ | apply bN_ | apply bD_ | refine bS_ ?_ GE106.out) | exact HB.out)⟩⟩
    ·replace c8 := Bool.eq_false_iff.mpr c8
     subst c8
     have H1 : (if (l0_2.length : Int) > (wrap64 (32 - a0_1)) then (platformfwref01_ValidPath.j0 k true false a0_1 l0_2) else (if a0_1 = 0 then (platformfwref01_ValidPath.j0 k ((l0_2.length : Int) == 0) false a0_1 l0_2) else (platformfwref01_ValidPath.j0 k false false a0_1 l0_2))) = some r := by rw [if_neg (show ¬ (false = true) by decide)] at H; exact H
     clear H
     have H := H1
     clear H1
     by_cases c14 : (l0_2.length : Int) > (wrap64 (32 - a0_1))
     ·rw [if_pos c14] at H
      have c14b0 : decide ((wrap64 (32 - a0_1)) < (l0_2.length : Int)) = true := decide_eq_true c14
      clear c14
      have H' := Aside0.mk H
      clear H
      obtain ⟨hcz15_0, hcz15_1, hcz15_2⟩ := cells3_ BK106.out
      obtain ⟨hfz15_0, hfz15_1, hfz15_2⟩ := froz3_ BK106.out
      go_wp2
      go_meet
      case rel => exact ⟨_, (true), (by first | rfl | (simp; done) | (simp [*]; done)), H', ⟨by first | omega | exact Nat.le_refl _⟩, ⟨by (with_reducible repeat (first | refine kN_ ?_ _ | refine kD_ ?_ | refine kA_ ?_ _)); exact BK106.out⟩, ⟨by repeat (first | (with_reducible first | exact HB.out | apply bA_ | apply bN_ | apply bD_ | refine bS_ ?_ GE106.out) | exact HB.out)⟩⟩
     ·rw [if_neg c14] at H
      have c14b0 : decide ((wrap64 (32 - a0_1)) < (l0_2.length : Int)) = false := decide_eq_false c14
      clear c14
      by_cases c16 : a0_1 = 0
      ·rw [if_pos c16] at H
       have c16b0 : (a0_1 == 0) = true := beq_iff_eq.mpr c16
       have c16b1 : (a0_1 != 0) = false := bne_eq_false_iff_eq.mpr c16
       clear c16
       have H' := Aside0.mk H
       clear H
       obtain ⟨hcz17_0, hcz17_1, hcz17_2⟩ := cells3_ BK106.out
       obtain ⟨hfz17_0, hfz17_1, hfz17_2⟩ := froz3_ BK106.out
       go_wp2
       go_meet
       case rel => exact ⟨_, (((l0_2.length : Int) == 0)), (by first | rfl | (simp; done) | (simp [*]; done)), H', ⟨by first | omega | exact Nat.le_refl _⟩, ⟨by (with_reducible repeat (first | refine kN_ ?_ _ | refine kD_ ?_ | refine kA_ ?_ _)); exact BK106.out⟩, ⟨by repeat (first | (with_reducible first | exact HB.out | apply bA_ | apply bN_ | apply bD_ | refine bS_ ?_ GE106.out) | exact HB.out)⟩⟩
      ·rw [if_neg c16] at H
       have c16b0 : (a0_1 == 0) = false := beq_eq_false_iff_ne.mpr c16
       have c16b1 : (a0_1 != 0) = true := bne_iff_ne.mpr c16
       have H' := Aside0.mk H
       clear H
       obtain ⟨hcz18_0, hcz18_1, hcz18_2⟩ := cells3_ BK106.out
       obtain ⟨hfz18_0, hfz18_1, hfz18_2⟩ := froz3_ BK106.out
       go_wp2
       go_meet
       case rel => exact ⟨_, (false), (by first | rfl | (simp; done) | (simp [*]; done)), H', ⟨by first | omega | exact Nat.le_refl _⟩, ⟨by (with_reducible repeat (first | refine kN_ ?_ _ | refine kD_ ?_ | refine kA_ ?_ _)); exact BK106.out⟩, ⟨by repeat (first | (with_reducible first | exact HB.out | apply bA_ | apply bN_ | apply bD_ | refine bS_ ?_ GE106.out) | exact HB.out)⟩⟩
 case rest =>
  clear HC2
  try clear c1
  try clear p2
  try clear c4
  try clear c4b0
  try clear c6
  try clear c6b0
  try clear p6
  try clear c8
  try clear c9
  try clear c9b0
  try clear c11
  try clear c11b0
  try clear c14
  try clear c14b0
  try clear c16
  try clear c16b0
  try clear c16b1
  try clear hcz10_0 hcz10_1 hcz10_2
  try clear hcz12_0 hcz12_1 hcz12_2
  try clear hcz13_0 hcz13_1 hcz13_2
  try clear hcz15_0 hcz15_1 hcz15_2
  try clear hcz17_0 hcz17_1 hcz17_2
  try clear hcz18_0 hcz18_1 hcz18_2
  try clear hcz5_0 hcz5_1 hcz5_2
  try clear hcz7_0 hcz7_1 hcz7_2
  try clear hfz10_0 hfz10_1 hfz10_2
  try clear hfz12_0 hfz12_1 hfz12_2
  try clear hfz13_0 hfz13_1 hfz13_2
  try clear hfz15_0 hfz15_1 hfz15_2
  try clear hfz17_0 hfz17_1 hfz17_2
  try clear hfz18_0 hfz18_1 hfz18_2
  try clear hfz5_0 hfz5_1 hfz5_2
  try clear hfz7_0 hfz7_1 hfz7_2
  obtain ⟨kq, x45_1, rfl, HA, HJ1, BK106, HB⟩ := hcut
  cases kq with
  | zero => exact absurd HA.out (by simp [platformfwref01_ValidPath.j0])
  | succ kj1 =>
   have H := HA.out
   clear HA
   simp only [platformfwref01_ValidPath.j0] at H
   by_cases c19 : x45_1 = true
   ·subst c19
    have H1 : (some false) = some r := by rw [if_pos rfl] at H; exact H
    clear H
    have H := H1
    clear H1
    obtain rfl := Option.some.inj H
    go_wp2
    go_ret
    exact ⟨by first | rfl | (simp [errW_none, errW_some] <;> rfl) | (simp [*, errW_none, errW_some] <;> rfl), by repeat (first | (with_reducible first | exact HB.out | apply bA_ | apply bN_ | apply bD_ | refine bS_ ?_ GE106.out) | exact HB.out)⟩
   ·replace c19 := Bool.eq_false_iff.mpr c19
    subst c19
    have H1 : (platformfwref01_ValidPath.l0 kj1 0 a0_0 a0_1 l0_2) = some r := by rw [if_neg (show ¬ (false = true) by decide)] at H; exact H
    clear H
    have H := H1
    clear H1
    have H' := Aside0.mk H
    clear H
    go_wp2
    go_loopg [3] kj1 (fun kq v3 w' => ∃ (x3_2 : Int), v3 = .int .i64 x3_2 ∧ Aside0 (platformfwref01_ValidPath.l0 kq x3_2 a0_0 a0_1 l0_2 = some r) ∧ Aside0 (kq ≤ kj1) ∧ Aside0 (w'.heap[gb106]? = some (.cells #[.bool a0_0, .int .i64 a0_1, (.slice A0_2 l0_2.length c0_2)] 24 (0, 0))) ∧ Aside0 (Below w.heap.size w w'))
    case atStart => exact ⟨(0), (by first | rfl | (simp; done) | (simp [*]; done)), H', ⟨Nat.le_refl _⟩, ⟨by (with_reducible repeat (first | refine kN_ ?_ _ | refine kD_ ?_ | refine kA_ ?_ _)); exact BK106.out⟩, ⟨by repeat (first | (with_reducible first | exact HB.out | apply bA_ | apply bN_ | apply bD_ | refine bS_ ?_ GE106.out) | exact HB.out)⟩⟩
    case round =>
     clear H'
     try clear c1
     try clear p2
     try clear c4
     try clear c4b0
     try clear c6
     try clear c6b0
     try clear p6
     try clear c8
     try clear c9
     try clear c9b0
     try clear c11
     try clear c11b0
     try clear c14
     try clear c14b0
     try clear c16
     try clear c16b0
     try clear c16b1
     try clear c19
     try clear hcz10_0 hcz10_1 hcz10_2
     try clear hcz12_0 hcz12_1 hcz12_2
     try clear hcz13_0 hcz13_1 hcz13_2
     try clear hcz15_0 hcz15_1 hcz15_2
     try clear hcz17_0 hcz17_1 hcz17_2
     try clear hcz18_0 hcz18_1 hcz18_2
     try clear hcz5_0 hcz5_1 hcz5_2
     try clear hcz7_0 hcz7_1 hcz7_2
     try clear hfz10_0 hfz10_1 hfz10_2
     try clear hfz12_0 hfz12_1 hfz12_2
     try clear hfz13_0 hfz13_1 hfz13_2
     try clear hfz15_0 hfz15_1 hfz15_2
     try clear hfz17_0 hfz17_1 hfz17_2
     try clear hfz18_0 hfz18_1 hfz18_2
     try clear hfz5_0 hfz5_1 hfz5_2
     try clear hfz7_0 hfz7_1 hfz7_2
     try clear p2
     try clear p6
     obtain ⟨x3_2, rfl, HA, HK2, BK106, HB⟩ := hrel
     cases gk with
     | zero => exact absurd HA.out (by simp [platformfwref01_ValidPath.l0])
     | succ k2 =>
      have H := HA.out
      clear HA
      simp only [platformfwref01_ValidPath.l0] at H
      by_cases c20 : x3_2 < (l0_2.length : Int)
      ·rw [if_pos c20] at H
       have c20b0 : decide (x3_2 < (l0_2.length : Int)) = true := decide_eq_true c20
       clear c20
       by_cases c21 : 0 ≤ x3_2
       ·rw [if_pos c21] at H
        have c21b0 : decide (0 ≤ x3_2) = true := decide_eq_true c21
        clear c21
        replace H := Option.bind_eq_some_iff.mp H
        obtain ⟨t108, A220, H⟩ := H
        replace H : (if t108 = true then (platformfwref01_ValidPath.l0 k2 (wrap64 (x3_2 + 1)) a0_0 a0_1 l0_2) else (some false)) = some r := H
        have A22 := Aside0.mk A220
        clear A220
        by_cases c23 : t108 = true
        ·subst c23
         have H1 : (platformfwref01_ValidPath.l0 k2 (wrap64 (x3_2 + 1)) a0_0 a0_1 l0_2) = some r := by rw [if_pos rfl] at H; exact H
         clear H
         have H := H1
         clear H1
         have H' := Aside0.mk H
         clear H
         obtain ⟨hcz24_0, hcz24_1, hcz24_2⟩ := cells3_ BK106.out
         obtain ⟨hfz24_0, hfz24_1, hfz24_2⟩ := froz3_ BK106.out
         have p107 : 0 ≤ (x3_2 : Int) := of_decide_eq_true (by first | (with_reducible assumption) | assumption)
         have q107 : x3_2 < (l0_2.length : Int) := of_decide_eq_true (by first | (with_reducible assumption) | assumption)
         obtain ⟨ad107, e107, hx107_0⟩ := Kd.at_string HR0_2.out x3_2 p107 q107
         cases e107
         replace hx107_0 := (HB.out.cell (World.block_lt_of_cell? w _ hx107_0)).trans hx107_0
         replace p107 := eq_true p107
         replace q107 := eq_true q107
         go_wp2_with (first | ((with_reducible refine gate_callee (f := 11) rfl ?_); refine goesL_ (some 58) rfl rfl Try.func11 (by kernel_rfl) rfl #[.string (rdOf ByteArray.empty l0_2 x3_2)] rfl (by (try simp only [List.map_toArray, List.map_cons, List.map_nil]); first | done | rfl | (simp only [List.length_drop, List.length_take]; rfl)) ?_; (with_reducible refine (platformfwref01_Segment.calls k2 (rdOf ByteArray.empty l0_2 x3_2) true _ A22.out).mono ?_); rintro e w' ⟨rfl, ⟨nd, rfl⟩⟩; refine ⟨_, rfl, ?_⟩))
         go_roundg k2
         case measure => have := HJ1.out; have := HK2.out; omega
         case rel => exact ⟨(wrap64 (x3_2 + 1)), (by first | rfl | (simp; done) | (simp [*]; done)), H', ⟨by have := HJ1.out; have := HK2.out; omega⟩, ⟨by (with_reducible repeat (first | refine kN_ ?_ _ | refine kD_ ?_ | refine kA_ ?_ _)); exact BK106.out⟩, ⟨by repeat (first | (with_reducible first | exact HB.out | apply bA_ | apply bN_ | apply bD_ | refine bS_ ?_ GE106.out) | exact HB.out)⟩⟩
        ·replace c23 := Bool.eq_false_iff.mpr c23
         subst c23
         have H1 : (some false) = some r := by rw [if_neg (show ¬ (false = true) by decide)] at H; exact H
         clear H
         have H := H1
         clear H1
         obtain rfl := Option.some.inj H
         obtain ⟨hcz25_0, hcz25_1, hcz25_2⟩ := cells3_ BK106.out
         obtain ⟨hfz25_0, hfz25_1, hfz25_2⟩ := froz3_ BK106.out
         have p107 : 0 ≤ (x3_2 : Int) := of_decide_eq_true (by first | (with_reducible assumption) | assumption)
         have q107 : x3_2 < (l0_2.length : Int) := of_decide_eq_true (by first | (with_reducible assumption) | assumption)
         obtain ⟨ad107, e107, hx107_0⟩ := Kd.at_string HR0_2.out x3_2 p107 q107
         cases e107
         replace hx107_0 := (HB.out.cell (World.block_lt_of_cell? w _ hx107_0)).trans hx107_0
         replace p107 := eq_true p107
         replace q107 := eq_true q107
         go_wp2_with (first | ((with_reducible refine gate_callee (f := 11) rfl ?_); refine goesL_ (some 58) rfl rfl Try.func11 (by kernel_rfl) rfl #[.string (rdOf ByteArray.empty l0_2 x3_2)] rfl (by (try simp only [List.map_toArray, List.map_cons, List.map_nil]); first | done | rfl | (simp only [List.length_drop, List.length_take]; rfl)) ?_; (with_reducible refine (platformfwref01_Segment.calls k2 (rdOf ByteArray.empty l0_2 x3_2) false _ A22.out).mono ?_); rintro e w' ⟨rfl, ⟨nd, rfl⟩⟩; refine ⟨_, rfl, ?_⟩))
         go_ret
         exact ⟨by first | rfl | (simp [errW_none, errW_some] <;> rfl) | (simp [*, errW_none, errW_some] <;> rfl), by repeat (first | (with_reducible first | exact HB.out | apply bA_ | apply bN_ | apply bD_ | refine bS_ ?_ GE106.out) | exact HB.out)⟩
       ·rw [if_neg c21] at H
        exact absurd H (by simp)
      ·rw [if_neg c20] at H
       have c20b0 : decide (x3_2 < (l0_2.length : Int)) = false := decide_eq_false c20
       clear c20
       obtain rfl := Option.some.inj H
       obtain ⟨hcz26_0, hcz26_1, hcz26_2⟩ := cells3_ BK106.out
       obtain ⟨hfz26_0, hfz26_1, hfz26_2⟩ := froz3_ BK106.out
       go_wp2
       go_ret
       exact ⟨by first | rfl | (simp [errW_none, errW_some] <;> rfl) | (simp [*, errW_none, errW_some] <;> rfl), by repeat (first | (with_reducible first | exact HB.out | apply bA_ | apply bN_ | apply bD_ | refine bS_ ?_ GE106.out) | exact HB.out)⟩

/-! ### nspath_Valid: function 12 -/
def nspath_Valid.f (a0_0 : Bool) (a0_1 : Int) (l0_2 : List ByteArray) : Option (Bool) := if a0_1 < 0 then (some false) else (if a0_1 > 32 then (some false) else (if a0_0 = true then (if a0_1 > 0 then (some false) else (if (wrap64 (a0_1 + (l0_2.length : Int))) > 32 then (some false) else ((slices_ContainsFunc.f l0_2).bind fun t110 => (some (!t110))))) else (if (wrap64 (a0_1 + (l0_2.length : Int))) > 32 then (some false) else (if a0_1 > 0 then ((slices_ContainsFunc.f l0_2).bind fun t111 => (some (!t111))) else (if (l0_2.length : Int) > 0 then ((slices_ContainsFunc.f l0_2).bind fun t112 => (some (!t112))) else (some false))))))
set_option maxHeartbeats 8000000 in
set_option maxRecDepth 100000 in
theorem nspath_Valid.calls (a0_0 : Bool) (a0_1 : Int) (A0_2 : Option Addr) (c0_2 : Nat) (l0_2 : List ByteArray) (r : Bool) (w : World) (hr0_2 : Kd.C Kd.string w A0_2 l0_2.length l0_2) (hc0_2 : l0_2.length ≤ c0_2) (h : nspath_Valid.f a0_0 a0_1 l0_2 = some r) :
  Calls Try.prog 12 #[.agg #[.bool a0_0, .int .i64 a0_1, .slice A0_2 l0_2.length c0_2]] w fun e w' => e = .returned (.bool r) ∧ Below w.heap.size w w' := by
 have hu24 := Try.underlying24
 have HR0_2 := Aside0.mk hr0_2
 have HC0_2 := Aside0.mk hc0_2
 clear hr0_2 hc0_2
 have HB := Aside0.mk (Below.refl w.heap.size w)
 have H : (if a0_1 < 0 then (some false) else (if a0_1 > 32 then (some false) else (if a0_0 = true then (if a0_1 > 0 then (some false) else (if (wrap64 (a0_1 + (l0_2.length : Int))) > 32 then (some false) else ((slices_ContainsFunc.f l0_2).bind fun t110 => (some (!t110))))) else (if (wrap64 (a0_1 + (l0_2.length : Int))) > 32 then (some false) else (if a0_1 > 0 then ((slices_ContainsFunc.f l0_2).bind fun t111 => (some (!t111))) else (if (l0_2.length : Int) > 0 then ((slices_ContainsFunc.f l0_2).bind fun t112 => (some (!t112))) else (some false))))))) = some r := h
 clear h
 by_cases c2 : a0_1 < 0
 ·rw [if_pos c2] at H
  have c2b0 : decide (a0_1 < 0) = true := decide_eq_true c2
  clear c2
  obtain rfl := Option.some.inj H
  go_enter Try.func12, Try.ntmps12
  go_wp2_with (first | ((with_reducible refine gate_dst (N := 1) rfl ?_); (try (refine gate_guard (by rfl) ?_; dsimp only)); refine box_event ?hg (N := 1) ?hd (cs := #[.bool a0_0, .int .i64 a0_1, .slice A0_2 l0_2.length c0_2]) (t := 24) ?hr ?_; (case hd => rfl); (case hg => rfl); (case hr => first | (go_simp; done) | (go_simp; rfl)); intro gb109 hg w3 hbox hb; have n0_ := Aside0.mk (below_step (by repeat (first | (with_reducible first | exact HB.out | apply bA_ | apply bN_ | apply bD_) | exact HB.out)) hb); have n1_ := Aside0.mk (hbox); have n2_ := Aside0.mk ((by rw [hg]; exact (below_size (by repeat (first | (with_reducible first | exact HB.out | apply bA_ | apply bN_ | apply bD_) | exact HB.out))) : w.heap.size ≤ gb109)); have n3_ := Aside0.mk ((by rw [hg]; exact (below_size (by repeat (first | (with_reducible first | exact HB.out | apply bA_ | apply bN_ | apply bD_) | exact HB.out))) : w.heap.size ≤ gb109)); clear HB; have HB := n0_; have BK109 := n1_; have GW109 := n2_; have GE109 := n3_; clear n0_ n1_ n2_ n3_; clear hb hbox hg; obtain ⟨hcz4_0, hcz4_1, hcz4_2⟩ := cells3_ BK109.out; obtain ⟨hfz4_0, hfz4_1, hfz4_2⟩ := froz3_ BK109.out))
  go_ret
  exact ⟨by first | rfl | (simp [errW_none, errW_some] <;> rfl) | (simp [*, errW_none, errW_some] <;> rfl), by repeat (first | (with_reducible first | exact HB.out | apply bA_ | apply bN_ | apply bD_ | refine bS_ ?_ GE109.out) | exact HB.out)⟩
 ·rw [if_neg c2] at H
  have c2b0 : decide (a0_1 < 0) = false := decide_eq_false c2
  clear c2
  by_cases c5 : a0_1 > 32
  ·rw [if_pos c5] at H
   have c5b0 : decide (32 < a0_1) = true := decide_eq_true c5
   clear c5
   obtain rfl := Option.some.inj H
   go_enter Try.func12, Try.ntmps12
   go_wp2_with (first | ((with_reducible refine gate_dst (N := 1) rfl ?_); (try (refine gate_guard (by rfl) ?_; dsimp only)); refine box_event ?hg (N := 1) ?hd (cs := #[.bool a0_0, .int .i64 a0_1, .slice A0_2 l0_2.length c0_2]) (t := 24) ?hr ?_; (case hd => rfl); (case hg => rfl); (case hr => first | (go_simp; done) | (go_simp; rfl)); intro gb109 hg w6 hbox hb; have n0_ := Aside0.mk (below_step (by repeat (first | (with_reducible first | exact HB.out | apply bA_ | apply bN_ | apply bD_) | exact HB.out)) hb); have n1_ := Aside0.mk (hbox); have n2_ := Aside0.mk ((by rw [hg]; exact (below_size (by repeat (first | (with_reducible first | exact HB.out | apply bA_ | apply bN_ | apply bD_) | exact HB.out))) : w.heap.size ≤ gb109)); have n3_ := Aside0.mk ((by rw [hg]; exact (below_size (by repeat (first | (with_reducible first | exact HB.out | apply bA_ | apply bN_ | apply bD_) | exact HB.out))) : w.heap.size ≤ gb109)); clear HB; have HB := n0_; have BK109 := n1_; have GW109 := n2_; have GE109 := n3_; clear n0_ n1_ n2_ n3_; clear hb hbox hg; obtain ⟨hcz7_0, hcz7_1, hcz7_2⟩ := cells3_ BK109.out; obtain ⟨hfz7_0, hfz7_1, hfz7_2⟩ := froz3_ BK109.out))
   go_ret
   exact ⟨by first | rfl | (simp [errW_none, errW_some] <;> rfl) | (simp [*, errW_none, errW_some] <;> rfl), by repeat (first | (with_reducible first | exact HB.out | apply bA_ | apply bN_ | apply bD_ | refine bS_ ?_ GE109.out) | exact HB.out)⟩
  ·rw [if_neg c5] at H
   have c5b0 : decide (32 < a0_1) = false := decide_eq_false c5
   clear c5
   by_cases c8 : a0_0 = true
   ·subst c8
    have H1 : (if a0_1 > 0 then (some false) else (if (wrap64 (a0_1 + (l0_2.length : Int))) > 32 then (some false) else ((slices_ContainsFunc.f l0_2).bind fun t110 => (some (!t110))))) = some r := by rw [if_pos rfl] at H; exact H
    clear H
    have H := H1
    clear H1
    by_cases c9 : a0_1 > 0
    ·rw [if_pos c9] at H
     have c9b0 : decide (0 < a0_1) = true := decide_eq_true c9
     clear c9
     obtain rfl := Option.some.inj H
     go_enter Try.func12, Try.ntmps12
     go_wp2_with (first | ((with_reducible refine gate_dst (N := 1) rfl ?_); (try (refine gate_guard (by rfl) ?_; dsimp only)); refine box_event ?hg (N := 1) ?hd (cs := #[.bool true, .int .i64 a0_1, .slice A0_2 l0_2.length c0_2]) (t := 24) ?hr ?_; (case hd => rfl); (case hg => rfl); (case hr => first | (go_simp; done) | (go_simp; rfl)); intro gb109 hg w10 hbox hb; have n0_ := Aside0.mk (below_step (by repeat (first | (with_reducible first | exact HB.out | apply bA_ | apply bN_ | apply bD_) | exact HB.out)) hb); have n1_ := Aside0.mk (hbox); have n2_ := Aside0.mk ((by rw [hg]; exact (below_size (by repeat (first | (with_reducible first | exact HB.out | apply bA_ | apply bN_ | apply bD_) | exact HB.out))) : w.heap.size ≤ gb109)); have n3_ := Aside0.mk ((by rw [hg]; exact (below_size (by repeat (first | (with_reducible first | exact HB.out | apply bA_ | apply bN_ | apply bD_) | exact HB.out))) : w.heap.size ≤ gb109)); clear HB; have HB := n0_; have BK109 := n1_; have GW109 := n2_; have GE109 := n3_; clear n0_ n1_ n2_ n3_; clear hb hbox hg; obtain ⟨hcz11_0, hcz11_1, hcz11_2⟩ := cells3_ BK109.out; obtain ⟨hfz11_0, hfz11_1, hfz11_2⟩ := froz3_ BK109.out))
     go_ret
     exact ⟨by first | rfl | (simp [errW_none, errW_some] <;> rfl) | (simp [*, errW_none, errW_some] <;> rfl), by repeat (first | (with_reducible first | exact HB.out | apply bA_ | apply bN_ | apply bD_ | refine bS_ ?_ GE109.out) | exact HB.out)⟩
    ·rw [if_neg c9] at H
     have c9b0 : decide (0 < a0_1) = false := decide_eq_false c9
     clear c9
     by_cases c12 : (wrap64 (a0_1 + (l0_2.length : Int))) > 32
     ·rw [if_pos c12] at H
      have c12b0 : decide (32 < (wrap64 (a0_1 + (l0_2.length : Int)))) = true := decide_eq_true c12
      clear c12
      obtain rfl := Option.some.inj H
      go_enter Try.func12, Try.ntmps12
      go_wp2_with (first | ((with_reducible refine gate_dst (N := 1) rfl ?_); (try (refine gate_guard (by rfl) ?_; dsimp only)); refine box_event ?hg (N := 1) ?hd (cs := #[.bool true, .int .i64 a0_1, .slice A0_2 l0_2.length c0_2]) (t := 24) ?hr ?_; (case hd => rfl); (case hg => rfl); (case hr => first | (go_simp; done) | (go_simp; rfl)); intro gb109 hg w13 hbox hb; have n0_ := Aside0.mk (below_step (by repeat (first | (with_reducible first | exact HB.out | apply bA_ | apply bN_ | apply bD_) | exact HB.out)) hb); have n1_ := Aside0.mk (hbox); have n2_ := Aside0.mk ((by rw [hg]; exact (below_size (by repeat (first | (with_reducible first | exact HB.out | apply bA_ | apply bN_ | apply bD_) | exact HB.out))) : w.heap.size ≤ gb109)); have n3_ := Aside0.mk ((by rw [hg]; exact (below_size (by repeat (first | (with_reducible first | exact HB.out | apply bA_ | apply bN_ | apply bD_) | exact HB.out))) : w.heap.size ≤ gb109)); clear HB; have HB := n0_; have BK109 := n1_; have GW109 := n2_; have GE109 := n3_; clear n0_ n1_ n2_ n3_; clear hb hbox hg; obtain ⟨hcz14_0, hcz14_1, hcz14_2⟩ := cells3_ BK109.out; obtain ⟨hfz14_0, hfz14_1, hfz14_2⟩ := froz3_ BK109.out))
      go_ret
      exact ⟨by first | rfl | (simp [errW_none, errW_some] <;> rfl) | (simp [*, errW_none, errW_some] <;> rfl), by repeat (first | (with_reducible first | exact HB.out | apply bA_ | apply bN_ | apply bD_ | refine bS_ ?_ GE109.out) | exact HB.out)⟩
     ·rw [if_neg c12] at H
      have c12b0 : decide (32 < (wrap64 (a0_1 + (l0_2.length : Int)))) = false := decide_eq_false c12
      clear c12
      replace H := Option.bind_eq_some_iff.mp H
      obtain ⟨t110, A150, H⟩ := H
      replace H : (some (!t110)) = some r := H
      have A15 := Aside0.mk A150
      clear A150
      obtain rfl := Option.some.inj H
      go_enter Try.func12, Try.ntmps12
      go_wp2_with (first | ((with_reducible refine gate_dst (N := 1) rfl ?_); (try (refine gate_guard (by rfl) ?_; dsimp only)); refine box_event ?hg (N := 1) ?hd (cs := #[.bool true, .int .i64 a0_1, .slice A0_2 l0_2.length c0_2]) (t := 24) ?hr ?_; (case hd => rfl); (case hg => rfl); (case hr => first | (go_simp; done) | (go_simp; rfl)); intro gb109 hg w16 hbox hb; have n0_ := Aside0.mk (below_step (by repeat (first | (with_reducible first | exact HB.out | apply bA_ | apply bN_ | apply bD_) | exact HB.out)) hb); have n1_ := Aside0.mk (hbox); have n2_ := Aside0.mk ((by rw [hg]; exact (below_size (by repeat (first | (with_reducible first | exact HB.out | apply bA_ | apply bN_ | apply bD_) | exact HB.out))) : w.heap.size ≤ gb109)); have n3_ := Aside0.mk ((by rw [hg]; exact (below_size (by repeat (first | (with_reducible first | exact HB.out | apply bA_ | apply bN_ | apply bD_) | exact HB.out))) : w.heap.size ≤ gb109)); clear HB; have HB := n0_; have BK109 := n1_; have GW109 := n2_; have GE109 := n3_; clear n0_ n1_ n2_ n3_; clear hb hbox hg; obtain ⟨hcz17_0, hcz17_1, hcz17_2⟩ := cells3_ BK109.out; obtain ⟨hfz17_0, hfz17_1, hfz17_2⟩ := froz3_ BK109.out) | (go_at_call 25; (with_reducible refine (slices_ContainsFunc.calls _ _ l0_2 t110 _ ?side1 ?side2 A15.out).mono ?_); (case side1 => repeat (first | exact (Kd.C_below HR0_2.out HB.out) | (with_reducible refine Kd.C_alloc ?_ _) | (with_reducible refine Kd.C_drewN ?_ _) | (with_reducible refine Kd.C_drew ?_))); (case side2 => exact HC0_2.out); rintro e w' ⟨rfl, ⟨nd, rfl⟩⟩))
      go_ret
      exact ⟨by first | rfl | (simp [errW_none, errW_some] <;> rfl) | (simp [*, errW_none, errW_some] <;> rfl), by repeat (first | (with_reducible first | exact HB.out | apply bA_ | apply bN_ | apply bD_ | refine bS_ ?_ GE109.out) | exact HB.out)⟩
   ·replace c8 := Bool.eq_false_iff.mpr c8
    subst c8
    have H1 : (if (wrap64 (a0_1 + (l0_2.length : Int))) > 32 then (some false) else (if a0_1 > 0 then ((slices_ContainsFunc.f l0_2).bind fun t111 => (some (!t111))) else (if (l0_2.length : Int) > 0 then ((slices_ContainsFunc.f l0_2).bind fun t112 => (some (!t112))) else (some false)))) = some r := by rw [if_neg (show ¬ (false = true) by decide)] at H; exact H
    clear H
    have H := H1
    clear H1
    by_cases c18 : (wrap64 (a0_1 + (l0_2.length : Int))) > 32
    ·rw [if_pos c18] at H
     have c18b0 : decide (32 < (wrap64 (a0_1 + (l0_2.length : Int)))) = true := decide_eq_true c18
     clear c18
     obtain rfl := Option.some.inj H
     go_enter Try.func12, Try.ntmps12
     go_wp2_with (first | ((with_reducible refine gate_dst (N := 1) rfl ?_); (try (refine gate_guard (by rfl) ?_; dsimp only)); refine box_event ?hg (N := 1) ?hd (cs := #[.bool false, .int .i64 a0_1, .slice A0_2 l0_2.length c0_2]) (t := 24) ?hr ?_; (case hd => rfl); (case hg => rfl); (case hr => first | (go_simp; done) | (go_simp; rfl)); intro gb109 hg w19 hbox hb; have n0_ := Aside0.mk (below_step (by repeat (first | (with_reducible first | exact HB.out | apply bA_ | apply bN_ | apply bD_) | exact HB.out)) hb); have n1_ := Aside0.mk (hbox); have n2_ := Aside0.mk ((by rw [hg]; exact (below_size (by repeat (first | (with_reducible first | exact HB.out | apply bA_ | apply bN_ | apply bD_) | exact HB.out))) : w.heap.size ≤ gb109)); have n3_ := Aside0.mk ((by rw [hg]; exact (below_size (by repeat (first | (with_reducible first | exact HB.out | apply bA_ | apply bN_ | apply bD_) | exact HB.out))) : w.heap.size ≤ gb109)); clear HB; have HB := n0_; have BK109 := n1_; have GW109 := n2_; have GE109 := n3_; clear n0_ n1_ n2_ n3_; clear hb hbox hg; obtain ⟨hcz20_0, hcz20_1, hcz20_2⟩ := cells3_ BK109.out; obtain ⟨hfz20_0, hfz20_1, hfz20_2⟩ := froz3_ BK109.out))
     go_ret
     exact ⟨by first | rfl | (simp [errW_none, errW_some] <;> rfl) | (simp [*, errW_none, errW_some] <;> rfl), by repeat (first | (with_reducible first | exact HB.out | apply bA_ | apply bN_ | apply bD_ | refine bS_ ?_ GE109.out) | exact HB.out)⟩
    ·rw [if_neg c18] at H
     have c18b0 : decide (32 < (wrap64 (a0_1 + (l0_2.length : Int)))) = false := decide_eq_false c18
     clear c18
     by_cases c21 : a0_1 > 0
     ·rw [if_pos c21] at H
      have c21b0 : decide (0 < a0_1) = true := decide_eq_true c21
      clear c21
      replace H := Option.bind_eq_some_iff.mp H
      obtain ⟨t111, A220, H⟩ := H
      replace H : (some (!t111)) = some r := H
      have A22 := Aside0.mk A220
      clear A220
      obtain rfl := Option.some.inj H
      go_enter Try.func12, Try.ntmps12
      go_wp2_with (first | ((with_reducible refine gate_dst (N := 1) rfl ?_); (try (refine gate_guard (by rfl) ?_; dsimp only)); refine box_event ?hg (N := 1) ?hd (cs := #[.bool false, .int .i64 a0_1, .slice A0_2 l0_2.length c0_2]) (t := 24) ?hr ?_; (case hd => rfl); (case hg => rfl); (case hr => first | (go_simp; done) | (go_simp; rfl)); intro gb109 hg w23 hbox hb; have n0_ := Aside0.mk (below_step (by repeat (first | (with_reducible first | exact HB.out | apply bA_ | apply bN_ | apply bD_) | exact HB.out)) hb); have n1_ := Aside0.mk (hbox); have n2_ := Aside0.mk ((by rw [hg]; exact (below_size (by repeat (first | (with_reducible first | exact HB.out | apply bA_ | apply bN_ | apply bD_) | exact HB.out))) : w.heap.size ≤ gb109)); have n3_ := Aside0.mk ((by rw [hg]; exact (below_size (by repeat (first | (with_reducible first | exact HB.out | apply bA_ | apply bN_ | apply bD_) | exact HB.out))) : w.heap.size ≤ gb109)); clear HB; have HB := n0_; have BK109 := n1_; have GW109 := n2_; have GE109 := n3_; clear n0_ n1_ n2_ n3_; clear hb hbox hg; obtain ⟨hcz24_0, hcz24_1, hcz24_2⟩ := cells3_ BK109.out; obtain ⟨hfz24_0, hfz24_1, hfz24_2⟩ := froz3_ BK109.out) | (go_at_call 25; (with_reducible refine (slices_ContainsFunc.calls _ _ l0_2 t111 _ ?side1 ?side2 A22.out).mono ?_); (case side1 => repeat (first | exact (Kd.C_below HR0_2.out HB.out) | (with_reducible refine Kd.C_alloc ?_ _) | (with_reducible refine Kd.C_drewN ?_ _) | (with_reducible refine Kd.C_drew ?_))); (case side2 => exact HC0_2.out); rintro e w' ⟨rfl, ⟨nd, rfl⟩⟩))
      go_ret
      exact ⟨by first | rfl | (simp [errW_none, errW_some] <;> rfl) | (simp [*, errW_none, errW_some] <;> rfl), by repeat (first | (with_reducible first | exact HB.out | apply bA_ | apply bN_ | apply bD_ | refine bS_ ?_ GE109.out) | exact HB.out)⟩
     ·rw [if_neg c21] at H
      have c21b0 : decide (0 < a0_1) = false := decide_eq_false c21
      clear c21
      by_cases c25 : (l0_2.length : Int) > 0
      ·rw [if_pos c25] at H
       have c25b0 : decide (0 < (l0_2.length : Int)) = true := decide_eq_true c25
       have c25b1 : decide (0 < l0_2.length) = true := decide_eq_true (by omega)
       clear c25
       replace H := Option.bind_eq_some_iff.mp H
       obtain ⟨t112, A260, H⟩ := H
       replace H : (some (!t112)) = some r := H
       have A26 := Aside0.mk A260
       clear A260
       obtain rfl := Option.some.inj H
       go_enter Try.func12, Try.ntmps12
       go_wp2_with (first | ((with_reducible refine gate_dst (N := 1) rfl ?_); (try (refine gate_guard (by rfl) ?_; dsimp only)); refine box_event ?hg (N := 1) ?hd (cs := #[.bool false, .int .i64 a0_1, .slice A0_2 l0_2.length c0_2]) (t := 24) ?hr ?_; (case hd => rfl); (case hg => rfl); (case hr => first | (go_simp; done) | (go_simp; rfl)); intro gb109 hg w27 hbox hb; have n0_ := Aside0.mk (below_step (by repeat (first | (with_reducible first | exact HB.out | apply bA_ | apply bN_ | apply bD_) | exact HB.out)) hb); have n1_ := Aside0.mk (hbox); have n2_ := Aside0.mk ((by rw [hg]; exact (below_size (by repeat (first | (with_reducible first | exact HB.out | apply bA_ | apply bN_ | apply bD_) | exact HB.out))) : w.heap.size ≤ gb109)); have n3_ := Aside0.mk ((by rw [hg]; exact (below_size (by repeat (first | (with_reducible first | exact HB.out | apply bA_ | apply bN_ | apply bD_) | exact HB.out))) : w.heap.size ≤ gb109)); clear HB; have HB := n0_; have BK109 := n1_; have GW109 := n2_; have GE109 := n3_; clear n0_ n1_ n2_ n3_; clear hb hbox hg; obtain ⟨hcz28_0, hcz28_1, hcz28_2⟩ := cells3_ BK109.out; obtain ⟨hfz28_0, hfz28_1, hfz28_2⟩ := froz3_ BK109.out) | (go_at_call 25; (with_reducible refine (slices_ContainsFunc.calls _ _ l0_2 t112 _ ?side1 ?side2 A26.out).mono ?_); (case side1 => repeat (first | exact (Kd.C_below HR0_2.out HB.out) | (with_reducible refine Kd.C_alloc ?_ _) | (with_reducible refine Kd.C_drewN ?_ _) | (with_reducible refine Kd.C_drew ?_))); (case side2 => exact HC0_2.out); rintro e w' ⟨rfl, ⟨nd, rfl⟩⟩))
       go_ret
       exact ⟨by first | rfl | (simp [errW_none, errW_some] <;> rfl) | (simp [*, errW_none, errW_some] <;> rfl), by repeat (first | (with_reducible first | exact HB.out | apply bA_ | apply bN_ | apply bD_ | refine bS_ ?_ GE109.out) | exact HB.out)⟩
      ·rw [if_neg c25] at H
       have c25b0 : decide (0 < (l0_2.length : Int)) = false := decide_eq_false c25
       have c25b1 : decide (0 < l0_2.length) = false := decide_eq_false (by omega)
       clear c25
       obtain rfl := Option.some.inj H
       go_enter Try.func12, Try.ntmps12
       go_wp2_with (first | ((with_reducible refine gate_dst (N := 1) rfl ?_); (try (refine gate_guard (by rfl) ?_; dsimp only)); refine box_event ?hg (N := 1) ?hd (cs := #[.bool false, .int .i64 a0_1, .slice A0_2 l0_2.length c0_2]) (t := 24) ?hr ?_; (case hd => rfl); (case hg => rfl); (case hr => first | (go_simp; done) | (go_simp; rfl)); intro gb109 hg w29 hbox hb; have n0_ := Aside0.mk (below_step (by repeat (first | (with_reducible first | exact HB.out | apply bA_ | apply bN_ | apply bD_) | exact HB.out)) hb); have n1_ := Aside0.mk (hbox); have n2_ := Aside0.mk ((by rw [hg]; exact (below_size (by repeat (first | (with_reducible first | exact HB.out | apply bA_ | apply bN_ | apply bD_) | exact HB.out))) : w.heap.size ≤ gb109)); have n3_ := Aside0.mk ((by rw [hg]; exact (below_size (by repeat (first | (with_reducible first | exact HB.out | apply bA_ | apply bN_ | apply bD_) | exact HB.out))) : w.heap.size ≤ gb109)); clear HB; have HB := n0_; have BK109 := n1_; have GW109 := n2_; have GE109 := n3_; clear n0_ n1_ n2_ n3_; clear hb hbox hg; obtain ⟨hcz30_0, hcz30_1, hcz30_2⟩ := cells3_ BK109.out; obtain ⟨hfz30_0, hfz30_1, hfz30_2⟩ := froz3_ BK109.out))
       go_ret
       exact ⟨by first | rfl | (simp [errW_none, errW_some] <;> rfl) | (simp [*, errW_none, errW_some] <;> rfl), by repeat (first | (with_reducible first | exact HB.out | apply bA_ | apply bN_ | apply bD_ | refine bS_ ?_ GE109.out) | exact HB.out)⟩

end Go.Proofs.Ytmnmidclaaiffab.PBytecodePaths
