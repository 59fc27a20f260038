-- Written by a program of this session's (wip/print_patch.py over the kit's print) out of the translation; Lean checks it.
import Derived.Test.YtpjajjmipbjliaaDoorPNspathParsesExactlyx0
import Derived.Test.YtpjajjmipbjliaaDoorPNspathParsesExactlyx3
import Derived.Test.YtpjajjmipbjliaaDoorExtP
namespace Go.Proofs.YtpjajjmipbjliaaDoor.PNspathParsesExactly
open Go.RowKit Go.Proofs.YtpjajjmipbjliaaDoor.Ext Go.Proofs.YtpjajjmipbjliaaDoorW.PrintWords Go.Proofs.YtpjajjmipbjliaaDoorW.PrintLast Go.Proofs.YtpjajjmipbjliaaDoorW.PrintMore
attribute [local go_sem] max2_int min2_int max_two min_two max_three min_three max_four min_four   -- for this text's walks alone
set_option linter.unusedVariables false
set_option linter.unusedSimpArgs false

/-! ### platformfwref01_ValidPath: function 15 -/
mutual
def platformfwref01_ValidPath.j0 : Nat → Bool → Bool → Int → List ByteArray → Option (Bool)
 | 0, _, _, _, _ => none
 | k + 1, x45, x227000, x227001, x227002 => if x45 = true then (some false) else (platformfwref01_ValidPath.l0 k 0 x227000 x227001 x227002)
def platformfwref01_ValidPath.l0 : Nat → Int → Bool → Int → List ByteArray → Option (Bool)
 | 0, _, _, _, _ => none
 | k + 1, x3, x227000, x227001, x227002 => if x3 < (x227002.length : Int) then (if 0 ≤ x3 then ((platformfwref01_Segment.f k (rdOf ByteArray.empty x227002 x3)).bind fun t228 => (if t228 = true then (platformfwref01_ValidPath.l0 k (wrap64 (x3 + 1)) x227000 x227001 x227002) else (some false))) else (none)) else (some true)
end
def platformfwref01_ValidPath.f (k : Nat) (a0_0 : Bool) (a0_1 : Int) (l0_2 : List ByteArray) : Option (Bool) := if a0_1 < 0 then (platformfwref01_ValidPath.j0 k true a0_0 a0_1 l0_2) else (if a0_1 > 32 then (platformfwref01_ValidPath.j0 k true a0_0 a0_1 l0_2) else (if a0_0 = true then (if a0_1 > 0 then (platformfwref01_ValidPath.j0 k true a0_0 a0_1 l0_2) else (if (l0_2.length : Int) > (wrap64 (32 - a0_1)) then (platformfwref01_ValidPath.j0 k true a0_0 a0_1 l0_2) else (platformfwref01_ValidPath.j0 k false a0_0 a0_1 l0_2))) else (if (l0_2.length : Int) > (wrap64 (32 - a0_1)) then (platformfwref01_ValidPath.j0 k true a0_0 a0_1 l0_2) else (if a0_1 = 0 then (platformfwref01_ValidPath.j0 k ((l0_2.length : Int) == 0) a0_0 a0_1 l0_2) else (platformfwref01_ValidPath.j0 k false a0_0 a0_1 l0_2)))))
theorem platformfwref01_ValidPath.mono_l : ∀ k, (∀ y0 y1 y2 y3, LeO (platformfwref01_ValidPath.j0 k y0 y1 y2 y3) (platformfwref01_ValidPath.j0 (k + 1) y0 y1 y2 y3)) ∧ (∀ y0 y1 y2 y3, LeO (platformfwref01_ValidPath.l0 k y0 y1 y2 y3) (platformfwref01_ValidPath.l0 (k + 1) y0 y1 y2 y3))
 | 0 => ⟨fun _ _ _ _ r h => by simp [platformfwref01_ValidPath.j0] at h, fun _ _ _ _ r h => by simp [platformfwref01_ValidPath.l0] at h⟩
 | k + 1 => by
  obtain ⟨ih0, ih1⟩ := platformfwref01_ValidPath.mono_l k
  refine ⟨?_, ?_⟩
  ·intro y0 y1 y2 y3
   unfold platformfwref01_ValidPath.j0
   repeat' first
   | (with_reducible exact ih0 _ _ _ _)
   | (with_reducible exact ih1 _ _ _ _)
   | (with_reducible exact platformfwref01_Segment.mono _ _)
   | (with_reducible exact LeO.refl _)
   | (with_reducible exact LeO.none _)
   | (with_reducible refine LeO.ite ?_ ?_)
   | (with_reducible refine LeO.bind ?_ (fun _ => ?_))
   | exact ih0 _ _ _ _
   | exact ih1 _ _ _ _
   | exact platformfwref01_Segment.mono _ _
   | exact LeO.none _
   | refine LeO.ite ?_ ?_
   | refine LeO.bind ?_ (fun _ => ?_)
  ·intro y0 y1 y2 y3
   unfold platformfwref01_ValidPath.l0
   repeat' first
   | (with_reducible exact ih0 _ _ _ _)
   | (with_reducible exact ih1 _ _ _ _)
   | (with_reducible exact platformfwref01_Segment.mono _ _)
   | (with_reducible exact LeO.refl _)
   | (with_reducible exact LeO.none _)
   | (with_reducible refine LeO.ite ?_ ?_)
   | (with_reducible refine LeO.bind ?_ (fun _ => ?_))
   | exact ih0 _ _ _ _
   | exact ih1 _ _ _ _
   | exact platformfwref01_Segment.mono _ _
   | exact LeO.none _
   | refine LeO.ite ?_ ?_
   | refine LeO.bind ?_ (fun _ => ?_)
theorem platformfwref01_ValidPath.mono : ∀ a0 a1 a2 k, LeO (platformfwref01_ValidPath.f k a0 a1 a2) (platformfwref01_ValidPath.f (k + 1) a0 a1 a2) := by
 intro a0 a1 a2 k
 obtain ⟨ih0, ih1⟩ := platformfwref01_ValidPath.mono_l k
 unfold platformfwref01_ValidPath.f
 repeat' first
   | (with_reducible exact ih0 _ _ _ _)
   | (with_reducible exact ih1 _ _ _ _)
   | (with_reducible exact platformfwref01_Segment.mono _ _)
   | (with_reducible exact LeO.refl _)
   | (with_reducible exact LeO.none _)
   | (with_reducible refine LeO.ite ?_ ?_)
   | (with_reducible refine LeO.bind ?_ (fun _ => ?_))
   | exact ih0 _ _ _ _
   | exact ih1 _ _ _ _
   | exact platformfwref01_Segment.mono _ _
   | exact LeO.none _
   | refine LeO.ite ?_ ?_
   | refine LeO.bind ?_ (fun _ => ?_)
set_option maxHeartbeats 8000000 in
set_option maxRecDepth 100000 in
theorem platformfwref01_ValidPath.calls (k : Nat) (a0_0 : Bool) (a0_1 : Int) (A0_2 : Option Addr) (c0_2 : Nat) (l0_2 : List ByteArray) (r : Bool) (w : World) (hr0_2 : Kd.C Kd.string w A0_2 l0_2.length l0_2) (hc0_2 : l0_2.length ≤ c0_2) (h : platformfwref01_ValidPath.f k a0_0 a0_1 l0_2 = some r) :
  Calls Tryd.prog 15 #[.agg #[.bool a0_0, .int .i64 a0_1, .slice A0_2 l0_2.length c0_2]] w fun e w' => e = .returned (.bool r) ∧ Below w.heap.size w w' := by
 have hu24 := Tryd.underlying24
 have HR0_2 := Aside0.mk hr0_2
 have HC0_2 := Aside0.mk hc0_2
 clear hr0_2 hc0_2
 have HB := Aside0.mk (Below.refl w.heap.size w)
 have H : (if a0_1 < 0 then (platformfwref01_ValidPath.j0 k true a0_0 a0_1 l0_2) else (if a0_1 > 32 then (platformfwref01_ValidPath.j0 k true a0_0 a0_1 l0_2) else (if a0_0 = true then (if a0_1 > 0 then (platformfwref01_ValidPath.j0 k true a0_0 a0_1 l0_2) else (if (l0_2.length : Int) > (wrap64 (32 - a0_1)) then (platformfwref01_ValidPath.j0 k true a0_0 a0_1 l0_2) else (platformfwref01_ValidPath.j0 k false a0_0 a0_1 l0_2))) else (if (l0_2.length : Int) > (wrap64 (32 - a0_1)) then (platformfwref01_ValidPath.j0 k true a0_0 a0_1 l0_2) else (if a0_1 = 0 then (platformfwref01_ValidPath.j0 k ((l0_2.length : Int) == 0) a0_0 a0_1 l0_2) else (platformfwref01_ValidPath.j0 k false a0_0 a0_1 l0_2)))))) = some r := h
 clear h
 have HC2 := Aside0.mk H
 clear H
 go_enter Tryd.func15, Tryd.ntmps15
 go_upto_region 1 with (first | ((with_reducible refine gate_dst (N := 1) rfl ?_); (try (refine gate_guard (by rfl) ?_; dsimp only)); refine box_event ?hg (N := 1) ?hd (cs := #[.bool a0_0, .int .i64 a0_1, .slice A0_2 l0_2.length c0_2]) (t := 24) ?hr ?_; (case hd => rfl); (case hg => rfl); (case hr => first | (go_simp; done) | (go_simp; rfl)); intro gb226 hg w3 hbox hb; have n0_ := Aside0.mk (below_step (by repeat (first | (with_reducible first | exact HB.out | apply bA_ | apply bN_ | apply bD_) | exact HB.out)) hb); have n1_ := Aside0.mk (hbox); have n2_ := Aside0.mk ((by rw [hg]; exact (below_size (by repeat (first | (with_reducible first | exact HB.out | apply bA_ | apply bN_ | apply bD_) | exact HB.out))) : w.heap.size ≤ gb226)); have n3_ := Aside0.mk ((by rw [hg]; exact (below_size (by repeat (first | (with_reducible first | exact HB.out | apply bA_ | apply bN_ | apply bD_) | exact HB.out))) : w.heap.size ≤ gb226)); clear HB; have HB := n0_; have BK226 := n1_; have GW226 := n2_; have GE226 := n3_; clear n0_ n1_ n2_ n3_; clear hb hbox hg))
 (try simp only [Act.put, sA_, sB_, sC_])
 go_cut [45] (fun v45 wc => ∃ (kq : Nat) (x45_1 : Bool), v45 = .bool x45_1 ∧ Aside0 (platformfwref01_ValidPath.j0 kq x45_1 a0_0 a0_1 l0_2 = some r) ∧ Aside0 (kq ≤ k) ∧ Aside0 (wc.heap[gb226]? = some (.cells #[.bool a0_0, .int .i64 a0_1, (.slice A0_2 l0_2.length c0_2)] 24 (0, 0))) ∧ Aside0 (Below w.heap.size w wc))
 case first =>
  have H := HC2.out
  clear HC2
  by_cases c4 : a0_1 < 0
  ·rw [if_pos c4] at H
   have c4b0 : decide (a0_1 < 0) = true := decide_eq_true c4
   clear c4
   (first | rw [c4b0] | (simp only [i64_w, i32_w]; rw [c4b0]) | skip)
   have H' := Aside0.mk H
   clear H
   obtain ⟨hcz5_0, hcz5_1, hcz5_2⟩ := cells3_ BK226.out
   obtain ⟨hfz5_0, hfz5_1, hfz5_2⟩ := froz3_ BK226.out
   go_wp2
   go_meet
   case rel => exact ⟨_, (true), (by first | rfl | (simp; done) | (simp [*]; done)), H', ⟨by first | omega | exact Nat.le_refl _⟩, ⟨by (with_reducible repeat (first | refine kN_ ?_ _ | refine kD_ ?_ | refine kA_ ?_ _)); exact BK226.out⟩, ⟨by repeat (first | (with_reducible first | exact HB.out | apply bA_ | apply bN_ | apply bD_ | refine bS_ ?_ GE226.out) | exact HB.out)⟩⟩
  ·rw [if_neg c4] at H
   have c4b0 : decide (a0_1 < 0) = false := decide_eq_false c4
   clear c4
   (first | rw [c4b0] | (simp only [i64_w, i32_w]; rw [c4b0]) | skip)
   by_cases c6 : a0_1 > 32
   ·rw [if_pos c6] at H
    have c6b0 : decide (32 < a0_1) = true := decide_eq_true c6
    clear c6
    have H' := Aside0.mk H
    clear H
    obtain ⟨hcz7_0, hcz7_1, hcz7_2⟩ := cells3_ BK226.out
    obtain ⟨hfz7_0, hfz7_1, hfz7_2⟩ := froz3_ BK226.out
    go_wp2
    go_meet
    case rel => exact ⟨_, (true), (by first | rfl | (simp; done) | (simp [*]; done)), H', ⟨by first | omega | exact Nat.le_refl _⟩, ⟨by (with_reducible repeat (first | refine kN_ ?_ _ | refine kD_ ?_ | refine kA_ ?_ _)); exact BK226.out⟩, ⟨by repeat (first | (with_reducible first | exact HB.out | apply bA_ | apply bN_ | apply bD_ | refine bS_ ?_ GE226.out) | exact HB.out)⟩⟩
   ·rw [if_neg c6] at H
    have c6b0 : decide (32 < a0_1) = false := decide_eq_false c6
    clear c6
    by_cases c8 : a0_0 = true
    ·subst c8
     have H1 : (if a0_1 > 0 then (platformfwref01_ValidPath.j0 k true true a0_1 l0_2) else (if (l0_2.length : Int) > (wrap64 (32 - a0_1)) then (platformfwref01_ValidPath.j0 k true true a0_1 l0_2) else (platformfwref01_ValidPath.j0 k false true a0_1 l0_2))) = some r := by rw [if_pos rfl] at H; exact H
     clear H
     have H := H1
     clear H1
     by_cases c9 : a0_1 > 0
     ·rw [if_pos c9] at H
      have c9b0 : decide (0 < a0_1) = true := decide_eq_true c9
      clear c9
      have H' := Aside0.mk H
      clear H
      obtain ⟨hcz10_0, hcz10_1, hcz10_2⟩ := cells3_ BK226.out
      obtain ⟨hfz10_0, hfz10_1, hfz10_2⟩ := froz3_ BK226.out
      go_wp2
      go_meet
      case rel => exact ⟨_, (true), (by first | rfl | (simp; done) | (simp [*]; done)), H', ⟨by first | omega | exact Nat.le_refl _⟩, ⟨by (with_reducible repeat (first | refine kN_ ?_ _ | refine kD_ ?_ | refine kA_ ?_ _)); exact BK226.out⟩, ⟨by repeat (first | (with_reducible first | exact HB.out | apply bA_ | apply bN_ | apply bD_ | refine bS_ ?_ GE226.out) | exact HB.out)⟩⟩
     ·rw [if_neg c9] at H
      have c9b0 : decide (0 < a0_1) = false := decide_eq_false c9
      clear c9
      by_cases c11 : (l0_2.length : Int) > (wrap64 (32 - a0_1))
      ·rw [if_pos c11] at H
       have c11b0 : decide ((wrap64 (32 - a0_1)) < (l0_2.length : Int)) = true := decide_eq_true c11
       clear c11
       have H' := Aside0.mk H
       clear H
       obtain ⟨hcz12_0, hcz12_1, hcz12_2⟩ := cells3_ BK226.out
       obtain ⟨hfz12_0, hfz12_1, hfz12_2⟩ := froz3_ BK226.out
       go_wp2
       go_meet
       case rel => exact ⟨_, (true), (by first | rfl | (simp; done) | (simp [*]; done)), H', ⟨by first | omega | exact Nat.le_refl _⟩, ⟨by (with_reducible repeat (first | refine kN_ ?_ _ | refine kD_ ?_ | refine kA_ ?_ _)); exact BK226.out⟩, ⟨by repeat (first | (with_reducible first | exact HB.out | apply bA_ | apply bN_ | apply bD_ | refine bS_ ?_ GE226.out) | exact HB.out)⟩⟩
      ·rw [if_neg c11] at H
       have c11b0 : decide ((wrap64 (32 - a0_1)) < (l0_2.length : Int)) = false := decide_eq_false c11
       clear c11
       have H' := Aside0.mk H
       clear H
       obtain ⟨hcz13_0, hcz13_1, hcz13_2⟩ := cells3_ BK226.out
       obtain ⟨hfz13_0, hfz13_1, hfz13_2⟩ := froz3_ BK226.out
       go_wp2
       go_meet
       case rel => exact ⟨_, (false), (by first | rfl | (simp; done) | (simp [*]; done)), H', ⟨by first | omega | exact Nat.le_refl _⟩, ⟨by (with_reducible repeat (first | refine kN_ ?_ _ | refine kD_ ?_ | refine kA_ ?_ _)); exact BK226.out⟩, ⟨by repeat (first | (with_reducible first | exact HB.out | apply bA_ | apply bN_ | apply bD_ | refine bS_ ?_ GE226.out) | exact HB.out)⟩⟩
    ·replace c8 := Bool.eq_false_iff.mpr c8
     subst c8
     have H1 : (if (l0_2.length : Int) > (wrap64 (32 - a0_1)) then (platformfwref01_ValidPath.j0 k true false a0_1 l0_2) else (if a0_1 = 0 then (platformfwref01_ValidPath.j0 k ((l0_2.length : Int) == 0) false a0_1 l0_2) else (platformfwref01_ValidPath.j0 k false false a0_1 l0_2))) = some r := by rw [if_neg (show ¬ (false = true) by decide)] at H; exact H
     clear H
     have H := H1
     clear H1
     by_cases c14 : (l0_2.length : Int) > (wrap64 (32 - a0_1))
     ·rw [if_pos c14] at H
      have c14b0 : decide ((wrap64 (32 - a0_1)) < (l0_2.length : Int)) = true := decide_eq_true c14
      clear c14
      have H' := Aside0.mk H
      clear H
      obtain ⟨hcz15_0, hcz15_1, hcz15_2⟩ := cells3_ BK226.out
      obtain ⟨hfz15_0, hfz15_1, hfz15_2⟩ := froz3_ BK226.out
      go_wp2
      go_meet
      case rel => exact ⟨_, (true), (by first | rfl | (simp; done) | (simp [*]; done)), H', ⟨by first | omega | exact Nat.le_refl _⟩, ⟨by (with_reducible repeat (first | refine kN_ ?_ _ | refine kD_ ?_ | refine kA_ ?_ _)); exact BK226.out⟩, ⟨by repeat (first | (with_reducible first | exact HB.out | apply bA_ | apply bN_ | apply bD_ | refine bS_ ?_ GE226.out) | exact HB.out)⟩⟩
     ·rw [if_neg c14] at H
      have c14b0 : decide ((wrap64 (32 - a0_1)) < (l0_2.length : Int)) = false := decide_eq_false c14
      clear c14
      by_cases c16 : a0_1 = 0
      ·rw [if_pos c16] at H
       have c16b0 : (a0_1 == 0) = true := beq_iff_eq.mpr c16
       have c16b1 : (a0_1 != 0) = false := bne_eq_false_iff_eq.mpr c16
       clear c16
       have H' := Aside0.mk H
       clear H
       obtain ⟨hcz17_0, hcz17_1, hcz17_2⟩ := cells3_ BK226.out
       obtain ⟨hfz17_0, hfz17_1, hfz17_2⟩ := froz3_ BK226.out
       go_wp2
       go_meet
       case rel => exact ⟨_, (((l0_2.length : Int) == 0)), (by first | rfl | (simp; done) | (simp [*]; done)), H', ⟨by first | omega | exact Nat.le_refl _⟩, ⟨by (with_reducible repeat (first | refine kN_ ?_ _ | refine kD_ ?_ | refine kA_ ?_ _)); exact BK226.out⟩, ⟨by repeat (first | (with_reducible first | exact HB.out | apply bA_ | apply bN_ | apply bD_ | refine bS_ ?_ GE226.out) | exact HB.out)⟩⟩
      ·rw [if_neg c16] at H
       have c16b0 : (a0_1 == 0) = false := beq_eq_false_iff_ne.mpr c16
       have c16b1 : (a0_1 != 0) = true := bne_iff_ne.mpr c16
       have H' := Aside0.mk H
       clear H
       obtain ⟨hcz18_0, hcz18_1, hcz18_2⟩ := cells3_ BK226.out
       obtain ⟨hfz18_0, hfz18_1, hfz18_2⟩ := froz3_ BK226.out
       go_wp2
       go_meet
       case rel => exact ⟨_, (false), (by first | rfl | (simp; done) | (simp [*]; done)), H', ⟨by first | omega | exact Nat.le_refl _⟩, ⟨by (with_reducible repeat (first | refine kN_ ?_ _ | refine kD_ ?_ | refine kA_ ?_ _)); exact BK226.out⟩, ⟨by repeat (first | (with_reducible first | exact HB.out | apply bA_ | apply bN_ | apply bD_ | refine bS_ ?_ GE226.out) | exact HB.out)⟩⟩
 case rest =>
  clear HC2
  try clear c1
  try clear p2
  try clear c4
  try clear c4b0
  try clear c6
  try clear c6b0
  try clear p6
  try clear c8
  try clear c9
  try clear c9b0
  try clear c11
  try clear c11b0
  try clear c14
  try clear c14b0
  try clear c15
  try clear c16
  try clear c16b0
  try clear c16b1
  try clear hcz10_0 hcz10_1 hcz10_2
  try clear hcz12_0 hcz12_1 hcz12_2
  try clear hcz13_0 hcz13_1 hcz13_2
  try clear hcz15_0 hcz15_1 hcz15_2
  try clear hcz17_0 hcz17_1 hcz17_2
  try clear hcz18_0 hcz18_1 hcz18_2
  try clear hcz5_0 hcz5_1 hcz5_2
  try clear hcz7_0 hcz7_1 hcz7_2
  try clear hfz10_0 hfz10_1 hfz10_2
  try clear hfz12_0 hfz12_1 hfz12_2
  try clear hfz13_0 hfz13_1 hfz13_2
  try clear hfz15_0 hfz15_1 hfz15_2
  try clear hfz17_0 hfz17_1 hfz17_2
  try clear hfz18_0 hfz18_1 hfz18_2
  try clear hfz5_0 hfz5_1 hfz5_2
  try clear hfz7_0 hfz7_1 hfz7_2
  obtain ⟨kq, x45_1, rfl, HA, HJ1, BK226, HB⟩ := hcut
  cases kq with
  | zero => exact absurd HA.out (by simp [platformfwref01_ValidPath.j0])
  | succ kj1 =>
   have H := HA.out
   clear HA
   simp only [platformfwref01_ValidPath.j0] at H
   by_cases c19 : x45_1 = true
   ·subst c19
    have H1 : (some false) = some r := by rw [if_pos rfl] at H; exact H
    clear H
    have H := H1
    clear H1
    obtain rfl := Option.some.inj H
    go_wp2
    go_ret
    exact ⟨by first | rfl | (simp [errW_none, errW_some] <;> rfl) | (simp [*, errW_none, errW_some] <;> rfl), by repeat (first | (with_reducible first | exact HB.out | apply bA_ | apply bN_ | apply bD_ | refine bS_ ?_ GE226.out) | exact HB.out)⟩
   ·replace c19 := Bool.eq_false_iff.mpr c19
    subst c19
    have H1 : (platformfwref01_ValidPath.l0 kj1 0 a0_0 a0_1 l0_2) = some r := by rw [if_neg (show ¬ (false = true) by decide)] at H; exact H
    clear H
    have H := H1
    clear H1
    have H' := Aside0.mk H
    clear H
    go_wp2
    go_loopg [3] kj1 (fun kq v3 w' => ∃ (x3_2 : Int), v3 = .int .i64 x3_2 ∧ Aside0 (platformfwref01_ValidPath.l0 kq x3_2 a0_0 a0_1 l0_2 = some r) ∧ Aside0 (kq ≤ kj1) ∧ Aside0 (w'.heap[gb226]? = some (.cells #[.bool a0_0, .int .i64 a0_1, (.slice A0_2 l0_2.length c0_2)] 24 (0, 0))) ∧ Aside0 (Below w.heap.size w w'))
    case atStart => exact ⟨(0), (by first | rfl | (simp; done) | (simp [*]; done)), H', ⟨Nat.le_refl _⟩, ⟨by (with_reducible repeat (first | refine kN_ ?_ _ | refine kD_ ?_ | refine kA_ ?_ _)); exact BK226.out⟩, ⟨by repeat (first | (with_reducible first | exact HB.out | apply bA_ | apply bN_ | apply bD_ | refine bS_ ?_ GE226.out) | exact HB.out)⟩⟩
    case round =>
     clear H'
     try clear c1
     try clear p2
     try clear c4
     try clear c4b0
     try clear c6
     try clear c6b0
     try clear p6
     try clear c8
     try clear c9
     try clear c9b0
     try clear c11
     try clear c11b0
     try clear c14
     try clear c14b0
     try clear c15
     try clear c16
     try clear c16b0
     try clear c16b1
     try clear c19
     try clear hcz10_0 hcz10_1 hcz10_2
     try clear hcz12_0 hcz12_1 hcz12_2
     try clear hcz13_0 hcz13_1 hcz13_2
     try clear hcz15_0 hcz15_1 hcz15_2
     try clear hcz17_0 hcz17_1 hcz17_2
     try clear hcz18_0 hcz18_1 hcz18_2
     try clear hcz5_0 hcz5_1 hcz5_2
     try clear hcz7_0 hcz7_1 hcz7_2
     try clear hfz10_0 hfz10_1 hfz10_2
     try clear hfz12_0 hfz12_1 hfz12_2
     try clear hfz13_0 hfz13_1 hfz13_2
     try clear hfz15_0 hfz15_1 hfz15_2
     try clear hfz17_0 hfz17_1 hfz17_2
     try clear hfz18_0 hfz18_1 hfz18_2
     try clear hfz5_0 hfz5_1 hfz5_2
     try clear hfz7_0 hfz7_1 hfz7_2
     try clear p2
     try clear p6
     obtain ⟨x3_2, rfl, HA, HK2, BK226, HB⟩ := hrel
     cases gk with
     | zero => exact absurd HA.out (by simp [platformfwref01_ValidPath.l0])
     | succ k2 =>
      have H := HA.out
      clear HA
      simp only [platformfwref01_ValidPath.l0] at H
      by_cases c20 : x3_2 < (l0_2.length : Int)
      ·rw [if_pos c20] at H
       have c20b0 : decide (x3_2 < (l0_2.length : Int)) = true := decide_eq_true c20
       clear c20
       by_cases c21 : 0 ≤ x3_2
       ·rw [if_pos c21] at H
        have c21b0 : decide (0 ≤ x3_2) = true := decide_eq_true c21
        clear c21
        replace H := Option.bind_eq_some_iff.mp H
        obtain ⟨t228, A220, H⟩ := H
        replace H : (if t228 = true then (platformfwref01_ValidPath.l0 k2 (wrap64 (x3_2 + 1)) a0_0 a0_1 l0_2) else (some false)) = some r := H
        have A22 := Aside0.mk A220
        clear A220
        by_cases c23 : t228 = true
        ·subst c23
         have H1 : (platformfwref01_ValidPath.l0 k2 (wrap64 (x3_2 + 1)) a0_0 a0_1 l0_2) = some r := by rw [if_pos rfl] at H; exact H
         clear H
         have H := H1
         clear H1
         have H' := Aside0.mk H
         clear H
         obtain ⟨hcz24_0, hcz24_1, hcz24_2⟩ := cells3_ BK226.out
         obtain ⟨hfz24_0, hfz24_1, hfz24_2⟩ := froz3_ BK226.out
         have p227 : 0 ≤ (x3_2 : Int) := of_decide_eq_true (by first | (with_reducible assumption) | assumption)
         have q227 : x3_2 < (l0_2.length : Int) := of_decide_eq_true (by first | (with_reducible assumption) | assumption)
         obtain ⟨ad227, e227, hx227_0⟩ := Kd.at_string HR0_2.out x3_2 p227 q227
         cases e227
         replace hx227_0 := (HB.out.cell (World.block_lt_of_cell? w _ hx227_0)).trans hx227_0
         replace p227 := eq_true p227
         replace q227 := eq_true q227
         go_wp2_with (first | ((with_reducible refine gate_callee (f := 27) rfl ?_); refine goesL_ (some 58) rfl rfl Tryd.func27 (by kernel_rfl) rfl #[.string (rdOf ByteArray.empty l0_2 x3_2)] rfl (by (try simp only [List.map_toArray, List.map_cons, List.map_nil]); first | done | rfl | (simp only [List.length_drop, List.length_take]; rfl)) ?_; (with_reducible refine (platformfwref01_Segment.calls k2 (rdOf ByteArray.empty l0_2 x3_2) true _ A22.out).mono ?_); rintro e w' ⟨rfl, ⟨nd, rfl⟩⟩; refine ⟨_, rfl, ?_⟩))
         go_roundg k2
         case measure => have := HJ1.out; have := HK2.out; omega
         case rel => exact ⟨(wrap64 (x3_2 + 1)), (by first | rfl | (simp; done) | (simp [*]; done)), H', ⟨by have := HJ1.out; have := HK2.out; omega⟩, ⟨by (with_reducible repeat (first | refine kN_ ?_ _ | refine kD_ ?_ | refine kA_ ?_ _)); exact BK226.out⟩, ⟨by repeat (first | (with_reducible first | exact HB.out | apply bA_ | apply bN_ | apply bD_ | refine bS_ ?_ GE226.out) | exact HB.out)⟩⟩
        ·replace c23 := Bool.eq_false_iff.mpr c23
         subst c23
         have H1 : (some false) = some r := by rw [if_neg (show ¬ (false = true) by decide)] at H; exact H
         clear H
         have H := H1
         clear H1
         obtain rfl := Option.some.inj H
         obtain ⟨hcz25_0, hcz25_1, hcz25_2⟩ := cells3_ BK226.out
         obtain ⟨hfz25_0, hfz25_1, hfz25_2⟩ := froz3_ BK226.out
         have p227 : 0 ≤ (x3_2 : Int) := of_decide_eq_true (by first | (with_reducible assumption) | assumption)
         have q227 : x3_2 < (l0_2.length : Int) := of_decide_eq_true (by first | (with_reducible assumption) | assumption)
         obtain ⟨ad227, e227, hx227_0⟩ := Kd.at_string HR0_2.out x3_2 p227 q227
         cases e227
         replace hx227_0 := (HB.out.cell (World.block_lt_of_cell? w _ hx227_0)).trans hx227_0
         replace p227 := eq_true p227
         replace q227 := eq_true q227
         go_wp2_with (first | ((with_reducible refine gate_callee (f := 27) rfl ?_); refine goesL_ (some 58) rfl rfl Tryd.func27 (by kernel_rfl) rfl #[.string (rdOf ByteArray.empty l0_2 x3_2)] rfl (by (try simp only [List.map_toArray, List.map_cons, List.map_nil]); first | done | rfl | (simp only [List.length_drop, List.length_take]; rfl)) ?_; (with_reducible refine (platformfwref01_Segment.calls k2 (rdOf ByteArray.empty l0_2 x3_2) false _ A22.out).mono ?_); rintro e w' ⟨rfl, ⟨nd, rfl⟩⟩; refine ⟨_, rfl, ?_⟩))
         go_ret
         exact ⟨by first | rfl | (simp [errW_none, errW_some] <;> rfl) | (simp [*, errW_none, errW_some] <;> rfl), by repeat (first | (with_reducible first | exact HB.out | apply bA_ | apply bN_ | apply bD_ | refine bS_ ?_ GE226.out) | exact HB.out)⟩
       ·rw [if_neg c21] at H
        exact absurd H (by simp)
      ·rw [if_neg c20] at H
       have c20b0 : decide (x3_2 < (l0_2.length : Int)) = false := decide_eq_false c20
       clear c20
       obtain rfl := Option.some.inj H
       obtain ⟨hcz26_0, hcz26_1, hcz26_2⟩ := cells3_ BK226.out
       obtain ⟨hfz26_0, hfz26_1, hfz26_2⟩ := froz3_ BK226.out
       go_wp2
       go_ret
       exact ⟨by first | rfl | (simp [errW_none, errW_some] <;> rfl) | (simp [*, errW_none, errW_some] <;> rfl), by repeat (first | (with_reducible first | exact HB.out | apply bA_ | apply bN_ | apply bD_ | refine bS_ ?_ GE226.out) | exact HB.out)⟩

end Go.Proofs.YtpjajjmipbjliaaDoor.PNspathParsesExactly
