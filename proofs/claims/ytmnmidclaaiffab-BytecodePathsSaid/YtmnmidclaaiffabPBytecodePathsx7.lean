-- Written by a program of this session's (wip/print_patch.py over the kit's print) out of the translation; Lean checks it.
import Derived.Test.YtmnmidclaaiffabPBytecodePathsx0
import Derived.Test.YtmnmidclaaiffabExtP
namespace Go.Proofs.Ytmnmidclaaiffab.PBytecodePaths
open Go.RowKit Go.Proofs.Ytmnmidclaaiffab.Ext Go.Proofs.YtmnmidclaaiffabW.PrintWords Go.Proofs.YtmnmidclaaiffabW.PrintLast Go.Proofs.YtmnmidclaaiffabW.PrintMore
attribute [local go_sem] max2_int min2_int max_two min_two max_three min_three max_four min_four   -- for this text's walks alone
set_option linter.unusedVariables false
set_option linter.unusedSimpArgs false

/-! ### bytecode_segments: function 18 -/
mutual
def bytecode_segments.j0 : Nat → ByteArray → Int → Int → Bool → Int → List ByteArray → Option (Int × Int × Int)
 | 0, _, _, _, _, _, _ => none
 | k + 1, x0, x7, x8, x179000, x179001, x179002 => if x7 = 0 then (if x179000 = true then (bytecode_segments.j1 k x0 x7 x8 false x179000 x179001 x179002) else (bytecode_segments.j1 k x0 x7 x8 (x179001 == 0) x179000 x179001 x179002)) else (bytecode_segments.j1 k x0 x7 x8 false x179000 x179001 x179002)
def bytecode_segments.j1 : Nat → ByteArray → Int → Int → Bool → Bool → Int → List ByteArray → Option (Int × Int × Int)
 | 0, _, _, _, _, _, _, _ => none
 | k + 1, x0, x7, x8, x25, x179000, x179001, x179002 => if x25 = true then (bytecode_segments.j2 k x0 x7 x8 x25) else (if (wrap64 (x179001 + x7)) > 32 then (bytecode_segments.j2 k x0 x7 x8 (decide ((wrap64 (x179001 + x7)) > 32))) else (if x8 = 2 then (if x7 < 3 then (bytecode_segments.j2 k x0 x7 x8 true) else (bytecode_segments.j2 k x0 x7 x8 (decide ((wrap64 (x179001 + 3)) > 32)))) else (bytecode_segments.j2 k x0 x7 x8 false)))
def bytecode_segments.j2 : Nat → ByteArray → Int → Int → Bool → Option (Int × Int × Int)
 | 0, _, _, _, _ => none
 | k + 1, x0, x7, x8, x25 => if x25 = true then (some (0, 0, 3)) else (if (x0.size : Int) < x8 then (some (0, 0, 4)) else (some (x7, x8, 0)))
end
def bytecode_segments.f (k : Nat) (a0 : ByteArray) (a1_0 : Bool) (a1_1 : Int) (l1_2 : List ByteArray) : Option (Int × Int × Int) := if a0.toList = ([] : List UInt8) then (some (0, 0, 4)) else (if 0 < (a0.size : Int) then (if (bt a0 0) = 0 then (bytecode_segments.j0 k a0 0 1 a1_0 a1_1 l1_2) else (if (bt a0 0) = 46 then (bytecode_segments.j0 k a0 2 1 a1_0 a1_1 l1_2) else (if (bt a0 0) = 47 then (if (a0.size : Int) > 1 then (if 1 < (a0.size : Int) then (bytecode_segments.j0 k a0 (wrap64 (bt a0 1)) 2 a1_0 a1_1 l1_2) else (none)) else (bytecode_segments.j0 k a0 3 2 a1_0 a1_1 l1_2)) else (bytecode_segments.j0 k a0 1 0 a1_0 a1_1 l1_2)))) else (none))
theorem bytecode_segments.mono_l : ∀ k, (∀ y0 y1 y2 y3 y4 y5, LeO (bytecode_segments.j0 k y0 y1 y2 y3 y4 y5) (bytecode_segments.j0 (k + 1) y0 y1 y2 y3 y4 y5)) ∧ (∀ y0 y1 y2 y3 y4 y5 y6, LeO (bytecode_segments.j1 k y0 y1 y2 y3 y4 y5 y6) (bytecode_segments.j1 (k + 1) y0 y1 y2 y3 y4 y5 y6)) ∧ (∀ y0 y1 y2 y3, LeO (bytecode_segments.j2 k y0 y1 y2 y3) (bytecode_segments.j2 (k + 1) y0 y1 y2 y3))
 | 0 => ⟨fun _ _ _ _ _ _ r h => by simp [bytecode_segments.j0] at h, fun _ _ _ _ _ _ _ r h => by simp [bytecode_segments.j1] at h, fun _ _ _ _ r h => by simp [bytecode_segments.j2] at h⟩
 | k + 1 => by
  obtain ⟨ih0, ih1, ih2⟩ := bytecode_segments.mono_l k
  refine ⟨?_, ?_, ?_⟩
  ·intro y0 y1 y2 y3 y4 y5
   unfold bytecode_segments.j0
   repeat' first
   | (with_reducible exact ih0 _ _ _ _ _ _)
   | (with_reducible exact ih1 _ _ _ _ _ _ _)
   | (with_reducible exact ih2 _ _ _ _)
   | (with_reducible exact LeO.refl _)
   | (with_reducible exact LeO.none _)
   | (with_reducible refine LeO.ite ?_ ?_)
   | (with_reducible refine LeO.bind ?_ (fun _ => ?_))
   | exact ih0 _ _ _ _ _ _
   | exact ih1 _ _ _ _ _ _ _
   | exact ih2 _ _ _ _
   | exact LeO.none _
   | refine LeO.ite ?_ ?_
   | refine LeO.bind ?_ (fun _ => ?_)
  ·intro y0 y1 y2 y3 y4 y5 y6
   unfold bytecode_segments.j1
   repeat' first
   | (with_reducible exact ih0 _ _ _ _ _ _)
   | (with_reducible exact ih1 _ _ _ _ _ _ _)
   | (with_reducible exact ih2 _ _ _ _)
   | (with_reducible exact LeO.refl _)
   | (with_reducible exact LeO.none _)
   | (with_reducible refine LeO.ite ?_ ?_)
   | (with_reducible refine LeO.bind ?_ (fun _ => ?_))
   | exact ih0 _ _ _ _ _ _
   | exact ih1 _ _ _ _ _ _ _
   | exact ih2 _ _ _ _
   | exact LeO.none _
   | refine LeO.ite ?_ ?_
   | refine LeO.bind ?_ (fun _ => ?_)
  ·intro y0 y1 y2 y3
   unfold bytecode_segments.j2
   repeat' first
   | (with_reducible exact ih0 _ _ _ _ _ _)
   | (with_reducible exact ih1 _ _ _ _ _ _ _)
   | (with_reducible exact ih2 _ _ _ _)
   | (with_reducible exact LeO.refl _)
   | (with_reducible exact LeO.none _)
   | (with_reducible refine LeO.ite ?_ ?_)
   | (with_reducible refine LeO.bind ?_ (fun _ => ?_))
   | exact ih0 _ _ _ _ _ _
   | exact ih1 _ _ _ _ _ _ _
   | exact ih2 _ _ _ _
   | exact LeO.none _
   | refine LeO.ite ?_ ?_
   | refine LeO.bind ?_ (fun _ => ?_)
theorem bytecode_segments.mono : ∀ a0 a1 a2 a3 k, LeO (bytecode_segments.f k a0 a1 a2 a3) (bytecode_segments.f (k + 1) a0 a1 a2 a3) := by
 intro a0 a1 a2 a3 k
 obtain ⟨ih0, ih1, ih2⟩ := bytecode_segments.mono_l k
 unfold bytecode_segments.f
 repeat' first
   | (with_reducible exact ih0 _ _ _ _ _ _)
   | (with_reducible exact ih1 _ _ _ _ _ _ _)
   | (with_reducible exact ih2 _ _ _ _)
   | (with_reducible exact LeO.refl _)
   | (with_reducible exact LeO.none _)
   | (with_reducible refine LeO.ite ?_ ?_)
   | (with_reducible refine LeO.bind ?_ (fun _ => ?_))
   | exact ih0 _ _ _ _ _ _
   | exact ih1 _ _ _ _ _ _ _
   | exact ih2 _ _ _ _
   | exact LeO.none _
   | refine LeO.ite ?_ ?_
   | refine LeO.bind ?_ (fun _ => ?_)
set_option maxHeartbeats 8000000 in
set_option maxRecDepth 100000 in
theorem bytecode_segments.calls (k : Nat) (a0 : ByteArray) (a1_0 : Bool) (a1_1 : Int) (A1_2 : Option Addr) (c1_2 : Nat) (l1_2 : List ByteArray) (r1 : Int) (r2 : Int) (r3 : Int) (w : World) (hr1_2 : Kd.C Kd.string w A1_2 l1_2.length l1_2) (hc1_2 : l1_2.length ≤ c1_2) (h : bytecode_segments.f k a0 a1_0 a1_1 l1_2 = some (r1, r2, r3)) :
  Calls Try.prog 18 #[.string a0, .agg #[.bool a1_0, .int .i64 a1_1, .slice A1_2 l1_2.length c1_2]] w fun e w' => e = .returned (.tuple #[.int .i64 r1, .int .i64 r2, .int .i64 r3]) ∧ Below w.heap.size w w' := by
 have hu24 := Try.underlying24
 have HR1_2 := Aside0.mk hr1_2
 have HC1_2 := Aside0.mk hc1_2
 clear hr1_2 hc1_2
 have HB := Aside0.mk (Below.refl w.heap.size w)
 have H : (if a0.toList = ([] : List UInt8) then (some (0, 0, 4)) else (if 0 < (a0.size : Int) then (if (bt a0 0) = 0 then (bytecode_segments.j0 k a0 0 1 a1_0 a1_1 l1_2) else (if (bt a0 0) = 46 then (bytecode_segments.j0 k a0 2 1 a1_0 a1_1 l1_2) else (if (bt a0 0) = 47 then (if (a0.size : Int) > 1 then (if 1 < (a0.size : Int) then (bytecode_segments.j0 k a0 (wrap64 (bt a0 1)) 2 a1_0 a1_1 l1_2) else (none)) else (bytecode_segments.j0 k a0 3 2 a1_0 a1_1 l1_2)) else (bytecode_segments.j0 k a0 1 0 a1_0 a1_1 l1_2)))) else (none))) = some (r1, r2, r3) := h
 clear h
 by_cases c3 : a0.toList = ([] : List UInt8)
 ·rw [if_pos c3] at H
  have c3b0 : (a0.toList == ([] : List UInt8)) = true := beq_iff_eq.mpr c3
  have c3b1 : (a0.toList != ([] : List UInt8)) = false := bne_eq_false_iff_eq.mpr c3
  clear c3
  simp only [Option.some.injEq, Prod.mk.injEq] at H
  obtain ⟨rfl, rfl, rfl⟩ := H
  go_enter Try.func18, Try.ntmps18
  go_wp2_with (first | ((with_reducible refine gate_dst (N := 3) rfl ?_); refine box_event ?hg (N := 3) ?hd (cs := #[.bool a1_0, .int .i64 a1_1, .slice A1_2 l1_2.length c1_2]) (t := 24) ?hr ?_; (case hd => rfl); (case hg => rfl); (case hr => first | (go_simp; done) | (go_simp; rfl)); intro gb178 hg w4 hbox hb; have n0_ := Aside0.mk (below_step (by repeat (first | (with_reducible first | exact HB.out | apply bA_ | apply bN_ | apply bD_) | exact HB.out)) hb); have n1_ := Aside0.mk (hbox); have n2_ := Aside0.mk ((by rw [hg]; exact (below_size (by repeat (first | (with_reducible first | exact HB.out | apply bA_ | apply bN_ | apply bD_) | exact HB.out))) : w.heap.size ≤ gb178)); have n3_ := Aside0.mk ((by rw [hg]; exact (below_size (by repeat (first | (with_reducible first | exact HB.out | apply bA_ | apply bN_ | apply bD_) | exact HB.out))) : w.heap.size ≤ gb178)); clear HB; have HB := n0_; have BK178 := n1_; have GW178 := n2_; have GE178 := n3_; clear n0_ n1_ n2_ n3_; clear hb hbox hg))
  go_ret3
  exact ⟨by first | rfl | (simp [errW_none, errW_some] <;> rfl) | (simp [*, errW_none, errW_some] <;> rfl), by repeat (first | (with_reducible first | exact HB.out | apply bA_ | apply bN_ | apply bD_ | refine bS_ ?_ GE178.out) | exact HB.out)⟩
 ·rw [if_neg c3] at H
  have c3b0 : (a0.toList == ([] : List UInt8)) = false := beq_eq_false_iff_ne.mpr c3
  have c3b1 : (a0.toList != ([] : List UInt8)) = true := bne_iff_ne.mpr c3
  by_cases c5 : 0 < (a0.size : Int)
  ·rw [if_pos c5] at H
   have c5b0 : decide (0 < (a0.size : Int)) = true := decide_eq_true c5
   have c5b1 : decide (0 < a0.size) = true := decide_eq_true (by omega)
   clear c5
   have HC7 := Aside0.mk H
   clear H
   go_enter Try.func18, Try.ntmps18
   go_upto_block 0 with (first | ((with_reducible refine gate_dst (N := 3) rfl ?_); refine box_event ?hg (N := 3) ?hd (cs := #[.bool a1_0, .int .i64 a1_1, .slice A1_2 l1_2.length c1_2]) (t := 24) ?hr ?_; (case hd => rfl); (case hg => rfl); (case hr => first | (go_simp; done) | (go_simp; rfl)); intro gb178 hg w8 hbox hb; have n0_ := Aside0.mk (below_step (by repeat (first | (with_reducible first | exact HB.out | apply bA_ | apply bN_ | apply bD_) | exact HB.out)) hb); have n1_ := Aside0.mk (hbox); have n2_ := Aside0.mk ((by rw [hg]; exact (below_size (by repeat (first | (with_reducible first | exact HB.out | apply bA_ | apply bN_ | apply bD_) | exact HB.out))) : w.heap.size ≤ gb178)); have n3_ := Aside0.mk ((by rw [hg]; exact (below_size (by repeat (first | (with_reducible first | exact HB.out | apply bA_ | apply bN_ | apply bD_) | exact HB.out))) : w.heap.size ≤ gb178)); clear HB; have HB := n0_; have BK178 := n1_; have GW178 := n2_; have GE178 := n3_; clear n0_ n1_ n2_ n3_; clear hb hbox hg; have p6 : 0 ≤ (0 : Int) := (by omega); have q6 : 0 < a0.size := (by have : (0 : Int) < (a0.size : Int) := of_decide_eq_true (by first | (with_reducible assumption) | assumption); omega); have hx6 : ∀ h : 0 < a0.size, ((a0[0]'h).toNat : Int) = bt a0 0 := bt_at a0 0; clear p6; have qi6 : (0 < (a0.size : Int)) = True := eq_true (of_decide_eq_true (by first | (with_reducible assumption) | assumption)); replace q6 := eq_true q6))
   (try simp only [Act.put, sA_, sB_, sC_])
   go_cut [7, 8] (fun v7 v8 wc => ∃ (kq : Nat) (x7_6 : Int) (x8_6 : Int), v7 = .int .i64 x7_6 ∧ v8 = .int .i64 x8_6 ∧ Aside0 (bytecode_segments.j0 kq a0 x7_6 x8_6 a1_0 a1_1 l1_2 = some (r1, r2, r3)) ∧ Aside0 (kq ≤ k) ∧ Aside0 (wc.heap[gb178]? = some (.cells #[.bool a1_0, .int .i64 a1_1, (.slice A1_2 l1_2.length c1_2)] 24 (0, 0))) ∧ Aside0 (Below w.heap.size w wc))
   case first =>
    have H := HC7.out
    clear HC7
    by_cases c9 : (bt a0 0) = 0
    ·rw [if_pos c9] at H
     have c9b0 : ((bt a0 0) == 0) = true := beq_iff_eq.mpr c9
     have c9b1 : ((bt a0 0) != 0) = false := bne_eq_false_iff_eq.mpr c9
     clear c9
     (first | rw [c9b0] | (simp only [i64_w, i32_w]; rw [c9b0]) | skip)
     have H' := Aside0.mk H
     clear H
     go_wp2
     go_meet
     case rel => exact ⟨_, (0), (1), (by first | rfl | (simp; done) | (simp [*]; done)), (by first | rfl | (simp; done) | (simp [*]; done)), H', ⟨by first | omega | exact Nat.le_refl _⟩, ⟨by (with_reducible repeat (first | refine kN_ ?_ _ | refine kD_ ?_ | refine kA_ ?_ _)); exact BK178.out⟩, ⟨by repeat (first | (with_reducible first | exact HB.out | apply bA_ | apply bN_ | apply bD_ | refine bS_ ?_ GE178.out) | exact HB.out)⟩⟩
    ·rw [if_neg c9] at H
     have c9b0 : ((bt a0 0) == 0) = false := beq_eq_false_iff_ne.mpr c9
     have c9b1 : ((bt a0 0) != 0) = true := bne_iff_ne.mpr c9
     (first | rw [c9b0] | (simp only [i64_w, i32_w]; rw [c9b0]) | skip)
     by_cases c10 : (bt a0 0) = 46
     ·rw [if_pos c10] at H
      have c10b0 : ((bt a0 0) == 46) = true := beq_iff_eq.mpr c10
      have c10b1 : ((bt a0 0) != 46) = false := bne_eq_false_iff_eq.mpr c10
      clear c10
      have H' := Aside0.mk H
      clear H
      go_wp2
      go_meet
      case rel => exact ⟨_, (2), (1), (by first | rfl | (simp; done) | (simp [*]; done)), (by first | rfl | (simp; done) | (simp [*]; done)), H', ⟨by first | omega | exact Nat.le_refl _⟩, ⟨by (with_reducible repeat (first | refine kN_ ?_ _ | refine kD_ ?_ | refine kA_ ?_ _)); exact BK178.out⟩, ⟨by repeat (first | (with_reducible first | exact HB.out | apply bA_ | apply bN_ | apply bD_ | refine bS_ ?_ GE178.out) | exact HB.out)⟩⟩
     ·rw [if_neg c10] at H
      have c10b0 : ((bt a0 0) == 46) = false := beq_eq_false_iff_ne.mpr c10
      have c10b1 : ((bt a0 0) != 46) = true := bne_iff_ne.mpr c10
      by_cases c11 : (bt a0 0) = 47
      ·rw [if_pos c11] at H
       have c11b0 : ((bt a0 0) == 47) = true := beq_iff_eq.mpr c11
       have c11b1 : ((bt a0 0) != 47) = false := bne_eq_false_iff_eq.mpr c11
       clear c11
       by_cases c12 : (a0.size : Int) > 1
       ·rw [if_pos c12] at H
        have c12b0 : decide (1 < (a0.size : Int)) = true := decide_eq_true c12
        have c12b1 : decide (1 < a0.size) = true := decide_eq_true (by omega)
        clear c12
        by_cases c13 : 1 < (a0.size : Int)
        ·rw [if_pos c13] at H
         have c13b0 : decide (1 < (a0.size : Int)) = true := decide_eq_true c13
         have c13b1 : decide (1 < a0.size) = true := decide_eq_true (by omega)
         clear c13
         have H' := Aside0.mk H
         clear H
         have p14 : 0 ≤ (1 : Int) := (by omega)
         have q14 : 1 < a0.size := (by have : (1 : Int) < (a0.size : Int) := of_decide_eq_true (by first | (with_reducible assumption) | assumption); omega)
         have hx14 : ∀ h : 1 < a0.size, ((a0[1]'h).toNat : Int) = bt a0 1 := bt_at a0 1
         clear p14
         have qi14 : (1 < (a0.size : Int)) = True := eq_true (of_decide_eq_true (by first | (with_reducible assumption) | assumption))
         replace q14 := eq_true q14
         go_wp2
         go_meet
         case rel => exact ⟨_, (wrap64 (bt a0 1)), (2), (by first | rfl | (simp; done) | (simp [*]; done)), (by first | rfl | (simp; done) | (simp [*]; done)), H', ⟨by first | omega | exact Nat.le_refl _⟩, ⟨by (with_reducible repeat (first | refine kN_ ?_ _ | refine kD_ ?_ | refine kA_ ?_ _)); exact BK178.out⟩, ⟨by repeat (first | (with_reducible first | exact HB.out | apply bA_ | apply bN_ | apply bD_ | refine bS_ ?_ GE178.out) | exact HB.out)⟩⟩
        ·rw [if_neg c13] at H
         exact absurd H (by simp)
       ·rw [if_neg c12] at H
        have c12b0 : decide (1 < (a0.size : Int)) = false := decide_eq_false c12
        have c12b1 : decide (1 < a0.size) = false := decide_eq_false (by omega)
        clear c12
        have H' := Aside0.mk H
        clear H
        go_wp2
        go_meet
        case rel => exact ⟨_, (3), (2), (by first | rfl | (simp; done) | (simp [*]; done)), (by first | rfl | (simp; done) | (simp [*]; done)), H', ⟨by first | omega | exact Nat.le_refl _⟩, ⟨by (with_reducible repeat (first | refine kN_ ?_ _ | refine kD_ ?_ | refine kA_ ?_ _)); exact BK178.out⟩, ⟨by repeat (first | (with_reducible first | exact HB.out | apply bA_ | apply bN_ | apply bD_ | refine bS_ ?_ GE178.out) | exact HB.out)⟩⟩
      ·rw [if_neg c11] at H
       have c11b0 : ((bt a0 0) == 47) = false := beq_eq_false_iff_ne.mpr c11
       have c11b1 : ((bt a0 0) != 47) = true := bne_iff_ne.mpr c11
       have H' := Aside0.mk H
       clear H
       go_wp2
       go_meet
       case rel => exact ⟨_, (1), (0), (by first | rfl | (simp; done) | (simp [*]; done)), (by first | rfl | (simp; done) | (simp [*]; done)), H', ⟨by first | omega | exact Nat.le_refl _⟩, ⟨by (with_reducible repeat (first | refine kN_ ?_ _ | refine kD_ ?_ | refine kA_ ?_ _)); exact BK178.out⟩, ⟨by repeat (first | (with_reducible first | exact HB.out | apply bA_ | apply bN_ | apply bD_ | refine bS_ ?_ GE178.out) | exact HB.out)⟩⟩
   case rest =>
    clear HC7
    try clear c1
    try clear p1
    try clear q1
    try clear hx1
    try clear qi1
    try clear p2
    try clear c3
    try clear c3b0
    try clear c3b1
    try clear c5
    try clear c5b0
    try clear c5b1
    try clear p6
    try clear q6
    try clear hx6
    try clear qi6
    try clear c9
    try clear c9b0
    try clear c9b1
    try clear c10
    try clear c10b0
    try clear c10b1
    try clear c11
    try clear c11b0
    try clear c11b1
    try clear c12
    try clear c12b0
    try clear c12b1
    try clear c13
    try clear c13b0
    try clear c13b1
    try clear p14
    try clear q14
    try clear hx14
    try clear qi14
    try clear p14
    try clear p6
    try clear q14
    try clear q6
    obtain ⟨kq, x7_6, x8_6, rfl, rfl, HA, HJ6, BK178, HB⟩ := hcut
    cases kq with
    | zero => exact absurd HA.out (by simp [bytecode_segments.j0])
    | succ kj6 =>
     have H := HA.out
     clear HA
     simp only [bytecode_segments.j0] at H
     have HC15 := Aside0.mk H
     clear H
     go_upto_region 13 with (fail)
     go_cut [25] (fun v25 wc => ∃ (kq : Nat) (x25_14 : Bool), v25 = .bool x25_14 ∧ Aside0 (bytecode_segments.j1 kq a0 x7_6 x8_6 x25_14 a1_0 a1_1 l1_2 = some (r1, r2, r3)) ∧ Aside0 (kq ≤ kj6) ∧ Aside0 (wc.heap[gb178]? = some (.cells #[.bool a1_0, .int .i64 a1_1, (.slice A1_2 l1_2.length c1_2)] 24 (0, 0))) ∧ Aside0 (Below w.heap.size w wc))
     case first =>
      have H := HC15.out
      clear HC15
      by_cases c16 : x7_6 = 0
      ·rw [if_pos c16] at H
       have c16b0 : (x7_6 == 0) = true := beq_iff_eq.mpr c16
       have c16b1 : (x7_6 != 0) = false := bne_eq_false_iff_eq.mpr c16
       clear c16
       (first | rw [c16b0] | (simp only [i64_w, i32_w]; rw [c16b0]) | skip)
       by_cases c17 : a1_0 = true
       ·subst c17
        have H1 : (bytecode_segments.j1 kj6 a0 x7_6 x8_6 false true a1_1 l1_2) = some (r1, r2, r3) := by rw [if_pos rfl] at H; exact H
        clear H
        have H := H1
        clear H1
        have H' := Aside0.mk H
        clear H
        obtain ⟨hcz18_0, hcz18_1, hcz18_2⟩ := cells3_ BK178.out
        obtain ⟨hfz18_0, hfz18_1, hfz18_2⟩ := froz3_ BK178.out
        go_wp2
        go_meet
        case rel => exact ⟨_, (false), (by first | rfl | (simp; done) | (simp [*]; done)), H', ⟨by have := HJ6.out; first | omega | exact Nat.le_refl _⟩, ⟨by (with_reducible repeat (first | refine kN_ ?_ _ | refine kD_ ?_ | refine kA_ ?_ _)); exact BK178.out⟩, ⟨by repeat (first | (with_reducible first | exact HB.out | apply bA_ | apply bN_ | apply bD_ | refine bS_ ?_ GE178.out) | exact HB.out)⟩⟩
       ·replace c17 := Bool.eq_false_iff.mpr c17
        subst c17
        have H1 : (bytecode_segments.j1 kj6 a0 x7_6 x8_6 (a1_1 == 0) false a1_1 l1_2) = some (r1, r2, r3) := by rw [if_neg (show ¬ (false = true) by decide)] at H; exact H
        clear H
        have H := H1
        clear H1
        have H' := Aside0.mk H
        clear H
        obtain ⟨hcz19_0, hcz19_1, hcz19_2⟩ := cells3_ BK178.out
        obtain ⟨hfz19_0, hfz19_1, hfz19_2⟩ := froz3_ BK178.out
        go_wp2
        go_meet
        case rel => exact ⟨_, ((a1_1 == 0)), (by first | rfl | (simp; done) | (simp [*]; done)), H', ⟨by have := HJ6.out; first | omega | exact Nat.le_refl _⟩, ⟨by (with_reducible repeat (first | refine kN_ ?_ _ | refine kD_ ?_ | refine kA_ ?_ _)); exact BK178.out⟩, ⟨by repeat (first | (with_reducible first | exact HB.out | apply bA_ | apply bN_ | apply bD_ | refine bS_ ?_ GE178.out) | exact HB.out)⟩⟩
      ·rw [if_neg c16] at H
       have c16b0 : (x7_6 == 0) = false := beq_eq_false_iff_ne.mpr c16
       have c16b1 : (x7_6 != 0) = true := bne_iff_ne.mpr c16
       (first | rw [c16b0] | (simp only [i64_w, i32_w]; rw [c16b0]) | skip)
       have H' := Aside0.mk H
       clear H
       go_wp2
       go_meet
       case rel => exact ⟨_, (false), (by first | rfl | (simp; done) | (simp [*]; done)), H', ⟨by have := HJ6.out; first | omega | exact Nat.le_refl _⟩, ⟨by (with_reducible repeat (first | refine kN_ ?_ _ | refine kD_ ?_ | refine kA_ ?_ _)); exact BK178.out⟩, ⟨by repeat (first | (with_reducible first | exact HB.out | apply bA_ | apply bN_ | apply bD_ | refine bS_ ?_ GE178.out) | exact HB.out)⟩⟩
     case rest =>
      clear HC15
      try clear c1
      try clear p1
      try clear q1
      try clear hx1
      try clear qi1
      try clear p2
      try clear c3
      try clear c3b0
      try clear c3b1
      try clear c5
      try clear c5b0
      try clear c5b1
      try clear p6
      try clear q6
      try clear hx6
      try clear qi6
      try clear c9
      try clear c9b0
      try clear c9b1
      try clear c10
      try clear c10b0
      try clear c10b1
      try clear c11
      try clear c11b0
      try clear c11b1
      try clear c12
      try clear c12b0
      try clear c12b1
      try clear c13
      try clear c13b0
      try clear c13b1
      try clear p14
      try clear q14
      try clear hx14
      try clear qi14
      try clear c16
      try clear c16b0
      try clear c16b1
      try clear c17
      try clear c18
      try clear hcz18_0 hcz18_1 hcz18_2
      try clear hcz19_0 hcz19_1 hcz19_2
      try clear hfz18_0 hfz18_1 hfz18_2
      try clear hfz19_0 hfz19_1 hfz19_2
      try clear p1
      try clear p14
      try clear p2
      try clear p6
      try clear q1
      try clear q14
      try clear q6
      obtain ⟨kq, x25_14, rfl, HA, HJ14, BK178, HB⟩ := hcut
      cases kq with
      | zero => exact absurd HA.out (by simp [bytecode_segments.j1])
      | succ kj14 =>
       have H := HA.out
       clear HA
       simp only [bytecode_segments.j1] at H
       have HC20 := Aside0.mk H
       clear H
       go_upto_if 25 with (fail)
       go_cut [25] (fun v25 wc => ∃ (kq : Nat) (x25_19 : Bool), v25 = .bool x25_19 ∧ Aside0 (bytecode_segments.j2 kq a0 x7_6 x8_6 x25_19 = some (r1, r2, r3)) ∧ Aside0 (kq ≤ kj14) ∧ Aside0 (wc.heap[gb178]? = some (.cells #[.bool a1_0, .int .i64 a1_1, (.slice A1_2 l1_2.length c1_2)] 24 (0, 0))) ∧ Aside0 (Below w.heap.size w wc))
       case first =>
        have H := HC20.out
        clear HC20
        by_cases c21 : x25_14 = true
        ·subst c21
         have H1 : (bytecode_segments.j2 kj14 a0 x7_6 x8_6 true) = some (r1, r2, r3) := by rw [if_pos rfl] at H; exact H
         clear H
         have H := H1
         clear H1
         have H' := Aside0.mk H
         clear H
         go_wp2
         go_meet
         case rel => exact ⟨_, (true), (by first | rfl | (simp; done) | (simp [*]; done)), H', ⟨by have := HJ6.out; have := HJ14.out; first | omega | exact Nat.le_refl _⟩, ⟨by (with_reducible repeat (first | refine kN_ ?_ _ | refine kD_ ?_ | refine kA_ ?_ _)); exact BK178.out⟩, ⟨by repeat (first | (with_reducible first | exact HB.out | apply bA_ | apply bN_ | apply bD_ | refine bS_ ?_ GE178.out) | exact HB.out)⟩⟩
        ·replace c21 := Bool.eq_false_iff.mpr c21
         subst c21
         have H1 : (if (wrap64 (a1_1 + x7_6)) > 32 then (bytecode_segments.j2 kj14 a0 x7_6 x8_6 (decide ((wrap64 (a1_1 + x7_6)) > 32))) else (if x8_6 = 2 then (if x7_6 < 3 then (bytecode_segments.j2 kj14 a0 x7_6 x8_6 true) else (bytecode_segments.j2 kj14 a0 x7_6 x8_6 (decide ((wrap64 (a1_1 + 3)) > 32)))) else (bytecode_segments.j2 kj14 a0 x7_6 x8_6 false))) = some (r1, r2, r3) := by rw [if_neg (show ¬ (false = true) by decide)] at H; exact H
         clear H
         have H := H1
         clear H1
         by_cases c22 : (wrap64 (a1_1 + x7_6)) > 32
         ·rw [if_pos c22] at H
          have c22b0 : decide (32 < (wrap64 (a1_1 + x7_6))) = true := decide_eq_true c22
          clear c22
          (first | rw [c22b0] | (simp only [i64_w, i32_w]; rw [c22b0]) | skip)
          have H' := Aside0.mk H
          clear H
          obtain ⟨hcz23_0, hcz23_1, hcz23_2⟩ := cells3_ BK178.out
          obtain ⟨hfz23_0, hfz23_1, hfz23_2⟩ := froz3_ BK178.out
          go_wp2
          go_meet
          case rel => exact ⟨_, (decide ((wrap64 (a1_1 + x7_6)) > 32)), (by first | rfl | (simp; done) | (simp [*]; done)), H', ⟨by have := HJ6.out; have := HJ14.out; first | omega | exact Nat.le_refl _⟩, ⟨by (with_reducible repeat (first | refine kN_ ?_ _ | refine kD_ ?_ | refine kA_ ?_ _)); exact BK178.out⟩, ⟨by repeat (first | (with_reducible first | exact HB.out | apply bA_ | apply bN_ | apply bD_ | refine bS_ ?_ GE178.out) | exact HB.out)⟩⟩
         ·rw [if_neg c22] at H
          have c22b0 : decide (32 < (wrap64 (a1_1 + x7_6))) = false := decide_eq_false c22
          clear c22
          (first | rw [c22b0] | (simp only [i64_w, i32_w]; rw [c22b0]) | skip)
          by_cases c24 : x8_6 = 2
          ·rw [if_pos c24] at H
           have c24b0 : (x8_6 == 2) = true := beq_iff_eq.mpr c24
           have c24b1 : (x8_6 != 2) = false := bne_eq_false_iff_eq.mpr c24
           clear c24
           by_cases c25 : x7_6 < 3
           ·rw [if_pos c25] at H
            have c25b0 : decide (x7_6 < 3) = true := decide_eq_true c25
            clear c25
            have H' := Aside0.mk H
            clear H
            obtain ⟨hcz26_0, hcz26_1, hcz26_2⟩ := cells3_ BK178.out
            obtain ⟨hfz26_0, hfz26_1, hfz26_2⟩ := froz3_ BK178.out
            go_wp2
            go_meet
            case rel => exact ⟨_, (true), (by first | rfl | (simp; done) | (simp [*]; done)), H', ⟨by have := HJ6.out; have := HJ14.out; first | omega | exact Nat.le_refl _⟩, ⟨by (with_reducible repeat (first | refine kN_ ?_ _ | refine kD_ ?_ | refine kA_ ?_ _)); exact BK178.out⟩, ⟨by repeat (first | (with_reducible first | exact HB.out | apply bA_ | apply bN_ | apply bD_ | refine bS_ ?_ GE178.out) | exact HB.out)⟩⟩
           ·rw [if_neg c25] at H
            have c25b0 : decide (x7_6 < 3) = false := decide_eq_false c25
            clear c25
            have H' := Aside0.mk H
            clear H
            obtain ⟨hcz27_0, hcz27_1, hcz27_2⟩ := cells3_ BK178.out
            obtain ⟨hfz27_0, hfz27_1, hfz27_2⟩ := froz3_ BK178.out
            go_wp2
            go_meet
            case rel => exact ⟨_, (decide ((wrap64 (a1_1 + 3)) > 32)), (by first | rfl | (simp; done) | (simp [*]; done)), H', ⟨by have := HJ6.out; have := HJ14.out; first | omega | exact Nat.le_refl _⟩, ⟨by (with_reducible repeat (first | refine kN_ ?_ _ | refine kD_ ?_ | refine kA_ ?_ _)); exact BK178.out⟩, ⟨by repeat (first | (with_reducible first | exact HB.out | apply bA_ | apply bN_ | apply bD_ | refine bS_ ?_ GE178.out) | exact HB.out)⟩⟩
          ·rw [if_neg c24] at H
           have c24b0 : (x8_6 == 2) = false := beq_eq_false_iff_ne.mpr c24
           have c24b1 : (x8_6 != 2) = true := bne_iff_ne.mpr c24
           have H' := Aside0.mk H
           clear H
           obtain ⟨hcz28_0, hcz28_1, hcz28_2⟩ := cells3_ BK178.out
           obtain ⟨hfz28_0, hfz28_1, hfz28_2⟩ := froz3_ BK178.out
           go_wp2
           go_meet
           case rel => exact ⟨_, (false), (by first | rfl | (simp; done) | (simp [*]; done)), H', ⟨by have := HJ6.out; have := HJ14.out; first | omega | exact Nat.le_refl _⟩, ⟨by (with_reducible repeat (first | refine kN_ ?_ _ | refine kD_ ?_ | refine kA_ ?_ _)); exact BK178.out⟩, ⟨by repeat (first | (with_reducible first | exact HB.out | apply bA_ | apply bN_ | apply bD_ | refine bS_ ?_ GE178.out) | exact HB.out)⟩⟩
       case rest =>
        clear HC20
        try clear c1
        try clear p1
        try clear q1
        try clear hx1
        try clear qi1
        try clear c2
        try clear p2
        try clear c3
        try clear c3b0
        try clear c3b1
        try clear c5
        try clear c5b0
        try clear c5b1
        try clear p6
        try clear q6
        try clear hx6
        try clear qi6
        try clear c9
        try clear c9b0
        try clear c9b1
        try clear c10
        try clear c10b0
        try clear c10b1
        try clear c11
        try clear c11b0
        try clear c11b1
        try clear c12
        try clear c12b0
        try clear c12b1
        try clear c13
        try clear c13b0
        try clear c13b1
        try clear p14
        try clear q14
        try clear hx14
        try clear qi14
        try clear c16
        try clear c16b0
        try clear c16b1
        try clear c17
        try clear c18
        try clear c21
        try clear c22
        try clear c22b0
        try clear c24
        try clear c24b0
        try clear c24b1
        try clear c25
        try clear c25b0
        try clear hcz18_0 hcz18_1 hcz18_2
        try clear hcz19_0 hcz19_1 hcz19_2
        try clear hcz23_0 hcz23_1 hcz23_2
        try clear hcz26_0 hcz26_1 hcz26_2
        try clear hcz27_0 hcz27_1 hcz27_2
        try clear hcz28_0 hcz28_1 hcz28_2
        try clear hfz18_0 hfz18_1 hfz18_2
        try clear hfz19_0 hfz19_1 hfz19_2
        try clear hfz23_0 hfz23_1 hfz23_2
        try clear hfz26_0 hfz26_1 hfz26_2
        try clear hfz27_0 hfz27_1 hfz27_2
        try clear hfz28_0 hfz28_1 hfz28_2
        try clear p1
        try clear p14
        try clear p2
        try clear p6
        try clear q1
        try clear q14
        try clear q6
        obtain ⟨kq, x25_19, rfl, HA, HJ19, BK178, HB⟩ := hcut
        cases kq with
        | zero => exact absurd HA.out (by simp [bytecode_segments.j2])
        | succ kj19 =>
         have H := HA.out
         clear HA
         simp only [bytecode_segments.j2] at H
         by_cases c29 : x25_19 = true
         ·subst c29
          have H1 : (some (0, 0, 3)) = some (r1, r2, r3) := by rw [if_pos rfl] at H; exact H
          clear H
          have H := H1
          clear H1
          simp only [Option.some.injEq, Prod.mk.injEq] at H
          obtain ⟨rfl, rfl, rfl⟩ := H
          go_wp2
          go_ret3
          exact ⟨by first | rfl | (simp [errW_none, errW_some] <;> rfl) | (simp [*, errW_none, errW_some] <;> rfl), by repeat (first | (with_reducible first | exact HB.out | apply bA_ | apply bN_ | apply bD_ | refine bS_ ?_ GE178.out) | exact HB.out)⟩
         ·replace c29 := Bool.eq_false_iff.mpr c29
          subst c29
          have H1 : (if (a0.size : Int) < x8_6 then (some (0, 0, 4)) else (some (x7_6, x8_6, 0))) = some (r1, r2, r3) := by rw [if_neg (show ¬ (false = true) by decide)] at H; exact H
          clear H
          have H := H1
          clear H1
          by_cases c30 : (a0.size : Int) < x8_6
          ·rw [if_pos c30] at H
           have c30b0 : decide ((a0.size : Int) < x8_6) = true := decide_eq_true c30
           clear c30
           simp only [Option.some.injEq, Prod.mk.injEq] at H
           obtain ⟨rfl, rfl, rfl⟩ := H
           go_wp2
           go_ret3
           exact ⟨by first | rfl | (simp [errW_none, errW_some] <;> rfl) | (simp [*, errW_none, errW_some] <;> rfl), by repeat (first | (with_reducible first | exact HB.out | apply bA_ | apply bN_ | apply bD_ | refine bS_ ?_ GE178.out) | exact HB.out)⟩
          ·rw [if_neg c30] at H
           have c30b0 : decide ((a0.size : Int) < x8_6) = false := decide_eq_false c30
           clear c30
           simp only [Option.some.injEq, Prod.mk.injEq] at H
           obtain ⟨rfl, rfl, rfl⟩ := H
           go_wp2
           go_ret3
           exact ⟨by first | rfl | (simp [errW_none, errW_some] <;> rfl) | (simp [*, errW_none, errW_some] <;> rfl), by repeat (first | (with_reducible first | exact HB.out | apply bA_ | apply bN_ | apply bD_ | refine bS_ ?_ GE178.out) | exact HB.out)⟩
  ·rw [if_neg c5] at H
   exact absurd H (by simp)

end Go.Proofs.Ytmnmidclaaiffab.PBytecodePaths
