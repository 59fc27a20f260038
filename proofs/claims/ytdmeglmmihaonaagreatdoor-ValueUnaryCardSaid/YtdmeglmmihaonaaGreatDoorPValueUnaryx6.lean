-- Written by a program of this session's (wip/print_patch.py over the kit's print) out of the translation; Lean checks it.
import Derived.Test.YtdmeglmmihaonaaGreatDoorPValueUnaryx0
import Derived.Test.YtdmeglmmihaonaaGreatDoorPValueUnaryx4
import Derived.Test.YtdmeglmmihaonaaGreatDoorPValueUnaryx5
import Derived.Test.YtdmeglmmihaonaaGreatDoorVValueUnaryExtS
namespace Go.Proofs.YtdmeglmmihaonaaGreatDoor.PValueUnary
open Go.RowKit Go.Proofs.YtdmeglmmihaonaaGreatDoor.Ext Go.Proofs.YtdmeglmmihaonaaGreatDoorW.PrintWords Go.Proofs.YtdmeglmmihaonaaGreatDoorW.PrintLast Go.Proofs.YtdmeglmmihaonaaGreatDoorW.PrintMore
attribute [local go_sem] max2_int min2_int max_two min_two max_three min_three max_four min_four   -- for this text's walks alone
set_option linter.unusedVariables false
set_option linter.unusedSimpArgs false

/-! ### platformfwref08_explicit: function 29 -/
mutual
def platformfwref08_explicit.j0 : Nat → ByteArray → Int → Bool → Option (Int × Int × ByteArray × Int × Int)
 | 0, _, _, _ => none
 | k + 1, x4, x5, x44 => if x44 = true then (if 2 ≤ (x4.size : Int) then (platformfwref08_explicit.j1 k (x4.extract 2 x4.size) 16) else (none)) else (platformfwref08_explicit.j1 k x4 x5)
def platformfwref08_explicit.j1 : Nat → ByteArray → Int → Option (Int × Int × ByteArray × Int × Int)
 | 0, _, _ => none
 | k + 1, x4, x5 => platformfwref08_explicit.l0 k x4 x5 0 0
def platformfwref08_explicit.l0 : Nat → ByteArray → Int → Int → Int → Option (Int × Int × ByteArray × Int × Int)
 | 0, _, _, _, _ => none
 | k + 1, x4, x5, x8, x9 => if x9 < (x4.size : Int) then (if 0 ≤ x9 then ((platformfwref08_hex.f k (bt x4 x9)).bind fun t243 => (if t243 < 0 then (platformfwref08_explicit.j3 k x4 x5 x8 x9 t243 true) else (platformfwref08_explicit.j3 k x4 x5 x8 x9 t243 (decide ((IntKind.u64.wrap (t243)) ≥ x5))))) else (none)) else ((platformfwref08_Number.f x8).bind fun bt239 => (some (bt239.1, bt239.2.1, bt239.2.2.1, bt239.2.2.2, 0)))
def platformfwref08_explicit.j3 : Nat → ByteArray → Int → Int → Int → Int → Bool → Option (Int × Int × ByteArray × Int × Int)
 | 0, _, _, _, _, _, _ => none
 | k + 1, x4, x5, x8, x9, x10, x64 => if x64 = true then ((platformfwref08_Number.f x8).bind fun bt244 => (some (bt244.1, bt244.2.1, bt244.2.2.1, bt244.2.2.2, 0))) else (if x5 = 0 then (none) else (if x8 > (IntKind.u64.wrap (Int.tdiv (IntKind.u64.wrap (18446744073709551615 - (IntKind.u64.wrap (x10)))) x5)) then (some (0, 0, (⟨#[]⟩ : ByteArray), 0, 11)) else (platformfwref08_explicit.l0 k x4 x5 (IntKind.u64.wrap ((IntKind.u64.wrap (x8 * x5)) + (IntKind.u64.wrap (x10)))) (wrap64 (x9 + 1)))))
end
def platformfwref08_explicit.f (k : Nat) (a0_0 : Int) (a0_1 : Int) (a0_2 : ByteArray) (a0_3 : Int) : Option (Int × Int × ByteArray × Int × Int) := if a0_0 = 2 then (if (a0_2.size : Int) ≥ 2 then (if 0 < (a0_2.size : Int) then (if (bt a0_2 0) = 48 then (if 1 < (a0_2.size : Int) then (if (bt a0_2 1) = 120 then (platformfwref08_explicit.j0 k a0_2 10 true) else (platformfwref08_explicit.j0 k a0_2 10 ((bt a0_2 1) == 88))) else (none)) else (platformfwref08_explicit.j0 k a0_2 10 false)) else (none)) else (platformfwref08_explicit.j0 k a0_2 10 false)) else ((platformfwref08_Integer.f k a0_0 a0_1 a0_2 a0_3).bind fun bt233 => (if bt233.2 = 0 then ((platformfwref08_Number.f bt233.1).bind fun bt235 => (some (bt235.1, bt235.2.1, bt235.2.2.1, bt235.2.2.2, 0))) else (some (0, 0, (⟨#[]⟩ : ByteArray), 0, bt233.2))))
theorem platformfwref08_explicit.mono_l : ∀ k, (∀ y0 y1 y2, LeO (platformfwref08_explicit.j0 k y0 y1 y2) (platformfwref08_explicit.j0 (k + 1) y0 y1 y2)) ∧ (∀ y0 y1, LeO (platformfwref08_explicit.j1 k y0 y1) (platformfwref08_explicit.j1 (k + 1) y0 y1)) ∧ (∀ y0 y1 y2 y3, LeO (platformfwref08_explicit.l0 k y0 y1 y2 y3) (platformfwref08_explicit.l0 (k + 1) y0 y1 y2 y3)) ∧ (∀ y0 y1 y2 y3 y4 y5, LeO (platformfwref08_explicit.j3 k y0 y1 y2 y3 y4 y5) (platformfwref08_explicit.j3 (k + 1) y0 y1 y2 y3 y4 y5))
 | 0 => ⟨fun _ _ _ r h => by simp [platformfwref08_explicit.j0] at h, fun _ _ r h => by simp [platformfwref08_explicit.j1] at h, fun _ _ _ _ r h => by simp [platformfwref08_explicit.l0] at h, fun _ _ _ _ _ _ r h => by simp [platformfwref08_explicit.j3] at h⟩
 | k + 1 => by
  obtain ⟨ih0, ih1, ih2, ih3⟩ := platformfwref08_explicit.mono_l k
  refine ⟨?_, ?_, ?_, ?_⟩
  ·intro y0 y1 y2
   unfold platformfwref08_explicit.j0
   repeat' first
   | (with_reducible exact ih0 _ _ _)
   | (with_reducible exact ih1 _ _)
   | (with_reducible exact ih2 _ _ _ _)
   | (with_reducible exact ih3 _ _ _ _ _ _)
   | (with_reducible exact platformfwref08_Integer.mono _ _ _ _ _)
   | (with_reducible exact platformfwref08_hex.mono _ _)
   | (with_reducible exact LeO.refl _)
   | (with_reducible exact LeO.none _)
   | (with_reducible refine LeO.ite ?_ ?_)
   | (with_reducible refine LeO.bind ?_ (fun _ => ?_))
   | exact ih0 _ _ _
   | exact ih1 _ _
   | exact ih2 _ _ _ _
   | exact ih3 _ _ _ _ _ _
   | exact platformfwref08_Integer.mono _ _ _ _ _
   | exact platformfwref08_hex.mono _ _
   | exact LeO.none _
   | refine LeO.ite ?_ ?_
   | refine LeO.bind ?_ (fun _ => ?_)
  ·intro y0 y1
   unfold platformfwref08_explicit.j1
   repeat' first
   | (with_reducible exact ih0 _ _ _)
   | (with_reducible exact ih1 _ _)
   | (with_reducible exact ih2 _ _ _ _)
   | (with_reducible exact ih3 _ _ _ _ _ _)
   | (with_reducible exact platformfwref08_Integer.mono _ _ _ _ _)
   | (with_reducible exact platformfwref08_hex.mono _ _)
   | (with_reducible exact LeO.refl _)
   | (with_reducible exact LeO.none _)
   | (with_reducible refine LeO.ite ?_ ?_)
   | (with_reducible refine LeO.bind ?_ (fun _ => ?_))
   | exact ih0 _ _ _
   | exact ih1 _ _
   | exact ih2 _ _ _ _
   | exact ih3 _ _ _ _ _ _
   | exact platformfwref08_Integer.mono _ _ _ _ _
   | exact platformfwref08_hex.mono _ _
   | exact LeO.none _
   | refine LeO.ite ?_ ?_
   | refine LeO.bind ?_ (fun _ => ?_)
  ·intro y0 y1 y2 y3
   unfold platformfwref08_explicit.l0
   repeat' first
   | (with_reducible exact ih0 _ _ _)
   | (with_reducible exact ih1 _ _)
   | (with_reducible exact ih2 _ _ _ _)
   | (with_reducible exact ih3 _ _ _ _ _ _)
   | (with_reducible exact platformfwref08_Integer.mono _ _ _ _ _)
   | (with_reducible exact platformfwref08_hex.mono _ _)
   | (with_reducible exact LeO.refl _)
   | (with_reducible exact LeO.none _)
   | (with_reducible refine LeO.ite ?_ ?_)
   | (with_reducible refine LeO.bind ?_ (fun _ => ?_))
   | exact ih0 _ _ _
   | exact ih1 _ _
   | exact ih2 _ _ _ _
   | exact ih3 _ _ _ _ _ _
   | exact platformfwref08_Integer.mono _ _ _ _ _
   | exact platformfwref08_hex.mono _ _
   | exact LeO.none _
   | refine LeO.ite ?_ ?_
   | refine LeO.bind ?_ (fun _ => ?_)
  ·intro y0 y1 y2 y3 y4 y5
   unfold platformfwref08_explicit.j3
   repeat' first
   | (with_reducible exact ih0 _ _ _)
   | (with_reducible exact ih1 _ _)
   | (with_reducible exact ih2 _ _ _ _)
   | (with_reducible exact ih3 _ _ _ _ _ _)
   | (with_reducible exact platformfwref08_Integer.mono _ _ _ _ _)
   | (with_reducible exact platformfwref08_hex.mono _ _)
   | (with_reducible exact LeO.refl _)
   | (with_reducible exact LeO.none _)
   | (with_reducible refine LeO.ite ?_ ?_)
   | (with_reducible refine LeO.bind ?_ (fun _ => ?_))
   | exact ih0 _ _ _
   | exact ih1 _ _
   | exact ih2 _ _ _ _
   | exact ih3 _ _ _ _ _ _
   | exact platformfwref08_Integer.mono _ _ _ _ _
   | exact platformfwref08_hex.mono _ _
   | exact LeO.none _
   | refine LeO.ite ?_ ?_
   | refine LeO.bind ?_ (fun _ => ?_)
theorem platformfwref08_explicit.mono : ∀ a0 a1 a2 a3 k, LeO (platformfwref08_explicit.f k a0 a1 a2 a3) (platformfwref08_explicit.f (k + 1) a0 a1 a2 a3) := by
 intro a0 a1 a2 a3 k
 obtain ⟨ih0, ih1, ih2, ih3⟩ := platformfwref08_explicit.mono_l k
 unfold platformfwref08_explicit.f
 repeat' first
   | (with_reducible exact ih0 _ _ _)
   | (with_reducible exact ih1 _ _)
   | (with_reducible exact ih2 _ _ _ _)
   | (with_reducible exact ih3 _ _ _ _ _ _)
   | (with_reducible exact platformfwref08_Integer.mono _ _ _ _ _)
   | (with_reducible exact platformfwref08_hex.mono _ _)
   | (with_reducible exact LeO.refl _)
   | (with_reducible exact LeO.none _)
   | (with_reducible refine LeO.ite ?_ ?_)
   | (with_reducible refine LeO.bind ?_ (fun _ => ?_))
   | exact ih0 _ _ _
   | exact ih1 _ _
   | exact ih2 _ _ _ _
   | exact ih3 _ _ _ _ _ _
   | exact platformfwref08_Integer.mono _ _ _ _ _
   | exact platformfwref08_hex.mono _ _
   | exact LeO.none _
   | refine LeO.ite ?_ ?_
   | refine LeO.bind ?_ (fun _ => ?_)
set_option maxHeartbeats 8000000 in
set_option maxRecDepth 100000 in
theorem platformfwref08_explicit.calls (k : Nat) (a0_0 : Int) (a0_1 : Int) (a0_2 : ByteArray) (a0_3 : Int) (r1 : Int) (r2 : Int) (r3 : ByteArray) (r4 : Int) (r5 : Int) (w : World) (h : platformfwref08_explicit.f k a0_0 a0_1 a0_2 a0_3 = some (r1, r2, r3, r4, r5)) :
  Calls Tryz.prog 29 #[.agg #[.int .i64 a0_0, .int .u64 a0_1, .string a0_2, .int .i64 a0_3]] w fun e w' => e = .returned (.tuple #[.agg #[.int .i64 r1, .int .u64 r2, .string r3, .int .i64 r4], .int .i64 r5]) ∧ Below w.heap.size w w' := by
 have hu24 := Tryz.underlying24
 have HB := Aside0.mk (Below.refl w.heap.size w)
 have H : (if a0_0 = 2 then (if (a0_2.size : Int) ≥ 2 then (if 0 < (a0_2.size : Int) then (if (bt a0_2 0) = 48 then (if 1 < (a0_2.size : Int) then (if (bt a0_2 1) = 120 then (platformfwref08_explicit.j0 k a0_2 10 true) else (platformfwref08_explicit.j0 k a0_2 10 ((bt a0_2 1) == 88))) else (none)) else (platformfwref08_explicit.j0 k a0_2 10 false)) else (none)) else (platformfwref08_explicit.j0 k a0_2 10 false)) else ((platformfwref08_Integer.f k a0_0 a0_1 a0_2 a0_3).bind fun bt233 => (if bt233.2 = 0 then ((platformfwref08_Number.f bt233.1).bind fun bt235 => (some (bt235.1, bt235.2.1, bt235.2.2.1, bt235.2.2.2, 0))) else (some (0, 0, (⟨#[]⟩ : ByteArray), 0, bt233.2))))) = some (r1, r2, r3, r4, r5) := h
 clear h
 by_cases c2 : a0_0 = 2
 ·rw [if_pos c2] at H
  have c2b0 : (a0_0 == 2) = true := beq_iff_eq.mpr c2
  have c2b1 : (a0_0 != 2) = false := bne_eq_false_iff_eq.mpr c2
  clear c2
  have HC3 := Aside0.mk H
  clear H
  go_enter Tryz.func29, Tryz.ntmps29
  go_upto_region 7 with (first | ((with_reducible refine gate_dst (N := 1) rfl ?_); refine box_event ?hg (N := 1) ?hd (cs := #[.int .i64 a0_0, .int .u64 a0_1, .string a0_2, .int .i64 a0_3]) (t := 24) ?hr ?_; (case hd => rfl); (case hg => rfl); (case hr => first | (go_simp; done) | (go_simp; rfl)); intro gb231 hg w4 hbox hb; replace HB := sqN_ (by repeat (first | (with_reducible first | exact HB.out | apply bA_ | apply bN_ | apply bD_) | exact HB.out)) hg hb; obtain ⟨HB, GE231⟩ := HB; have BK231 := Aside0.mk hbox; clear hb hbox hg) | ((with_reducible refine gate_dst (N := 2) rfl ?_); refine box_event ?hg (N := 2) ?hd (cs := #[.int .i64 0, .int .u64 0, .string ⟨#[]⟩, .int .i64 0]) (t := 24) ?hr ?_; (case hd => rfl); (case hg => rfl); (case hr => first | (go_simp; done) | (go_simp; rfl)); intro gb232 hg w5 hbox hb; replace BK231 := sqO_ (g := gb231) (by (with_reducible repeat (first | apply kN_ | apply kD_ | apply kA_)); exact BK231.out) hg hb; obtain ⟨BK231, NB231_232, NB232_231⟩ := BK231; replace HB := sqN_ (by repeat (first | (with_reducible first | exact HB.out | apply bA_ | apply bN_ | apply bD_ | refine bS_ ?_ GE231.out) | exact HB.out)) hg hb; obtain ⟨HB, GE232⟩ := HB; have BK232 := Aside0.mk hbox; clear hb hbox hg; have hnb6 := NB231_232.out; have hnc6 := NB232_231.out; obtain ⟨hcz7_0, hcz7_1, hcz7_2, hcz7_3⟩ := cells4_ BK231.out; obtain ⟨hfz7_0, hfz7_1, hfz7_2, hfz7_3⟩ := froz4_ BK231.out))
  (try simp only [Act.put, sA_, sB_, sC_])
  go_cut [44] (fun v44 wc => ∃ (kq : Nat) (x44_2 : Bool), v44 = .bool x44_2 ∧ Aside0 (platformfwref08_explicit.j0 kq a0_2 10 x44_2 = some (r1, r2, r3, r4, r5)) ∧ Aside0 (kq ≤ k) ∧ Aside0 (wc.heap[gb231]? = some (.cells #[.int .i64 a0_0, .int .u64 a0_1, .string a0_2, .int .i64 a0_3] 24 (0, 0))) ∧ Aside0 (wc.heap[gb232]? = some (.cells #[.int .i64 0, .int .u64 0, .string ⟨#[]⟩, .int .i64 0] 24 (0, 0))) ∧ Aside0 (Below w.heap.size w wc))
  case first =>
   have H := HC3.out
   clear HC3
   by_cases c8 : (a0_2.size : Int) ≥ 2
   ·rw [if_pos c8] at H
    have c8b0 : decide (2 ≤ (a0_2.size : Int)) = true := decide_eq_true c8
    have c8b1 : decide (2 ≤ a0_2.size) = true := decide_eq_true (by omega)
    clear c8
    (first | rw [c8b0] | (simp only [i64_w, i32_w]; rw [c8b0]) | skip)
    by_cases c9 : 0 < (a0_2.size : Int)
    ·rw [if_pos c9] at H
     have c9b0 : decide (0 < (a0_2.size : Int)) = true := decide_eq_true c9
     have c9b1 : decide (0 < a0_2.size) = true := decide_eq_true (by omega)
     clear c9
     by_cases c11 : (bt a0_2 0) = 48
     ·rw [if_pos c11] at H
      have c11b0 : ((bt a0_2 0) == 48) = true := beq_iff_eq.mpr c11
      have c11b1 : ((bt a0_2 0) != 48) = false := bne_eq_false_iff_eq.mpr c11
      clear c11
      by_cases c12 : 1 < (a0_2.size : Int)
      ·rw [if_pos c12] at H
       have c12b0 : decide (1 < (a0_2.size : Int)) = true := decide_eq_true c12
       have c12b1 : decide (1 < a0_2.size) = true := decide_eq_true (by omega)
       clear c12
       by_cases c14 : (bt a0_2 1) = 120
       ·rw [if_pos c14] at H
        have c14b0 : ((bt a0_2 1) == 120) = true := beq_iff_eq.mpr c14
        have c14b1 : ((bt a0_2 1) != 120) = false := bne_eq_false_iff_eq.mpr c14
        clear c14
        have H' := Aside0.mk H
        clear H
        have p10 : 0 ≤ (0 : Int) := (by omega)
        have q10 : 0 < a0_2.size := (by have : (0 : Int) < (a0_2.size : Int) := of_decide_eq_true (by first | (with_reducible assumption) | assumption); omega)
        have hx10 : ∀ h : 0 < a0_2.size, ((a0_2[0]'h).toNat : Int) = bt a0_2 0 := bt_at a0_2 0
        clear p10
        have qi10 : (0 < (a0_2.size : Int)) = True := eq_true (of_decide_eq_true (by first | (with_reducible assumption) | assumption))
        replace q10 := eq_true q10
        have p13 : 0 ≤ (1 : Int) := (by omega)
        have q13 : 1 < a0_2.size := (by have : (1 : Int) < (a0_2.size : Int) := of_decide_eq_true (by first | (with_reducible assumption) | assumption); omega)
        have hx13 : ∀ h : 1 < a0_2.size, ((a0_2[1]'h).toNat : Int) = bt a0_2 1 := bt_at a0_2 1
        clear p13
        have qi13 : (1 < (a0_2.size : Int)) = True := eq_true (of_decide_eq_true (by first | (with_reducible assumption) | assumption))
        replace q13 := eq_true q13
        go_wp2
        go_meet
        case rel => exact ⟨_, (true), (by first | rfl | (simp; done) | (simp [*]; done)), H', ⟨by first | omega | exact Nat.le_refl _⟩, ⟨by (with_reducible repeat (first | apply kN_ | apply kD_ | apply kA_)); exact BK231.out⟩, ⟨by (with_reducible repeat (first | apply kN_ | apply kD_ | apply kA_)); exact BK232.out⟩, ⟨by repeat (first | (with_reducible first | exact HB.out | apply bA_ | apply bN_ | apply bD_ | refine bS_ ?_ GE231.out | refine bS_ ?_ GE232.out) | exact HB.out)⟩⟩
       ·rw [if_neg c14] at H
        have c14b0 : ((bt a0_2 1) == 120) = false := beq_eq_false_iff_ne.mpr c14
        have c14b1 : ((bt a0_2 1) != 120) = true := bne_iff_ne.mpr c14
        have H' := Aside0.mk H
        clear H
        have p10 : 0 ≤ (0 : Int) := (by omega)
        have q10 : 0 < a0_2.size := (by have : (0 : Int) < (a0_2.size : Int) := of_decide_eq_true (by first | (with_reducible assumption) | assumption); omega)
        have hx10 : ∀ h : 0 < a0_2.size, ((a0_2[0]'h).toNat : Int) = bt a0_2 0 := bt_at a0_2 0
        clear p10
        have qi10 : (0 < (a0_2.size : Int)) = True := eq_true (of_decide_eq_true (by first | (with_reducible assumption) | assumption))
        replace q10 := eq_true q10
        have p13 : 0 ≤ (1 : Int) := (by omega)
        have q13 : 1 < a0_2.size := (by have : (1 : Int) < (a0_2.size : Int) := of_decide_eq_true (by first | (with_reducible assumption) | assumption); omega)
        have hx13 : ∀ h : 1 < a0_2.size, ((a0_2[1]'h).toNat : Int) = bt a0_2 1 := bt_at a0_2 1
        clear p13
        have qi13 : (1 < (a0_2.size : Int)) = True := eq_true (of_decide_eq_true (by first | (with_reducible assumption) | assumption))
        replace q13 := eq_true q13
        have p15 : 0 ≤ (1 : Int) := (by omega)
        have q15 : 1 < a0_2.size := (by have : (1 : Int) < (a0_2.size : Int) := of_decide_eq_true (by first | (with_reducible assumption) | assumption); omega)
        have hx15 : ∀ h : 1 < a0_2.size, ((a0_2[1]'h).toNat : Int) = bt a0_2 1 := bt_at a0_2 1
        clear p15
        have qi15 : (1 < (a0_2.size : Int)) = True := eq_true (of_decide_eq_true (by first | (with_reducible assumption) | assumption))
        replace q15 := eq_true q15
        go_wp2
        go_meet
        case rel => exact ⟨_, (((bt a0_2 1) == 88)), (by first | rfl | (simp; done) | (simp [*]; done)), H', ⟨by first | omega | exact Nat.le_refl _⟩, ⟨by (with_reducible repeat (first | apply kN_ | apply kD_ | apply kA_)); exact BK231.out⟩, ⟨by (with_reducible repeat (first | apply kN_ | apply kD_ | apply kA_)); exact BK232.out⟩, ⟨by repeat (first | (with_reducible first | exact HB.out | apply bA_ | apply bN_ | apply bD_ | refine bS_ ?_ GE231.out | refine bS_ ?_ GE232.out) | exact HB.out)⟩⟩
      ·rw [if_neg c12] at H
       exact absurd H (by simp)
     ·rw [if_neg c11] at H
      have c11b0 : ((bt a0_2 0) == 48) = false := beq_eq_false_iff_ne.mpr c11
      have c11b1 : ((bt a0_2 0) != 48) = true := bne_iff_ne.mpr c11
      have H' := Aside0.mk H
      clear H
      have p10 : 0 ≤ (0 : Int) := (by omega)
      have q10 : 0 < a0_2.size := (by have : (0 : Int) < (a0_2.size : Int) := of_decide_eq_true (by first | (with_reducible assumption) | assumption); omega)
      have hx10 : ∀ h : 0 < a0_2.size, ((a0_2[0]'h).toNat : Int) = bt a0_2 0 := bt_at a0_2 0
      clear p10
      have qi10 : (0 < (a0_2.size : Int)) = True := eq_true (of_decide_eq_true (by first | (with_reducible assumption) | assumption))
      replace q10 := eq_true q10
      go_wp2
      go_meet
      case rel => exact ⟨_, (false), (by first | rfl | (simp; done) | (simp [*]; done)), H', ⟨by first | omega | exact Nat.le_refl _⟩, ⟨by (with_reducible repeat (first | apply kN_ | apply kD_ | apply kA_)); exact BK231.out⟩, ⟨by (with_reducible repeat (first | apply kN_ | apply kD_ | apply kA_)); exact BK232.out⟩, ⟨by repeat (first | (with_reducible first | exact HB.out | apply bA_ | apply bN_ | apply bD_ | refine bS_ ?_ GE231.out | refine bS_ ?_ GE232.out) | exact HB.out)⟩⟩
    ·rw [if_neg c9] at H
     exact absurd H (by simp)
   ·rw [if_neg c8] at H
    have c8b0 : decide (2 ≤ (a0_2.size : Int)) = false := decide_eq_false c8
    have c8b1 : decide (2 ≤ a0_2.size) = false := decide_eq_false (by omega)
    clear c8
    (first | rw [c8b0] | (simp only [i64_w, i32_w]; rw [c8b0]) | skip)
    have H' := Aside0.mk H
    clear H
    go_wp2
    go_meet
    case rel => exact ⟨_, (false), (by first | rfl | (simp; done) | (simp [*]; done)), H', ⟨by first | omega | exact Nat.le_refl _⟩, ⟨by (with_reducible repeat (first | apply kN_ | apply kD_ | apply kA_)); exact BK231.out⟩, ⟨by (with_reducible repeat (first | apply kN_ | apply kD_ | apply kA_)); exact BK232.out⟩, ⟨by repeat (first | (with_reducible first | exact HB.out | apply bA_ | apply bN_ | apply bD_ | refine bS_ ?_ GE231.out | refine bS_ ?_ GE232.out) | exact HB.out)⟩⟩
  case rest =>
   clear HC3
   try clear c1
   try clear p1
   try clear q1
   try clear hx1
   try clear qi1
   try clear c2
   try clear c2b0
   try clear c2b1
   try clear p2
   try clear c6
   try clear c8
   try clear c8b0
   try clear c8b1
   try clear c9
   try clear c9b0
   try clear c9b1
   try clear p10
   try clear q10
   try clear hx10
   try clear qi10
   try clear c11
   try clear c11b0
   try clear c11b1
   try clear c12
   try clear c12b0
   try clear c12b1
   try clear p13
   try clear q13
   try clear hx13
   try clear qi13
   try clear c14
   try clear c14b0
   try clear c14b1
   try clear p15
   try clear q15
   try clear hx15
   try clear qi15
   try clear hcz7_0 hcz7_1 hcz7_2 hcz7_3
   try clear hfz7_0 hfz7_1 hfz7_2 hfz7_3
   try clear p10
   try clear p13
   try clear p15
   try clear q10
   try clear q13
   try clear q15
   obtain ⟨kq, x44_2, rfl, HA, HJ2, BK231, BK232, HB⟩ := hcut
   cases kq with
   | zero => exact absurd HA.out (by simp [platformfwref08_explicit.j0])
   | succ kj2 =>
    have H := HA.out
    clear HA
    simp only [platformfwref08_explicit.j0] at H
    have HC16 := Aside0.mk H
    clear H
    go_upto_if 44 with (fail)
    go_cut [4, 5] (fun v4 v5 wc => ∃ (kq : Nat) (x4_15 : ByteArray) (x5_15 : Int), v4 = .string x4_15 ∧ v5 = .int .u64 x5_15 ∧ Aside0 (platformfwref08_explicit.j1 kq x4_15 x5_15 = some (r1, r2, r3, r4, r5)) ∧ Aside0 (kq ≤ kj2) ∧ Aside0 (wc.heap[gb231]? = some (.cells #[.int .i64 a0_0, .int .u64 a0_1, .string a0_2, .int .i64 a0_3] 24 (0, 0))) ∧ Aside0 (wc.heap[gb232]? = some (.cells #[.int .i64 0, .int .u64 0, .string ⟨#[]⟩, .int .i64 0] 24 (0, 0))) ∧ Aside0 (Below w.heap.size w wc))
    case first =>
     have H := HC16.out
     clear HC16
     by_cases c17 : x44_2 = true
     ·subst c17
      have H1 : (if 2 ≤ (a0_2.size : Int) then (platformfwref08_explicit.j1 kj2 (a0_2.extract 2 a0_2.size) 16) else (none)) = some (r1, r2, r3, r4, r5) := by rw [if_pos rfl] at H; exact H
      clear H
      have H := H1
      clear H1
      by_cases c18 : 2 ≤ (a0_2.size : Int)
      ·rw [if_pos c18] at H
       have c18b0 := eq_true c18
       have c18b1 : decide (2 ≤ (a0_2.size : Int)) = true := decide_eq_true c18
       clear c18
       have H' := Aside0.mk H
       clear H
       go_wp2
       go_meet
       case rel => exact ⟨_, (a0_2.extract 2 a0_2.size), (16), (by first | rfl | (simp; done) | (simp [*]; done)), (by first | rfl | (simp; done) | (simp [*]; done)), H', ⟨by have := HJ2.out; first | omega | exact Nat.le_refl _⟩, ⟨by (with_reducible repeat (first | apply kN_ | apply kD_ | apply kA_)); exact BK231.out⟩, ⟨by (with_reducible repeat (first | apply kN_ | apply kD_ | apply kA_)); exact BK232.out⟩, ⟨by repeat (first | (with_reducible first | exact HB.out | apply bA_ | apply bN_ | apply bD_ | refine bS_ ?_ GE231.out | refine bS_ ?_ GE232.out) | exact HB.out)⟩⟩
      ·rw [if_neg c18] at H
       exact absurd H (by simp)
     ·replace c17 := Bool.eq_false_iff.mpr c17
      subst c17
      have H1 : (platformfwref08_explicit.j1 kj2 a0_2 10) = some (r1, r2, r3, r4, r5) := by rw [if_neg (show ¬ (false = true) by decide)] at H; exact H
      clear H
      have H := H1
      clear H1
      have H' := Aside0.mk H
      clear H
      go_wp2
      go_meet
      case rel => exact ⟨_, (a0_2), (10), (by first | rfl | (simp; done) | (simp [*]; done)), (by first | rfl | (simp; done) | (simp [*]; done)), H', ⟨by have := HJ2.out; first | omega | exact Nat.le_refl _⟩, ⟨by (with_reducible repeat (first | apply kN_ | apply kD_ | apply kA_)); exact BK231.out⟩, ⟨by (with_reducible repeat (first | apply kN_ | apply kD_ | apply kA_)); exact BK232.out⟩, ⟨by repeat (first | (with_reducible first | exact HB.out | apply bA_ | apply bN_ | apply bD_ | refine bS_ ?_ GE231.out | refine bS_ ?_ GE232.out) | exact HB.out)⟩⟩
    case rest =>
     clear HC16
     try clear c1
     try clear p1
     try clear q1
     try clear hx1
     try clear qi1
     try clear c2
     try clear c2b0
     try clear c2b1
     try clear p2
     try clear c6
     try clear c8
     try clear c8b0
     try clear c8b1
     try clear c9
     try clear c9b0
     try clear c9b1
     try clear p10
     try clear q10
     try clear hx10
     try clear qi10
     try clear c11
     try clear c11b0
     try clear c11b1
     try clear c12
     try clear c12b0
     try clear c12b1
     try clear p13
     try clear q13
     try clear hx13
     try clear qi13
     try clear c14
     try clear c14b0
     try clear c14b1
     try clear p15
     try clear q15
     try clear hx15
     try clear qi15
     try clear c17
     try clear c18
     try clear c18b0
     try clear c18b1
     try clear hcz7_0 hcz7_1 hcz7_2 hcz7_3
     try clear hfz7_0 hfz7_1 hfz7_2 hfz7_3
     try clear p1
     try clear p10
     try clear p13
     try clear p15
     try clear p2
     try clear q1
     try clear q10
     try clear q13
     try clear q15
     obtain ⟨kq, x4_15, x5_15, rfl, rfl, HA, HJ15, BK231, BK232, HB⟩ := hcut
     cases kq with
     | zero => exact absurd HA.out (by simp [platformfwref08_explicit.j1])
     | succ kj15 =>
      have H := HA.out
      clear HA
      simp only [platformfwref08_explicit.j1] at H
      have H' := Aside0.mk H
      clear H
      go_wp2
      go_loopg [8, 9] kj15 (fun kq v8 v9 w' => ∃ (x8_3 : Int) (x9_3 : Int) (x233000_3 : Int) (x233001_3 : Int) (x233002_3 : ByteArray) (x233003_3 : Int), v8 = .int .u64 x8_3 ∧ v9 = .int .i64 x9_3 ∧ Aside0 (platformfwref08_explicit.l0 kq x4_15 x5_15 x8_3 x9_3 = some (r1, r2, r3, r4, r5)) ∧ Aside0 (kq ≤ kj15) ∧ Aside0 (w'.heap[gb231]? = some (.cells #[.int .i64 a0_0, .int .u64 a0_1, .string a0_2, .int .i64 a0_3] 24 (0, 0))) ∧ Aside0 (w'.heap[gb232]? = some (.cells #[.int .i64 x233000_3, .int .u64 x233001_3, .string x233002_3, .int .i64 x233003_3] 24 (0, 0))) ∧ Aside0 (Below w.heap.size w w'))
      case atStart => exact ⟨(0), (0), (0), (0), ((⟨#[]⟩ : ByteArray)), (0), (by first | rfl | (simp; done) | (simp [*]; done)), (by first | rfl | (simp; done) | (simp [*]; done)), H', ⟨Nat.le_refl _⟩, ⟨by (with_reducible repeat (first | apply kN_ | apply kD_ | apply kA_)); exact BK231.out⟩, ⟨by (with_reducible repeat (first | apply kN_ | apply kD_ | apply kA_)); exact BK232.out⟩, ⟨by repeat (first | (with_reducible first | exact HB.out | apply bA_ | apply bN_ | apply bD_ | refine bS_ ?_ GE231.out | refine bS_ ?_ GE232.out) | exact HB.out)⟩⟩
      case round =>
       clear H'
       try clear c1
       try clear p1
       try clear q1
       try clear hx1
       try clear qi1
       try clear c2
       try clear c2b0
       try clear c2b1
       try clear p2
       try clear c6
       try clear c8
       try clear c8b0
       try clear c8b1
       try clear c9
       try clear c9b0
       try clear c9b1
       try clear p10
       try clear q10
       try clear hx10
       try clear qi10
       try clear c11
       try clear c11b0
       try clear c11b1
       try clear c12
       try clear c12b0
       try clear c12b1
       try clear p13
       try clear q13
       try clear hx13
       try clear qi13
       try clear c14
       try clear c14b0
       try clear c14b1
       try clear p15
       try clear q15
       try clear hx15
       try clear qi15
       try clear c17
       try clear c18
       try clear c18b0
       try clear c18b1
       try clear hcz7_0 hcz7_1 hcz7_2 hcz7_3
       try clear hfz7_0 hfz7_1 hfz7_2 hfz7_3
       try clear p1
       try clear p10
       try clear p13
       try clear p15
       try clear p2
       try clear q1
       try clear q10
       try clear q13
       try clear q15
       obtain ⟨x8_3, x9_3, x233000_3, x233001_3, x233002_3, x233003_3, rfl, rfl, HA, HK3, BK231, BK232, HB⟩ := hrel
       cases gk with
       | zero => exact absurd HA.out (by simp [platformfwref08_explicit.l0])
       | succ k3 =>
        have H := HA.out
        clear HA
        simp only [platformfwref08_explicit.l0] at H
        by_cases c19 : x9_3 < (x4_15.size : Int)
        ·rw [if_pos c19] at H
         have c19b0 : decide (x9_3 < (x4_15.size : Int)) = true := decide_eq_true c19
         clear c19
         by_cases c20 : 0 ≤ x9_3
         ·rw [if_pos c20] at H
          have c20b0 : decide (0 ≤ x9_3) = true := decide_eq_true c20
          clear c20
          replace H := Option.bind_eq_some_iff.mp H
          obtain ⟨t243, A220, H⟩ := H
          replace H : (if t243 < 0 then (platformfwref08_explicit.j3 k3 x4_15 x5_15 x8_3 x9_3 t243 true) else (platformfwref08_explicit.j3 k3 x4_15 x5_15 x8_3 x9_3 t243 (decide ((IntKind.u64.wrap (t243)) ≥ x5_15)))) = some (r1, r2, r3, r4, r5) := H
          have A22 := Aside0.mk A220
          clear A220
          have HC23 := Aside0.mk H
          clear H
          have p21 : 0 ≤ (x9_3 : Int) := of_decide_eq_true (by first | (with_reducible assumption) | assumption)
          have q21 : x9_3 < (x4_15.size : Int) := of_decide_eq_true (by first | (with_reducible assumption) | assumption)
          have hx21 := bt_at x4_15 x9_3
          replace p21 := eq_true p21
          replace q21 := eq_true q21
          go_upto_region 14 with (first | ((with_reducible refine gate_callee (f := 50) rfl ?_); refine goesL_ (some 56) rfl rfl Tryz.func50 (by kernel_rfl) rfl #[.int .u8 (bt x4_15 x9_3)] rfl (by (try simp only [List.map_toArray, List.map_cons, List.map_nil]); first | done | rfl) ?_; (with_reducible refine (platformfwref08_hex.calls k3 (bt x4_15 x9_3) t243 _ A22.out).mono ?_); rintro e w' ⟨rfl, ⟨nd, rfl⟩⟩; refine ⟨_, rfl, ?_⟩))
          (try simp only [Act.put, sA_, sB_, sC_])
          go_cut [64] (fun v64 wc => ∃ (kq : Nat) (x64_22 : Bool), v64 = .bool x64_22 ∧ Aside0 (platformfwref08_explicit.j3 kq x4_15 x5_15 x8_3 x9_3 t243 x64_22 = some (r1, r2, r3, r4, r5)) ∧ Aside0 (kq ≤ k3) ∧ Aside0 (wc.heap[gb231]? = some (.cells #[.int .i64 a0_0, .int .u64 a0_1, .string a0_2, .int .i64 a0_3] 24 (0, 0))) ∧ Aside0 (wc.heap[gb232]? = some (.cells #[.int .i64 x233000_3, .int .u64 x233001_3, .string x233002_3, .int .i64 x233003_3] 24 (0, 0))) ∧ Aside0 (Below w.heap.size w wc))
          case first =>
           have H := HC23.out
           clear HC23
           by_cases c24 : t243 < 0
           ·rw [if_pos c24] at H
            have c24b0 : decide (t243 < 0) = true := decide_eq_true c24
            clear c24
            (first | rw [c24b0] | (simp only [i64_w, i32_w]; rw [c24b0]) | skip)
            have H' := Aside0.mk H
            clear H
            go_wp2
            go_meet
            case rel => exact ⟨_, (true), (by first | rfl | (simp; done) | (simp [*]; done)), H', ⟨by have := HJ2.out; have := HJ15.out; have := HK3.out; first | omega | exact Nat.le_refl _⟩, ⟨by (with_reducible repeat (first | apply kN_ | apply kD_ | apply kA_)); exact BK231.out⟩, ⟨by (with_reducible repeat (first | apply kN_ | apply kD_ | apply kA_)); exact BK232.out⟩, ⟨by repeat (first | (with_reducible first | exact HB.out | apply bA_ | apply bN_ | apply bD_ | refine bS_ ?_ GE231.out | refine bS_ ?_ GE232.out) | exact HB.out)⟩⟩
           ·rw [if_neg c24] at H
            have c24b0 : decide (t243 < 0) = false := decide_eq_false c24
            clear c24
            (first | rw [c24b0] | (simp only [i64_w, i32_w]; rw [c24b0]) | skip)
            have H' := Aside0.mk H
            clear H
            go_wp2
            go_meet
            case rel => exact ⟨_, (decide ((IntKind.u64.wrap (t243)) ≥ x5_15)), (by first | rfl | (simp; done) | (simp [*]; done)), H', ⟨by have := HJ2.out; have := HJ15.out; have := HK3.out; first | omega | exact Nat.le_refl _⟩, ⟨by (with_reducible repeat (first | apply kN_ | apply kD_ | apply kA_)); exact BK231.out⟩, ⟨by (with_reducible repeat (first | apply kN_ | apply kD_ | apply kA_)); exact BK232.out⟩, ⟨by repeat (first | (with_reducible first | exact HB.out | apply bA_ | apply bN_ | apply bD_ | refine bS_ ?_ GE231.out | refine bS_ ?_ GE232.out) | exact HB.out)⟩⟩
          case rest =>
           clear HC23
           try clear c1
           try clear p1
           try clear q1
           try clear hx1
           try clear qi1
           try clear c2
           try clear c2b0
           try clear c2b1
           try clear p2
           try clear q2
           try clear hx2
           try clear c5
           try clear c6
           try clear c8
           try clear c8b0
           try clear c8b1
           try clear c9
           try clear c9b0
           try clear c9b1
           try clear p10
           try clear q10
           try clear hx10
           try clear qi10
           try clear c11
           try clear c11b0
           try clear c11b1
           try clear c12
           try clear c12b0
           try clear c12b1
           try clear p13
           try clear q13
           try clear hx13
           try clear qi13
           try clear c14
           try clear c14b0
           try clear c14b1
           try clear p15
           try clear q15
           try clear hx15
           try clear qi15
           try clear c17
           try clear c18
           try clear c18b0
           try clear c18b1
           try clear c19
           try clear c19b0
           try clear c20
           try clear c20b0
           try clear p21
           try clear q21
           try clear hx21
           try clear c24
           try clear c24b0
           try clear hcz7_0 hcz7_1 hcz7_2 hcz7_3
           try clear hfz7_0 hfz7_1 hfz7_2 hfz7_3
           try clear p1
           try clear p10
           try clear p13
           try clear p15
           try clear p2
           try clear p21
           try clear q1
           try clear q10
           try clear q13
           try clear q15
           try clear q21
           obtain ⟨kq, x64_22, rfl, HA, HJ22, BK231, BK232, HB⟩ := hcut
           cases kq with
           | zero => exact absurd HA.out (by simp [platformfwref08_explicit.j3])
           | succ kj22 =>
            have H := HA.out
            clear HA
            simp only [platformfwref08_explicit.j3] at H
            by_cases c25 : x64_22 = true
            ·subst c25
             have H1 : ((platformfwref08_Number.f x8_3).bind fun bt244 => (some (bt244.1, bt244.2.1, bt244.2.2.1, bt244.2.2.2, 0))) = some (r1, r2, r3, r4, r5) := by rw [if_pos rfl] at H; exact H
             clear H
             have H := H1
             clear H1
             replace H := Option.bind_eq_some_iff.mp H
             obtain ⟨⟨t244, t245, t246, t247⟩, A260, H⟩ := H
             replace H : (some (t244, t245, t246, t247, 0)) = some (r1, r2, r3, r4, r5) := H
             have A26 := Aside0.mk A260
             clear A260
             simp only [Option.some.injEq, Prod.mk.injEq] at H
             obtain ⟨rfl, rfl, rfl, rfl, rfl⟩ := H
             go_wp2_with (first | ((with_reducible refine gate_callee (f := 27) rfl ?_); refine goesL_ (some 80) rfl rfl Tryz.func27 (by kernel_rfl) rfl #[.int .u64 x8_3] rfl (by (try simp only [List.map_toArray, List.map_cons, List.map_nil]); first | done | rfl) ?_; (with_reducible refine (platformfwref08_Number.calls x8_3 t244 t245 t246 t247 _ A26.out).mono ?_); rintro e w27 ⟨rfl, hb⟩; refine ⟨_, rfl, ?_⟩; replace BK231 := sqB_ (g := gb231) (by (with_reducible repeat (first | apply kN_ | apply kD_ | apply kA_)); exact BK231.out) hb; replace BK232 := sqB_ (g := gb232) (by (with_reducible repeat (first | apply kN_ | apply kD_ | apply kA_)); exact BK232.out) hb; replace HB := sqS_ (by repeat (first | (with_reducible first | exact HB.out | apply bA_ | apply bN_ | apply bD_ | refine bS_ ?_ GE231.out | refine bS_ ?_ GE232.out) | exact HB.out)) hb; (try clear hb); (try clear hb2); (try clear hk); (try clear hi); have hnb28 := NB232_231.out; have hnc28 := NB231_232.out; obtain ⟨hcz29_0, hcz29_1, hcz29_2, hcz29_3⟩ := cells4_ BK232.out; obtain ⟨hfz29_0, hfz29_1, hfz29_2, hfz29_3⟩ := froz4_ BK232.out))
             refine bodyPost_ret (results_ct rfl _ _ gb232 24 #[.int .i64 t244, .int .u64 t245, .string t246, .int .i64 t247] (0, 0) _ rfl (by (with_reducible repeat (first | apply kN_ | apply kD_ | apply kA_)); refine blk_put (cs := #[.int .i64 t244, .int .u64 t245, .string t246, .int .i64 x233003_3]) ?_ 3 _ rfl; (with_reducible repeat (first | apply kN_ | apply kD_ | apply kA_)); refine blk_put (cs := #[.int .i64 t244, .int .u64 t245, .string x233002_3, .int .i64 x233003_3]) ?_ 2 _ rfl; (with_reducible repeat (first | apply kN_ | apply kD_ | apply kA_)); refine blk_put (cs := #[.int .i64 t244, .int .u64 x233001_3, .string x233002_3, .int .i64 x233003_3]) ?_ 1 _ rfl; (with_reducible repeat (first | apply kN_ | apply kD_ | apply kA_)); refine blk_put (cs := #[.int .i64 x233000_3, .int .u64 x233001_3, .string x233002_3, .int .i64 x233003_3]) ?_ 0 _ rfl; (with_reducible repeat (first | apply kN_ | apply kD_ | apply kA_)); exact BK232.out) Tryz.underlying24 rfl (by kernel_rfl)) rfl ?_
             exact ⟨by first | rfl | (simp [errW_none, errW_some] <;> rfl) | (simp [*, errW_none, errW_some] <;> rfl), by repeat (first | (with_reducible first | exact HB.out | apply bA_ | apply bN_ | apply bD_ | refine bS_ ?_ GE231.out | refine bS_ ?_ GE232.out) | exact HB.out)⟩
            ·replace c25 := Bool.eq_false_iff.mpr c25
             subst c25
             have H1 : (if x5_15 = 0 then (none) else (if x8_3 > (IntKind.u64.wrap (Int.tdiv (IntKind.u64.wrap (18446744073709551615 - (IntKind.u64.wrap (t243)))) x5_15)) then (some (0, 0, (⟨#[]⟩ : ByteArray), 0, 11)) else (platformfwref08_explicit.l0 kj22 x4_15 x5_15 (IntKind.u64.wrap ((IntKind.u64.wrap (x8_3 * x5_15)) + (IntKind.u64.wrap (t243)))) (wrap64 (x9_3 + 1))))) = some (r1, r2, r3, r4, r5) := by rw [if_neg (show ¬ (false = true) by decide)] at H; exact H
             clear H
             have H := H1
             clear H1
             by_cases c30 : x5_15 = 0
             ·rw [if_pos c30] at H
              exact absurd H (by simp)
             ·rw [if_neg c30] at H
              have c30b0 : (x5_15 == 0) = false := beq_eq_false_iff_ne.mpr c30
              have c30b1 : (x5_15 != 0) = true := bne_iff_ne.mpr c30
              by_cases c31 : x8_3 > (IntKind.u64.wrap (Int.tdiv (IntKind.u64.wrap (18446744073709551615 - (IntKind.u64.wrap (t243)))) x5_15))
              ·rw [if_pos c31] at H
               have c31b0 : decide ((IntKind.u64.wrap (Int.tdiv (IntKind.u64.wrap (18446744073709551615 - (IntKind.u64.wrap (t243)))) x5_15)) < x8_3) = true := decide_eq_true c31
               clear c31
               simp only [Option.some.injEq, Prod.mk.injEq] at H
               obtain ⟨rfl, rfl, rfl, rfl, rfl⟩ := H
               have hnb32 := NB232_231.out
               have hnc32 := NB231_232.out
               obtain ⟨hcz33_0, hcz33_1, hcz33_2, hcz33_3⟩ := cells4_ BK232.out
               obtain ⟨hfz33_0, hfz33_1, hfz33_2, hfz33_3⟩ := froz4_ BK232.out
               go_wp2
               refine bodyPost_ret (results_ct rfl _ _ gb232 24 #[.int .i64 0, .int .u64 0, .string ⟨#[]⟩, .int .i64 0] (0, 0) _ rfl (by (with_reducible repeat (first | apply kN_ | apply kD_ | apply kA_)); refine blk_put (cs := #[.int .i64 0, .int .u64 0, .string ⟨#[]⟩, .int .i64 x233003_3]) ?_ 3 _ rfl; (with_reducible repeat (first | apply kN_ | apply kD_ | apply kA_)); refine blk_put (cs := #[.int .i64 0, .int .u64 0, .string x233002_3, .int .i64 x233003_3]) ?_ 2 _ rfl; (with_reducible repeat (first | apply kN_ | apply kD_ | apply kA_)); refine blk_put (cs := #[.int .i64 0, .int .u64 x233001_3, .string x233002_3, .int .i64 x233003_3]) ?_ 1 _ rfl; (with_reducible repeat (first | apply kN_ | apply kD_ | apply kA_)); refine blk_put (cs := #[.int .i64 x233000_3, .int .u64 x233001_3, .string x233002_3, .int .i64 x233003_3]) ?_ 0 _ rfl; (with_reducible repeat (first | apply kN_ | apply kD_ | apply kA_)); exact BK232.out) Tryz.underlying24 rfl (by kernel_rfl)) rfl ?_
               exact ⟨by first | rfl | (simp [errW_none, errW_some] <;> rfl) | (simp [*, errW_none, errW_some] <;> rfl), by repeat (first | (with_reducible first | exact HB.out | apply bA_ | apply bN_ | apply bD_ | refine bS_ ?_ GE231.out | refine bS_ ?_ GE232.out) | exact HB.out)⟩
              ·rw [if_neg c31] at H
               have c31b0 : decide ((IntKind.u64.wrap (Int.tdiv (IntKind.u64.wrap (18446744073709551615 - (IntKind.u64.wrap (t243)))) x5_15)) < x8_3) = false := decide_eq_false c31
               clear c31
               have H' := Aside0.mk H
               clear H
               go_wp2
               go_roundg kj22
               case measure => have := HJ2.out; have := HJ15.out; have := HK3.out; have := HJ22.out; omega
               case rel => exact ⟨(IntKind.u64.wrap ((IntKind.u64.wrap (x8_3 * x5_15)) + (IntKind.u64.wrap (t243)))), (wrap64 (x9_3 + 1)), (x233000_3), (x233001_3), (x233002_3), (x233003_3), (by first | rfl | (simp; done) | (simp [*]; done)), (by first | rfl | (simp; done) | (simp [*]; done)), H', ⟨by have := HJ2.out; have := HJ15.out; have := HK3.out; have := HJ22.out; omega⟩, ⟨by (with_reducible repeat (first | apply kN_ | apply kD_ | apply kA_)); exact BK231.out⟩, ⟨by (with_reducible repeat (first | apply kN_ | apply kD_ | apply kA_)); exact BK232.out⟩, ⟨by repeat (first | (with_reducible first | exact HB.out | apply bA_ | apply bN_ | apply bD_ | refine bS_ ?_ GE231.out | refine bS_ ?_ GE232.out) | exact HB.out)⟩⟩
         ·rw [if_neg c20] at H
          exact absurd H (by simp)
        ·rw [if_neg c19] at H
         have c19b0 : decide (x9_3 < (x4_15.size : Int)) = false := decide_eq_false c19
         clear c19
         replace H := Option.bind_eq_some_iff.mp H
         obtain ⟨⟨t239, t240, t241, t242⟩, A340, H⟩ := H
         replace H : (some (t239, t240, t241, t242, 0)) = some (r1, r2, r3, r4, r5) := H
         have A34 := Aside0.mk A340
         clear A340
         simp only [Option.some.injEq, Prod.mk.injEq] at H
         obtain ⟨rfl, rfl, rfl, rfl, rfl⟩ := H
         go_wp2_with (first | ((with_reducible refine gate_callee (f := 27) rfl ?_); refine goesL_ (some 80) rfl rfl Tryz.func27 (by kernel_rfl) rfl #[.int .u64 x8_3] rfl (by (try simp only [List.map_toArray, List.map_cons, List.map_nil]); first | done | rfl) ?_; (with_reducible refine (platformfwref08_Number.calls x8_3 t239 t240 t241 t242 _ A34.out).mono ?_); rintro e w35 ⟨rfl, hb⟩; refine ⟨_, rfl, ?_⟩; replace BK231 := sqB_ (g := gb231) (by (with_reducible repeat (first | apply kN_ | apply kD_ | apply kA_)); exact BK231.out) hb; replace BK232 := sqB_ (g := gb232) (by (with_reducible repeat (first | apply kN_ | apply kD_ | apply kA_)); exact BK232.out) hb; replace HB := sqS_ (by repeat (first | (with_reducible first | exact HB.out | apply bA_ | apply bN_ | apply bD_ | refine bS_ ?_ GE231.out | refine bS_ ?_ GE232.out) | exact HB.out)) hb; (try clear hb); (try clear hb2); (try clear hk); (try clear hi); have hnb36 := NB232_231.out; have hnc36 := NB231_232.out; obtain ⟨hcz37_0, hcz37_1, hcz37_2, hcz37_3⟩ := cells4_ BK232.out; obtain ⟨hfz37_0, hfz37_1, hfz37_2, hfz37_3⟩ := froz4_ BK232.out))
         refine bodyPost_ret (results_ct rfl _ _ gb232 24 #[.int .i64 t239, .int .u64 t240, .string t241, .int .i64 t242] (0, 0) _ rfl (by (with_reducible repeat (first | apply kN_ | apply kD_ | apply kA_)); refine blk_put (cs := #[.int .i64 t239, .int .u64 t240, .string t241, .int .i64 x233003_3]) ?_ 3 _ rfl; (with_reducible repeat (first | apply kN_ | apply kD_ | apply kA_)); refine blk_put (cs := #[.int .i64 t239, .int .u64 t240, .string x233002_3, .int .i64 x233003_3]) ?_ 2 _ rfl; (with_reducible repeat (first | apply kN_ | apply kD_ | apply kA_)); refine blk_put (cs := #[.int .i64 t239, .int .u64 x233001_3, .string x233002_3, .int .i64 x233003_3]) ?_ 1 _ rfl; (with_reducible repeat (first | apply kN_ | apply kD_ | apply kA_)); refine blk_put (cs := #[.int .i64 x233000_3, .int .u64 x233001_3, .string x233002_3, .int .i64 x233003_3]) ?_ 0 _ rfl; (with_reducible repeat (first | apply kN_ | apply kD_ | apply kA_)); exact BK232.out) Tryz.underlying24 rfl (by kernel_rfl)) rfl ?_
         exact ⟨by first | rfl | (simp [errW_none, errW_some] <;> rfl) | (simp [*, errW_none, errW_some] <;> rfl), by repeat (first | (with_reducible first | exact HB.out | apply bA_ | apply bN_ | apply bD_ | refine bS_ ?_ GE231.out | refine bS_ ?_ GE232.out) | exact HB.out)⟩
 ·rw [if_neg c2] at H
  have c2b0 : (a0_0 == 2) = false := beq_eq_false_iff_ne.mpr c2
  have c2b1 : (a0_0 != 2) = true := bne_iff_ne.mpr c2
  replace H := Option.bind_eq_some_iff.mp H
  obtain ⟨⟨t233, t234⟩, A380, H⟩ := H
  replace H : (if t234 = 0 then ((platformfwref08_Number.f t233).bind fun bt235 => (some (bt235.1, bt235.2.1, bt235.2.2.1, bt235.2.2.2, 0))) else (some (0, 0, (⟨#[]⟩ : ByteArray), 0, t234))) = some (r1, r2, r3, r4, r5) := H
  have A38 := Aside0.mk A380
  clear A380
  by_cases c39 : t234 = 0
  ·rw [if_pos c39] at H
   have c39b0 : (t234 == 0) = true := beq_iff_eq.mpr c39
   have c39b1 : (t234 != 0) = false := bne_eq_false_iff_eq.mpr c39
   clear c39
   replace H := Option.bind_eq_some_iff.mp H
   obtain ⟨⟨t235, t236, t237, t238⟩, A400, H⟩ := H
   replace H : (some (t235, t236, t237, t238, 0)) = some (r1, r2, r3, r4, r5) := H
   have A40 := Aside0.mk A400
   clear A400
   simp only [Option.some.injEq, Prod.mk.injEq] at H
   obtain ⟨rfl, rfl, rfl, rfl, rfl⟩ := H
   go_enter Tryz.func29, Tryz.ntmps29
   go_wp2_with (first | ((with_reducible refine gate_dst (N := 1) rfl ?_); refine box_event ?hg (N := 1) ?hd (cs := #[.int .i64 a0_0, .int .u64 a0_1, .string a0_2, .int .i64 a0_3]) (t := 24) ?hr ?_; (case hd => rfl); (case hg => rfl); (case hr => first | (go_simp; done) | (go_simp; rfl)); intro gb231 hg w41 hbox hb; replace HB := sqN_ (by repeat (first | (with_reducible first | exact HB.out | apply bA_ | apply bN_ | apply bD_) | exact HB.out)) hg hb; obtain ⟨HB, GE231⟩ := HB; have BK231 := Aside0.mk hbox; clear hb hbox hg) | ((with_reducible refine gate_dst (N := 2) rfl ?_); refine box_event ?hg (N := 2) ?hd (cs := #[.int .i64 0, .int .u64 0, .string ⟨#[]⟩, .int .i64 0]) (t := 24) ?hr ?_; (case hd => rfl); (case hg => rfl); (case hr => first | (go_simp; done) | (go_simp; rfl)); intro gb232 hg w42 hbox hb; replace BK231 := sqO_ (g := gb231) (by (with_reducible repeat (first | apply kN_ | apply kD_ | apply kA_)); exact BK231.out) hg hb; obtain ⟨BK231, NB231_232, NB232_231⟩ := BK231; replace HB := sqN_ (by repeat (first | (with_reducible first | exact HB.out | apply bA_ | apply bN_ | apply bD_ | refine bS_ ?_ GE231.out) | exact HB.out)) hg hb; obtain ⟨HB, GE232⟩ := HB; have BK232 := Aside0.mk hbox; clear hb hbox hg; have hnb43 := NB231_232.out; have hnc43 := NB232_231.out; obtain ⟨hcz44_0, hcz44_1, hcz44_2, hcz44_3⟩ := cells4_ BK231.out; obtain ⟨hfz44_0, hfz44_1, hfz44_2, hfz44_3⟩ := froz4_ BK231.out) | ((with_reducible refine gate_callee (f := 26) rfl ?_); refine goesL_ (some 18) rfl rfl Tryz.func26 (by kernel_rfl) rfl #[.agg #[.int .i64 a0_0, .int .u64 a0_1, .string a0_2, .int .i64 a0_3]] rfl (by (try simp only [List.map_toArray, List.map_cons, List.map_nil]); first | done | rfl) ?_; (with_reducible refine (platformfwref08_Integer.calls k a0_0 a0_1 a0_2 a0_3 t233 t234 _ A38.out).mono ?_); rintro e w45 ⟨rfl, hb⟩; refine ⟨_, rfl, ?_⟩; replace BK231 := sqB_ (g := gb231) (by (with_reducible repeat (first | apply kN_ | apply kD_ | apply kA_)); exact BK231.out) hb; replace BK232 := sqB_ (g := gb232) (by (with_reducible repeat (first | apply kN_ | apply kD_ | apply kA_)); exact BK232.out) hb; replace HB := sqS_ (by repeat (first | (with_reducible first | exact HB.out | apply bA_ | apply bN_ | apply bD_ | refine bS_ ?_ GE231.out | refine bS_ ?_ GE232.out) | exact HB.out)) hb; (try clear hb); (try clear hb2); (try clear hk); (try clear hi)) | ((with_reducible refine gate_callee (f := 27) rfl ?_); refine goesL_ (some 26) rfl rfl Tryz.func27 (by kernel_rfl) rfl #[.int .u64 t233] rfl (by (try simp only [List.map_toArray, List.map_cons, List.map_nil]); first | done | rfl) ?_; (with_reducible refine (platformfwref08_Number.calls t233 t235 t236 t237 t238 _ A40.out).mono ?_); rintro e w46 ⟨rfl, hb⟩; refine ⟨_, rfl, ?_⟩; replace BK231 := sqB_ (g := gb231) (by (with_reducible repeat (first | apply kN_ | apply kD_ | apply kA_)); exact BK231.out) hb; replace BK232 := sqB_ (g := gb232) (by (with_reducible repeat (first | apply kN_ | apply kD_ | apply kA_)); exact BK232.out) hb; replace HB := sqS_ (by repeat (first | (with_reducible first | exact HB.out | apply bA_ | apply bN_ | apply bD_ | refine bS_ ?_ GE231.out | refine bS_ ?_ GE232.out) | exact HB.out)) hb; (try clear hb); (try clear hb2); (try clear hk); (try clear hi); obtain ⟨hcz47_0, hcz47_1, hcz47_2, hcz47_3⟩ := cells4_ BK232.out; obtain ⟨hfz47_0, hfz47_1, hfz47_2, hfz47_3⟩ := froz4_ BK232.out))
   refine bodyPost_ret (results_ct rfl _ _ gb232 24 #[.int .i64 t235, .int .u64 t236, .string t237, .int .i64 t238] (0, 0) _ rfl (by (with_reducible repeat (first | apply kN_ | apply kD_ | apply kA_)); refine blk_put (cs := #[.int .i64 t235, .int .u64 t236, .string t237, .int .i64 0]) ?_ 3 _ rfl; (with_reducible repeat (first | apply kN_ | apply kD_ | apply kA_)); refine blk_put (cs := #[.int .i64 t235, .int .u64 t236, .string ⟨#[]⟩, .int .i64 0]) ?_ 2 _ rfl; (with_reducible repeat (first | apply kN_ | apply kD_ | apply kA_)); refine blk_put (cs := #[.int .i64 t235, .int .u64 0, .string ⟨#[]⟩, .int .i64 0]) ?_ 1 _ rfl; (with_reducible repeat (first | apply kN_ | apply kD_ | apply kA_)); refine blk_put (cs := #[.int .i64 0, .int .u64 0, .string ⟨#[]⟩, .int .i64 0]) ?_ 0 _ rfl; (with_reducible repeat (first | apply kN_ | apply kD_ | apply kA_)); exact BK232.out) Tryz.underlying24 rfl (by kernel_rfl)) rfl ?_
   exact ⟨by first | rfl | (simp [errW_none, errW_some] <;> rfl) | (simp [*, errW_none, errW_some] <;> rfl), by repeat (first | (with_reducible first | exact HB.out | apply bA_ | apply bN_ | apply bD_ | refine bS_ ?_ GE231.out | refine bS_ ?_ GE232.out) | exact HB.out)⟩
  ·rw [if_neg c39] at H
   have c39b0 : (t234 == 0) = false := beq_eq_false_iff_ne.mpr c39
   have c39b1 : (t234 != 0) = true := bne_iff_ne.mpr c39
   simp only [Option.some.injEq, Prod.mk.injEq] at H
   obtain ⟨rfl, rfl, rfl, rfl, rfl⟩ := H
   go_enter Tryz.func29, Tryz.ntmps29
   go_wp2_with (first | ((with_reducible refine gate_dst (N := 1) rfl ?_); refine box_event ?hg (N := 1) ?hd (cs := #[.int .i64 a0_0, .int .u64 a0_1, .string a0_2, .int .i64 a0_3]) (t := 24) ?hr ?_; (case hd => rfl); (case hg => rfl); (case hr => first | (go_simp; done) | (go_simp; rfl)); intro gb231 hg w48 hbox hb; replace HB := sqN_ (by repeat (first | (with_reducible first | exact HB.out | apply bA_ | apply bN_ | apply bD_) | exact HB.out)) hg hb; obtain ⟨HB, GE231⟩ := HB; have BK231 := Aside0.mk hbox; clear hb hbox hg) | ((with_reducible refine gate_dst (N := 2) rfl ?_); refine box_event ?hg (N := 2) ?hd (cs := #[.int .i64 0, .int .u64 0, .string ⟨#[]⟩, .int .i64 0]) (t := 24) ?hr ?_; (case hd => rfl); (case hg => rfl); (case hr => first | (go_simp; done) | (go_simp; rfl)); intro gb232 hg w49 hbox hb; replace BK231 := sqO_ (g := gb231) (by (with_reducible repeat (first | apply kN_ | apply kD_ | apply kA_)); exact BK231.out) hg hb; obtain ⟨BK231, NB231_232, NB232_231⟩ := BK231; replace HB := sqN_ (by repeat (first | (with_reducible first | exact HB.out | apply bA_ | apply bN_ | apply bD_ | refine bS_ ?_ GE231.out) | exact HB.out)) hg hb; obtain ⟨HB, GE232⟩ := HB; have BK232 := Aside0.mk hbox; clear hb hbox hg; have hnb50 := NB231_232.out; have hnc50 := NB232_231.out; obtain ⟨hcz51_0, hcz51_1, hcz51_2, hcz51_3⟩ := cells4_ BK231.out; obtain ⟨hfz51_0, hfz51_1, hfz51_2, hfz51_3⟩ := froz4_ BK231.out) | ((with_reducible refine gate_callee (f := 26) rfl ?_); refine goesL_ (some 18) rfl rfl Tryz.func26 (by kernel_rfl) rfl #[.agg #[.int .i64 a0_0, .int .u64 a0_1, .string a0_2, .int .i64 a0_3]] rfl (by (try simp only [List.map_toArray, List.map_cons, List.map_nil]); first | done | rfl) ?_; (with_reducible refine (platformfwref08_Integer.calls k a0_0 a0_1 a0_2 a0_3 t233 t234 _ A38.out).mono ?_); rintro e w52 ⟨rfl, hb⟩; refine ⟨_, rfl, ?_⟩; replace BK231 := sqB_ (g := gb231) (by (with_reducible repeat (first | apply kN_ | apply kD_ | apply kA_)); exact BK231.out) hb; replace BK232 := sqB_ (g := gb232) (by (with_reducible repeat (first | apply kN_ | apply kD_ | apply kA_)); exact BK232.out) hb; replace HB := sqS_ (by repeat (first | (with_reducible first | exact HB.out | apply bA_ | apply bN_ | apply bD_ | refine bS_ ?_ GE231.out | refine bS_ ?_ GE232.out) | exact HB.out)) hb; (try clear hb); (try clear hb2); (try clear hk); (try clear hi); obtain ⟨hcz53_0, hcz53_1, hcz53_2, hcz53_3⟩ := cells4_ BK232.out; obtain ⟨hfz53_0, hfz53_1, hfz53_2, hfz53_3⟩ := froz4_ BK232.out))
   refine bodyPost_ret (results_ct rfl _ _ gb232 24 #[.int .i64 0, .int .u64 0, .string ⟨#[]⟩, .int .i64 0] (0, 0) _ rfl (by (with_reducible repeat (first | apply kN_ | apply kD_ | apply kA_)); refine blk_put (cs := #[.int .i64 0, .int .u64 0, .string ⟨#[]⟩, .int .i64 0]) ?_ 3 _ rfl; (with_reducible repeat (first | apply kN_ | apply kD_ | apply kA_)); refine blk_put (cs := #[.int .i64 0, .int .u64 0, .string ⟨#[]⟩, .int .i64 0]) ?_ 2 _ rfl; (with_reducible repeat (first | apply kN_ | apply kD_ | apply kA_)); refine blk_put (cs := #[.int .i64 0, .int .u64 0, .string ⟨#[]⟩, .int .i64 0]) ?_ 1 _ rfl; (with_reducible repeat (first | apply kN_ | apply kD_ | apply kA_)); refine blk_put (cs := #[.int .i64 0, .int .u64 0, .string ⟨#[]⟩, .int .i64 0]) ?_ 0 _ rfl; (with_reducible repeat (first | apply kN_ | apply kD_ | apply kA_)); exact BK232.out) Tryz.underlying24 rfl (by kernel_rfl)) rfl ?_
   exact ⟨by first | rfl | (simp [errW_none, errW_some] <;> rfl) | (simp [*, errW_none, errW_some] <;> rfl), by repeat (first | (with_reducible first | exact HB.out | apply bA_ | apply bN_ | apply bD_ | refine bS_ ?_ GE231.out | refine bS_ ?_ GE232.out) | exact HB.out)⟩

/-! ### platformfwref08_digits: function 54 -/
def platformfwref08_digits.l0 : Nat → Int → Int → Int → ByteArray → Option (ByteArray)
 | 0, _, _, _, _ => none
 | k + 1, x0, x1, x2, x7 => if x0 > 0 then (if x1 = 0 then (none) else (if 0 ≤ (Int.tmod x0 x1) then (if (Int.tmod x0 x1) ≤ (IntKind.u64.wrap ((Int.tmod x0 x1) + 1)) then (if (IntKind.u64.wrap ((Int.tmod x0 x1) + 1)) ≤ 16 then (if ((⟨#[48, 49, 50, 51, 52, 53, 54, 55, 56, 57, 65, 66, 67, 68, 69, 70]⟩ : ByteArray).extract ((Int.tmod x0 x1) : Int).toNat ((IntKind.u64.wrap ((Int.tmod x0 x1) + 1)) : Int).toNat).size + x7.size ≤ 9223372036854775807 then (platformfwref08_digits.l0 k (IntKind.u64.wrap (Int.tdiv x0 x1)) x1 x2 (((⟨#[48, 49, 50, 51, 52, 53, 54, 55, 56, 57, 65, 66, 67, 68, 69, 70]⟩ : ByteArray).extract ((Int.tmod x0 x1) : Int).toNat ((IntKind.u64.wrap ((Int.tmod x0 x1) + 1)) : Int).toNat) ++ x7)) else (none)) else (none)) else (none)) else (none))) else (if (x7.size : Int) < x2 then (if x1 = 0 then (none) else (if 0 ≤ (Int.tmod x0 x1) then (if (Int.tmod x0 x1) ≤ (IntKind.u64.wrap ((Int.tmod x0 x1) + 1)) then (if (IntKind.u64.wrap ((Int.tmod x0 x1) + 1)) ≤ 16 then (if ((⟨#[48, 49, 50, 51, 52, 53, 54, 55, 56, 57, 65, 66, 67, 68, 69, 70]⟩ : ByteArray).extract ((Int.tmod x0 x1) : Int).toNat ((IntKind.u64.wrap ((Int.tmod x0 x1) + 1)) : Int).toNat).size + x7.size ≤ 9223372036854775807 then (platformfwref08_digits.l0 k (IntKind.u64.wrap (Int.tdiv x0 x1)) x1 x2 (((⟨#[48, 49, 50, 51, 52, 53, 54, 55, 56, 57, 65, 66, 67, 68, 69, 70]⟩ : ByteArray).extract ((Int.tmod x0 x1) : Int).toNat ((IntKind.u64.wrap ((Int.tmod x0 x1) + 1)) : Int).toNat) ++ x7)) else (none)) else (none)) else (none)) else (none))) else (some x7))
def platformfwref08_digits.f (k : Nat) (a0 : Int) (a1 : Int) (a2 : Int) : Option (ByteArray) := platformfwref08_digits.l0 k a0 a1 a2 (⟨#[]⟩ : ByteArray)
theorem platformfwref08_digits.mono_l : ∀ k, (∀ y0 y1 y2 y3, LeO (platformfwref08_digits.l0 k y0 y1 y2 y3) (platformfwref08_digits.l0 (k + 1) y0 y1 y2 y3))
 | 0 => fun _ _ _ _ r h => by simp [platformfwref08_digits.l0] at h
 | k + 1 => by
  have ih0 := platformfwref08_digits.mono_l k
  ·intro y0 y1 y2 y3
   unfold platformfwref08_digits.l0
   repeat' first
   | (with_reducible exact ih0 _ _ _ _)
   | (with_reducible exact LeO.refl _)
   | (with_reducible exact LeO.none _)
   | (with_reducible refine LeO.ite ?_ ?_)
   | (with_reducible refine LeO.bind ?_ (fun _ => ?_))
   | exact ih0 _ _ _ _
   | exact LeO.none _
   | refine LeO.ite ?_ ?_
   | refine LeO.bind ?_ (fun _ => ?_)
theorem platformfwref08_digits.mono : ∀ a0 a1 a2 k, LeO (platformfwref08_digits.f k a0 a1 a2) (platformfwref08_digits.f (k + 1) a0 a1 a2) := by
 intro a0 a1 a2 k
 have ih0 := platformfwref08_digits.mono_l k
 unfold platformfwref08_digits.f
 repeat' first
   | (with_reducible exact ih0 _ _ _ _)
   | (with_reducible exact LeO.refl _)
   | (with_reducible exact LeO.none _)
   | (with_reducible refine LeO.ite ?_ ?_)
   | (with_reducible refine LeO.bind ?_ (fun _ => ?_))
   | exact ih0 _ _ _ _
   | exact LeO.none _
   | refine LeO.ite ?_ ?_
   | refine LeO.bind ?_ (fun _ => ?_)
set_option maxHeartbeats 8000000 in
set_option maxRecDepth 100000 in
theorem platformfwref08_digits.calls (k : Nat) (a0 : Int) (a1 : Int) (a2 : Int) (r : ByteArray) (w : World) (h : platformfwref08_digits.f k a0 a1 a2 = some r) :
  Calls Tryz.prog 54 #[.int .u64 a0, .int .u64 a1, .int .i64 a2] w fun e w' => e = .returned (.string r) ∧ Drawn0 w w' := by
 have H : (platformfwref08_digits.l0 k a0 a1 a2 (⟨#[]⟩ : ByteArray)) = some r := h
 clear h
 have H' := Aside0.mk H
 clear H
 go_enter Tryz.func54, Tryz.ntmps54
 go_wp2
 go_loopg [0, 7] k (fun kq v0 v7 w' => ∃ (x0_1 : Int) (x7_1 : ByteArray), v0 = .int .u64 x0_1 ∧ v7 = .string x7_1 ∧ Aside0 (platformfwref08_digits.l0 kq x0_1 a1 a2 x7_1 = some r) ∧ Aside0 (kq ≤ k) ∧ Drawn0 w w')
 case atStart => exact ⟨(a0), ((⟨#[]⟩ : ByteArray)), (by first | rfl | (simp; done) | (simp [*]; done)), (by first | rfl | (simp; done) | (simp [*]; done)), H', ⟨Nat.le_refl _⟩, by repeat (first | exact Drawn0.refl _ | apply Drawn0.step)⟩
 case round =>
  clear H'
  try clear p2
  obtain ⟨x0_1, x7_1, rfl, rfl, HA, HK1, ⟨m1, rfl⟩⟩ := hrel
  cases gk with
  | zero => exact absurd HA.out (by simp [platformfwref08_digits.l0])
  | succ k1 =>
   have H := HA.out
   clear HA
   simp only [platformfwref08_digits.l0] at H
   by_cases c4 : x0_1 > 0
   ·rw [if_pos c4] at H
    have c4b0 : decide (0 < x0_1) = true := decide_eq_true c4
    clear c4
    by_cases c5 : a1 = 0
    ·rw [if_pos c5] at H
     exact absurd H (by simp)
    ·rw [if_neg c5] at H
     have c5b0 : (a1 == 0) = false := beq_eq_false_iff_ne.mpr c5
     have c5b1 : (a1 != 0) = true := bne_iff_ne.mpr c5
     obtain ⟨ji6, hji6⟩ : ∃ j_ : Int, (Int.tmod x0_1 a1) = j_ := ⟨_, rfl⟩
     replace H : (if 0 ≤ (ji6) then (if (ji6) ≤ (IntKind.u64.wrap ((ji6) + 1)) then (if (IntKind.u64.wrap ((ji6) + 1)) ≤ 16 then (if ((⟨#[48, 49, 50, 51, 52, 53, 54, 55, 56, 57, 65, 66, 67, 68, 69, 70]⟩ : ByteArray).extract ((ji6) : Int).toNat ((IntKind.u64.wrap ((ji6) + 1)) : Int).toNat).size + x7_1.size ≤ 9223372036854775807 then (platformfwref08_digits.l0 k1 (IntKind.u64.wrap (Int.tdiv x0_1 a1)) a1 a2 (((⟨#[48, 49, 50, 51, 52, 53, 54, 55, 56, 57, 65, 66, 67, 68, 69, 70]⟩ : ByteArray).extract ((ji6) : Int).toNat ((IntKind.u64.wrap ((ji6) + 1)) : Int).toNat) ++ x7_1)) else (none)) else (none)) else (none)) else (none)) = some r := by first | (rw [hji6] at H; exact H) | (simp only [hji6] at H ⊢; exact H)
     by_cases c7 : 0 ≤ (ji6)
     ·rw [if_pos c7] at H
      have c7b0 := eq_true c7
      have c7b1 : decide (0 ≤ (ji6)) = true := decide_eq_true c7
      clear c7
      by_cases c8 : (ji6) ≤ (IntKind.u64.wrap ((ji6) + 1))
      ·rw [if_pos c8] at H
       have c8b0 := eq_true c8
       have c8b1 : decide ((ji6) ≤ (IntKind.u64.wrap ((ji6) + 1))) = true := decide_eq_true c8
       clear c8
       by_cases c9 : (IntKind.u64.wrap ((ji6) + 1)) ≤ 16
       ·rw [if_pos c9] at H
        have c9b0 := eq_true c9
        have c9b1 : decide ((IntKind.u64.wrap ((ji6) + 1)) ≤ 16) = true := decide_eq_true c9
        clear c9
        by_cases c10 : ((⟨#[48, 49, 50, 51, 52, 53, 54, 55, 56, 57, 65, 66, 67, 68, 69, 70]⟩ : ByteArray).extract ((ji6) : Int).toNat ((IntKind.u64.wrap ((ji6) + 1)) : Int).toNat).size + x7_1.size ≤ 9223372036854775807
        ·rw [if_pos c10] at H
         have c10b0 := eq_true c10
         have c10b1 : decide (((⟨#[48, 49, 50, 51, 52, 53, 54, 55, 56, 57, 65, 66, 67, 68, 69, 70]⟩ : ByteArray).extract ((ji6) : Int).toNat ((IntKind.u64.wrap ((ji6) + 1)) : Int).toNat).size + x7_1.size ≤ 9223372036854775807) = true := decide_eq_true c10
         try have c10b2 : (9223372036854775807 < ((⟨#[48, 49, 50, 51, 52, 53, 54, 55, 56, 57, 65, 66, 67, 68, 69, 70]⟩ : ByteArray).extract ((ji6) : Int).toNat ((IntKind.u64.wrap ((ji6) + 1)) : Int).toNat).size + x7_1.size) = False := eq_false (Nat.not_lt.2 c10)
         try have c10b3 : (9223372036854775807 < (((IntKind.u64.wrap ((ji6) + 1)) : Int).toNat - ((ji6) : Int).toNat) + x7_1.size) = False := eq_false (fun h_ => Nat.not_lt.2 c10 (Nat.lt_of_lt_of_eq h_ (by have q0_ : (IntKind.u64.wrap ((ji6) + 1)) ≤ 16 := of_decide_eq_true (by first | (with_reducible assumption) | assumption); simp only [ByteArray.size_extract, show (⟨#[48, 49, 50, 51, 52, 53, 54, 55, 56, 57, 65, 66, 67, 68, 69, 70]⟩ : ByteArray).size = 16 from rfl]; omega)))
         clear c10
         have H' := Aside0.mk H
         clear H
         go_wp2
         go_roundg k1
         case measure => have := HK1.out; omega
         case rel => exact ⟨(IntKind.u64.wrap (Int.tdiv x0_1 a1)), (((⟨#[48, 49, 50, 51, 52, 53, 54, 55, 56, 57, 65, 66, 67, 68, 69, 70]⟩ : ByteArray).extract ((ji6) : Int).toNat ((IntKind.u64.wrap ((ji6) + 1)) : Int).toNat) ++ x7_1), (by first | rfl | (simp; done) | (simp [*]; done)), (by first | rfl | (simp; done) | (simp only [← hji6] <;> (first | rfl | simp)) | (simp [*]; done)), H', ⟨by have := HK1.out; omega⟩, by repeat (first | exact Drawn0.refl _ | apply Drawn0.step)⟩
        ·rw [if_neg c10] at H
         exact absurd H (by simp)
       ·rw [if_neg c9] at H
        exact absurd H (by simp)
      ·rw [if_neg c8] at H
       exact absurd H (by simp)
     ·rw [if_neg c7] at H
      exact absurd H (by simp)
   ·rw [if_neg c4] at H
    have c4b0 : decide (0 < x0_1) = false := decide_eq_false c4
    clear c4
    by_cases c11 : (x7_1.size : Int) < a2
    ·rw [if_pos c11] at H
     have c11b0 : decide ((x7_1.size : Int) < a2) = true := decide_eq_true c11
     clear c11
     by_cases c12 : a1 = 0
     ·rw [if_pos c12] at H
      exact absurd H (by simp)
     ·rw [if_neg c12] at H
      have c12b0 : (a1 == 0) = false := beq_eq_false_iff_ne.mpr c12
      have c12b1 : (a1 != 0) = true := bne_iff_ne.mpr c12
      obtain ⟨ji13, hji13⟩ : ∃ j_ : Int, (Int.tmod x0_1 a1) = j_ := ⟨_, rfl⟩
      replace H : (if 0 ≤ (ji13) then (if (ji13) ≤ (IntKind.u64.wrap ((ji13) + 1)) then (if (IntKind.u64.wrap ((ji13) + 1)) ≤ 16 then (if ((⟨#[48, 49, 50, 51, 52, 53, 54, 55, 56, 57, 65, 66, 67, 68, 69, 70]⟩ : ByteArray).extract ((ji13) : Int).toNat ((IntKind.u64.wrap ((ji13) + 1)) : Int).toNat).size + x7_1.size ≤ 9223372036854775807 then (platformfwref08_digits.l0 k1 (IntKind.u64.wrap (Int.tdiv x0_1 a1)) a1 a2 (((⟨#[48, 49, 50, 51, 52, 53, 54, 55, 56, 57, 65, 66, 67, 68, 69, 70]⟩ : ByteArray).extract ((ji13) : Int).toNat ((IntKind.u64.wrap ((ji13) + 1)) : Int).toNat) ++ x7_1)) else (none)) else (none)) else (none)) else (none)) = some r := by first | (rw [hji13] at H; exact H) | (simp only [hji13] at H ⊢; exact H)
      by_cases c14 : 0 ≤ (ji13)
      ·rw [if_pos c14] at H
       have c14b0 := eq_true c14
       have c14b1 : decide (0 ≤ (ji13)) = true := decide_eq_true c14
       clear c14
       by_cases c15 : (ji13) ≤ (IntKind.u64.wrap ((ji13) + 1))
       ·rw [if_pos c15] at H
        have c15b0 := eq_true c15
        have c15b1 : decide ((ji13) ≤ (IntKind.u64.wrap ((ji13) + 1))) = true := decide_eq_true c15
        clear c15
        by_cases c16 : (IntKind.u64.wrap ((ji13) + 1)) ≤ 16
        ·rw [if_pos c16] at H
         have c16b0 := eq_true c16
         have c16b1 : decide ((IntKind.u64.wrap ((ji13) + 1)) ≤ 16) = true := decide_eq_true c16
         clear c16
         by_cases c17 : ((⟨#[48, 49, 50, 51, 52, 53, 54, 55, 56, 57, 65, 66, 67, 68, 69, 70]⟩ : ByteArray).extract ((ji13) : Int).toNat ((IntKind.u64.wrap ((ji13) + 1)) : Int).toNat).size + x7_1.size ≤ 9223372036854775807
         ·rw [if_pos c17] at H
          have c17b0 := eq_true c17
          have c17b1 : decide (((⟨#[48, 49, 50, 51, 52, 53, 54, 55, 56, 57, 65, 66, 67, 68, 69, 70]⟩ : ByteArray).extract ((ji13) : Int).toNat ((IntKind.u64.wrap ((ji13) + 1)) : Int).toNat).size + x7_1.size ≤ 9223372036854775807) = true := decide_eq_true c17
          try have c17b2 : (9223372036854775807 < ((⟨#[48, 49, 50, 51, 52, 53, 54, 55, 56, 57, 65, 66, 67, 68, 69, 70]⟩ : ByteArray).extract ((ji13) : Int).toNat ((IntKind.u64.wrap ((ji13) + 1)) : Int).toNat).size + x7_1.size) = False := eq_false (Nat.not_lt.2 c17)
          try have c17b3 : (9223372036854775807 < (((IntKind.u64.wrap ((ji13) + 1)) : Int).toNat - ((ji13) : Int).toNat) + x7_1.size) = False := eq_false (fun h_ => Nat.not_lt.2 c17 (Nat.lt_of_lt_of_eq h_ (by have q0_ : (IntKind.u64.wrap ((ji13) + 1)) ≤ 16 := of_decide_eq_true (by first | (with_reducible assumption) | assumption); simp only [ByteArray.size_extract, show (⟨#[48, 49, 50, 51, 52, 53, 54, 55, 56, 57, 65, 66, 67, 68, 69, 70]⟩ : ByteArray).size = 16 from rfl]; omega)))
          clear c17
          have H' := Aside0.mk H
          clear H
          go_wp2
          go_roundg k1
          case measure => have := HK1.out; omega
          case rel => exact ⟨(IntKind.u64.wrap (Int.tdiv x0_1 a1)), (((⟨#[48, 49, 50, 51, 52, 53, 54, 55, 56, 57, 65, 66, 67, 68, 69, 70]⟩ : ByteArray).extract ((ji13) : Int).toNat ((IntKind.u64.wrap ((ji13) + 1)) : Int).toNat) ++ x7_1), (by first | rfl | (simp; done) | (simp [*]; done)), (by first | rfl | (simp; done) | (simp only [← hji13] <;> (first | rfl | simp)) | (simp [*]; done)), H', ⟨by have := HK1.out; omega⟩, by repeat (first | exact Drawn0.refl _ | apply Drawn0.step)⟩
         ·rw [if_neg c17] at H
          exact absurd H (by simp)
        ·rw [if_neg c16] at H
         exact absurd H (by simp)
       ·rw [if_neg c15] at H
        exact absurd H (by simp)
      ·rw [if_neg c14] at H
       exact absurd H (by simp)
    ·rw [if_neg c11] at H
     have c11b0 : decide ((x7_1.size : Int) < a2) = false := decide_eq_false c11
     clear c11
     obtain rfl := Option.some.inj H
     go_wp2
     go_ret
     exact ⟨by first | rfl | (simp; done) | (simp [*]; done), by repeat (first | exact Drawn0.refl _ | apply Drawn0.step)⟩

end Go.Proofs.YtdmeglmmihaonaaGreatDoor.PValueUnary
