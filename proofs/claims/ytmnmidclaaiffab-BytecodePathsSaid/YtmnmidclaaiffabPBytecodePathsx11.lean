-- Written by a program of this session's (wip/print_patch.py over the kit's print) out of the translation; Lean checks it.
import Derived.Test.YtmnmidclaaiffabPBytecodePathsx0
import Derived.Test.YtmnmidclaaiffabPBytecodePathsx2
import Derived.Test.YtmnmidclaaiffabPBytecodePathsx3
import Derived.Test.YtmnmidclaaiffabPBytecodePathsx4
import Derived.Test.YtmnmidclaaiffabPBytecodePathsx6
import Derived.Test.YtmnmidclaaiffabPBytecodePathsx9
import Derived.Test.YtmnmidclaaiffabPBytecodePathsx10
import Derived.Test.YtmnmidclaaiffabExtP
namespace Go.Proofs.Ytmnmidclaaiffab.PBytecodePaths
open Go.RowKit Go.Proofs.Ytmnmidclaaiffab.Ext Go.Proofs.YtmnmidclaaiffabW.PrintWords Go.Proofs.YtmnmidclaaiffabW.PrintLast Go.Proofs.YtmnmidclaaiffabW.PrintMore
attribute [local go_sem] max2_int min2_int max_two min_two max_three min_three max_four min_four   -- for this text's walks alone
set_option linter.unusedVariables false
set_option linter.unusedSimpArgs false

/-! ### platformfwlaw05_BytecodePaths: function 3 -/
def platformfwlaw05_BytecodePaths.j0 : Nat → ByteArray → ByteArray → Bool → Bool → Int → List ByteArray → Option (Bool)
 | 0, _, _, _, _, _, _ => none
 | k + 1, x0, x2, x26, x210000, x210001, x210002 => if x26 = true then (some false) else ((platformfwlaw05_path.f k x210000 x210001 x210002).bind fun bt212 => ((platformfwref01_ValidPath.f k bt212.1 bt212.2.1 bt212.2.2).bind fun t218 => (if t218 = true then ((platformfwref05_Path.f k bt212.1 bt212.2.1 bt212.2.2).bind fun t221 => (if t221.size + x2.size ≤ 9223372036854775807 then ((bytecode_Path.f k (t221 ++ x2)).bind fun bt222 => ((platformfwlaw05_awake.f k).bind fun t230 => (if t230 = true then ((bytecode_AppendPath.f k x0 bt212.1 bt212.2.1 bt212.2.2).bind fun t231 => ((platformfwref05_Path.f k bt212.1 bt212.2.1 bt212.2.2).bind fun t232 => (if x0.size + t232.size ≤ 9223372036854775807 then (if t231.toList = (x0 ++ t232).toList then ((platformfwlaw05_same.f k bt222.1 bt222.2.1 bt222.2.2.1 bt212.1 bt212.2.1 bt212.2.2).bind fun t233 => (if t233 = true then ((platformfwref05_Path.f k bt212.1 bt212.2.1 bt212.2.2).bind fun t234 => (if bt222.2.2.2.1 = (t234.size : Int) then (some (bt222.2.2.2.2 == 0)) else (some false))) else (some false))) else (some false)) else (none)))) else (some false)))) else (none))) else ((platformfwlaw05_awake.f k).bind fun t219 => (if t219 = true then ((bytecode_AppendPath.f k x0 bt212.1 bt212.2.1 bt212.2.2).bind fun t220 => (some (t220.toList == x0.toList))) else (some false))))))
def platformfwlaw05_BytecodePaths.f (k : Nat) (a0 : ByteArray) (a1_0 : Bool) (a1_1 : Int) (l1_2 : List ByteArray) (a2 : ByteArray) : Option (Bool) := if (l1_2.length : Int) < 100 then ((platformfwref01_ValidPath.f k a1_0 a1_1 l1_2).bind fun t210 => (if t210 = true then (platformfwlaw05_BytecodePaths.j0 k a0 a2 false a1_0 a1_1 l1_2) else ((bytecode_AppendPath.f k a0 a1_0 a1_1 l1_2).bind fun t211 => (platformfwlaw05_BytecodePaths.j0 k a0 a2 (t211.toList != a0.toList) a1_0 a1_1 l1_2)))) else (platformfwlaw05_BytecodePaths.j0 k a0 a2 false a1_0 a1_1 l1_2)
theorem platformfwlaw05_BytecodePaths.mono_l : ∀ k, (∀ y0 y1 y2 y3 y4 y5, LeO (platformfwlaw05_BytecodePaths.j0 k y0 y1 y2 y3 y4 y5) (platformfwlaw05_BytecodePaths.j0 (k + 1) y0 y1 y2 y3 y4 y5))
 | 0 => fun _ _ _ _ _ _ r h => by simp [platformfwlaw05_BytecodePaths.j0] at h
 | k + 1 => by
  have ih0 := platformfwlaw05_BytecodePaths.mono_l k
  ·intro y0 y1 y2 y3 y4 y5
   unfold platformfwlaw05_BytecodePaths.j0
   repeat' first
   | (with_reducible exact ih0 _ _ _ _ _ _)
   | (with_reducible exact bytecode_AppendPath.mono _ _ _ _ _)
   | (with_reducible exact bytecode_Path.mono _ _)
   | (with_reducible exact platformfwlaw05_awake.mono _)
   | (with_reducible exact platformfwlaw05_path.mono _ _ _ _)
   | (with_reducible exact platformfwlaw05_same.mono _ _ _ _ _ _ _)
   | (with_reducible exact platformfwref01_ValidPath.mono _ _ _ _)
   | (with_reducible exact platformfwref05_Path.mono _ _ _ _)
   | (with_reducible exact LeO.refl _)
   | (with_reducible exact LeO.none _)
   | (with_reducible refine LeO.ite ?_ ?_)
   | (with_reducible refine LeO.bind ?_ (fun _ => ?_))
   | exact ih0 _ _ _ _ _ _
   | exact bytecode_AppendPath.mono _ _ _ _ _
   | exact bytecode_Path.mono _ _
   | exact platformfwlaw05_awake.mono _
   | exact platformfwlaw05_path.mono _ _ _ _
   | exact platformfwlaw05_same.mono _ _ _ _ _ _ _
   | exact platformfwref01_ValidPath.mono _ _ _ _
   | exact platformfwref05_Path.mono _ _ _ _
   | exact LeO.none _
   | refine LeO.ite ?_ ?_
   | refine LeO.bind ?_ (fun _ => ?_)
theorem platformfwlaw05_BytecodePaths.mono : ∀ a0 a1 a2 a3 a4 k, LeO (platformfwlaw05_BytecodePaths.f k a0 a1 a2 a3 a4) (platformfwlaw05_BytecodePaths.f (k + 1) a0 a1 a2 a3 a4) := by
 intro a0 a1 a2 a3 a4 k
 have ih0 := platformfwlaw05_BytecodePaths.mono_l k
 unfold platformfwlaw05_BytecodePaths.f
 repeat' first
   | (with_reducible exact ih0 _ _ _ _ _ _)
   | (with_reducible exact bytecode_AppendPath.mono _ _ _ _ _)
   | (with_reducible exact bytecode_Path.mono _ _)
   | (with_reducible exact platformfwlaw05_awake.mono _)
   | (with_reducible exact platformfwlaw05_path.mono _ _ _ _)
   | (with_reducible exact platformfwlaw05_same.mono _ _ _ _ _ _ _)
   | (with_reducible exact platformfwref01_ValidPath.mono _ _ _ _)
   | (with_reducible exact platformfwref05_Path.mono _ _ _ _)
   | (with_reducible exact LeO.refl _)
   | (with_reducible exact LeO.none _)
   | (with_reducible refine LeO.ite ?_ ?_)
   | (with_reducible refine LeO.bind ?_ (fun _ => ?_))
   | exact ih0 _ _ _ _ _ _
   | exact bytecode_AppendPath.mono _ _ _ _ _
   | exact bytecode_Path.mono _ _
   | exact platformfwlaw05_awake.mono _
   | exact platformfwlaw05_path.mono _ _ _ _
   | exact platformfwlaw05_same.mono _ _ _ _ _ _ _
   | exact platformfwref01_ValidPath.mono _ _ _ _
   | exact platformfwref05_Path.mono _ _ _ _
   | exact LeO.none _
   | refine LeO.ite ?_ ?_
   | refine LeO.bind ?_ (fun _ => ?_)
def platformfwlaw05_BytecodePaths.T7 : Bool × List (List Nat × List Nat) := (true, [([], []), ([0, 0], [0]), ([1], [1]), ([1], [1]), ([2, 3, 1, 1], [1, 2, 3]), ([1], [1]), ([1], [1]), ([6, 4, 1], [1, 6]), ([5, 7, 1], [1, 5, 7]), ([4, 8, 1], [1, 4, 8]), ([1, 9], [1, 9]), ([10, 7], [10]), ([11], [11]), ([11], [11]), ([12, 13, 11, 11], [11, 12, 13]), ([11, 14], [11, 14]), ([15, 14], [15]), ([16], [16]), ([16], [16]), ([18, 16, 16], [16, 18]), ([19, 16], [16, 19]), ([17, 20, 16], [16, 17, 20]), ([16, 21], [16, 21]), ([22, 19], [22]), ([23], [23]), ([24, 23], [23, 24]), ([23, 25], [23, 25]), ([26, 23, 0, 1, 2, 3, 4, 5, 6, 7, 8, 9, 10, 11, 12, 13, 14, 15, 16, 17, 18, 19, 20, 21, 22, 23, 24, 25, 26], [26])])
def platformfwlaw05_BytecodePaths.B7 : List Nat := [0, 1, 3, 3, 15, 3, 3, 95, 255, 511, 1023, 2047, 4095, 4095, 16383, 32767, 65535, 131071, 131071, 393215, 917503, 2097151, 4194303, 8388607, 16777215, 33554431, 67108863, 134217727]
theorem platformfwlaw05_BytecodePaths.tab7 : rtab .any (opsOf Try.f3 7) = platformfwlaw05_BytecodePaths.T7 := by kernel_rfl
theorem platformfwlaw05_BytecodePaths.bits7 : waitsOk platformfwlaw05_BytecodePaths.T7.2 platformfwlaw05_BytecodePaths.B7 = true := by kernel_rfl
set_option maxHeartbeats 8000000 in
set_option maxRecDepth 100000 in
theorem platformfwlaw05_BytecodePaths.calls (k : Nat) (a0 : ByteArray) (a1_0 : Bool) (a1_1 : Int) (A1_2 : Option Addr) (c1_2 : Nat) (l1_2 : List ByteArray) (a2 : ByteArray) (r : Bool) (w : World) (hr1_2 : Kd.C Kd.string w A1_2 l1_2.length l1_2) (hc1_2 : l1_2.length ≤ c1_2) (hr_ : Aside0 (r = true)) (h : platformfwlaw05_BytecodePaths.f k a0 a1_0 a1_1 l1_2 a2 = some r) :
  Calls Try.prog 3 #[.string a0, .agg #[.bool a1_0, .int .i64 a1_1, .slice A1_2 l1_2.length c1_2], .string a2] w fun e w' => e = .returned (.bool r) ∧ Below w.heap.size w w' := by
 have hu24 := Try.underlying24
 have HR1_2 := Aside0.mk hr1_2
 have HC1_2 := Aside0.mk hc1_2
 clear hr1_2 hc1_2
 have HB := Aside0.mk (Below.refl w.heap.size w)
 have H : (if (l1_2.length : Int) < 100 then ((platformfwref01_ValidPath.f k a1_0 a1_1 l1_2).bind fun t210 => (if t210 = true then (platformfwlaw05_BytecodePaths.j0 k a0 a2 false a1_0 a1_1 l1_2) else ((bytecode_AppendPath.f k a0 a1_0 a1_1 l1_2).bind fun t211 => (platformfwlaw05_BytecodePaths.j0 k a0 a2 (t211.toList != a0.toList) a1_0 a1_1 l1_2)))) else (platformfwlaw05_BytecodePaths.j0 k a0 a2 false a1_0 a1_1 l1_2)) = some r := h
 clear h
 have HC4 := Aside0.mk H
 clear H
 go_enter Try.func3, Try.ntmps3
 go_upto_region 1 with (first | ((with_reducible refine gate_dst (N := 4) rfl ?_); (try (refine gate_guard (by rfl) ?_; dsimp only)); refine box_event ?hg (N := 4) ?hd (cs := #[.bool a1_0, .int .i64 a1_1, .slice A1_2 l1_2.length c1_2]) (t := 24) ?hr ?_; (case hd => rfl); (case hg => rfl); (case hr => first | (go_simp; done) | (go_simp; rfl)); intro gb209 hg w5 hbox hb; have n0_ := Aside0.mk (below_step (by repeat (first | (with_reducible first | exact HB.out | apply bA_ | apply bN_ | apply bD_) | exact HB.out)) hb); have n1_ := Aside0.mk (hbox); have n2_ := Aside0.mk ((by rw [hg]; exact (below_size (by repeat (first | (with_reducible first | exact HB.out | apply bA_ | apply bN_ | apply bD_) | exact HB.out))) : w.heap.size ≤ gb209)); have n3_ := Aside0.mk ((by rw [hg]; exact (below_size (by repeat (first | (with_reducible first | exact HB.out | apply bA_ | apply bN_ | apply bD_) | exact HB.out))) : w.heap.size ≤ gb209)); clear HB; have HB := n0_; have BK209 := n1_; have GW209 := n2_; have GE209 := n3_; clear n0_ n1_ n2_ n3_; clear hb hbox hg))
 (try simp only [Act.put, sA_, sB_, sC_])
 go_cut [26] (fun v26 wc => ∃ (kq : Nat) (x26_3 : Bool), v26 = .bool x26_3 ∧ Aside0 (platformfwlaw05_BytecodePaths.j0 kq a0 a2 x26_3 a1_0 a1_1 l1_2 = some r) ∧ Aside0 (kq ≤ k) ∧ Aside0 (wc.heap[gb209]? = some (.cells #[.bool a1_0, .int .i64 a1_1, (.slice A1_2 l1_2.length c1_2)] 24 (0, 0))) ∧ Aside0 (Below w.heap.size w wc))
 case first =>
  have H := HC4.out
  clear HC4
  by_cases c6 : (l1_2.length : Int) < 100
  ·rw [if_pos c6] at H
   have c6b0 : decide ((l1_2.length : Int) < 100) = true := decide_eq_true c6
   have c6b1 : decide (l1_2.length < 100) = true := decide_eq_true (by omega)
   clear c6
   (first | rw [c6b0] | (simp only [i64_w, i32_w]; rw [c6b0]) | skip)
   replace H := Option.bind_eq_some_iff.mp H
   obtain ⟨t210, A70, H⟩ := H
   replace H : (if t210 = true then (platformfwlaw05_BytecodePaths.j0 k a0 a2 false a1_0 a1_1 l1_2) else ((bytecode_AppendPath.f k a0 a1_0 a1_1 l1_2).bind fun t211 => (platformfwlaw05_BytecodePaths.j0 k a0 a2 (t211.toList != a0.toList) a1_0 a1_1 l1_2))) = some r := H
   have A7 := Aside0.mk A70
   clear A70
   by_cases c8 : t210 = true
   ·subst c8
    have H1 : (platformfwlaw05_BytecodePaths.j0 k a0 a2 false a1_0 a1_1 l1_2) = some r := by rw [if_pos rfl] at H; exact H
    clear H
    have H := H1
    clear H1
    have H' := Aside0.mk H
    clear H
    obtain ⟨hcz9_0, hcz9_1, hcz9_2⟩ := cells3_ BK209.out
    obtain ⟨hfz9_0, hfz9_1, hfz9_2⟩ := froz3_ BK209.out
    go_wp2_with (first | (go_at_call 4; (with_reducible refine (platformfwref01_ValidPath.calls k a1_0 a1_1 _ _ l1_2 true _ ?side1 ?side2 A7.out).mono ?_); (case side1 => repeat (first | exact (Kd.C_below HR1_2.out HB.out) | (with_reducible refine Kd.C_alloc ?_ _) | (with_reducible refine Kd.C_drewN ?_ _) | (with_reducible refine Kd.C_drew ?_))); (case side2 => exact HC1_2.out); rintro e w10 ⟨rfl, hb⟩; have n0_ := Aside0.mk (blk_below (g := gb209) (o := .cells #[.bool a1_0, .int .i64 a1_1, .slice A1_2 l1_2.length c1_2] 24 (0, 0)) (by (with_reducible repeat (first | refine kN_ ?_ _ | refine kD_ ?_ | refine kA_ ?_ _)); exact BK209.out) hb); have n1_ := Aside0.mk (below_step (by repeat (first | (with_reducible first | exact HB.out | apply bA_ | apply bN_ | apply bD_ | refine bS_ ?_ GE209.out) | exact HB.out)) hb); clear BK209; clear HB; have BK209 := n0_; have HB := n1_; clear n0_ n1_; (try clear hb); (try clear hb2); (try clear hk); (try clear hi)))
    go_meet
    case rel => exact ⟨_, (false), (by first | rfl | (simp; done) | (simp [*]; done)), H', ⟨by first | omega | exact Nat.le_refl _⟩, ⟨by (with_reducible repeat (first | refine kN_ ?_ _ | refine kD_ ?_ | refine kA_ ?_ _)); exact BK209.out⟩, ⟨by repeat (first | (with_reducible first | exact HB.out | apply bA_ | apply bN_ | apply bD_ | refine bS_ ?_ GE209.out) | exact HB.out)⟩⟩
   ·replace c8 := Bool.eq_false_iff.mpr c8
    subst c8
    have H1 : ((bytecode_AppendPath.f k a0 a1_0 a1_1 l1_2).bind fun t211 => (platformfwlaw05_BytecodePaths.j0 k a0 a2 (t211.toList != a0.toList) a1_0 a1_1 l1_2)) = some r := by rw [if_neg (show ¬ (false = true) by decide)] at H; exact H
    clear H
    have H := H1
    clear H1
    replace H := Option.bind_eq_some_iff.mp H
    obtain ⟨t211, A110, H⟩ := H
    replace H : (platformfwlaw05_BytecodePaths.j0 k a0 a2 (t211.toList != a0.toList) a1_0 a1_1 l1_2) = some r := H
    have A11 := Aside0.mk A110
    clear A110
    have H' := Aside0.mk H
    clear H
    obtain ⟨hcz12_0, hcz12_1, hcz12_2⟩ := cells3_ BK209.out
    obtain ⟨hfz12_0, hfz12_1, hfz12_2⟩ := froz3_ BK209.out
    go_wp2_with (first | (go_at_call 4; (with_reducible refine (platformfwref01_ValidPath.calls k a1_0 a1_1 _ _ l1_2 false _ ?side1 ?side2 A7.out).mono ?_); (case side1 => repeat (first | exact (Kd.C_below HR1_2.out HB.out) | (with_reducible refine Kd.C_alloc ?_ _) | (with_reducible refine Kd.C_drewN ?_ _) | (with_reducible refine Kd.C_drew ?_))); (case side2 => exact HC1_2.out); rintro e w13 ⟨rfl, hb⟩; have n0_ := Aside0.mk (blk_below (g := gb209) (o := .cells #[.bool a1_0, .int .i64 a1_1, .slice A1_2 l1_2.length c1_2] 24 (0, 0)) (by (with_reducible repeat (first | refine kN_ ?_ _ | refine kD_ ?_ | refine kA_ ?_ _)); exact BK209.out) hb); have n1_ := Aside0.mk (below_step (by repeat (first | (with_reducible first | exact HB.out | apply bA_ | apply bN_ | apply bD_ | refine bS_ ?_ GE209.out) | exact HB.out)) hb); clear BK209; clear HB; have BK209 := n0_; have HB := n1_; clear n0_ n1_; (try clear hb); (try clear hb2); (try clear hk); (try clear hi); obtain ⟨hcz14_0, hcz14_1, hcz14_2⟩ := cells3_ BK209.out; obtain ⟨hfz14_0, hfz14_1, hfz14_2⟩ := froz3_ BK209.out) | (go_at_call 5; (with_reducible refine (bytecode_AppendPath.calls k a0 a1_0 a1_1 _ _ l1_2 t211 _ ?side1 ?side2 A11.out).mono ?_); (case side1 => repeat (first | exact (Kd.C_below HR1_2.out HB.out) | (with_reducible refine Kd.C_alloc ?_ _) | (with_reducible refine Kd.C_drewN ?_ _) | (with_reducible refine Kd.C_drew ?_))); (case side2 => exact HC1_2.out); rintro e w15 ⟨rfl, hb⟩; have n0_ := Aside0.mk (blk_below (g := gb209) (o := .cells #[.bool a1_0, .int .i64 a1_1, .slice A1_2 l1_2.length c1_2] 24 (0, 0)) (by (with_reducible repeat (first | refine kN_ ?_ _ | refine kD_ ?_ | refine kA_ ?_ _)); exact BK209.out) hb); have n1_ := Aside0.mk (below_step (by repeat (first | (with_reducible first | exact HB.out | apply bA_ | apply bN_ | apply bD_ | refine bS_ ?_ GE209.out) | exact HB.out)) hb); clear BK209; clear HB; have BK209 := n0_; have HB := n1_; clear n0_ n1_; (try clear hb); (try clear hb2); (try clear hk); (try clear hi)))
    go_meet
    case rel => exact ⟨_, ((t211.toList != a0.toList)), (by first | rfl | (simp; done) | (simp [*]; done)), H', ⟨by first | omega | exact Nat.le_refl _⟩, ⟨by (with_reducible repeat (first | refine kN_ ?_ _ | refine kD_ ?_ | refine kA_ ?_ _)); exact BK209.out⟩, ⟨by repeat (first | (with_reducible first | exact HB.out | apply bA_ | apply bN_ | apply bD_ | refine bS_ ?_ GE209.out) | exact HB.out)⟩⟩
  ·rw [if_neg c6] at H
   have c6b0 : decide ((l1_2.length : Int) < 100) = false := decide_eq_false c6
   have c6b1 : decide (l1_2.length < 100) = false := decide_eq_false (by omega)
   clear c6
   (first | rw [c6b0] | (simp only [i64_w, i32_w]; rw [c6b0]) | skip)
   have H' := Aside0.mk H
   clear H
   obtain ⟨hcz16_0, hcz16_1, hcz16_2⟩ := cells3_ BK209.out
   obtain ⟨hfz16_0, hfz16_1, hfz16_2⟩ := froz3_ BK209.out
   go_wp2
   go_meet
   case rel => exact ⟨_, (false), (by first | rfl | (simp; done) | (simp [*]; done)), H', ⟨by first | omega | exact Nat.le_refl _⟩, ⟨by (with_reducible repeat (first | refine kN_ ?_ _ | refine kD_ ?_ | refine kA_ ?_ _)); exact BK209.out⟩, ⟨by repeat (first | (with_reducible first | exact HB.out | apply bA_ | apply bN_ | apply bD_ | refine bS_ ?_ GE209.out) | exact HB.out)⟩⟩
 case rest =>
  clear HC4
  try clear c1
  try clear p2
  try clear c3
  try clear c6
  try clear c6b0
  try clear c6b1
  try clear c8
  try clear hcz12_0 hcz12_1 hcz12_2
  try clear hcz14_0 hcz14_1 hcz14_2
  try clear hcz16_0 hcz16_1 hcz16_2
  try clear hcz9_0 hcz9_1 hcz9_2
  try clear hfz12_0 hfz12_1 hfz12_2
  try clear hfz14_0 hfz14_1 hfz14_2
  try clear hfz16_0 hfz16_1 hfz16_2
  try clear hfz9_0 hfz9_1 hfz9_2
  obtain ⟨kq, x26_3, rfl, HA, HJ3, BK209, HB⟩ := hcut
  cases kq with
  | zero => exact absurd HA.out (by simp [platformfwlaw05_BytecodePaths.j0])
  | succ kj3 =>
   have H := HA.out
   clear HA
   simp only [platformfwlaw05_BytecodePaths.j0] at H
   by_cases c17 : x26_3 = true
   ·subst c17
    have H1 : (some false) = some r := by rw [if_pos rfl] at H; exact H
    clear H
    have H := H1
    clear H1
    obtain rfl := Option.some.inj H
    exact absurd hr_.out (by simp)
   ·replace c17 := Bool.eq_false_iff.mpr c17
    subst c17
    have H1 : ((platformfwlaw05_path.f kj3 a1_0 a1_1 l1_2).bind fun bt212 => ((platformfwref01_ValidPath.f kj3 bt212.1 bt212.2.1 bt212.2.2).bind fun t218 => (if t218 = true then ((platformfwref05_Path.f kj3 bt212.1 bt212.2.1 bt212.2.2).bind fun t221 => (if t221.size + a2.size ≤ 9223372036854775807 then ((bytecode_Path.f kj3 (t221 ++ a2)).bind fun bt222 => ((platformfwlaw05_awake.f kj3).bind fun t230 => (if t230 = true then ((bytecode_AppendPath.f kj3 a0 bt212.1 bt212.2.1 bt212.2.2).bind fun t231 => ((platformfwref05_Path.f kj3 bt212.1 bt212.2.1 bt212.2.2).bind fun t232 => (if a0.size + t232.size ≤ 9223372036854775807 then (if t231.toList = (a0 ++ t232).toList then ((platformfwlaw05_same.f kj3 bt222.1 bt222.2.1 bt222.2.2.1 bt212.1 bt212.2.1 bt212.2.2).bind fun t233 => (if t233 = true then ((platformfwref05_Path.f kj3 bt212.1 bt212.2.1 bt212.2.2).bind fun t234 => (if bt222.2.2.2.1 = (t234.size : Int) then (some (bt222.2.2.2.2 == 0)) else (some false))) else (some false))) else (some false)) else (none)))) else (some false)))) else (none))) else ((platformfwlaw05_awake.f kj3).bind fun t219 => (if t219 = true then ((bytecode_AppendPath.f kj3 a0 bt212.1 bt212.2.1 bt212.2.2).bind fun t220 => (some (t220.toList == a0.toList))) else (some false)))))) = some r := by rw [if_neg (show ¬ (false = true) by decide)] at H; exact H
    clear H
    have H := H1
    clear H1
    replace H := Option.bind_eq_some_iff.mp H
    obtain ⟨⟨t212, t213, t214⟩, A180, H⟩ := H
    replace H : ((platformfwref01_ValidPath.f kj3 t212 t213 t214).bind fun t218 => (if t218 = true then ((platformfwref05_Path.f kj3 t212 t213 t214).bind fun t221 => (if t221.size + a2.size ≤ 9223372036854775807 then ((bytecode_Path.f kj3 (t221 ++ a2)).bind fun bt222 => ((platformfwlaw05_awake.f kj3).bind fun t230 => (if t230 = true then ((bytecode_AppendPath.f kj3 a0 t212 t213 t214).bind fun t231 => ((platformfwref05_Path.f kj3 t212 t213 t214).bind fun t232 => (if a0.size + t232.size ≤ 9223372036854775807 then (if t231.toList = (a0 ++ t232).toList then ((platformfwlaw05_same.f kj3 bt222.1 bt222.2.1 bt222.2.2.1 t212 t213 t214).bind fun t233 => (if t233 = true then ((platformfwref05_Path.f kj3 t212 t213 t214).bind fun t234 => (if bt222.2.2.2.1 = (t234.size : Int) then (some (bt222.2.2.2.2 == 0)) else (some false))) else (some false))) else (some false)) else (none)))) else (some false)))) else (none))) else ((platformfwlaw05_awake.f kj3).bind fun t219 => (if t219 = true then ((bytecode_AppendPath.f kj3 a0 t212 t213 t214).bind fun t220 => (some (t220.toList == a0.toList))) else (some false))))) = some r := H
    have A18 := Aside0.mk A180
    clear A180
    replace H := Option.bind_eq_some_iff.mp H
    obtain ⟨t218, A190, H⟩ := H
    replace H : (if t218 = true then ((platformfwref05_Path.f kj3 t212 t213 t214).bind fun t221 => (if t221.size + a2.size ≤ 9223372036854775807 then ((bytecode_Path.f kj3 (t221 ++ a2)).bind fun bt222 => ((platformfwlaw05_awake.f kj3).bind fun t230 => (if t230 = true then ((bytecode_AppendPath.f kj3 a0 t212 t213 t214).bind fun t231 => ((platformfwref05_Path.f kj3 t212 t213 t214).bind fun t232 => (if a0.size + t232.size ≤ 9223372036854775807 then (if t231.toList = (a0 ++ t232).toList then ((platformfwlaw05_same.f kj3 bt222.1 bt222.2.1 bt222.2.2.1 t212 t213 t214).bind fun t233 => (if t233 = true then ((platformfwref05_Path.f kj3 t212 t213 t214).bind fun t234 => (if bt222.2.2.2.1 = (t234.size : Int) then (some (bt222.2.2.2.2 == 0)) else (some false))) else (some false))) else (some false)) else (none)))) else (some false)))) else (none))) else ((platformfwlaw05_awake.f kj3).bind fun t219 => (if t219 = true then ((bytecode_AppendPath.f kj3 a0 t212 t213 t214).bind fun t220 => (some (t220.toList == a0.toList))) else (some false)))) = some r := H
    have A19 := Aside0.mk A190
    clear A190
    by_cases c20 : t218 = true
    ·subst c20
     have H1 : ((platformfwref05_Path.f kj3 t212 t213 t214).bind fun t221 => (if t221.size + a2.size ≤ 9223372036854775807 then ((bytecode_Path.f kj3 (t221 ++ a2)).bind fun bt222 => ((platformfwlaw05_awake.f kj3).bind fun t230 => (if t230 = true then ((bytecode_AppendPath.f kj3 a0 t212 t213 t214).bind fun t231 => ((platformfwref05_Path.f kj3 t212 t213 t214).bind fun t232 => (if a0.size + t232.size ≤ 9223372036854775807 then (if t231.toList = (a0 ++ t232).toList then ((platformfwlaw05_same.f kj3 bt222.1 bt222.2.1 bt222.2.2.1 t212 t213 t214).bind fun t233 => (if t233 = true then ((platformfwref05_Path.f kj3 t212 t213 t214).bind fun t234 => (if bt222.2.2.2.1 = (t234.size : Int) then (some (bt222.2.2.2.2 == 0)) else (some false))) else (some false))) else (some false)) else (none)))) else (some false)))) else (none))) = some r := by rw [if_pos rfl] at H; exact H
     clear H
     have H := H1
     clear H1
     replace H := Option.bind_eq_some_iff.mp H
     obtain ⟨t221, A210, H⟩ := H
     replace H : (if t221.size + a2.size ≤ 9223372036854775807 then ((bytecode_Path.f kj3 (t221 ++ a2)).bind fun bt222 => ((platformfwlaw05_awake.f kj3).bind fun t230 => (if t230 = true then ((bytecode_AppendPath.f kj3 a0 t212 t213 t214).bind fun t231 => ((platformfwref05_Path.f kj3 t212 t213 t214).bind fun t232 => (if a0.size + t232.size ≤ 9223372036854775807 then (if t231.toList = (a0 ++ t232).toList then ((platformfwlaw05_same.f kj3 bt222.1 bt222.2.1 bt222.2.2.1 t212 t213 t214).bind fun t233 => (if t233 = true then ((platformfwref05_Path.f kj3 t212 t213 t214).bind fun t234 => (if bt222.2.2.2.1 = (t234.size : Int) then (some (bt222.2.2.2.2 == 0)) else (some false))) else (some false))) else (some false)) else (none)))) else (some false)))) else (none)) = some r := H
     have A21 := Aside0.mk A210
     clear A210
     by_cases c22 : t221.size + a2.size ≤ 9223372036854775807
     ·rw [if_pos c22] at H
      have c22b0 := eq_true c22
      have c22b1 : decide (t221.size + a2.size ≤ 9223372036854775807) = true := decide_eq_true c22
      try have c22b2 : (9223372036854775807 < t221.size + a2.size) = False := eq_false (Nat.not_lt.2 c22)
      clear c22
      replace H := Option.bind_eq_some_iff.mp H
      obtain ⟨⟨t222, t223, t224, t227, t228⟩, A230, H⟩ := H
      replace H : ((platformfwlaw05_awake.f kj3).bind fun t230 => (if t230 = true then ((bytecode_AppendPath.f kj3 a0 t212 t213 t214).bind fun t231 => ((platformfwref05_Path.f kj3 t212 t213 t214).bind fun t232 => (if a0.size + t232.size ≤ 9223372036854775807 then (if t231.toList = (a0 ++ t232).toList then ((platformfwlaw05_same.f kj3 t222 t223 t224 t212 t213 t214).bind fun t233 => (if t233 = true then ((platformfwref05_Path.f kj3 t212 t213 t214).bind fun t234 => (if t227 = (t234.size : Int) then (some (t228 == 0)) else (some false))) else (some false))) else (some false)) else (none)))) else (some false))) = some r := H
      have A23 := Aside0.mk A230
      clear A230
      replace H := Option.bind_eq_some_iff.mp H
      obtain ⟨t230, A240, H⟩ := H
      replace H : (if t230 = true then ((bytecode_AppendPath.f kj3 a0 t212 t213 t214).bind fun t231 => ((platformfwref05_Path.f kj3 t212 t213 t214).bind fun t232 => (if a0.size + t232.size ≤ 9223372036854775807 then (if t231.toList = (a0 ++ t232).toList then ((platformfwlaw05_same.f kj3 t222 t223 t224 t212 t213 t214).bind fun t233 => (if t233 = true then ((platformfwref05_Path.f kj3 t212 t213 t214).bind fun t234 => (if t227 = (t234.size : Int) then (some (t228 == 0)) else (some false))) else (some false))) else (some false)) else (none)))) else (some false)) = some r := H
      have A24 := Aside0.mk A240
      clear A240
      by_cases c25 : t230 = true
      ·subst c25
       have H1 : ((bytecode_AppendPath.f kj3 a0 t212 t213 t214).bind fun t231 => ((platformfwref05_Path.f kj3 t212 t213 t214).bind fun t232 => (if a0.size + t232.size ≤ 9223372036854775807 then (if t231.toList = (a0 ++ t232).toList then ((platformfwlaw05_same.f kj3 t222 t223 t224 t212 t213 t214).bind fun t233 => (if t233 = true then ((platformfwref05_Path.f kj3 t212 t213 t214).bind fun t234 => (if t227 = (t234.size : Int) then (some (t228 == 0)) else (some false))) else (some false))) else (some false)) else (none)))) = some r := by rw [if_pos rfl] at H; exact H
       clear H
       have H := H1
       clear H1
       replace H := Option.bind_eq_some_iff.mp H
       obtain ⟨t231, A260, H⟩ := H
       replace H : ((platformfwref05_Path.f kj3 t212 t213 t214).bind fun t232 => (if a0.size + t232.size ≤ 9223372036854775807 then (if t231.toList = (a0 ++ t232).toList then ((platformfwlaw05_same.f kj3 t222 t223 t224 t212 t213 t214).bind fun t233 => (if t233 = true then ((platformfwref05_Path.f kj3 t212 t213 t214).bind fun t234 => (if t227 = (t234.size : Int) then (some (t228 == 0)) else (some false))) else (some false))) else (some false)) else (none))) = some r := H
       have A26 := Aside0.mk A260
       clear A260
       replace H := Option.bind_eq_some_iff.mp H
       obtain ⟨t232, A270, H⟩ := H
       replace H : (if a0.size + t232.size ≤ 9223372036854775807 then (if t231.toList = (a0 ++ t232).toList then ((platformfwlaw05_same.f kj3 t222 t223 t224 t212 t213 t214).bind fun t233 => (if t233 = true then ((platformfwref05_Path.f kj3 t212 t213 t214).bind fun t234 => (if t227 = (t234.size : Int) then (some (t228 == 0)) else (some false))) else (some false))) else (some false)) else (none)) = some r := H
       have A27 := Aside0.mk A270
       clear A270
       by_cases c28 : a0.size + t232.size ≤ 9223372036854775807
       ·rw [if_pos c28] at H
        have c28b0 := eq_true c28
        have c28b1 : decide (a0.size + t232.size ≤ 9223372036854775807) = true := decide_eq_true c28
        try have c28b2 : (9223372036854775807 < a0.size + t232.size) = False := eq_false (Nat.not_lt.2 c28)
        clear c28
        by_cases c29 : t231.toList = (a0 ++ t232).toList
        ·rw [if_pos c29] at H
         have c29b0 : (t231.toList == (a0 ++ t232).toList) = true := beq_iff_eq.mpr c29
         have c29b1 : (t231.toList != (a0 ++ t232).toList) = false := bne_eq_false_iff_eq.mpr c29
         clear c29
         replace H := Option.bind_eq_some_iff.mp H
         obtain ⟨t233, A300, H⟩ := H
         replace H : (if t233 = true then ((platformfwref05_Path.f kj3 t212 t213 t214).bind fun t234 => (if t227 = (t234.size : Int) then (some (t228 == 0)) else (some false))) else (some false)) = some r := H
         have A30 := Aside0.mk A300
         clear A300
         by_cases c31 : t233 = true
         ·subst c31
          have H1 : ((platformfwref05_Path.f kj3 t212 t213 t214).bind fun t234 => (if t227 = (t234.size : Int) then (some (t228 == 0)) else (some false))) = some r := by rw [if_pos rfl] at H; exact H
          clear H
          have H := H1
          clear H1
          replace H := Option.bind_eq_some_iff.mp H
          obtain ⟨t234, A320, H⟩ := H
          replace H : (if t227 = (t234.size : Int) then (some (t228 == 0)) else (some false)) = some r := H
          have A32 := Aside0.mk A320
          clear A320
          by_cases c33 : t227 = (t234.size : Int)
          ·rw [if_pos c33] at H
           have c33b0 : (t227 == (t234.size : Int)) = true := beq_iff_eq.mpr c33
           have c33b1 : (t227 != (t234.size : Int)) = false := bne_eq_false_iff_eq.mpr c33
           clear c33
           obtain rfl := Option.some.inj H
           obtain ⟨hcz34_0, hcz34_1, hcz34_2⟩ := cells3_ BK209.out
           obtain ⟨hfz34_0, hfz34_1, hfz34_2⟩ := froz3_ BK209.out
           try go_wp2_with (first | ((with_reducible refine gate_callee (f := 6) rfl ?_); refine goesL_ (some 28) rfl rfl Try.func6 (by kernel_rfl) rfl #[.agg #[.bool a1_0, .int .i64 a1_1, .slice A1_2 l1_2.length c1_2]] rfl (by (try simp only [List.map_toArray, List.map_cons, List.map_nil]); first | done | rfl | (simp only [List.length_drop, List.length_take]; rfl)) ?_; (with_reducible refine (platformfwlaw05_path.calls kj3 a1_0 a1_1 _ _ l1_2 t212 t213 t214 _ ?side1 ?side2 A18.out).mono ?_); (case side1 => repeat (first | exact (Kd.C_below HR1_2.out HB.out) | (with_reducible refine Kd.C_alloc ?_ _) | (with_reducible refine Kd.C_drewN ?_ _) | (with_reducible refine Kd.C_drew ?_))); (case side2 => exact HC1_2.out); rintro e w35 ⟨v215, rfl, ho0, hb⟩; refine ⟨_, rfl, ?_⟩; have n0_ := Aside0.mk (Kd.R_lower ho0 (below_size (by repeat (first | (with_reducible first | exact HB.out | apply bA_ | apply bN_ | apply bD_ | refine bS_ ?_ GE209.out) | exact HB.out)))); have n1_ := Aside0.mk (blk_below (g := gb209) (o := .cells #[.bool a1_0, .int .i64 a1_1, .slice A1_2 l1_2.length c1_2] 24 (0, 0)) (by (with_reducible repeat (first | refine kN_ ?_ _ | refine kD_ ?_ | refine kA_ ?_ _)); exact BK209.out) hb); have n2_ := Aside0.mk (below_step (by repeat (first | (with_reducible first | exact HB.out | apply bA_ | apply bN_ | apply bD_ | refine bS_ ?_ GE209.out) | exact HB.out)) hb); clear BK209; clear HB; have HO216 := n0_; have BK209 := n1_; have HB := n2_; clear n0_ n1_ n2_; (try clear hb); (try clear hb2); (try clear hk); (try clear hi); (try clear ho0)) | ((with_reducible refine gate_dst (N := 7) rfl ?_); (try (refine gate_guard (by rfl) ?_; dsimp only)); refine box_event ?hg (N := 7) ?hd (cs := #[.bool false, .int .i64 0, .slice none 0 0]) (t := 24) ?hr ?_; (case hd => rfl); (case hg => rfl); (case hr => first | (go_simp; done) | (go_simp; rfl)); intro gb217 hg w36 hbox hb; have n0_ := Aside0.mk (Kd.R_below (by (with_reducible repeat (first | apply Kd.R_alloc | apply Kd.R_drewN | apply Kd.R_drew)); exact HO216.out) hb); have n1_ := Aside0.mk (blk_below (g := gb209) (o := .cells #[.bool a1_0, .int .i64 a1_1, .slice A1_2 l1_2.length c1_2] 24 (0, 0)) (by (with_reducible repeat (first | refine kN_ ?_ _ | refine kD_ ?_ | refine kA_ ?_ _)); exact BK209.out) hb); have n2_ := Aside0.mk (below_step (by repeat (first | (with_reducible first | exact HB.out | apply bA_ | apply bN_ | apply bD_ | refine bS_ ?_ GE209.out) | exact HB.out)) hb); have n3_ := Aside0.mk (hbox); have n4_ := Aside0.mk ((by rw [hg]; exact (below_size (by repeat (first | (with_reducible first | exact HB.out | apply bA_ | apply bN_ | apply bD_ | refine bS_ ?_ GE209.out) | exact HB.out))) : w.heap.size ≤ gb217)); have n5_ := Aside0.mk ((by rw [hg]; exact (below_size (by repeat (first | (with_reducible first | exact HB.out | apply bA_ | apply bN_ | apply bD_ | refine bS_ ?_ GE209.out) | exact HB.out))) : w.heap.size ≤ gb217)); have n6_ := Aside0.mk ((by rw [hg]; exact Nat.ne_of_lt (blk_lt (g := gb209) (o := .cells #[.bool a1_0, .int .i64 a1_1, .slice A1_2 l1_2.length c1_2] 24 (0, 0)) (by (with_reducible repeat (first | refine kN_ ?_ _ | refine kD_ ?_ | refine kA_ ?_ _)); exact BK209.out)) : gb209 ≠ gb217)); have n7_ := Aside0.mk ((by rw [hg]; exact Nat.ne_of_gt (blk_lt (g := gb209) (o := .cells #[.bool a1_0, .int .i64 a1_1, .slice A1_2 l1_2.length c1_2] 24 (0, 0)) (by (with_reducible repeat (first | refine kN_ ?_ _ | refine kD_ ?_ | refine kA_ ?_ _)); exact BK209.out)) : gb217 ≠ gb209)); clear HO216; clear BK209; clear HB; have HO216 := n0_; have BK209 := n1_; have HB := n2_; have BK217 := n3_; have GW217 := n4_; have GE217 := n5_; have NB209_217 := n6_; have NB217_209 := n7_; clear n0_ n1_ n2_ n3_ n4_ n5_ n6_ n7_; clear hb hbox hg; have hnb37 := NB217_209.out; have hnc37 := NB209_217.out; obtain ⟨hcz38_0, hcz38_1, hcz38_2⟩ := cells3_ BK217.out; obtain ⟨hfz38_0, hfz38_1, hfz38_2⟩ := froz3_ BK217.out; obtain ⟨Ao39, co39, eo39⟩ := Kd.R_slice HO216.out; subst eo39) | ((with_reducible refine gate_callee (f := 4) rfl ?_); refine goesL_ (some 30) rfl rfl Try.func4 (by kernel_rfl) rfl #[.agg #[.bool t212, .int .i64 t213, .slice Ao39 t214.length co39]] rfl (by (try simp only [List.map_toArray, List.map_cons, List.map_nil]); first | done | rfl | (simp only [List.length_drop, List.length_take]; rfl)) ?_; (with_reducible refine (platformfwref01_ValidPath.calls kj3 t212 t213 _ _ t214 true _ ?side1 ?side2 A19.out).mono ?_); (case side1 => refine (Kd.R_reads' (e := 9) (base := w.heap.size) (ok := fun k_ => True) (n := t214.length) (c := co39) ?_).2.2; exact (by (with_reducible repeat (first | apply Kd.R_alloc | apply Kd.R_drewN | apply Kd.R_drew)); exact (Kd.R_mono (Kd.R_far (p := ⟨gb217, 2, none⟩) (Kd.R_far (p := ⟨gb217, 1, none⟩) (Kd.R_far (p := ⟨gb217, 0, none⟩) (Kd.R_types HO216.out BK217.out (by decide)) (fun _ hk => hk.2) (.bool t212)) (fun _ hk => hk.2) (.int .i64 t213)) (fun _ hk => hk.2) (.slice Ao39 t214.length co39)) (fun _ h_ => h_.1)))); (case side2 => exact (Kd.R_reads' HO216.out).2.1); rintro e w40 ⟨rfl, hb⟩; refine ⟨_, rfl, ?_⟩; have n0_ := Aside0.mk (Kd.R_below (by (with_reducible repeat (first | apply Kd.R_alloc | apply Kd.R_drewN | apply Kd.R_drew)); exact (Kd.R_mono (Kd.R_far (p := ⟨gb217, 2, none⟩) (Kd.R_far (p := ⟨gb217, 1, none⟩) (Kd.R_far (p := ⟨gb217, 0, none⟩) (Kd.R_types HO216.out BK217.out (by decide)) (fun _ hk => hk.2) (.bool t212)) (fun _ hk => hk.2) (.int .i64 t213)) (fun _ hk => hk.2) (.slice Ao39 t214.length co39)) (fun _ h_ => h_.1))) hb); have n1_ := Aside0.mk (blk_below (g := gb209) (o := .cells #[.bool a1_0, .int .i64 a1_1, .slice A1_2 l1_2.length c1_2] 24 (0, 0)) (by (with_reducible repeat (first | refine kN_ ?_ _ | refine kD_ ?_ | refine kA_ ?_ _)); refine blk_far ?_ NB209_217.out _; (with_reducible repeat (first | refine kN_ ?_ _ | refine kD_ ?_ | refine kA_ ?_ _)); refine blk_far ?_ NB209_217.out _; (with_reducible repeat (first | refine kN_ ?_ _ | refine kD_ ?_ | refine kA_ ?_ _)); refine blk_far ?_ NB209_217.out _; (with_reducible repeat (first | refine kN_ ?_ _ | refine kD_ ?_ | refine kA_ ?_ _)); exact BK209.out) hb); have n2_ := Aside0.mk (blk_below (g := gb217) (o := .cells #[.bool t212, .int .i64 t213, .slice Ao39 t214.length co39] 24 (0, 0)) (by (with_reducible repeat (first | refine kN_ ?_ _ | refine kD_ ?_ | refine kA_ ?_ _)); refine blk_put (cs := #[.bool t212, .int .i64 t213, .slice none 0 0]) ?_ 2 _ rfl; (with_reducible repeat (first | refine kN_ ?_ _ | refine kD_ ?_ | refine kA_ ?_ _)); refine blk_put (cs := #[.bool t212, .int .i64 0, .slice none 0 0]) ?_ 1 _ rfl; (with_reducible repeat (first | refine kN_ ?_ _ | refine kD_ ?_ | refine kA_ ?_ _)); refine blk_put (cs := #[.bool false, .int .i64 0, .slice none 0 0]) ?_ 0 _ rfl; (with_reducible repeat (first | refine kN_ ?_ _ | refine kD_ ?_ | refine kA_ ?_ _)); exact BK217.out) hb); have n3_ := Aside0.mk (below_step (by repeat (first | (with_reducible first | exact HB.out | apply bA_ | apply bN_ | apply bD_ | refine bS_ ?_ GE209.out | refine bS_ ?_ GE217.out) | exact HB.out)) hb); clear HO216; clear BK209; clear BK217; clear HB; have HO216 := n0_; have BK209 := n1_; have BK217 := n2_; have HB := n3_; clear n0_ n1_ n2_ n3_; (try clear hb); (try clear hb2); (try clear hk); (try clear hi); obtain ⟨hcz41_0, hcz41_1, hcz41_2⟩ := cells3_ BK217.out; obtain ⟨hfz41_0, hfz41_1, hfz41_2⟩ := froz3_ BK217.out) | ((with_reducible refine gate_callee (f := 9) rfl ?_); refine goesL_ (some 42) rfl rfl Try.func9 (by kernel_rfl) rfl #[.agg #[.bool t212, .int .i64 t213, .slice Ao39 t214.length co39]] rfl (by (try simp only [List.map_toArray, List.map_cons, List.map_nil]); first | done | rfl | (simp only [List.length_drop, List.length_take]; rfl)) ?_; (with_reducible refine (platformfwref05_Path.calls kj3 t212 t213 _ _ t214 t221 _ ?side1 ?side2 A21.out).mono ?_); (case side1 => repeat (first | exact (Kd.R_reads' HO216.out).2.2 | (with_reducible refine Kd.C_alloc ?_ _) | (with_reducible refine Kd.C_drewN ?_ _) | (with_reducible refine Kd.C_drew ?_))); (case side2 => exact (Kd.R_reads' HO216.out).2.1); rintro e w42 ⟨rfl, hb⟩; refine ⟨_, rfl, ?_⟩; have n0_ := Aside0.mk (Kd.R_below (by (with_reducible repeat (first | apply Kd.R_alloc | apply Kd.R_drewN | apply Kd.R_drew)); exact HO216.out) hb); have n1_ := Aside0.mk (blk_below (g := gb209) (o := .cells #[.bool a1_0, .int .i64 a1_1, .slice A1_2 l1_2.length c1_2] 24 (0, 0)) (by (with_reducible repeat (first | refine kN_ ?_ _ | refine kD_ ?_ | refine kA_ ?_ _)); exact BK209.out) hb); have n2_ := Aside0.mk (blk_below (g := gb217) (o := .cells #[.bool t212, .int .i64 t213, .slice Ao39 t214.length co39] 24 (0, 0)) (by (with_reducible repeat (first | refine kN_ ?_ _ | refine kD_ ?_ | refine kA_ ?_ _)); exact BK217.out) hb); have n3_ := Aside0.mk (below_step (by repeat (first | (with_reducible first | exact HB.out | apply bA_ | apply bN_ | apply bD_ | refine bS_ ?_ GE209.out | refine bS_ ?_ GE217.out) | exact HB.out)) hb); clear HO216; clear BK209; clear BK217; clear HB; have HO216 := n0_; have BK209 := n1_; have BK217 := n2_; have HB := n3_; clear n0_ n1_ n2_ n3_; (try clear hb); (try clear hb2); (try clear hk); (try clear hi)) | ((with_reducible refine gate_callee (f := 8) rfl ?_); refine goesL_ (some 45) rfl rfl Try.func8 (by kernel_rfl) rfl #[.string (t221 ++ a2)] rfl (by (try simp only [List.map_toArray, List.map_cons, List.map_nil]); first | done | rfl | (simp only [List.length_drop, List.length_take]; rfl)) ?_; (with_reducible refine (bytecode_Path.calls kj3 (t221 ++ a2) t222 t223 t224 t227 t228 _ A23.out).mono ?_); rintro e w43 ⟨v225, rfl, ho0, hb⟩; refine ⟨_, rfl, ?_⟩; have n0_ := Aside0.mk (Kd.R_elder' (by (with_reducible repeat (first | apply Kd.R_alloc | apply Kd.R_drewN | apply Kd.R_drew)); exact HO216.out) (Kd.R_base ho0) hb); have n1_ := Aside0.mk (Kd.R_lower (Kd.R_new' ho0 (Kd.R_lt (by (with_reducible repeat (first | apply Kd.R_alloc | apply Kd.R_drewN | apply Kd.R_drew)); exact HO216.out))) (below_size (by repeat (first | (with_reducible first | exact HB.out | apply bA_ | apply bN_ | apply bD_ | refine bS_ ?_ GE209.out | refine bS_ ?_ GE217.out) | exact HB.out)))); have n2_ := Aside0.mk (blk_below (g := gb209) (o := .cells #[.bool a1_0, .int .i64 a1_1, .slice A1_2 l1_2.length c1_2] 24 (0, 0)) (by (with_reducible repeat (first | refine kN_ ?_ _ | refine kD_ ?_ | refine kA_ ?_ _)); exact BK209.out) hb); have n3_ := Aside0.mk (blk_below (g := gb217) (o := .cells #[.bool t212, .int .i64 t213, .slice Ao39 t214.length co39] 24 (0, 0)) (by (with_reducible repeat (first | refine kN_ ?_ _ | refine kD_ ?_ | refine kA_ ?_ _)); exact BK217.out) hb); have n4_ := Aside0.mk (below_step (by repeat (first | (with_reducible first | exact HB.out | apply bA_ | apply bN_ | apply bD_ | refine bS_ ?_ GE209.out | refine bS_ ?_ GE217.out) | exact HB.out)) hb); clear HO216; clear BK209; clear BK217; clear HB; have HO216 := n0_; have HO226 := n1_; have BK209 := n2_; have BK217 := n3_; have HB := n4_; clear n0_ n1_ n2_ n3_ n4_; (try clear hb); (try clear hb2); (try clear hk); (try clear hi); (try clear ho0)) | ((with_reducible refine gate_dst (N := 8) rfl ?_); (try (refine gate_guard (by rfl) ?_; dsimp only)); refine box_event ?hg (N := 8) ?hd (cs := #[.bool false, .int .i64 0, .slice none 0 0]) (t := 24) ?hr ?_; (case hd => rfl); (case hg => rfl); (case hr => first | (go_simp; done) | (go_simp; rfl)); intro gb229 hg w44 hbox hb; have n0_ := Aside0.mk (Kd.R_below (by (with_reducible repeat (first | apply Kd.R_alloc | apply Kd.R_drewN | apply Kd.R_drew)); exact HO216.out) hb); have n1_ := Aside0.mk (Kd.R_below (by (with_reducible repeat (first | apply Kd.R_alloc | apply Kd.R_drewN | apply Kd.R_drew)); exact HO226.out) hb); have n2_ := Aside0.mk (blk_below (g := gb209) (o := .cells #[.bool a1_0, .int .i64 a1_1, .slice A1_2 l1_2.length c1_2] 24 (0, 0)) (by (with_reducible repeat (first | refine kN_ ?_ _ | refine kD_ ?_ | refine kA_ ?_ _)); exact BK209.out) hb); have n3_ := Aside0.mk (blk_below (g := gb217) (o := .cells #[.bool t212, .int .i64 t213, .slice Ao39 t214.length co39] 24 (0, 0)) (by (with_reducible repeat (first | refine kN_ ?_ _ | refine kD_ ?_ | refine kA_ ?_ _)); exact BK217.out) hb); have n4_ := Aside0.mk (below_step (by repeat (first | (with_reducible first | exact HB.out | apply bA_ | apply bN_ | apply bD_ | refine bS_ ?_ GE209.out | refine bS_ ?_ GE217.out) | exact HB.out)) hb); have n5_ := Aside0.mk (hbox); have n6_ := Aside0.mk ((by rw [hg]; exact (below_size (by repeat (first | (with_reducible first | exact HB.out | apply bA_ | apply bN_ | apply bD_ | refine bS_ ?_ GE209.out | refine bS_ ?_ GE217.out) | exact HB.out))) : w.heap.size ≤ gb229)); have n7_ := Aside0.mk ((by rw [hg]; exact (below_size (by repeat (first | (with_reducible first | exact HB.out | apply bA_ | apply bN_ | apply bD_ | refine bS_ ?_ GE209.out | refine bS_ ?_ GE217.out) | exact HB.out))) : w.heap.size ≤ gb229)); have n8_ := Aside0.mk ((by rw [hg]; exact Nat.ne_of_lt (blk_lt (g := gb209) (o := .cells #[.bool a1_0, .int .i64 a1_1, .slice A1_2 l1_2.length c1_2] 24 (0, 0)) (by (with_reducible repeat (first | refine kN_ ?_ _ | refine kD_ ?_ | refine kA_ ?_ _)); exact BK209.out)) : gb209 ≠ gb229)); have n9_ := Aside0.mk ((by rw [hg]; exact Nat.ne_of_gt (blk_lt (g := gb209) (o := .cells #[.bool a1_0, .int .i64 a1_1, .slice A1_2 l1_2.length c1_2] 24 (0, 0)) (by (with_reducible repeat (first | refine kN_ ?_ _ | refine kD_ ?_ | refine kA_ ?_ _)); exact BK209.out)) : gb229 ≠ gb209)); have n10_ := Aside0.mk ((by rw [hg]; exact Nat.ne_of_lt (blk_lt (g := gb217) (o := .cells #[.bool t212, .int .i64 t213, .slice Ao39 t214.length co39] 24 (0, 0)) (by (with_reducible repeat (first | refine kN_ ?_ _ | refine kD_ ?_ | refine kA_ ?_ _)); exact BK217.out)) : gb217 ≠ gb229)); have n11_ := Aside0.mk ((by rw [hg]; exact Nat.ne_of_gt (blk_lt (g := gb217) (o := .cells #[.bool t212, .int .i64 t213, .slice Ao39 t214.length co39] 24 (0, 0)) (by (with_reducible repeat (first | refine kN_ ?_ _ | refine kD_ ?_ | refine kA_ ?_ _)); exact BK217.out)) : gb229 ≠ gb217)); clear HO216; clear HO226; clear BK209; clear BK217; clear HB; have HO216 := n0_; have HO226 := n1_; have BK209 := n2_; have BK217 := n3_; have HB := n4_; have BK229 := n5_; have GW229 := n6_; have GE229 := n7_; have NB209_229 := n8_; have NB229_209 := n9_; have NB217_229 := n10_; have NB229_217 := n11_; clear n0_ n1_ n2_ n3_ n4_ n5_ n6_ n7_ n8_ n9_ n10_ n11_; clear hb hbox hg; have hnb45 := NB229_209.out; have hnc45 := NB209_229.out; have hnb46 := NB229_217.out; have hnc46 := NB217_229.out; obtain ⟨hcz47_0, hcz47_1, hcz47_2⟩ := cells3_ BK229.out; obtain ⟨hfz47_0, hfz47_1, hfz47_2⟩ := froz3_ BK229.out; obtain ⟨Ao48, co48, eo48⟩ := Kd.R_slice HO226.out; subst eo48))
           have n0_ : Aside0 (Kd.R Kd.string 9 (((w44.setCell ⟨gb229, 0, none⟩ (.bool t222)).setCell ⟨gb229, 1, none⟩ (.int .i64 t223)).setCell ⟨gb229, 2, none⟩ (.slice Ao48 t224.length co48)) w.heap.size (fun k_ => some k_ ≠ (.slice Ao48 t224.length co48 : Value).ownBlock) (.slice Ao39 t214.length co39) t214) := ⟨by (with_reducible repeat (first | apply Kd.R_alloc | apply Kd.R_drewN | apply Kd.R_drew)); exact Kd.R_mono (Kd.R_far (p := ⟨gb229, 2, none⟩) (Kd.R_far (p := ⟨gb229, 1, none⟩) (Kd.R_far (p := ⟨gb229, 0, none⟩) (Kd.R_types HO216.out BK229.out (by decide)) (fun _ hk => hk.2) (.bool t222)) (fun _ hk => hk.2) (.int .i64 t223)) (fun _ hk => hk.2) (.slice Ao48 t224.length co48)) (fun _ hk => hk.1.2)⟩
           have n1_ : Aside0 (Kd.R Kd.string 9 (((w44.setCell ⟨gb229, 0, none⟩ (.bool t222)).setCell ⟨gb229, 1, none⟩ (.int .i64 t223)).setCell ⟨gb229, 2, none⟩ (.slice Ao48 t224.length co48)) w.heap.size (fun k_ => some k_ ≠ (.slice Ao39 t214.length co39 : Value).ownBlock) (.slice Ao48 t224.length co48) t224) := ⟨by (with_reducible repeat (first | apply Kd.R_alloc | apply Kd.R_drewN | apply Kd.R_drew)); exact Kd.R_mono (Kd.R_far (p := ⟨gb229, 2, none⟩) (Kd.R_far (p := ⟨gb229, 1, none⟩) (Kd.R_far (p := ⟨gb229, 0, none⟩) (Kd.R_types HO226.out BK229.out (by decide)) (fun _ hk => hk.2) (.bool t222)) (fun _ hk => hk.2) (.int .i64 t223)) (fun _ hk => hk.2) (.slice Ao48 t224.length co48)) (fun _ hk => hk.1.2)⟩
           have n2_ : Aside0 ((((w44.setCell ⟨gb229, 0, none⟩ (.bool t222)).setCell ⟨gb229, 1, none⟩ (.int .i64 t223)).setCell ⟨gb229, 2, none⟩ (.slice Ao48 t224.length co48)).heap[gb209]? = some (.cells #[.bool a1_0, .int .i64 a1_1, .slice A1_2 l1_2.length c1_2] 24 (0, 0))) := ⟨by (with_reducible repeat (first | refine kN_ ?_ _ | refine kD_ ?_ | refine kA_ ?_ _)); refine blk_far ?_ NB209_229.out _; (with_reducible repeat (first | refine kN_ ?_ _ | refine kD_ ?_ | refine kA_ ?_ _)); refine blk_far ?_ NB209_229.out _; (with_reducible repeat (first | refine kN_ ?_ _ | refine kD_ ?_ | refine kA_ ?_ _)); refine blk_far ?_ NB209_229.out _; (with_reducible repeat (first | refine kN_ ?_ _ | refine kD_ ?_ | refine kA_ ?_ _)); exact BK209.out⟩
           have n3_ : Aside0 ((((w44.setCell ⟨gb229, 0, none⟩ (.bool t222)).setCell ⟨gb229, 1, none⟩ (.int .i64 t223)).setCell ⟨gb229, 2, none⟩ (.slice Ao48 t224.length co48)).heap[gb217]? = some (.cells #[.bool t212, .int .i64 t213, .slice Ao39 t214.length co39] 24 (0, 0))) := ⟨by (with_reducible repeat (first | refine kN_ ?_ _ | refine kD_ ?_ | refine kA_ ?_ _)); refine blk_far ?_ NB217_229.out _; (with_reducible repeat (first | refine kN_ ?_ _ | refine kD_ ?_ | refine kA_ ?_ _)); refine blk_far ?_ NB217_229.out _; (with_reducible repeat (first | refine kN_ ?_ _ | refine kD_ ?_ | refine kA_ ?_ _)); refine blk_far ?_ NB217_229.out _; (with_reducible repeat (first | refine kN_ ?_ _ | refine kD_ ?_ | refine kA_ ?_ _)); exact BK217.out⟩
           have n4_ : Aside0 ((((w44.setCell ⟨gb229, 0, none⟩ (.bool t222)).setCell ⟨gb229, 1, none⟩ (.int .i64 t223)).setCell ⟨gb229, 2, none⟩ (.slice Ao48 t224.length co48)).heap[gb229]? = some (.cells #[.bool t222, .int .i64 t223, .slice Ao48 t224.length co48] 24 (0, 0))) := ⟨by (with_reducible repeat (first | refine kN_ ?_ _ | refine kD_ ?_ | refine kA_ ?_ _)); refine blk_put (cs := #[.bool t222, .int .i64 t223, .slice none 0 0]) ?_ 2 _ rfl; (with_reducible repeat (first | refine kN_ ?_ _ | refine kD_ ?_ | refine kA_ ?_ _)); refine blk_put (cs := #[.bool t222, .int .i64 0, .slice none 0 0]) ?_ 1 _ rfl; (with_reducible repeat (first | refine kN_ ?_ _ | refine kD_ ?_ | refine kA_ ?_ _)); refine blk_put (cs := #[.bool false, .int .i64 0, .slice none 0 0]) ?_ 0 _ rfl; (with_reducible repeat (first | refine kN_ ?_ _ | refine kD_ ?_ | refine kA_ ?_ _)); exact BK229.out⟩
           have n5_ : Aside0 (Below w.heap.size w (((w44.setCell ⟨gb229, 0, none⟩ (.bool t222)).setCell ⟨gb229, 1, none⟩ (.int .i64 t223)).setCell ⟨gb229, 2, none⟩ (.slice Ao48 t224.length co48))) := ⟨by repeat (first | (with_reducible first | exact HB.out | apply bA_ | apply bN_ | apply bD_ | refine bS_ ?_ GE209.out | refine bS_ ?_ GE217.out | refine bS_ ?_ GE229.out) | exact HB.out)⟩
           (try clear HO216)
           (try clear HO226)
           (try clear BK209)
           (try clear BK217)
           (try clear BK229)
           (try clear HB)
           generalize (((w44.setCell ⟨gb229, 0, none⟩ (.bool t222)).setCell ⟨gb229, 1, none⟩ (.int .i64 t223)).setCell ⟨gb229, 2, none⟩ (.slice Ao48 t224.length co48)) = w49 at n0_ n1_ n2_ n3_ n4_ n5_ ⊢
           have HO216 := n0_
           have HO226 := n1_
           have BK209 := n2_
           have BK217 := n3_
           have BK229 := n4_
           have HB := n5_
           clear n0_ n1_ n2_ n3_ n4_ n5_
           have n0_ := Aside0.mk (Kd.R_drew HO216.out)
           have n1_ := Aside0.mk (Kd.R_drew HO226.out)
           have n2_ := Aside0.mk (kD_ BK209.out)
           have n3_ := Aside0.mk (kD_ BK217.out)
           have n4_ := Aside0.mk (kD_ BK229.out)
           have n5_ := Aside0.mk (bD_ HB.out)
           clear HO216
           clear HO226
           clear BK209
           clear BK217
           clear BK229
           clear HB
           have HO216 := n0_
           have HO226 := n1_
           have BK209 := n2_
           have BK217 := n3_
           have BK229 := n4_
           have HB := n5_
           clear n0_ n1_ n2_ n3_ n4_ n5_
           refine start_ (n := 28) (S := fun w' => w'.cell? ⟨gb217, 0, none⟩ = some (.bool t212) ∧ w'.cell? ⟨gb217, 1, none⟩ = some (.int .i64 t213) ∧ w'.cell? ⟨gb217, 2, none⟩ = some (.slice Ao39 t214.length co39) ∧ w'.cell? ⟨gb229, 0, none⟩ = some (.bool t222) ∧ w'.cell? ⟨gb229, 1, none⟩ = some (.int .i64 t223) ∧ w'.cell? ⟨gb229, 2, none⟩ = some (.slice Ao48 t224.length co48)) (ds := []) #[false, false, false, false, false, false, false, false, false, false, false, false, false, false, false, false, false, false, false, false, false, false, false, false, false, false, false, false] (by kernel_rfl) rfl rfl ⟨(blk_cell BK217.out 0).trans rfl, (blk_cell BK217.out 1).trans rfl, (blk_cell BK217.out 2).trans rfl, (blk_cell BK229.out 0).trans rfl, (blk_cell BK229.out 1).trans rfl, (blk_cell BK229.out 2).trans rfl⟩ (fun hHeld => ?_); refine with_tabW platformfwlaw05_BytecodePaths.tab7 platformfwlaw05_BytecodePaths.bits7 (fun HT_ HW_ => ?_)
           generalize w49.drew = w50 at HO216 HO226 BK209 BK217 BK229 HB hHeld ⊢
           refine one_ (i := 0) (N := some 49) (tf 28 1) rfl rfl (one_of HT_.out (by kernel_rfl)) (by decide) (fun K hK => ?_)
           refine goes_ Try.func7 (by kernel_rfl) rfl #[] (by rfl) rfl rfl (by (try simp only [List.map_toArray, List.map_cons, List.map_nil]); first | done | rfl | (simp only [List.length_drop, List.length_take]; rfl)) ?_
           with_reducible refine (platformfwlaw05_awake.calls kj3  true _ A24.out).mono ?_
           rintro e w51 ⟨rfl, hb⟩
           refine ⟨_, rfl, ?_⟩
           have n0_ := Aside0.mk (Kd.R_below (by (with_reducible repeat (first | apply Kd.R_alloc | apply Kd.R_drewN | apply Kd.R_drew)); exact HO216.out) hb)
           have n1_ := Aside0.mk (Kd.R_below (by (with_reducible repeat (first | apply Kd.R_alloc | apply Kd.R_drewN | apply Kd.R_drew)); exact HO226.out) hb)
           have n2_ := Aside0.mk (blk_below (g := gb209) (o := .cells #[.bool a1_0, .int .i64 a1_1, .slice A1_2 l1_2.length c1_2] 24 (0, 0)) (by (with_reducible repeat (first | refine kN_ ?_ _ | refine kD_ ?_ | refine kA_ ?_ _)); exact BK209.out) hb)
           have n3_ := Aside0.mk (blk_below (g := gb217) (o := .cells #[.bool t212, .int .i64 t213, .slice Ao39 t214.length co39] 24 (0, 0)) (by (with_reducible repeat (first | refine kN_ ?_ _ | refine kD_ ?_ | refine kA_ ?_ _)); exact BK217.out) hb)
           have n4_ := Aside0.mk (blk_below (g := gb229) (o := .cells #[.bool t222, .int .i64 t223, .slice Ao48 t224.length co48] 24 (0, 0)) (by (with_reducible repeat (first | refine kN_ ?_ _ | refine kD_ ?_ | refine kA_ ?_ _)); exact BK229.out) hb)
           have n5_ := Aside0.mk (below_step (by repeat (first | (with_reducible first | exact HB.out | apply bA_ | apply bN_ | apply bD_ | refine bS_ ?_ GE209.out | refine bS_ ?_ GE217.out | refine bS_ ?_ GE229.out) | exact HB.out)) hb)
           clear HO216
           clear HO226
           clear BK209
           clear BK217
           clear BK229
           clear HB
           have HO216 := n0_
           have HO226 := n1_
           have BK209 := n2_
           have BK217 := n3_
           have BK229 := n4_
           have HB := n5_
           clear n0_ n1_ n2_ n3_ n4_ n5_
           (try clear hb)
           (try clear hb2)
           (try clear hk)
           (try clear hi)
           refine hK.out _ _ ⟨(blk_cell BK217.out 0).trans rfl, (blk_cell BK217.out 1).trans rfl, (blk_cell BK217.out 2).trans rfl, (blk_cell BK229.out 0).trans rfl, (blk_cell BK229.out 1).trans rfl, (blk_cell BK229.out 2).trans rfl⟩ (fun hHeld => ?_)
           clear hK K
           refine norm_ (a' := ?_) ?_ ?_
           rotate_left
           ·show Act.put _ (some 49) _ = _
            simp only [Act.put, sA_, sB_, sC_, i64_w, i32_w]
            rfl
           refine pure_ (i := 1) (N := some 50) (v := ?_) (a' := ?_) (tf 28 3) rfl rfl (any_of HT_.out (by kernel_rfl)) (fun _ _ _ h => h) (Or.inl ⟨by rfl, ?_⟩) ?_ ?_
           rotate_left
           ·intro w'
            go_simp
            with_reducible rfl
           rotate_left
           ·simp only [Act.put, sA_, sB_, sC_, i64_w, i32_w]
            rfl
           refine pure_ (i := 2) (N := some 51) (v := ?_) (a' := ?_) (tf 28 7) rfl rfl (any_of HT_.out (by kernel_rfl)) (fun _ _ _ h => h) (Or.inl ⟨by rfl, ?_⟩) ?_ ?_
           rotate_left
           ·intro w'
            go_simp
            with_reducible rfl
           rotate_left
           ·simp only [Act.put, sA_, sB_, sC_, i64_w, i32_w]
            rfl
           refine pure_ (i := 5) (N := some 54) (v := ?_) (a' := ?_) (tf 28 39) rfl rfl (any_of HT_.out (by kernel_rfl)) (fun _ _ _ h => h) (Or.inl ⟨by rfl, ?_⟩) ?_ ?_
           rotate_left
           ·intro w'
            go_simp
            with_reducible rfl
           rotate_left
           ·simp only [Act.put, sA_, sB_, sC_, i64_w, i32_w]
            rfl
           refine take_ (i := 3) (N := some 52) (v := ?_) (a' := ?_) (tf 28 47) rfl rfl (take_ofW HT_.out HW_.out (by kernel_rfl)) (fun _ _ _ h => h) (Or.inl ⟨by rfl, ?_⟩) hHeld ?_ ?_
           rotate_left
           ·rintro w' ⟨s0, s1, s2, s3, s4, s5⟩
            go_simp
            with_reducible rfl
           rotate_left
           ·simp only [Act.put, sA_, sB_, sC_, i64_w, i32_w]
            rfl
           refine take_ (i := 6) (N := some 55) (v := ?_) (a' := ?_) (tf 28 111) rfl rfl (take_ofW HT_.out HW_.out (by kernel_rfl)) (fun _ _ _ h => h) (Or.inl ⟨by rfl, ?_⟩) hHeld ?_ ?_
           rotate_left
           ·rintro w' ⟨s0, s1, s2, s3, s4, s5⟩
            go_simp
            with_reducible rfl
           rotate_left
           ·simp only [Act.put, sA_, sB_, sC_, i64_w, i32_w]
            rfl
           refine one_ (i := 4) (N := some 53) (tf 28 127) rfl rfl (one_of HT_.out (by kernel_rfl)) (by decide) (fun K hK => ?_)
           refine goes_ Try.func5 (by kernel_rfl) rfl #[.string a0, .agg #[.bool t212, .int .i64 t213, .slice Ao39 t214.length co39]] (by rfl) rfl rfl (by (try simp only [List.map_toArray, List.map_cons, List.map_nil]); first | done | rfl | (simp only [List.length_drop, List.length_take]; rfl)) ?_
           with_reducible refine (bytecode_AppendPath.calls kj3 a0 t212 t213 _ _ t214 t231 _ ?side1 ?side2 A26.out).mono ?_
           (case side1 => repeat (first | exact (Kd.R_reads' HO216.out).2.2 | (with_reducible refine Kd.C_alloc ?_ _) | (with_reducible refine Kd.C_drewN ?_ _) | (with_reducible refine Kd.C_drew ?_)))
           (case side2 => exact (Kd.R_reads' HO216.out).2.1)
           rintro e w52 ⟨rfl, hb⟩
           refine ⟨_, rfl, ?_⟩
           have n0_ := Aside0.mk (Kd.R_below (by (with_reducible repeat (first | apply Kd.R_alloc | apply Kd.R_drewN | apply Kd.R_drew)); exact HO216.out) hb)
           have n1_ := Aside0.mk (Kd.R_below (by (with_reducible repeat (first | apply Kd.R_alloc | apply Kd.R_drewN | apply Kd.R_drew)); exact HO226.out) hb)
           have n2_ := Aside0.mk (blk_below (g := gb209) (o := .cells #[.bool a1_0, .int .i64 a1_1, .slice A1_2 l1_2.length c1_2] 24 (0, 0)) (by (with_reducible repeat (first | refine kN_ ?_ _ | refine kD_ ?_ | refine kA_ ?_ _)); exact BK209.out) hb)
           have n3_ := Aside0.mk (blk_below (g := gb217) (o := .cells #[.bool t212, .int .i64 t213, .slice Ao39 t214.length co39] 24 (0, 0)) (by (with_reducible repeat (first | refine kN_ ?_ _ | refine kD_ ?_ | refine kA_ ?_ _)); exact BK217.out) hb)
           have n4_ := Aside0.mk (blk_below (g := gb229) (o := .cells #[.bool t222, .int .i64 t223, .slice Ao48 t224.length co48] 24 (0, 0)) (by (with_reducible repeat (first | refine kN_ ?_ _ | refine kD_ ?_ | refine kA_ ?_ _)); exact BK229.out) hb)
           have n5_ := Aside0.mk (below_step (by repeat (first | (with_reducible first | exact HB.out | apply bA_ | apply bN_ | apply bD_ | refine bS_ ?_ GE209.out | refine bS_ ?_ GE217.out | refine bS_ ?_ GE229.out) | exact HB.out)) hb)
           clear HO216
           clear HO226
           clear BK209
           clear BK217
           clear BK229
           clear HB
           have HO216 := n0_
           have HO226 := n1_
           have BK209 := n2_
           have BK217 := n3_
           have BK229 := n4_
           have HB := n5_
           clear n0_ n1_ n2_ n3_ n4_ n5_
           (try clear hb)
           (try clear hb2)
           (try clear hk)
           (try clear hi)
           refine hK.out _ _ ⟨(blk_cell BK217.out 0).trans rfl, (blk_cell BK217.out 1).trans rfl, (blk_cell BK217.out 2).trans rfl, (blk_cell BK229.out 0).trans rfl, (blk_cell BK229.out 1).trans rfl, (blk_cell BK229.out 2).trans rfl⟩ (fun hHeld => ?_)
           clear hK K
           refine norm_ (a' := ?_) ?_ ?_
           rotate_left
           ·show Act.put _ (some 53) _ = _
            simp only [Act.put, sA_, sB_, sC_, i64_w, i32_w]
            rfl
           refine one_ (i := 7) (N := some 56) (tf 28 255) rfl rfl (one_of HT_.out (by kernel_rfl)) (by decide) (fun K hK => ?_)
           refine goes_ Try.func9 (by kernel_rfl) rfl #[.agg #[.bool t212, .int .i64 t213, .slice Ao39 t214.length co39]] (by rfl) rfl rfl (by (try simp only [List.map_toArray, List.map_cons, List.map_nil]); first | done | rfl | (simp only [List.length_drop, List.length_take]; rfl)) ?_
           with_reducible refine (platformfwref05_Path.calls kj3 t212 t213 _ _ t214 t232 _ ?side1 ?side2 A27.out).mono ?_
           (case side1 => repeat (first | exact (Kd.R_reads' HO216.out).2.2 | (with_reducible refine Kd.C_alloc ?_ _) | (with_reducible refine Kd.C_drewN ?_ _) | (with_reducible refine Kd.C_drew ?_)))
           (case side2 => exact (Kd.R_reads' HO216.out).2.1)
           rintro e w53 ⟨rfl, hb⟩
           refine ⟨_, rfl, ?_⟩
           have n0_ := Aside0.mk (Kd.R_below (by (with_reducible repeat (first | apply Kd.R_alloc | apply Kd.R_drewN | apply Kd.R_drew)); exact HO216.out) hb)
           have n1_ := Aside0.mk (Kd.R_below (by (with_reducible repeat (first | apply Kd.R_alloc | apply Kd.R_drewN | apply Kd.R_drew)); exact HO226.out) hb)
           have n2_ := Aside0.mk (blk_below (g := gb209) (o := .cells #[.bool a1_0, .int .i64 a1_1, .slice A1_2 l1_2.length c1_2] 24 (0, 0)) (by (with_reducible repeat (first | refine kN_ ?_ _ | refine kD_ ?_ | refine kA_ ?_ _)); exact BK209.out) hb)
           have n3_ := Aside0.mk (blk_below (g := gb217) (o := .cells #[.bool t212, .int .i64 t213, .slice Ao39 t214.length co39] 24 (0, 0)) (by (with_reducible repeat (first | refine kN_ ?_ _ | refine kD_ ?_ | refine kA_ ?_ _)); exact BK217.out) hb)
           have n4_ := Aside0.mk (blk_below (g := gb229) (o := .cells #[.bool t222, .int .i64 t223, .slice Ao48 t224.length co48] 24 (0, 0)) (by (with_reducible repeat (first | refine kN_ ?_ _ | refine kD_ ?_ | refine kA_ ?_ _)); exact BK229.out) hb)
           have n5_ := Aside0.mk (below_step (by repeat (first | (with_reducible first | exact HB.out | apply bA_ | apply bN_ | apply bD_ | refine bS_ ?_ GE209.out | refine bS_ ?_ GE217.out | refine bS_ ?_ GE229.out) | exact HB.out)) hb)
           clear HO216
           clear HO226
           clear BK209
           clear BK217
           clear BK229
           clear HB
           have HO216 := n0_
           have HO226 := n1_
           have BK209 := n2_
           have BK217 := n3_
           have BK229 := n4_
           have HB := n5_
           clear n0_ n1_ n2_ n3_ n4_ n5_
           (try clear hb)
           (try clear hb2)
           (try clear hk)
           (try clear hi)
           refine hK.out _ _ ⟨(blk_cell BK217.out 0).trans rfl, (blk_cell BK217.out 1).trans rfl, (blk_cell BK217.out 2).trans rfl, (blk_cell BK229.out 0).trans rfl, (blk_cell BK229.out 1).trans rfl, (blk_cell BK229.out 2).trans rfl⟩ (fun hHeld => ?_)
           clear hK K
           refine norm_ (a' := ?_) ?_ ?_
           rotate_left
           ·show Act.put _ (some 56) _ = _
            simp only [Act.put, sA_, sB_, sC_, i64_w, i32_w]
            rfl
           refine pure_ (i := 8) (N := some 57) (v := ?_) (a' := ?_) (tf 28 511) rfl rfl (any_of HT_.out (by kernel_rfl)) (fun _ _ _ h => h) (Or.inl ⟨by rfl, ?_⟩) ?_ ?_
           rotate_left
           ·intro w'
            go_simp
            with_reducible rfl
           rotate_left
           ·simp only [Act.put, sA_, sB_, sC_, i64_w, i32_w]
            rfl
           refine pure_ (i := 9) (N := some 58) (v := ?_) (a' := ?_) (tf 28 1023) rfl rfl (any_of HT_.out (by kernel_rfl)) (fun _ _ _ h => h) (Or.inl ⟨by rfl, ?_⟩) ?_ ?_
           rotate_left
           ·intro w'
            go_simp
            with_reducible rfl
           rotate_left
           ·simp only [Act.put, sA_, sB_, sC_, i64_w, i32_w]
            rfl
           refine pure_ (i := 10) (N := some 59) (v := ?_) (a' := ?_) (tf 28 2047) rfl rfl (any_of HT_.out (by kernel_rfl)) (fun _ _ _ h => h) (Or.inl ⟨by rfl, ?_⟩) ?_ ?_
           rotate_left
           ·intro w'
            go_simp
            with_reducible rfl
           rotate_left
           ·simp only [Act.put, sA_, sB_, sC_, i64_w, i32_w]
            rfl
           refine pure_ (i := 11) (N := some 60) (v := ?_) (a' := ?_) (tf 28 4095) rfl rfl (any_of HT_.out (by kernel_rfl)) (fun _ _ _ h => h) (Or.inl ⟨by rfl, ?_⟩) ?_ ?_
           rotate_left
           ·intro w'
            go_simp
            with_reducible rfl
           rotate_left
           ·simp only [Act.put, sA_, sB_, sC_, i64_w, i32_w]
            rfl
           refine take_ (i := 12) (N := some 61) (v := ?_) (a' := ?_) (tf 28 8191) rfl rfl (take_ofW HT_.out HW_.out (by kernel_rfl)) (fun _ _ _ h => h) (Or.inl ⟨by rfl, ?_⟩) hHeld ?_ ?_
           rotate_left
           ·rintro w' ⟨s0, s1, s2, s3, s4, s5⟩
            go_simp
            with_reducible rfl
           rotate_left
           ·simp only [Act.put, sA_, sB_, sC_, i64_w, i32_w]
            rfl
           refine take_ (i := 13) (N := some 62) (v := ?_) (a' := ?_) (tf 28 16383) rfl rfl (take_ofW HT_.out HW_.out (by kernel_rfl)) (fun _ _ _ h => h) (Or.inl ⟨by rfl, ?_⟩) hHeld ?_ ?_
           rotate_left
           ·rintro w' ⟨s0, s1, s2, s3, s4, s5⟩
            go_simp
            with_reducible rfl
           rotate_left
           ·simp only [Act.put, sA_, sB_, sC_, i64_w, i32_w]
            rfl
           refine one_ (i := 14) (N := some 63) (tf 28 32767) rfl rfl (one_of HT_.out (by kernel_rfl)) (by decide) (fun K hK => ?_)
           refine goes_ Try.func10 (by kernel_rfl) rfl #[.agg #[.bool t222, .int .i64 t223, .slice Ao48 t224.length co48], .agg #[.bool t212, .int .i64 t213, .slice Ao39 t214.length co39]] (by rfl) rfl rfl (by (try simp only [List.map_toArray, List.map_cons, List.map_nil]); first | done | rfl | (simp only [List.length_drop, List.length_take]; rfl)) ?_
           with_reducible refine (platformfwlaw05_same.calls kj3 t222 t223 _ _ t224 t212 t213 _ _ t214 true _ ?side1 ?side2 ?side3 ?side4 A30.out).mono ?_
           (case side1 => repeat (first | exact (Kd.R_reads' HO226.out).2.2 | (with_reducible refine Kd.C_alloc ?_ _) | (with_reducible refine Kd.C_drewN ?_ _) | (with_reducible refine Kd.C_drew ?_)))
           (case side2 => exact (Kd.R_reads' HO226.out).2.1)
           (case side3 => repeat (first | exact (Kd.R_reads' HO216.out).2.2 | (with_reducible refine Kd.C_alloc ?_ _) | (with_reducible refine Kd.C_drewN ?_ _) | (with_reducible refine Kd.C_drew ?_)))
           (case side4 => exact (Kd.R_reads' HO216.out).2.1)
           rintro e w54 ⟨rfl, hb⟩
           refine ⟨_, rfl, ?_⟩
           have n0_ := Aside0.mk (Kd.R_below (by (with_reducible repeat (first | apply Kd.R_alloc | apply Kd.R_drewN | apply Kd.R_drew)); exact HO216.out) hb)
           have n1_ := Aside0.mk (Kd.R_below (by (with_reducible repeat (first | apply Kd.R_alloc | apply Kd.R_drewN | apply Kd.R_drew)); exact HO226.out) hb)
           have n2_ := Aside0.mk (blk_below (g := gb209) (o := .cells #[.bool a1_0, .int .i64 a1_1, .slice A1_2 l1_2.length c1_2] 24 (0, 0)) (by (with_reducible repeat (first | refine kN_ ?_ _ | refine kD_ ?_ | refine kA_ ?_ _)); exact BK209.out) hb)
           have n3_ := Aside0.mk (blk_below (g := gb217) (o := .cells #[.bool t212, .int .i64 t213, .slice Ao39 t214.length co39] 24 (0, 0)) (by (with_reducible repeat (first | refine kN_ ?_ _ | refine kD_ ?_ | refine kA_ ?_ _)); exact BK217.out) hb)
           have n4_ := Aside0.mk (blk_below (g := gb229) (o := .cells #[.bool t222, .int .i64 t223, .slice Ao48 t224.length co48] 24 (0, 0)) (by (with_reducible repeat (first | refine kN_ ?_ _ | refine kD_ ?_ | refine kA_ ?_ _)); exact BK229.out) hb)
           have n5_ := Aside0.mk (below_step (by repeat (first | (with_reducible first | exact HB.out | apply bA_ | apply bN_ | apply bD_ | refine bS_ ?_ GE209.out | refine bS_ ?_ GE217.out | refine bS_ ?_ GE229.out) | exact HB.out)) hb)
           clear HO216
           clear HO226
           clear BK209
           clear BK217
           clear BK229
           clear HB
           have HO216 := n0_
           have HO226 := n1_
           have BK209 := n2_
           have BK217 := n3_
           have BK229 := n4_
           have HB := n5_
           clear n0_ n1_ n2_ n3_ n4_ n5_
           (try clear hb)
           (try clear hb2)
           (try clear hk)
           (try clear hi)
           refine hK.out _ _ ⟨(blk_cell BK217.out 0).trans rfl, (blk_cell BK217.out 1).trans rfl, (blk_cell BK217.out 2).trans rfl, (blk_cell BK229.out 0).trans rfl, (blk_cell BK229.out 1).trans rfl, (blk_cell BK229.out 2).trans rfl⟩ (fun hHeld => ?_)
           clear hK K
           refine norm_ (a' := ?_) ?_ ?_
           rotate_left
           ·show Act.put _ (some 63) _ = _
            simp only [Act.put, sA_, sB_, sC_, i64_w, i32_w]
            rfl
           refine pure_ (i := 15) (N := some 64) (v := ?_) (a' := ?_) (tf 28 65535) rfl rfl (any_of HT_.out (by kernel_rfl)) (fun _ _ _ h => h) (Or.inl ⟨by rfl, ?_⟩) ?_ ?_
           rotate_left
           ·intro w'
            go_simp
            with_reducible rfl
           rotate_left
           ·simp only [Act.put, sA_, sB_, sC_, i64_w, i32_w]
            rfl
           refine pure_ (i := 16) (N := some 65) (v := ?_) (a' := ?_) (tf 28 131071) rfl rfl (any_of HT_.out (by kernel_rfl)) (fun _ _ _ h => h) (Or.inl ⟨by rfl, ?_⟩) ?_ ?_
           rotate_left
           ·intro w'
            go_simp
            with_reducible rfl
           rotate_left
           ·simp only [Act.put, sA_, sB_, sC_, i64_w, i32_w]
            rfl
           refine pure_ (i := 17) (N := some 66) (v := ?_) (a' := ?_) (tf 28 262143) rfl rfl (any_of HT_.out (by kernel_rfl)) (fun _ _ _ h => h) (Or.inl ⟨by rfl, ?_⟩) ?_ ?_
           rotate_left
           ·intro w'
            go_simp
            with_reducible rfl
           rotate_left
           ·simp only [Act.put, sA_, sB_, sC_, i64_w, i32_w]
            rfl
           refine take_ (i := 18) (N := some 67) (v := ?_) (a' := ?_) (tf 28 524287) rfl rfl (take_ofW HT_.out HW_.out (by kernel_rfl)) (fun _ _ _ h => h) (Or.inl ⟨by rfl, ?_⟩) hHeld ?_ ?_
           rotate_left
           ·rintro w' ⟨s0, s1, s2, s3, s4, s5⟩
            go_simp
            with_reducible rfl
           rotate_left
           ·simp only [Act.put, sA_, sB_, sC_, i64_w, i32_w]
            rfl
           refine one_ (i := 19) (N := some 68) (tf 28 1048575) rfl rfl (one_of HT_.out (by kernel_rfl)) (by decide) (fun K hK => ?_)
           refine goes_ Try.func9 (by kernel_rfl) rfl #[.agg #[.bool t212, .int .i64 t213, .slice Ao39 t214.length co39]] (by rfl) rfl rfl (by (try simp only [List.map_toArray, List.map_cons, List.map_nil]); first | done | rfl | (simp only [List.length_drop, List.length_take]; rfl)) ?_
           with_reducible refine (platformfwref05_Path.calls kj3 t212 t213 _ _ t214 t234 _ ?side1 ?side2 A32.out).mono ?_
           (case side1 => repeat (first | exact (Kd.R_reads' HO216.out).2.2 | (with_reducible refine Kd.C_alloc ?_ _) | (with_reducible refine Kd.C_drewN ?_ _) | (with_reducible refine Kd.C_drew ?_)))
           (case side2 => exact (Kd.R_reads' HO216.out).2.1)
           rintro e w55 ⟨rfl, hb⟩
           refine ⟨_, rfl, ?_⟩
           have n0_ := Aside0.mk (Kd.R_below (by (with_reducible repeat (first | apply Kd.R_alloc | apply Kd.R_drewN | apply Kd.R_drew)); exact HO216.out) hb)
           have n1_ := Aside0.mk (Kd.R_below (by (with_reducible repeat (first | apply Kd.R_alloc | apply Kd.R_drewN | apply Kd.R_drew)); exact HO226.out) hb)
           have n2_ := Aside0.mk (blk_below (g := gb209) (o := .cells #[.bool a1_0, .int .i64 a1_1, .slice A1_2 l1_2.length c1_2] 24 (0, 0)) (by (with_reducible repeat (first | refine kN_ ?_ _ | refine kD_ ?_ | refine kA_ ?_ _)); exact BK209.out) hb)
           have n3_ := Aside0.mk (blk_below (g := gb217) (o := .cells #[.bool t212, .int .i64 t213, .slice Ao39 t214.length co39] 24 (0, 0)) (by (with_reducible repeat (first | refine kN_ ?_ _ | refine kD_ ?_ | refine kA_ ?_ _)); exact BK217.out) hb)
           have n4_ := Aside0.mk (blk_below (g := gb229) (o := .cells #[.bool t222, .int .i64 t223, .slice Ao48 t224.length co48] 24 (0, 0)) (by (with_reducible repeat (first | refine kN_ ?_ _ | refine kD_ ?_ | refine kA_ ?_ _)); exact BK229.out) hb)
           have n5_ := Aside0.mk (below_step (by repeat (first | (with_reducible first | exact HB.out | apply bA_ | apply bN_ | apply bD_ | refine bS_ ?_ GE209.out | refine bS_ ?_ GE217.out | refine bS_ ?_ GE229.out) | exact HB.out)) hb)
           clear HO216
           clear HO226
           clear BK209
           clear BK217
           clear BK229
           clear HB
           have HO216 := n0_
           have HO226 := n1_
           have BK209 := n2_
           have BK217 := n3_
           have BK229 := n4_
           have HB := n5_
           clear n0_ n1_ n2_ n3_ n4_ n5_
           (try clear hb)
           (try clear hb2)
           (try clear hk)
           (try clear hi)
           refine hK.out _ _ ⟨(blk_cell BK217.out 0).trans rfl, (blk_cell BK217.out 1).trans rfl, (blk_cell BK217.out 2).trans rfl, (blk_cell BK229.out 0).trans rfl, (blk_cell BK229.out 1).trans rfl, (blk_cell BK229.out 2).trans rfl⟩ (fun hHeld => ?_)
           clear hK K
           refine norm_ (a' := ?_) ?_ ?_
           rotate_left
           ·show Act.put _ (some 68) _ = _
            simp only [Act.put, sA_, sB_, sC_, i64_w, i32_w]
            rfl
           refine pure_ (i := 20) (N := some 69) (v := ?_) (a' := ?_) (tf 28 2097151) rfl rfl (any_of HT_.out (by kernel_rfl)) (fun _ _ _ h => h) (Or.inl ⟨by rfl, ?_⟩) ?_ ?_
           rotate_left
           ·intro w'
            go_simp
            with_reducible rfl
           rotate_left
           ·simp only [Act.put, sA_, sB_, sC_, i64_w, i32_w]
            rfl
           refine pure_ (i := 21) (N := some 70) (v := ?_) (a' := ?_) (tf 28 4194303) rfl rfl (any_of HT_.out (by kernel_rfl)) (fun _ _ _ h => h) (Or.inl ⟨by rfl, ?_⟩) ?_ ?_
           rotate_left
           ·intro w'
            go_simp
            with_reducible rfl
           rotate_left
           ·simp only [Act.put, sA_, sB_, sC_, i64_w, i32_w]
            rfl
           refine pure_ (i := 22) (N := some 71) (v := ?_) (a' := ?_) (tf 28 8388607) rfl rfl (any_of HT_.out (by kernel_rfl)) (fun _ _ _ h => h) (Or.inl ⟨by rfl, ?_⟩) ?_ ?_
           rotate_left
           ·intro w'
            go_simp
            with_reducible rfl
           rotate_left
           ·simp only [Act.put, sA_, sB_, sC_, i64_w, i32_w]
            rfl
           refine pure_ (i := 23) (N := some 72) (v := ?_) (a' := ?_) (tf 28 16777215) rfl rfl (any_of HT_.out (by kernel_rfl)) (fun _ _ _ h => h) (Or.inl ⟨by rfl, ?_⟩) ?_ ?_
           rotate_left
           ·intro w'
            go_simp
            with_reducible rfl
           rotate_left
           ·simp only [Act.put, sA_, sB_, sC_, i64_w, i32_w]
            rfl
           refine pure_ (i := 24) (N := some 73) (v := ?_) (a' := ?_) (tf 28 33554431) rfl rfl (any_of HT_.out (by kernel_rfl)) (fun _ _ _ h => h) (Or.inl ⟨by rfl, ?_⟩) ?_ ?_
           rotate_left
           ·intro w'
            go_simp
            with_reducible rfl
           rotate_left
           ·simp only [Act.put, sA_, sB_, sC_, i64_w, i32_w]
            rfl
           refine pure_ (i := 25) (N := some 74) (v := ?_) (a' := ?_) (tf 28 67108863) rfl rfl (any_of HT_.out (by kernel_rfl)) (fun _ _ _ h => h) (Or.inl ⟨by rfl, ?_⟩) ?_ ?_
           rotate_left
           ·intro w'
            go_simp
            with_reducible rfl
           rotate_left
           ·simp only [Act.put, sA_, sB_, sC_, i64_w, i32_w]
            rfl
           refine pure_ (i := 26) (N := some 75) (v := ?_) (a' := ?_) (tf 28 134217727) rfl rfl (any_of HT_.out (by kernel_rfl)) (fun _ _ _ h => h) (Or.inl ⟨by rfl, ?_⟩) ?_ ?_
           rotate_left
           ·intro w'
            go_simp
            with_reducible rfl
           rotate_left
           ·simp only [Act.put, sA_, sB_, sC_, i64_w, i32_w]
            rfl
           refine pure_ (i := 27) (N := some 6) (v := ?_) (a' := ?_) (tf 28 268435455) rfl rfl (any_of HT_.out (by kernel_rfl)) (fun _ _ _ h => h) (Or.inl ⟨by rfl, ?_⟩) ?_ ?_
           rotate_left
           ·intro w'
            go_simp
            with_reducible rfl
           rotate_left
           ·simp only [Act.put, sA_, sB_, sC_, i64_w, i32_w]
            rfl
           refine done_ (done_of HT_.out (by kernel_rfl)) ?_
           try go_wp2
           go_ret
           exact ⟨by first | rfl | (simp [errW_none, errW_some] <;> rfl) | (simp [*, errW_none, errW_some] <;> rfl), by repeat (first | (with_reducible first | exact HB.out | apply bA_ | apply bN_ | apply bD_ | refine bS_ ?_ GE209.out | refine bS_ ?_ GE217.out | refine bS_ ?_ GE229.out) | exact HB.out)⟩
          ·rw [if_neg c33] at H
           have c33b0 : (t227 == (t234.size : Int)) = false := beq_eq_false_iff_ne.mpr c33
           have c33b1 : (t227 != (t234.size : Int)) = true := bne_iff_ne.mpr c33
           obtain rfl := Option.some.inj H
           exact absurd hr_.out (by simp)
         ·replace c31 := Bool.eq_false_iff.mpr c31
          subst c31
          have H1 : (some false) = some r := by rw [if_neg (show ¬ (false = true) by decide)] at H; exact H
          clear H
          have H := H1
          clear H1
          obtain rfl := Option.some.inj H
          exact absurd hr_.out (by simp)
        ·rw [if_neg c29] at H
         have c29b0 : (t231.toList == (a0 ++ t232).toList) = false := beq_eq_false_iff_ne.mpr c29
         have c29b1 : (t231.toList != (a0 ++ t232).toList) = true := bne_iff_ne.mpr c29
         obtain rfl := Option.some.inj H
         exact absurd hr_.out (by simp)
       ·rw [if_neg c28] at H
        exact absurd H (by simp)
      ·replace c25 := Bool.eq_false_iff.mpr c25
       subst c25
       have H1 : (some false) = some r := by rw [if_neg (show ¬ (false = true) by decide)] at H; exact H
       clear H
       have H := H1
       clear H1
       obtain rfl := Option.some.inj H
       exact absurd hr_.out (by simp)
     ·rw [if_neg c22] at H
      exact absurd H (by simp)
    ·replace c20 := Bool.eq_false_iff.mpr c20
     subst c20
     have H1 : ((platformfwlaw05_awake.f kj3).bind fun t219 => (if t219 = true then ((bytecode_AppendPath.f kj3 a0 t212 t213 t214).bind fun t220 => (some (t220.toList == a0.toList))) else (some false))) = some r := by rw [if_neg (show ¬ (false = true) by decide)] at H; exact H
     clear H
     have H := H1
     clear H1
     replace H := Option.bind_eq_some_iff.mp H
     obtain ⟨t219, A560, H⟩ := H
     replace H : (if t219 = true then ((bytecode_AppendPath.f kj3 a0 t212 t213 t214).bind fun t220 => (some (t220.toList == a0.toList))) else (some false)) = some r := H
     have A56 := Aside0.mk A560
     clear A560
     by_cases c57 : t219 = true
     ·subst c57
      have H1 : ((bytecode_AppendPath.f kj3 a0 t212 t213 t214).bind fun t220 => (some (t220.toList == a0.toList))) = some r := by rw [if_pos rfl] at H; exact H
      clear H
      have H := H1
      clear H1
      replace H := Option.bind_eq_some_iff.mp H
      obtain ⟨t220, A580, H⟩ := H
      replace H : (some (t220.toList == a0.toList)) = some r := H
      have A58 := Aside0.mk A580
      clear A580
      obtain rfl := Option.some.inj H
      obtain ⟨hcz59_0, hcz59_1, hcz59_2⟩ := cells3_ BK209.out
      obtain ⟨hfz59_0, hfz59_1, hfz59_2⟩ := froz3_ BK209.out
      go_wp2_with (first | ((with_reducible refine gate_callee (f := 6) rfl ?_); refine goesL_ (some 28) rfl rfl Try.func6 (by kernel_rfl) rfl #[.agg #[.bool a1_0, .int .i64 a1_1, .slice A1_2 l1_2.length c1_2]] rfl (by (try simp only [List.map_toArray, List.map_cons, List.map_nil]); first | done | rfl | (simp only [List.length_drop, List.length_take]; rfl)) ?_; (with_reducible refine (platformfwlaw05_path.calls kj3 a1_0 a1_1 _ _ l1_2 t212 t213 t214 _ ?side1 ?side2 A18.out).mono ?_); (case side1 => repeat (first | exact (Kd.C_below HR1_2.out HB.out) | (with_reducible refine Kd.C_alloc ?_ _) | (with_reducible refine Kd.C_drewN ?_ _) | (with_reducible refine Kd.C_drew ?_))); (case side2 => exact HC1_2.out); rintro e w60 ⟨v215, rfl, ho0, hb⟩; refine ⟨_, rfl, ?_⟩; have n0_ := Aside0.mk (Kd.R_lower ho0 (below_size (by repeat (first | (with_reducible first | exact HB.out | apply bA_ | apply bN_ | apply bD_ | refine bS_ ?_ GE209.out) | exact HB.out)))); have n1_ := Aside0.mk (blk_below (g := gb209) (o := .cells #[.bool a1_0, .int .i64 a1_1, .slice A1_2 l1_2.length c1_2] 24 (0, 0)) (by (with_reducible repeat (first | refine kN_ ?_ _ | refine kD_ ?_ | refine kA_ ?_ _)); exact BK209.out) hb); have n2_ := Aside0.mk (below_step (by repeat (first | (with_reducible first | exact HB.out | apply bA_ | apply bN_ | apply bD_ | refine bS_ ?_ GE209.out) | exact HB.out)) hb); clear BK209; clear HB; have HO216 := n0_; have BK209 := n1_; have HB := n2_; clear n0_ n1_ n2_; (try clear hb); (try clear hb2); (try clear hk); (try clear hi); (try clear ho0)) | ((with_reducible refine gate_dst (N := 7) rfl ?_); (try (refine gate_guard (by rfl) ?_; dsimp only)); refine box_event ?hg (N := 7) ?hd (cs := #[.bool false, .int .i64 0, .slice none 0 0]) (t := 24) ?hr ?_; (case hd => rfl); (case hg => rfl); (case hr => first | (go_simp; done) | (go_simp; rfl)); intro gb217 hg w61 hbox hb; have n0_ := Aside0.mk (Kd.R_below (by (with_reducible repeat (first | apply Kd.R_alloc | apply Kd.R_drewN | apply Kd.R_drew)); exact HO216.out) hb); have n1_ := Aside0.mk (blk_below (g := gb209) (o := .cells #[.bool a1_0, .int .i64 a1_1, .slice A1_2 l1_2.length c1_2] 24 (0, 0)) (by (with_reducible repeat (first | refine kN_ ?_ _ | refine kD_ ?_ | refine kA_ ?_ _)); exact BK209.out) hb); have n2_ := Aside0.mk (below_step (by repeat (first | (with_reducible first | exact HB.out | apply bA_ | apply bN_ | apply bD_ | refine bS_ ?_ GE209.out) | exact HB.out)) hb); have n3_ := Aside0.mk (hbox); have n4_ := Aside0.mk ((by rw [hg]; exact (below_size (by repeat (first | (with_reducible first | exact HB.out | apply bA_ | apply bN_ | apply bD_ | refine bS_ ?_ GE209.out) | exact HB.out))) : w.heap.size ≤ gb217)); have n5_ := Aside0.mk ((by rw [hg]; exact (below_size (by repeat (first | (with_reducible first | exact HB.out | apply bA_ | apply bN_ | apply bD_ | refine bS_ ?_ GE209.out) | exact HB.out))) : w.heap.size ≤ gb217)); have n6_ := Aside0.mk ((by rw [hg]; exact Nat.ne_of_lt (blk_lt (g := gb209) (o := .cells #[.bool a1_0, .int .i64 a1_1, .slice A1_2 l1_2.length c1_2] 24 (0, 0)) (by (with_reducible repeat (first | refine kN_ ?_ _ | refine kD_ ?_ | refine kA_ ?_ _)); exact BK209.out)) : gb209 ≠ gb217)); have n7_ := Aside0.mk ((by rw [hg]; exact Nat.ne_of_gt (blk_lt (g := gb209) (o := .cells #[.bool a1_0, .int .i64 a1_1, .slice A1_2 l1_2.length c1_2] 24 (0, 0)) (by (with_reducible repeat (first | refine kN_ ?_ _ | refine kD_ ?_ | refine kA_ ?_ _)); exact BK209.out)) : gb217 ≠ gb209)); clear HO216; clear BK209; clear HB; have HO216 := n0_; have BK209 := n1_; have HB := n2_; have BK217 := n3_; have GW217 := n4_; have GE217 := n5_; have NB209_217 := n6_; have NB217_209 := n7_; clear n0_ n1_ n2_ n3_ n4_ n5_ n6_ n7_; clear hb hbox hg; have hnb62 := NB217_209.out; have hnc62 := NB209_217.out; obtain ⟨hcz63_0, hcz63_1, hcz63_2⟩ := cells3_ BK217.out; obtain ⟨hfz63_0, hfz63_1, hfz63_2⟩ := froz3_ BK217.out; obtain ⟨Ao64, co64, eo64⟩ := Kd.R_slice HO216.out; subst eo64) | ((with_reducible refine gate_callee (f := 4) rfl ?_); refine goesL_ (some 30) rfl rfl Try.func4 (by kernel_rfl) rfl #[.agg #[.bool t212, .int .i64 t213, .slice Ao64 t214.length co64]] rfl (by (try simp only [List.map_toArray, List.map_cons, List.map_nil]); first | done | rfl | (simp only [List.length_drop, List.length_take]; rfl)) ?_; (with_reducible refine (platformfwref01_ValidPath.calls kj3 t212 t213 _ _ t214 false _ ?side1 ?side2 A19.out).mono ?_); (case side1 => refine (Kd.R_reads' (e := 9) (base := w.heap.size) (ok := fun k_ => True) (n := t214.length) (c := co64) ?_).2.2; exact (by (with_reducible repeat (first | apply Kd.R_alloc | apply Kd.R_drewN | apply Kd.R_drew)); exact (Kd.R_mono (Kd.R_far (p := ⟨gb217, 2, none⟩) (Kd.R_far (p := ⟨gb217, 1, none⟩) (Kd.R_far (p := ⟨gb217, 0, none⟩) (Kd.R_types HO216.out BK217.out (by decide)) (fun _ hk => hk.2) (.bool t212)) (fun _ hk => hk.2) (.int .i64 t213)) (fun _ hk => hk.2) (.slice Ao64 t214.length co64)) (fun _ h_ => h_.1)))); (case side2 => exact (Kd.R_reads' HO216.out).2.1); rintro e w65 ⟨rfl, hb⟩; refine ⟨_, rfl, ?_⟩; have n0_ := Aside0.mk (Kd.R_below (by (with_reducible repeat (first | apply Kd.R_alloc | apply Kd.R_drewN | apply Kd.R_drew)); exact (Kd.R_mono (Kd.R_far (p := ⟨gb217, 2, none⟩) (Kd.R_far (p := ⟨gb217, 1, none⟩) (Kd.R_far (p := ⟨gb217, 0, none⟩) (Kd.R_types HO216.out BK217.out (by decide)) (fun _ hk => hk.2) (.bool t212)) (fun _ hk => hk.2) (.int .i64 t213)) (fun _ hk => hk.2) (.slice Ao64 t214.length co64)) (fun _ h_ => h_.1))) hb); have n1_ := Aside0.mk (blk_below (g := gb209) (o := .cells #[.bool a1_0, .int .i64 a1_1, .slice A1_2 l1_2.length c1_2] 24 (0, 0)) (by (with_reducible repeat (first | refine kN_ ?_ _ | refine kD_ ?_ | refine kA_ ?_ _)); refine blk_far ?_ NB209_217.out _; (with_reducible repeat (first | refine kN_ ?_ _ | refine kD_ ?_ | refine kA_ ?_ _)); refine blk_far ?_ NB209_217.out _; (with_reducible repeat (first | refine kN_ ?_ _ | refine kD_ ?_ | refine kA_ ?_ _)); refine blk_far ?_ NB209_217.out _; (with_reducible repeat (first | refine kN_ ?_ _ | refine kD_ ?_ | refine kA_ ?_ _)); exact BK209.out) hb); have n2_ := Aside0.mk (blk_below (g := gb217) (o := .cells #[.bool t212, .int .i64 t213, .slice Ao64 t214.length co64] 24 (0, 0)) (by (with_reducible repeat (first | refine kN_ ?_ _ | refine kD_ ?_ | refine kA_ ?_ _)); refine blk_put (cs := #[.bool t212, .int .i64 t213, .slice none 0 0]) ?_ 2 _ rfl; (with_reducible repeat (first | refine kN_ ?_ _ | refine kD_ ?_ | refine kA_ ?_ _)); refine blk_put (cs := #[.bool t212, .int .i64 0, .slice none 0 0]) ?_ 1 _ rfl; (with_reducible repeat (first | refine kN_ ?_ _ | refine kD_ ?_ | refine kA_ ?_ _)); refine blk_put (cs := #[.bool false, .int .i64 0, .slice none 0 0]) ?_ 0 _ rfl; (with_reducible repeat (first | refine kN_ ?_ _ | refine kD_ ?_ | refine kA_ ?_ _)); exact BK217.out) hb); have n3_ := Aside0.mk (below_step (by repeat (first | (with_reducible first | exact HB.out | apply bA_ | apply bN_ | apply bD_ | refine bS_ ?_ GE209.out | refine bS_ ?_ GE217.out) | exact HB.out)) hb); clear HO216; clear BK209; clear BK217; clear HB; have HO216 := n0_; have BK209 := n1_; have BK217 := n2_; have HB := n3_; clear n0_ n1_ n2_ n3_; (try clear hb); (try clear hb2); (try clear hk); (try clear hi)) | ((with_reducible refine gate_callee (f := 7) rfl ?_); refine goesL_ (some 32) rfl rfl Try.func7 (by kernel_rfl) rfl #[] rfl (by (try simp only [List.map_toArray, List.map_cons, List.map_nil]); first | done | rfl | (simp only [List.length_drop, List.length_take]; rfl)) ?_; (with_reducible refine (platformfwlaw05_awake.calls kj3  true _ A56.out).mono ?_); rintro e w66 ⟨rfl, hb⟩; refine ⟨_, rfl, ?_⟩; have n0_ := Aside0.mk (Kd.R_below (by (with_reducible repeat (first | apply Kd.R_alloc | apply Kd.R_drewN | apply Kd.R_drew)); exact HO216.out) hb); have n1_ := Aside0.mk (blk_below (g := gb209) (o := .cells #[.bool a1_0, .int .i64 a1_1, .slice A1_2 l1_2.length c1_2] 24 (0, 0)) (by (with_reducible repeat (first | refine kN_ ?_ _ | refine kD_ ?_ | refine kA_ ?_ _)); exact BK209.out) hb); have n2_ := Aside0.mk (blk_below (g := gb217) (o := .cells #[.bool t212, .int .i64 t213, .slice Ao64 t214.length co64] 24 (0, 0)) (by (with_reducible repeat (first | refine kN_ ?_ _ | refine kD_ ?_ | refine kA_ ?_ _)); exact BK217.out) hb); have n3_ := Aside0.mk (below_step (by repeat (first | (with_reducible first | exact HB.out | apply bA_ | apply bN_ | apply bD_ | refine bS_ ?_ GE209.out | refine bS_ ?_ GE217.out) | exact HB.out)) hb); clear HO216; clear BK209; clear BK217; clear HB; have HO216 := n0_; have BK209 := n1_; have BK217 := n2_; have HB := n3_; clear n0_ n1_ n2_ n3_; (try clear hb); (try clear hb2); (try clear hk); (try clear hi); obtain ⟨hcz67_0, hcz67_1, hcz67_2⟩ := cells3_ BK217.out; obtain ⟨hfz67_0, hfz67_1, hfz67_2⟩ := froz3_ BK217.out) | (go_at_call 5; (with_reducible refine (bytecode_AppendPath.calls kj3 a0 t212 t213 _ _ t214 t220 _ ?side1 ?side2 A58.out).mono ?_); (case side1 => repeat (first | exact (Kd.R_reads' HO216.out).2.2 | (with_reducible refine Kd.C_alloc ?_ _) | (with_reducible refine Kd.C_drewN ?_ _) | (with_reducible refine Kd.C_drew ?_))); (case side2 => exact (Kd.R_reads' HO216.out).2.1); rintro e w68 ⟨rfl, hb⟩; have n0_ := Aside0.mk (Kd.R_below (by (with_reducible repeat (first | apply Kd.R_alloc | apply Kd.R_drewN | apply Kd.R_drew)); exact HO216.out) hb); have n1_ := Aside0.mk (blk_below (g := gb209) (o := .cells #[.bool a1_0, .int .i64 a1_1, .slice A1_2 l1_2.length c1_2] 24 (0, 0)) (by (with_reducible repeat (first | refine kN_ ?_ _ | refine kD_ ?_ | refine kA_ ?_ _)); exact BK209.out) hb); have n2_ := Aside0.mk (blk_below (g := gb217) (o := .cells #[.bool t212, .int .i64 t213, .slice Ao64 t214.length co64] 24 (0, 0)) (by (with_reducible repeat (first | refine kN_ ?_ _ | refine kD_ ?_ | refine kA_ ?_ _)); exact BK217.out) hb); have n3_ := Aside0.mk (below_step (by repeat (first | (with_reducible first | exact HB.out | apply bA_ | apply bN_ | apply bD_ | refine bS_ ?_ GE209.out | refine bS_ ?_ GE217.out) | exact HB.out)) hb); clear HO216; clear BK209; clear BK217; clear HB; have HO216 := n0_; have BK209 := n1_; have BK217 := n2_; have HB := n3_; clear n0_ n1_ n2_ n3_; (try clear hb); (try clear hb2); (try clear hk); (try clear hi)))
      go_ret
      exact ⟨by first | rfl | (simp [errW_none, errW_some] <;> rfl) | (simp [*, errW_none, errW_some] <;> rfl), by repeat (first | (with_reducible first | exact HB.out | apply bA_ | apply bN_ | apply bD_ | refine bS_ ?_ GE209.out | refine bS_ ?_ GE217.out) | exact HB.out)⟩
     ·replace c57 := Bool.eq_false_iff.mpr c57
      subst c57
      have H1 : (some false) = some r := by rw [if_neg (show ¬ (false = true) by decide)] at H; exact H
      clear H
      have H := H1
      clear H1
      obtain rfl := Option.some.inj H
      exact absurd hr_.out (by simp)

end Go.Proofs.Ytmnmidclaaiffab.PBytecodePaths
