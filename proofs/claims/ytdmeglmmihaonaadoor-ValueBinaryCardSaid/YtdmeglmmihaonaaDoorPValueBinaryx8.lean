-- Written by a program of this session's (wip/print_patch.py over the kit's print) out of the translation; Lean checks it.
import Derived.Test.YtdmeglmmihaonaaDoorPValueBinaryx0
import Derived.Test.YtdmeglmmihaonaaDoorPValueBinaryx5
import Derived.Test.YtdmeglmmihaonaaDoorPValueBinaryx6
import Derived.Test.YtdmeglmmihaonaaDoorPValueBinaryx7
import Derived.Test.YtdmeglmmihaonaaDoorVValueBinaryExtP
namespace Go.Proofs.YtdmeglmmihaonaaDoor.PValueBinary
open Go.RowKit Go.Proofs.YtdmeglmmihaonaaDoor.Ext Go.Proofs.YtdmeglmmihaonaaDoorW.PrintWords Go.Proofs.YtdmeglmmihaonaaDoorW.PrintLast Go.Proofs.YtdmeglmmihaonaaDoorW.PrintMore
attribute [local go_sem] binOp_str_gtr max2_int min2_int max_two min_two max_three min_three max_four min_four   -- for this text's walks alone
set_option linter.unusedVariables false
set_option linter.unusedSimpArgs false

/-! ### platformfwref08_paired: function 28 -/
def platformfwref08_paired.j0 : Nat → Int → Bool → Int → Int → ByteArray → Int → Int → Int → ByteArray → Int → Option (Int × Int × ByteArray × Int × Int)
 | 0, _, _, _, _, _, _, _, _, _, _ => none
 | k + 1, x0, x23, x335000, x335001, x335002, x335003, x336000, x336001, x336002, x336003 => if x23 = true then (some (0, 0, (⟨#[]⟩ : ByteArray), 0, 10)) else ((platformfwref08_Convert.f k x336000 x336001 x336002 x336003 x335000).bind fun bt337 => (if bt337.2.2.2.2 = 0 then (if x0 = 72 then (if x335000 = 1 then (if x335001 = bt337.2.1 then ((platformfwref08_Bool.f true).bind fun bt342 => (some (bt342.1, bt342.2.1, bt342.2.2.1, bt342.2.2.2, 0))) else ((platformfwref08_Bool.f false).bind fun bt346 => (some (bt346.1, bt346.2.1, bt346.2.2.1, bt346.2.2.2, 0)))) else ((platformfwref08_Bool.f (x335002.toList == bt337.2.2.1.toList)).bind fun bt350 => (some (bt350.1, bt350.2.1, bt350.2.2.1, bt350.2.2.2, 0)))) else (if x0 = 73 then (if x335000 = 1 then (if x335001 < bt337.2.1 then ((platformfwref08_Bool.f true).bind fun bt354 => (some (bt354.1, bt354.2.1, bt354.2.2.1, bt354.2.2.2, 0))) else ((platformfwref08_Bool.f false).bind fun bt358 => (some (bt358.1, bt358.2.1, bt358.2.2.1, bt358.2.2.2, 0)))) else ((platformfwref08_Bool.f (Op.bytesLess x335002.toList bt337.2.2.1.toList)).bind fun bt362 => (some (bt362.1, bt362.2.1, bt362.2.2.1, bt362.2.2.2, 0)))) else (if x0 = 74 then (if x335000 = 1 then (if x335001 > bt337.2.1 then ((platformfwref08_Bool.f true).bind fun bt366 => (some (bt366.1, bt366.2.1, bt366.2.2.1, bt366.2.2.2, 0))) else ((platformfwref08_Bool.f false).bind fun bt370 => (some (bt370.1, bt370.2.1, bt370.2.2.1, bt370.2.2.2, 0)))) else ((platformfwref08_Bool.f (Op.bytesLess bt337.2.2.1.toList x335002.toList)).bind fun bt374 => (some (bt374.1, bt374.2.1, bt374.2.2.1, bt374.2.2.2, 0)))) else (if x335000 = 1 then ((platformfwref08_little.f k x335001).bind fun t378 => ((platformfwref08_little.f k bt337.2.1).bind fun t379 => (if t378.size + t379.size ≤ 9223372036854775807 then (some (3, 0, t378 ++ t379, 0, 0)) else (none)))) else (if x335002.size + bt337.2.2.1.size ≤ 9223372036854775807 then ((platformfwref08_bounded.f (x335002 ++ bt337.2.2.1)).bind fun bt380 => (if bt380.2 = 0 then (some (x335000, 0, bt380.1, 0, 0)) else (some (0, 0, (⟨#[]⟩ : ByteArray), 0, bt380.2)))) else (none)))))) else (some (0, 0, (⟨#[]⟩ : ByteArray), 0, bt337.2.2.2.2))))
def platformfwref08_paired.f (k : Nat) (a0 : Int) (a1_0 : Int) (a1_1 : Int) (a1_2 : ByteArray) (a1_3 : Int) (a2_0 : Int) (a2_1 : Int) (a2_2 : ByteArray) (a2_3 : Int) : Option (Int × Int × ByteArray × Int × Int) := if a1_0 = 1 then (platformfwref08_paired.j0 k a0 false a1_0 a1_1 a1_2 a1_3 a2_0 a2_1 a2_2 a2_3) else (if a1_0 = 2 then (platformfwref08_paired.j0 k a0 false a1_0 a1_1 a1_2 a1_3 a2_0 a2_1 a2_2 a2_3) else (platformfwref08_paired.j0 k a0 (a1_0 != 3) a1_0 a1_1 a1_2 a1_3 a2_0 a2_1 a2_2 a2_3))
theorem platformfwref08_paired.mono_l : ∀ k, (∀ y0 y1 y2 y3 y4 y5 y6 y7 y8 y9, LeO (platformfwref08_paired.j0 k y0 y1 y2 y3 y4 y5 y6 y7 y8 y9) (platformfwref08_paired.j0 (k + 1) y0 y1 y2 y3 y4 y5 y6 y7 y8 y9))
 | 0 => fun _ _ _ _ _ _ _ _ _ _ r h => by simp [platformfwref08_paired.j0] at h
 | k + 1 => by
  have ih0 := platformfwref08_paired.mono_l k
  ·intro y0 y1 y2 y3 y4 y5 y6 y7 y8 y9
   unfold platformfwref08_paired.j0
   repeat' first
   | (with_reducible exact ih0 _ _ _ _ _ _ _ _ _ _)
   | (with_reducible exact platformfwref08_Convert.mono _ _ _ _ _ _)
   | (with_reducible exact platformfwref08_little.mono _ _)
   | (with_reducible exact LeO.refl _)
   | (with_reducible exact LeO.none _)
   | (with_reducible refine LeO.ite ?_ ?_)
   | (with_reducible refine LeO.bind ?_ (fun _ => ?_))
   | exact ih0 _ _ _ _ _ _ _ _ _ _
   | exact platformfwref08_Convert.mono _ _ _ _ _ _
   | exact platformfwref08_little.mono _ _
   | exact LeO.none _
   | refine LeO.ite ?_ ?_
   | refine LeO.bind ?_ (fun _ => ?_)
theorem platformfwref08_paired.mono : ∀ a0 a1 a2 a3 a4 a5 a6 a7 a8 k, LeO (platformfwref08_paired.f k a0 a1 a2 a3 a4 a5 a6 a7 a8) (platformfwref08_paired.f (k + 1) a0 a1 a2 a3 a4 a5 a6 a7 a8) := by
 intro a0 a1 a2 a3 a4 a5 a6 a7 a8 k
 have ih0 := platformfwref08_paired.mono_l k
 unfold platformfwref08_paired.f
 repeat' first
   | (with_reducible exact ih0 _ _ _ _ _ _ _ _ _ _)
   | (with_reducible exact platformfwref08_Convert.mono _ _ _ _ _ _)
   | (with_reducible exact platformfwref08_little.mono _ _)
   | (with_reducible exact LeO.refl _)
   | (with_reducible exact LeO.none _)
   | (with_reducible refine LeO.ite ?_ ?_)
   | (with_reducible refine LeO.bind ?_ (fun _ => ?_))
   | exact ih0 _ _ _ _ _ _ _ _ _ _
   | exact platformfwref08_Convert.mono _ _ _ _ _ _
   | exact platformfwref08_little.mono _ _
   | exact LeO.none _
   | refine LeO.ite ?_ ?_
   | refine LeO.bind ?_ (fun _ => ?_)
def platformfwref08_paired.T15 : Bool × List (List Nat × List Nat) := (true, [([], []), ([0], [0]), ([1], [1]), ([], []), ([3], [3]), ([4, 2], [4]), ([2, 5], [2, 5]), ([6], [6]), ([7, 5, 0, 1, 2, 3, 4, 5, 6, 7], [7]), ([8, 0, 1, 2, 3, 4, 5, 6, 7, 8], [])])
def platformfwref08_paired.B15 : List Nat := [0, 1, 3, 0, 8, 31, 63, 127, 255, 511]
theorem platformfwref08_paired.tab15 : rtab .any (opsOf Tryd.f28 15) = platformfwref08_paired.T15 := by kernel_rfl
theorem platformfwref08_paired.bits15 : waitsOk platformfwref08_paired.T15.2 platformfwref08_paired.B15 = true := by kernel_rfl
set_option maxHeartbeats 8000000 in
set_option maxRecDepth 100000 in
theorem platformfwref08_paired.calls (k : Nat) (a0 : Int) (a1_0 : Int) (a1_1 : Int) (a1_2 : ByteArray) (a1_3 : Int) (a2_0 : Int) (a2_1 : Int) (a2_2 : ByteArray) (a2_3 : Int) (r1 : Int) (r2 : Int) (r3 : ByteArray) (r4 : Int) (r5 : Int) (w : World) (h : platformfwref08_paired.f k a0 a1_0 a1_1 a1_2 a1_3 a2_0 a2_1 a2_2 a2_3 = some (r1, r2, r3, r4, r5)) :
  Calls Tryd.prog 28 #[.int .i64 a0, .agg #[.int .i64 a1_0, .int .u64 a1_1, .string a1_2, .int .i64 a1_3], .agg #[.int .i64 a2_0, .int .u64 a2_1, .string a2_2, .int .i64 a2_3]] w fun e w' => e = .returned (.tuple #[.agg #[.int .i64 r1, .int .u64 r2, .string r3, .int .i64 r4], .int .i64 r5]) ∧ Below w.heap.size w w' := by
 have hu24 := Tryd.underlying24
 have HB := Aside0.mk (Below.refl w.heap.size w)
 have H : (if a1_0 = 1 then (platformfwref08_paired.j0 k a0 false a1_0 a1_1 a1_2 a1_3 a2_0 a2_1 a2_2 a2_3) else (if a1_0 = 2 then (platformfwref08_paired.j0 k a0 false a1_0 a1_1 a1_2 a1_3 a2_0 a2_1 a2_2 a2_3) else (platformfwref08_paired.j0 k a0 (a1_0 != 3) a1_0 a1_1 a1_2 a1_3 a2_0 a2_1 a2_2 a2_3))) = some (r1, r2, r3, r4, r5) := h
 clear h
 have HC4 := Aside0.mk H
 clear H
 go_enter Tryd.func28, Tryd.ntmps28
 go_upto_region 1 with (first | ((with_reducible refine gate_dst (N := 4) rfl ?_); refine box_event ?hg (N := 4) ?hd (cs := #[.int .i64 a1_0, .int .u64 a1_1, .string a1_2, .int .i64 a1_3]) (t := 24) ?hr ?_; (case hd => rfl); (case hg => rfl); (case hr => first | (go_simp; done) | (go_simp; rfl)); intro gb334 hg w5 hbox hb; have n0_ := Aside0.mk (below_step (by repeat (first | (with_reducible first | exact HB.out | apply bA_ | apply bN_ | apply bD_) | exact HB.out)) hb); have n1_ := Aside0.mk (hbox); have n2_ := Aside0.mk ((by rw [hg]; exact (below_size (by repeat (first | (with_reducible first | exact HB.out | apply bA_ | apply bN_ | apply bD_) | exact HB.out))) : w.heap.size ≤ gb334)); have n3_ := Aside0.mk ((by rw [hg]; exact (below_size (by repeat (first | (with_reducible first | exact HB.out | apply bA_ | apply bN_ | apply bD_) | exact HB.out))) : w.heap.size ≤ gb334)); clear HB; have HB := n0_; have BK334 := n1_; have GW334 := n2_; have GE334 := n3_; clear n0_ n1_ n2_ n3_; clear hb hbox hg) | ((with_reducible refine gate_dst (N := 5) rfl ?_); refine box_event ?hg (N := 5) ?hd (cs := #[.int .i64 a2_0, .int .u64 a2_1, .string a2_2, .int .i64 a2_3]) (t := 24) ?hr ?_; (case hd => rfl); (case hg => rfl); (case hr => first | (go_simp; done) | (go_simp; rfl)); intro gb335 hg w6 hbox hb; have n0_ := Aside0.mk (blk_below (g := gb334) (o := .cells #[.int .i64 a1_0, .int .u64 a1_1, .string a1_2, .int .i64 a1_3] 24 (0, 0)) (by (with_reducible repeat (first | apply kN_ | apply kD_ | apply kA_)); exact BK334.out) hb); have n1_ := Aside0.mk (below_step (by repeat (first | (with_reducible first | exact HB.out | apply bA_ | apply bN_ | apply bD_ | refine bS_ ?_ GE334.out) | exact HB.out)) hb); have n2_ := Aside0.mk (hbox); have n3_ := Aside0.mk ((by rw [hg]; exact (below_size (by repeat (first | (with_reducible first | exact HB.out | apply bA_ | apply bN_ | apply bD_ | refine bS_ ?_ GE334.out) | exact HB.out))) : w.heap.size ≤ gb335)); have n4_ := Aside0.mk ((by rw [hg]; exact (below_size (by repeat (first | (with_reducible first | exact HB.out | apply bA_ | apply bN_ | apply bD_ | refine bS_ ?_ GE334.out) | exact HB.out))) : w.heap.size ≤ gb335)); have n5_ := Aside0.mk ((by rw [hg]; exact Nat.ne_of_lt (blk_lt (g := gb334) (o := .cells #[.int .i64 a1_0, .int .u64 a1_1, .string a1_2, .int .i64 a1_3] 24 (0, 0)) (by (with_reducible repeat (first | apply kN_ | apply kD_ | apply kA_)); exact BK334.out)) : gb334 ≠ gb335)); have n6_ := Aside0.mk ((by rw [hg]; exact Nat.ne_of_gt (blk_lt (g := gb334) (o := .cells #[.int .i64 a1_0, .int .u64 a1_1, .string a1_2, .int .i64 a1_3] 24 (0, 0)) (by (with_reducible repeat (first | apply kN_ | apply kD_ | apply kA_)); exact BK334.out)) : gb335 ≠ gb334)); clear BK334; clear HB; have BK334 := n0_; have HB := n1_; have BK335 := n2_; have GW335 := n3_; have GE335 := n4_; have NB334_335 := n5_; have NB335_334 := n6_; clear n0_ n1_ n2_ n3_ n4_ n5_ n6_; clear hb hbox hg) | ((with_reducible refine gate_dst (N := 6) rfl ?_); refine box_event ?hg (N := 6) ?hd (cs := #[.int .i64 0, .int .u64 0, .string (⟨#[]⟩ : ByteArray), .int .i64 0]) (t := 24) ?hr ?_; (case hd => rfl); (case hg => rfl); (case hr => first | (go_simp; done) | (go_simp; rfl)); intro gb336 hg w7 hbox hb; have n0_ := Aside0.mk (blk_below (g := gb334) (o := .cells #[.int .i64 a1_0, .int .u64 a1_1, .string a1_2, .int .i64 a1_3] 24 (0, 0)) (by (with_reducible repeat (first | apply kN_ | apply kD_ | apply kA_)); exact BK334.out) hb); have n1_ := Aside0.mk (blk_below (g := gb335) (o := .cells #[.int .i64 a2_0, .int .u64 a2_1, .string a2_2, .int .i64 a2_3] 24 (0, 0)) (by (with_reducible repeat (first | apply kN_ | apply kD_ | apply kA_)); exact BK335.out) hb); have n2_ := Aside0.mk (below_step (by repeat (first | (with_reducible first | exact HB.out | apply bA_ | apply bN_ | apply bD_ | refine bS_ ?_ GE334.out | refine bS_ ?_ GE335.out) | exact HB.out)) hb); have n3_ := Aside0.mk (hbox); have n4_ := Aside0.mk ((by rw [hg]; exact (below_size (by repeat (first | (with_reducible first | exact HB.out | apply bA_ | apply bN_ | apply bD_ | refine bS_ ?_ GE334.out | refine bS_ ?_ GE335.out) | exact HB.out))) : w.heap.size ≤ gb336)); have n5_ := Aside0.mk ((by rw [hg]; exact (below_size (by repeat (first | (with_reducible first | exact HB.out | apply bA_ | apply bN_ | apply bD_ | refine bS_ ?_ GE334.out | refine bS_ ?_ GE335.out) | exact HB.out))) : w.heap.size ≤ gb336)); have n6_ := Aside0.mk ((by rw [hg]; exact Nat.ne_of_lt (blk_lt (g := gb334) (o := .cells #[.int .i64 a1_0, .int .u64 a1_1, .string a1_2, .int .i64 a1_3] 24 (0, 0)) (by (with_reducible repeat (first | apply kN_ | apply kD_ | apply kA_)); exact BK334.out)) : gb334 ≠ gb336)); have n7_ := Aside0.mk ((by rw [hg]; exact Nat.ne_of_gt (blk_lt (g := gb334) (o := .cells #[.int .i64 a1_0, .int .u64 a1_1, .string a1_2, .int .i64 a1_3] 24 (0, 0)) (by (with_reducible repeat (first | apply kN_ | apply kD_ | apply kA_)); exact BK334.out)) : gb336 ≠ gb334)); have n8_ := Aside0.mk ((by rw [hg]; exact Nat.ne_of_lt (blk_lt (g := gb335) (o := .cells #[.int .i64 a2_0, .int .u64 a2_1, .string a2_2, .int .i64 a2_3] 24 (0, 0)) (by (with_reducible repeat (first | apply kN_ | apply kD_ | apply kA_)); exact BK335.out)) : gb335 ≠ gb336)); have n9_ := Aside0.mk ((by rw [hg]; exact Nat.ne_of_gt (blk_lt (g := gb335) (o := .cells #[.int .i64 a2_0, .int .u64 a2_1, .string a2_2, .int .i64 a2_3] 24 (0, 0)) (by (with_reducible repeat (first | apply kN_ | apply kD_ | apply kA_)); exact BK335.out)) : gb336 ≠ gb335)); clear BK334; clear BK335; clear HB; have BK334 := n0_; have BK335 := n1_; have HB := n2_; have BK336 := n3_; have GW336 := n4_; have GE336 := n5_; have NB334_336 := n6_; have NB336_334 := n7_; have NB335_336 := n8_; have NB336_335 := n9_; clear n0_ n1_ n2_ n3_ n4_ n5_ n6_ n7_ n8_ n9_; clear hb hbox hg))
 (try simp only [Act.put, sA_, sB_, sC_])
 go_cut [23] (fun v23 wc => ∃ (kq : Nat) (x23_3 : Bool), v23 = .bool x23_3 ∧ Aside0 (platformfwref08_paired.j0 kq a0 x23_3 a1_0 a1_1 a1_2 a1_3 a2_0 a2_1 a2_2 a2_3 = some (r1, r2, r3, r4, r5)) ∧ Aside0 (kq ≤ k) ∧ Aside0 (wc.heap[gb334]? = some (.cells #[.int .i64 a1_0, .int .u64 a1_1, .string a1_2, .int .i64 a1_3] 24 (0, 0))) ∧ Aside0 (wc.heap[gb335]? = some (.cells #[.int .i64 a2_0, .int .u64 a2_1, .string a2_2, .int .i64 a2_3] 24 (0, 0))) ∧ Aside0 (wc.heap[gb336]? = some (.cells #[.int .i64 0, .int .u64 0, .string (⟨#[]⟩ : ByteArray), .int .i64 0] 24 (0, 0))) ∧ Aside0 (Below w.heap.size w wc))
 case first =>
  have H := HC4.out
  clear HC4
  by_cases c8 : a1_0 = 1
  ·rw [if_pos c8] at H
   have c8b0 : (a1_0 == 1) = true := beq_iff_eq.mpr c8
   have c8b1 : (a1_0 != 1) = false := bne_eq_false_iff_eq.mpr c8
   clear c8
   (first | rw [c8b0] | (simp only [i64_w, i32_w]; rw [c8b0]) | skip)
   have H' := Aside0.mk H
   clear H
   have hnb9 := NB334_335.out
   have hnc9 := NB335_334.out
   have hnb10 := NB334_336.out
   have hnc10 := NB336_334.out
   obtain ⟨hcz11_0, hcz11_1, hcz11_2, hcz11_3⟩ := cells4_ BK334.out
   obtain ⟨hfz11_0, hfz11_1, hfz11_2, hfz11_3⟩ := froz4_ BK334.out
   go_wp2
   go_meet
   case rel => exact ⟨_, (false), (by first | rfl | (simp; done) | (simp [*]; done)), H', ⟨by first | omega | exact Nat.le_refl _⟩, ⟨by (with_reducible repeat (first | apply kN_ | apply kD_ | apply kA_)); exact BK334.out⟩, ⟨by (with_reducible repeat (first | apply kN_ | apply kD_ | apply kA_)); exact BK335.out⟩, ⟨by (with_reducible repeat (first | apply kN_ | apply kD_ | apply kA_)); exact BK336.out⟩, ⟨by repeat (first | (with_reducible first | exact HB.out | apply bA_ | apply bN_ | apply bD_ | refine bS_ ?_ GE334.out | refine bS_ ?_ GE335.out | refine bS_ ?_ GE336.out) | exact HB.out)⟩⟩
  ·rw [if_neg c8] at H
   have c8b0 : (a1_0 == 1) = false := beq_eq_false_iff_ne.mpr c8
   have c8b1 : (a1_0 != 1) = true := bne_iff_ne.mpr c8
   (first | rw [c8b0] | (simp only [i64_w, i32_w]; rw [c8b0]) | skip)
   by_cases c12 : a1_0 = 2
   ·rw [if_pos c12] at H
    have c12b0 : (a1_0 == 2) = true := beq_iff_eq.mpr c12
    have c12b1 : (a1_0 != 2) = false := bne_eq_false_iff_eq.mpr c12
    clear c12
    have H' := Aside0.mk H
    clear H
    have hnb13 := NB334_335.out
    have hnc13 := NB335_334.out
    have hnb14 := NB334_336.out
    have hnc14 := NB336_334.out
    obtain ⟨hcz15_0, hcz15_1, hcz15_2, hcz15_3⟩ := cells4_ BK334.out
    obtain ⟨hfz15_0, hfz15_1, hfz15_2, hfz15_3⟩ := froz4_ BK334.out
    go_wp2
    go_meet
    case rel => exact ⟨_, (false), (by first | rfl | (simp; done) | (simp [*]; done)), H', ⟨by first | omega | exact Nat.le_refl _⟩, ⟨by (with_reducible repeat (first | apply kN_ | apply kD_ | apply kA_)); exact BK334.out⟩, ⟨by (with_reducible repeat (first | apply kN_ | apply kD_ | apply kA_)); exact BK335.out⟩, ⟨by (with_reducible repeat (first | apply kN_ | apply kD_ | apply kA_)); exact BK336.out⟩, ⟨by repeat (first | (with_reducible first | exact HB.out | apply bA_ | apply bN_ | apply bD_ | refine bS_ ?_ GE334.out | refine bS_ ?_ GE335.out | refine bS_ ?_ GE336.out) | exact HB.out)⟩⟩
   ·rw [if_neg c12] at H
    have c12b0 : (a1_0 == 2) = false := beq_eq_false_iff_ne.mpr c12
    have c12b1 : (a1_0 != 2) = true := bne_iff_ne.mpr c12
    have H' := Aside0.mk H
    clear H
    have hnb16 := NB334_335.out
    have hnc16 := NB335_334.out
    have hnb17 := NB334_336.out
    have hnc17 := NB336_334.out
    obtain ⟨hcz18_0, hcz18_1, hcz18_2, hcz18_3⟩ := cells4_ BK334.out
    obtain ⟨hfz18_0, hfz18_1, hfz18_2, hfz18_3⟩ := froz4_ BK334.out
    go_wp2
    go_meet
    case rel => exact ⟨_, ((a1_0 != 3)), (by first | rfl | (simp; done) | (simp [*]; done)), H', ⟨by first | omega | exact Nat.le_refl _⟩, ⟨by (with_reducible repeat (first | apply kN_ | apply kD_ | apply kA_)); exact BK334.out⟩, ⟨by (with_reducible repeat (first | apply kN_ | apply kD_ | apply kA_)); exact BK335.out⟩, ⟨by (with_reducible repeat (first | apply kN_ | apply kD_ | apply kA_)); exact BK336.out⟩, ⟨by repeat (first | (with_reducible first | exact HB.out | apply bA_ | apply bN_ | apply bD_ | refine bS_ ?_ GE334.out | refine bS_ ?_ GE335.out | refine bS_ ?_ GE336.out) | exact HB.out)⟩⟩
 case rest =>
  clear HC4
  try clear c1
  try clear c2
  try clear p2
  try clear c8
  try clear c8b0
  try clear c8b1
  try clear c9
  try clear c10
  try clear c12
  try clear c12b0
  try clear c12b1
  try clear c13
  try clear c14
  try clear c16
  try clear c17
  try clear hcz11_0 hcz11_1 hcz11_2 hcz11_3
  try clear hcz15_0 hcz15_1 hcz15_2 hcz15_3
  try clear hcz18_0 hcz18_1 hcz18_2 hcz18_3
  try clear hfz11_0 hfz11_1 hfz11_2 hfz11_3
  try clear hfz15_0 hfz15_1 hfz15_2 hfz15_3
  try clear hfz18_0 hfz18_1 hfz18_2 hfz18_3
  obtain ⟨kq, x23_3, rfl, HA, HJ3, BK334, BK335, BK336, HB⟩ := hcut
  cases kq with
  | zero => exact absurd HA.out (by simp [platformfwref08_paired.j0])
  | succ kj3 =>
   have H := HA.out
   clear HA
   simp only [platformfwref08_paired.j0] at H
   by_cases c19 : x23_3 = true
   ·subst c19
    have H1 : (some (0, 0, (⟨#[]⟩ : ByteArray), 0, 10)) = some (r1, r2, r3, r4, r5) := by rw [if_pos rfl] at H; exact H
    clear H
    have H := H1
    clear H1
    simp only [Option.some.injEq, Prod.mk.injEq] at H
    obtain ⟨rfl, rfl, rfl, rfl, rfl⟩ := H
    have hnb20 := NB336_334.out
    have hnc20 := NB334_336.out
    have hnb21 := NB336_335.out
    have hnc21 := NB335_336.out
    obtain ⟨hcz22_0, hcz22_1, hcz22_2, hcz22_3⟩ := cells4_ BK336.out
    obtain ⟨hfz22_0, hfz22_1, hfz22_2, hfz22_3⟩ := froz4_ BK336.out
    go_wp2
    refine bodyPost_ret (results_ct rfl _ _ gb336 24 #[.int .i64 0, .int .u64 0, .string (⟨#[]⟩ : ByteArray), .int .i64 0] (0, 0) _ rfl (by (with_reducible repeat (first | apply kN_ | apply kD_ | apply kA_)); refine blk_put (cs := #[.int .i64 0, .int .u64 0, .string (⟨#[]⟩ : ByteArray), .int .i64 0]) ?_ 3 _ rfl; (with_reducible repeat (first | apply kN_ | apply kD_ | apply kA_)); refine blk_put (cs := #[.int .i64 0, .int .u64 0, .string (⟨#[]⟩ : ByteArray), .int .i64 0]) ?_ 2 _ rfl; (with_reducible repeat (first | apply kN_ | apply kD_ | apply kA_)); refine blk_put (cs := #[.int .i64 0, .int .u64 0, .string (⟨#[]⟩ : ByteArray), .int .i64 0]) ?_ 1 _ rfl; (with_reducible repeat (first | apply kN_ | apply kD_ | apply kA_)); refine blk_put (cs := #[.int .i64 0, .int .u64 0, .string (⟨#[]⟩ : ByteArray), .int .i64 0]) ?_ 0 _ rfl; (with_reducible repeat (first | apply kN_ | apply kD_ | apply kA_)); exact BK336.out) Tryd.underlying24 rfl (by kernel_rfl)) rfl ?_
    exact ⟨by first | rfl | (simp [errW_none, errW_some] <;> rfl) | (simp [*, errW_none, errW_some] <;> rfl), by repeat (first | (with_reducible first | exact HB.out | apply bA_ | apply bN_ | apply bD_ | refine bS_ ?_ GE334.out | refine bS_ ?_ GE335.out | refine bS_ ?_ GE336.out) | exact HB.out)⟩
   ·replace c19 := Bool.eq_false_iff.mpr c19
    subst c19
    have H1 : ((platformfwref08_Convert.f kj3 a2_0 a2_1 a2_2 a2_3 a1_0).bind fun bt337 => (if bt337.2.2.2.2 = 0 then (if a0 = 72 then (if a1_0 = 1 then (if a1_1 = bt337.2.1 then ((platformfwref08_Bool.f true).bind fun bt342 => (some (bt342.1, bt342.2.1, bt342.2.2.1, bt342.2.2.2, 0))) else ((platformfwref08_Bool.f false).bind fun bt346 => (some (bt346.1, bt346.2.1, bt346.2.2.1, bt346.2.2.2, 0)))) else ((platformfwref08_Bool.f (a1_2.toList == bt337.2.2.1.toList)).bind fun bt350 => (some (bt350.1, bt350.2.1, bt350.2.2.1, bt350.2.2.2, 0)))) else (if a0 = 73 then (if a1_0 = 1 then (if a1_1 < bt337.2.1 then ((platformfwref08_Bool.f true).bind fun bt354 => (some (bt354.1, bt354.2.1, bt354.2.2.1, bt354.2.2.2, 0))) else ((platformfwref08_Bool.f false).bind fun bt358 => (some (bt358.1, bt358.2.1, bt358.2.2.1, bt358.2.2.2, 0)))) else ((platformfwref08_Bool.f (Op.bytesLess a1_2.toList bt337.2.2.1.toList)).bind fun bt362 => (some (bt362.1, bt362.2.1, bt362.2.2.1, bt362.2.2.2, 0)))) else (if a0 = 74 then (if a1_0 = 1 then (if a1_1 > bt337.2.1 then ((platformfwref08_Bool.f true).bind fun bt366 => (some (bt366.1, bt366.2.1, bt366.2.2.1, bt366.2.2.2, 0))) else ((platformfwref08_Bool.f false).bind fun bt370 => (some (bt370.1, bt370.2.1, bt370.2.2.1, bt370.2.2.2, 0)))) else ((platformfwref08_Bool.f (Op.bytesLess bt337.2.2.1.toList a1_2.toList)).bind fun bt374 => (some (bt374.1, bt374.2.1, bt374.2.2.1, bt374.2.2.2, 0)))) else (if a1_0 = 1 then ((platformfwref08_little.f kj3 a1_1).bind fun t378 => ((platformfwref08_little.f kj3 bt337.2.1).bind fun t379 => (if t378.size + t379.size ≤ 9223372036854775807 then (some (3, 0, t378 ++ t379, 0, 0)) else (none)))) else (if a1_2.size + bt337.2.2.1.size ≤ 9223372036854775807 then ((platformfwref08_bounded.f (a1_2 ++ bt337.2.2.1)).bind fun bt380 => (if bt380.2 = 0 then (some (a1_0, 0, bt380.1, 0, 0)) else (some (0, 0, (⟨#[]⟩ : ByteArray), 0, bt380.2)))) else (none)))))) else (some (0, 0, (⟨#[]⟩ : ByteArray), 0, bt337.2.2.2.2)))) = some (r1, r2, r3, r4, r5) := by rw [if_neg (show ¬ (false = true) by decide)] at H; exact H
    clear H
    have H := H1
    clear H1
    replace H := Option.bind_eq_some_iff.mp H
    obtain ⟨⟨t337, t338, t339, t340, t341⟩, A230, H⟩ := H
    replace H : (if t341 = 0 then (if a0 = 72 then (if a1_0 = 1 then (if a1_1 = t338 then ((platformfwref08_Bool.f true).bind fun bt342 => (some (bt342.1, bt342.2.1, bt342.2.2.1, bt342.2.2.2, 0))) else ((platformfwref08_Bool.f false).bind fun bt346 => (some (bt346.1, bt346.2.1, bt346.2.2.1, bt346.2.2.2, 0)))) else ((platformfwref08_Bool.f (a1_2.toList == t339.toList)).bind fun bt350 => (some (bt350.1, bt350.2.1, bt350.2.2.1, bt350.2.2.2, 0)))) else (if a0 = 73 then (if a1_0 = 1 then (if a1_1 < t338 then ((platformfwref08_Bool.f true).bind fun bt354 => (some (bt354.1, bt354.2.1, bt354.2.2.1, bt354.2.2.2, 0))) else ((platformfwref08_Bool.f false).bind fun bt358 => (some (bt358.1, bt358.2.1, bt358.2.2.1, bt358.2.2.2, 0)))) else ((platformfwref08_Bool.f (Op.bytesLess a1_2.toList t339.toList)).bind fun bt362 => (some (bt362.1, bt362.2.1, bt362.2.2.1, bt362.2.2.2, 0)))) else (if a0 = 74 then (if a1_0 = 1 then (if a1_1 > t338 then ((platformfwref08_Bool.f true).bind fun bt366 => (some (bt366.1, bt366.2.1, bt366.2.2.1, bt366.2.2.2, 0))) else ((platformfwref08_Bool.f false).bind fun bt370 => (some (bt370.1, bt370.2.1, bt370.2.2.1, bt370.2.2.2, 0)))) else ((platformfwref08_Bool.f (Op.bytesLess t339.toList a1_2.toList)).bind fun bt374 => (some (bt374.1, bt374.2.1, bt374.2.2.1, bt374.2.2.2, 0)))) else (if a1_0 = 1 then ((platformfwref08_little.f kj3 a1_1).bind fun t378 => ((platformfwref08_little.f kj3 t338).bind fun t379 => (if t378.size + t379.size ≤ 9223372036854775807 then (some (3, 0, t378 ++ t379, 0, 0)) else (none)))) else (if a1_2.size + t339.size ≤ 9223372036854775807 then ((platformfwref08_bounded.f (a1_2 ++ t339)).bind fun bt380 => (if bt380.2 = 0 then (some (a1_0, 0, bt380.1, 0, 0)) else (some (0, 0, (⟨#[]⟩ : ByteArray), 0, bt380.2)))) else (none)))))) else (some (0, 0, (⟨#[]⟩ : ByteArray), 0, t341))) = some (r1, r2, r3, r4, r5) := H
    have A23 := Aside0.mk A230
    clear A230
    by_cases c24 : t341 = 0
    ·rw [if_pos c24] at H
     have c24b0 : (t341 == 0) = true := beq_iff_eq.mpr c24
     have c24b1 : (t341 != 0) = false := bne_eq_false_iff_eq.mpr c24
     clear c24
     by_cases c25 : a0 = 72
     ·rw [if_pos c25] at H
      have c25b0 : (a0 == 72) = true := beq_iff_eq.mpr c25
      have c25b1 : (a0 != 72) = false := bne_eq_false_iff_eq.mpr c25
      clear c25
      by_cases c26 : a1_0 = 1
      ·rw [if_pos c26] at H
       have c26b0 : (a1_0 == 1) = true := beq_iff_eq.mpr c26
       have c26b1 : (a1_0 != 1) = false := bne_eq_false_iff_eq.mpr c26
       clear c26
       by_cases c27 : a1_1 = t338
       ·rw [if_pos c27] at H
        have c27b0 : (a1_1 == t338) = true := beq_iff_eq.mpr c27
        have c27b1 : (a1_1 != t338) = false := bne_eq_false_iff_eq.mpr c27
        clear c27
        replace H := Option.bind_eq_some_iff.mp H
        obtain ⟨⟨t342, t343, t344, t345⟩, A280, H⟩ := H
        replace H : (some (t342, t343, t344, t345, 0)) = some (r1, r2, r3, r4, r5) := H
        have A28 := Aside0.mk A280
        clear A280
        simp only [Option.some.injEq, Prod.mk.injEq] at H
        obtain ⟨rfl, rfl, rfl, rfl, rfl⟩ := H
        have hnb29 := NB335_334.out
        have hnc29 := NB334_335.out
        have hnb30 := NB335_336.out
        have hnc30 := NB336_335.out
        obtain ⟨hcz31_0, hcz31_1, hcz31_2, hcz31_3⟩ := cells4_ BK335.out
        obtain ⟨hfz31_0, hfz31_1, hfz31_2, hfz31_3⟩ := froz4_ BK335.out
        have hnb32 := NB334_336.out
        have hnc32 := NB336_334.out
        obtain ⟨hcz33_0, hcz33_1, hcz33_2, hcz33_3⟩ := cells4_ BK334.out
        obtain ⟨hfz33_0, hfz33_1, hfz33_2, hfz33_3⟩ := froz4_ BK334.out
        go_wp2_with (first | ((with_reducible refine gate_callee (f := 17) rfl ?_); refine goesL_ (some 29) rfl rfl Tryd.func17 (by kernel_rfl) rfl #[.agg #[.int .i64 a2_0, .int .u64 a2_1, .string a2_2, .int .i64 a2_3], .int .i64 a1_0] rfl (by (try simp only [List.map_toArray, List.map_cons, List.map_nil]); first | done | rfl | (simp only [List.length_drop, List.length_take]; rfl)) ?_; (with_reducible refine (platformfwref08_Convert.calls kj3 a2_0 a2_1 a2_2 a2_3 a1_0 t337 t338 t339 t340 t341 _ A23.out).mono ?_); rintro e w34 ⟨rfl, hb⟩; refine ⟨_, rfl, ?_⟩; have n0_ := Aside0.mk (blk_below (g := gb334) (o := .cells #[.int .i64 a1_0, .int .u64 a1_1, .string a1_2, .int .i64 a1_3] 24 (0, 0)) (by (with_reducible repeat (first | apply kN_ | apply kD_ | apply kA_)); exact BK334.out) hb); have n1_ := Aside0.mk (blk_below (g := gb335) (o := .cells #[.int .i64 a2_0, .int .u64 a2_1, .string a2_2, .int .i64 a2_3] 24 (0, 0)) (by (with_reducible repeat (first | apply kN_ | apply kD_ | apply kA_)); exact BK335.out) hb); have n2_ := Aside0.mk (blk_below (g := gb336) (o := .cells #[.int .i64 0, .int .u64 0, .string (⟨#[]⟩ : ByteArray), .int .i64 0] 24 (0, 0)) (by (with_reducible repeat (first | apply kN_ | apply kD_ | apply kA_)); exact BK336.out) hb); have n3_ := Aside0.mk (below_step (by repeat (first | (with_reducible first | exact HB.out | apply bA_ | apply bN_ | apply bD_ | refine bS_ ?_ GE334.out | refine bS_ ?_ GE335.out | refine bS_ ?_ GE336.out) | exact HB.out)) hb); clear BK334; clear BK335; clear BK336; clear HB; have BK334 := n0_; have BK335 := n1_; have BK336 := n2_; have HB := n3_; clear n0_ n1_ n2_ n3_; (try clear hb); (try clear hb2); (try clear hk); (try clear hi); obtain ⟨hcz35_0, hcz35_1, hcz35_2, hcz35_3⟩ := cells4_ BK335.out; obtain ⟨hfz35_0, hfz35_1, hfz35_2, hfz35_3⟩ := froz4_ BK335.out; obtain ⟨hcz36_0, hcz36_1, hcz36_2, hcz36_3⟩ := cells4_ BK334.out; obtain ⟨hfz36_0, hfz36_1, hfz36_2, hfz36_3⟩ := froz4_ BK334.out) | ((with_reducible refine gate_callee (f := 14) rfl ?_); refine goesL_ (some 61) rfl rfl Tryd.func14 (by kernel_rfl) rfl #[.bool true] rfl (by (try simp only [List.map_toArray, List.map_cons, List.map_nil]); first | done | rfl | (simp only [List.length_drop, List.length_take]; rfl)) ?_; (with_reducible refine (platformfwref08_Bool.calls true t342 t343 t344 t345 _ A28.out).mono ?_); rintro e w37 ⟨rfl, hb⟩; refine ⟨_, rfl, ?_⟩; have n0_ := Aside0.mk (blk_below (g := gb334) (o := .cells #[.int .i64 a1_0, .int .u64 a1_1, .string a1_2, .int .i64 a1_3] 24 (0, 0)) (by (with_reducible repeat (first | apply kN_ | apply kD_ | apply kA_)); refine blk_far ?_ NB334_335.out _; (with_reducible repeat (first | apply kN_ | apply kD_ | apply kA_)); refine blk_far ?_ NB334_335.out _; (with_reducible repeat (first | apply kN_ | apply kD_ | apply kA_)); refine blk_far ?_ NB334_335.out _; (with_reducible repeat (first | apply kN_ | apply kD_ | apply kA_)); refine blk_far ?_ NB334_335.out _; (with_reducible repeat (first | apply kN_ | apply kD_ | apply kA_)); exact BK334.out) hb); have n1_ := Aside0.mk (blk_below (g := gb335) (o := .cells #[.int .i64 t337, .int .u64 t338, .string t339, .int .i64 t340] 24 (0, 0)) (by (with_reducible repeat (first | apply kN_ | apply kD_ | apply kA_)); refine blk_put (cs := #[.int .i64 t337, .int .u64 t338, .string t339, .int .i64 a2_3]) ?_ 3 _ rfl; (with_reducible repeat (first | apply kN_ | apply kD_ | apply kA_)); refine blk_put (cs := #[.int .i64 t337, .int .u64 t338, .string a2_2, .int .i64 a2_3]) ?_ 2 _ rfl; (with_reducible repeat (first | apply kN_ | apply kD_ | apply kA_)); refine blk_put (cs := #[.int .i64 t337, .int .u64 a2_1, .string a2_2, .int .i64 a2_3]) ?_ 1 _ rfl; (with_reducible repeat (first | apply kN_ | apply kD_ | apply kA_)); refine blk_put (cs := #[.int .i64 a2_0, .int .u64 a2_1, .string a2_2, .int .i64 a2_3]) ?_ 0 _ rfl; (with_reducible repeat (first | apply kN_ | apply kD_ | apply kA_)); exact BK335.out) hb); have n2_ := Aside0.mk (blk_below (g := gb336) (o := .cells #[.int .i64 0, .int .u64 0, .string (⟨#[]⟩ : ByteArray), .int .i64 0] 24 (0, 0)) (by (with_reducible repeat (first | apply kN_ | apply kD_ | apply kA_)); refine blk_far ?_ NB336_335.out _; (with_reducible repeat (first | apply kN_ | apply kD_ | apply kA_)); refine blk_far ?_ NB336_335.out _; (with_reducible repeat (first | apply kN_ | apply kD_ | apply kA_)); refine blk_far ?_ NB336_335.out _; (with_reducible repeat (first | apply kN_ | apply kD_ | apply kA_)); refine blk_far ?_ NB336_335.out _; (with_reducible repeat (first | apply kN_ | apply kD_ | apply kA_)); exact BK336.out) hb); have n3_ := Aside0.mk (below_step (by repeat (first | (with_reducible first | exact HB.out | apply bA_ | apply bN_ | apply bD_ | refine bS_ ?_ GE334.out | refine bS_ ?_ GE335.out | refine bS_ ?_ GE336.out) | exact HB.out)) hb); clear BK334; clear BK335; clear BK336; clear HB; have BK334 := n0_; have BK335 := n1_; have BK336 := n2_; have HB := n3_; clear n0_ n1_ n2_ n3_; (try clear hb); (try clear hb2); (try clear hk); (try clear hi); obtain ⟨hcz38_0, hcz38_1, hcz38_2, hcz38_3⟩ := cells4_ BK336.out; obtain ⟨hfz38_0, hfz38_1, hfz38_2, hfz38_3⟩ := froz4_ BK336.out))
        refine bodyPost_ret (results_ct rfl _ _ gb336 24 #[.int .i64 t342, .int .u64 t343, .string t344, .int .i64 t345] (0, 0) _ rfl (by (with_reducible repeat (first | apply kN_ | apply kD_ | apply kA_)); refine blk_put (cs := #[.int .i64 t342, .int .u64 t343, .string t344, .int .i64 0]) ?_ 3 _ rfl; (with_reducible repeat (first | apply kN_ | apply kD_ | apply kA_)); refine blk_put (cs := #[.int .i64 t342, .int .u64 t343, .string (⟨#[]⟩ : ByteArray), .int .i64 0]) ?_ 2 _ rfl; (with_reducible repeat (first | apply kN_ | apply kD_ | apply kA_)); refine blk_put (cs := #[.int .i64 t342, .int .u64 0, .string (⟨#[]⟩ : ByteArray), .int .i64 0]) ?_ 1 _ rfl; (with_reducible repeat (first | apply kN_ | apply kD_ | apply kA_)); refine blk_put (cs := #[.int .i64 0, .int .u64 0, .string (⟨#[]⟩ : ByteArray), .int .i64 0]) ?_ 0 _ rfl; (with_reducible repeat (first | apply kN_ | apply kD_ | apply kA_)); exact BK336.out) Tryd.underlying24 rfl (by kernel_rfl)) rfl ?_
        exact ⟨by first | rfl | (simp [errW_none, errW_some] <;> rfl) | (simp [*, errW_none, errW_some] <;> rfl), by repeat (first | (with_reducible first | exact HB.out | apply bA_ | apply bN_ | apply bD_ | refine bS_ ?_ GE334.out | refine bS_ ?_ GE335.out | refine bS_ ?_ GE336.out) | exact HB.out)⟩
       ·rw [if_neg c27] at H
        have c27b0 : (a1_1 == t338) = false := beq_eq_false_iff_ne.mpr c27
        have c27b1 : (a1_1 != t338) = true := bne_iff_ne.mpr c27
        replace H := Option.bind_eq_some_iff.mp H
        obtain ⟨⟨t346, t347, t348, t349⟩, A390, H⟩ := H
        replace H : (some (t346, t347, t348, t349, 0)) = some (r1, r2, r3, r4, r5) := H
        have A39 := Aside0.mk A390
        clear A390
        simp only [Option.some.injEq, Prod.mk.injEq] at H
        obtain ⟨rfl, rfl, rfl, rfl, rfl⟩ := H
        have hnb40 := NB335_334.out
        have hnc40 := NB334_335.out
        have hnb41 := NB335_336.out
        have hnc41 := NB336_335.out
        obtain ⟨hcz42_0, hcz42_1, hcz42_2, hcz42_3⟩ := cells4_ BK335.out
        obtain ⟨hfz42_0, hfz42_1, hfz42_2, hfz42_3⟩ := froz4_ BK335.out
        have hnb43 := NB334_336.out
        have hnc43 := NB336_334.out
        obtain ⟨hcz44_0, hcz44_1, hcz44_2, hcz44_3⟩ := cells4_ BK334.out
        obtain ⟨hfz44_0, hfz44_1, hfz44_2, hfz44_3⟩ := froz4_ BK334.out
        go_wp2_with (first | ((with_reducible refine gate_callee (f := 17) rfl ?_); refine goesL_ (some 29) rfl rfl Tryd.func17 (by kernel_rfl) rfl #[.agg #[.int .i64 a2_0, .int .u64 a2_1, .string a2_2, .int .i64 a2_3], .int .i64 a1_0] rfl (by (try simp only [List.map_toArray, List.map_cons, List.map_nil]); first | done | rfl | (simp only [List.length_drop, List.length_take]; rfl)) ?_; (with_reducible refine (platformfwref08_Convert.calls kj3 a2_0 a2_1 a2_2 a2_3 a1_0 t337 t338 t339 t340 t341 _ A23.out).mono ?_); rintro e w45 ⟨rfl, hb⟩; refine ⟨_, rfl, ?_⟩; have n0_ := Aside0.mk (blk_below (g := gb334) (o := .cells #[.int .i64 a1_0, .int .u64 a1_1, .string a1_2, .int .i64 a1_3] 24 (0, 0)) (by (with_reducible repeat (first | apply kN_ | apply kD_ | apply kA_)); exact BK334.out) hb); have n1_ := Aside0.mk (blk_below (g := gb335) (o := .cells #[.int .i64 a2_0, .int .u64 a2_1, .string a2_2, .int .i64 a2_3] 24 (0, 0)) (by (with_reducible repeat (first | apply kN_ | apply kD_ | apply kA_)); exact BK335.out) hb); have n2_ := Aside0.mk (blk_below (g := gb336) (o := .cells #[.int .i64 0, .int .u64 0, .string (⟨#[]⟩ : ByteArray), .int .i64 0] 24 (0, 0)) (by (with_reducible repeat (first | apply kN_ | apply kD_ | apply kA_)); exact BK336.out) hb); have n3_ := Aside0.mk (below_step (by repeat (first | (with_reducible first | exact HB.out | apply bA_ | apply bN_ | apply bD_ | refine bS_ ?_ GE334.out | refine bS_ ?_ GE335.out | refine bS_ ?_ GE336.out) | exact HB.out)) hb); clear BK334; clear BK335; clear BK336; clear HB; have BK334 := n0_; have BK335 := n1_; have BK336 := n2_; have HB := n3_; clear n0_ n1_ n2_ n3_; (try clear hb); (try clear hb2); (try clear hk); (try clear hi); obtain ⟨hcz46_0, hcz46_1, hcz46_2, hcz46_3⟩ := cells4_ BK335.out; obtain ⟨hfz46_0, hfz46_1, hfz46_2, hfz46_3⟩ := froz4_ BK335.out; obtain ⟨hcz47_0, hcz47_1, hcz47_2, hcz47_3⟩ := cells4_ BK334.out; obtain ⟨hfz47_0, hfz47_1, hfz47_2, hfz47_3⟩ := froz4_ BK334.out) | ((with_reducible refine gate_callee (f := 14) rfl ?_); refine goesL_ (some 61) rfl rfl Tryd.func14 (by kernel_rfl) rfl #[.bool false] rfl (by (try simp only [List.map_toArray, List.map_cons, List.map_nil]); first | done | rfl | (simp only [List.length_drop, List.length_take]; rfl)) ?_; (with_reducible refine (platformfwref08_Bool.calls false t346 t347 t348 t349 _ A39.out).mono ?_); rintro e w48 ⟨rfl, hb⟩; refine ⟨_, rfl, ?_⟩; have n0_ := Aside0.mk (blk_below (g := gb334) (o := .cells #[.int .i64 a1_0, .int .u64 a1_1, .string a1_2, .int .i64 a1_3] 24 (0, 0)) (by (with_reducible repeat (first | apply kN_ | apply kD_ | apply kA_)); refine blk_far ?_ NB334_335.out _; (with_reducible repeat (first | apply kN_ | apply kD_ | apply kA_)); refine blk_far ?_ NB334_335.out _; (with_reducible repeat (first | apply kN_ | apply kD_ | apply kA_)); refine blk_far ?_ NB334_335.out _; (with_reducible repeat (first | apply kN_ | apply kD_ | apply kA_)); refine blk_far ?_ NB334_335.out _; (with_reducible repeat (first | apply kN_ | apply kD_ | apply kA_)); exact BK334.out) hb); have n1_ := Aside0.mk (blk_below (g := gb335) (o := .cells #[.int .i64 t337, .int .u64 t338, .string t339, .int .i64 t340] 24 (0, 0)) (by (with_reducible repeat (first | apply kN_ | apply kD_ | apply kA_)); refine blk_put (cs := #[.int .i64 t337, .int .u64 t338, .string t339, .int .i64 a2_3]) ?_ 3 _ rfl; (with_reducible repeat (first | apply kN_ | apply kD_ | apply kA_)); refine blk_put (cs := #[.int .i64 t337, .int .u64 t338, .string a2_2, .int .i64 a2_3]) ?_ 2 _ rfl; (with_reducible repeat (first | apply kN_ | apply kD_ | apply kA_)); refine blk_put (cs := #[.int .i64 t337, .int .u64 a2_1, .string a2_2, .int .i64 a2_3]) ?_ 1 _ rfl; (with_reducible repeat (first | apply kN_ | apply kD_ | apply kA_)); refine blk_put (cs := #[.int .i64 a2_0, .int .u64 a2_1, .string a2_2, .int .i64 a2_3]) ?_ 0 _ rfl; (with_reducible repeat (first | apply kN_ | apply kD_ | apply kA_)); exact BK335.out) hb); have n2_ := Aside0.mk (blk_below (g := gb336) (o := .cells #[.int .i64 0, .int .u64 0, .string (⟨#[]⟩ : ByteArray), .int .i64 0] 24 (0, 0)) (by (with_reducible repeat (first | apply kN_ | apply kD_ | apply kA_)); refine blk_far ?_ NB336_335.out _; (with_reducible repeat (first | apply kN_ | apply kD_ | apply kA_)); refine blk_far ?_ NB336_335.out _; (with_reducible repeat (first | apply kN_ | apply kD_ | apply kA_)); refine blk_far ?_ NB336_335.out _; (with_reducible repeat (first | apply kN_ | apply kD_ | apply kA_)); refine blk_far ?_ NB336_335.out _; (with_reducible repeat (first | apply kN_ | apply kD_ | apply kA_)); exact BK336.out) hb); have n3_ := Aside0.mk (below_step (by repeat (first | (with_reducible first | exact HB.out | apply bA_ | apply bN_ | apply bD_ | refine bS_ ?_ GE334.out | refine bS_ ?_ GE335.out | refine bS_ ?_ GE336.out) | exact HB.out)) hb); clear BK334; clear BK335; clear BK336; clear HB; have BK334 := n0_; have BK335 := n1_; have BK336 := n2_; have HB := n3_; clear n0_ n1_ n2_ n3_; (try clear hb); (try clear hb2); (try clear hk); (try clear hi); obtain ⟨hcz49_0, hcz49_1, hcz49_2, hcz49_3⟩ := cells4_ BK336.out; obtain ⟨hfz49_0, hfz49_1, hfz49_2, hfz49_3⟩ := froz4_ BK336.out))
        refine bodyPost_ret (results_ct rfl _ _ gb336 24 #[.int .i64 t346, .int .u64 t347, .string t348, .int .i64 t349] (0, 0) _ rfl (by (with_reducible repeat (first | apply kN_ | apply kD_ | apply kA_)); refine blk_put (cs := #[.int .i64 t346, .int .u64 t347, .string t348, .int .i64 0]) ?_ 3 _ rfl; (with_reducible repeat (first | apply kN_ | apply kD_ | apply kA_)); refine blk_put (cs := #[.int .i64 t346, .int .u64 t347, .string (⟨#[]⟩ : ByteArray), .int .i64 0]) ?_ 2 _ rfl; (with_reducible repeat (first | apply kN_ | apply kD_ | apply kA_)); refine blk_put (cs := #[.int .i64 t346, .int .u64 0, .string (⟨#[]⟩ : ByteArray), .int .i64 0]) ?_ 1 _ rfl; (with_reducible repeat (first | apply kN_ | apply kD_ | apply kA_)); refine blk_put (cs := #[.int .i64 0, .int .u64 0, .string (⟨#[]⟩ : ByteArray), .int .i64 0]) ?_ 0 _ rfl; (with_reducible repeat (first | apply kN_ | apply kD_ | apply kA_)); exact BK336.out) Tryd.underlying24 rfl (by kernel_rfl)) rfl ?_
        exact ⟨by first | rfl | (simp [errW_none, errW_some] <;> rfl) | (simp [*, errW_none, errW_some] <;> rfl), by repeat (first | (with_reducible first | exact HB.out | apply bA_ | apply bN_ | apply bD_ | refine bS_ ?_ GE334.out | refine bS_ ?_ GE335.out | refine bS_ ?_ GE336.out) | exact HB.out)⟩
      ·rw [if_neg c26] at H
       have c26b0 : (a1_0 == 1) = false := beq_eq_false_iff_ne.mpr c26
       have c26b1 : (a1_0 != 1) = true := bne_iff_ne.mpr c26
       replace H := Option.bind_eq_some_iff.mp H
       obtain ⟨⟨t350, t351, t352, t353⟩, A500, H⟩ := H
       replace H : (some (t350, t351, t352, t353, 0)) = some (r1, r2, r3, r4, r5) := H
       have A50 := Aside0.mk A500
       clear A500
       simp only [Option.some.injEq, Prod.mk.injEq] at H
       obtain ⟨rfl, rfl, rfl, rfl, rfl⟩ := H
       have hnb51 := NB335_334.out
       have hnc51 := NB334_335.out
       have hnb52 := NB335_336.out
       have hnc52 := NB336_335.out
       obtain ⟨hcz53_0, hcz53_1, hcz53_2, hcz53_3⟩ := cells4_ BK335.out
       obtain ⟨hfz53_0, hfz53_1, hfz53_2, hfz53_3⟩ := froz4_ BK335.out
       have hnb54 := NB334_336.out
       have hnc54 := NB336_334.out
       obtain ⟨hcz55_0, hcz55_1, hcz55_2, hcz55_3⟩ := cells4_ BK334.out
       obtain ⟨hfz55_0, hfz55_1, hfz55_2, hfz55_3⟩ := froz4_ BK334.out
       go_wp2_with (first | ((with_reducible refine gate_callee (f := 17) rfl ?_); refine goesL_ (some 29) rfl rfl Tryd.func17 (by kernel_rfl) rfl #[.agg #[.int .i64 a2_0, .int .u64 a2_1, .string a2_2, .int .i64 a2_3], .int .i64 a1_0] rfl (by (try simp only [List.map_toArray, List.map_cons, List.map_nil]); first | done | rfl | (simp only [List.length_drop, List.length_take]; rfl)) ?_; (with_reducible refine (platformfwref08_Convert.calls kj3 a2_0 a2_1 a2_2 a2_3 a1_0 t337 t338 t339 t340 t341 _ A23.out).mono ?_); rintro e w56 ⟨rfl, hb⟩; refine ⟨_, rfl, ?_⟩; have n0_ := Aside0.mk (blk_below (g := gb334) (o := .cells #[.int .i64 a1_0, .int .u64 a1_1, .string a1_2, .int .i64 a1_3] 24 (0, 0)) (by (with_reducible repeat (first | apply kN_ | apply kD_ | apply kA_)); exact BK334.out) hb); have n1_ := Aside0.mk (blk_below (g := gb335) (o := .cells #[.int .i64 a2_0, .int .u64 a2_1, .string a2_2, .int .i64 a2_3] 24 (0, 0)) (by (with_reducible repeat (first | apply kN_ | apply kD_ | apply kA_)); exact BK335.out) hb); have n2_ := Aside0.mk (blk_below (g := gb336) (o := .cells #[.int .i64 0, .int .u64 0, .string (⟨#[]⟩ : ByteArray), .int .i64 0] 24 (0, 0)) (by (with_reducible repeat (first | apply kN_ | apply kD_ | apply kA_)); exact BK336.out) hb); have n3_ := Aside0.mk (below_step (by repeat (first | (with_reducible first | exact HB.out | apply bA_ | apply bN_ | apply bD_ | refine bS_ ?_ GE334.out | refine bS_ ?_ GE335.out | refine bS_ ?_ GE336.out) | exact HB.out)) hb); clear BK334; clear BK335; clear BK336; clear HB; have BK334 := n0_; have BK335 := n1_; have BK336 := n2_; have HB := n3_; clear n0_ n1_ n2_ n3_; (try clear hb); (try clear hb2); (try clear hk); (try clear hi); obtain ⟨hcz57_0, hcz57_1, hcz57_2, hcz57_3⟩ := cells4_ BK335.out; obtain ⟨hfz57_0, hfz57_1, hfz57_2, hfz57_3⟩ := froz4_ BK335.out; obtain ⟨hcz58_0, hcz58_1, hcz58_2, hcz58_3⟩ := cells4_ BK334.out; obtain ⟨hfz58_0, hfz58_1, hfz58_2, hfz58_3⟩ := froz4_ BK334.out) | ((with_reducible refine gate_callee (f := 14) rfl ?_); refine goesL_ (some 61) rfl rfl Tryd.func14 (by kernel_rfl) rfl #[.bool (a1_2.toList == t339.toList)] rfl (by (try simp only [List.map_toArray, List.map_cons, List.map_nil]); first | done | rfl | (simp only [List.length_drop, List.length_take]; rfl)) ?_; (with_reducible refine (platformfwref08_Bool.calls (a1_2.toList == t339.toList) t350 t351 t352 t353 _ A50.out).mono ?_); rintro e w59 ⟨rfl, hb⟩; refine ⟨_, rfl, ?_⟩; have n0_ := Aside0.mk (blk_below (g := gb334) (o := .cells #[.int .i64 a1_0, .int .u64 a1_1, .string a1_2, .int .i64 a1_3] 24 (0, 0)) (by (with_reducible repeat (first | apply kN_ | apply kD_ | apply kA_)); refine blk_far ?_ NB334_335.out _; (with_reducible repeat (first | apply kN_ | apply kD_ | apply kA_)); refine blk_far ?_ NB334_335.out _; (with_reducible repeat (first | apply kN_ | apply kD_ | apply kA_)); refine blk_far ?_ NB334_335.out _; (with_reducible repeat (first | apply kN_ | apply kD_ | apply kA_)); refine blk_far ?_ NB334_335.out _; (with_reducible repeat (first | apply kN_ | apply kD_ | apply kA_)); exact BK334.out) hb); have n1_ := Aside0.mk (blk_below (g := gb335) (o := .cells #[.int .i64 t337, .int .u64 t338, .string t339, .int .i64 t340] 24 (0, 0)) (by (with_reducible repeat (first | apply kN_ | apply kD_ | apply kA_)); refine blk_put (cs := #[.int .i64 t337, .int .u64 t338, .string t339, .int .i64 a2_3]) ?_ 3 _ rfl; (with_reducible repeat (first | apply kN_ | apply kD_ | apply kA_)); refine blk_put (cs := #[.int .i64 t337, .int .u64 t338, .string a2_2, .int .i64 a2_3]) ?_ 2 _ rfl; (with_reducible repeat (first | apply kN_ | apply kD_ | apply kA_)); refine blk_put (cs := #[.int .i64 t337, .int .u64 a2_1, .string a2_2, .int .i64 a2_3]) ?_ 1 _ rfl; (with_reducible repeat (first | apply kN_ | apply kD_ | apply kA_)); refine blk_put (cs := #[.int .i64 a2_0, .int .u64 a2_1, .string a2_2, .int .i64 a2_3]) ?_ 0 _ rfl; (with_reducible repeat (first | apply kN_ | apply kD_ | apply kA_)); exact BK335.out) hb); have n2_ := Aside0.mk (blk_below (g := gb336) (o := .cells #[.int .i64 0, .int .u64 0, .string (⟨#[]⟩ : ByteArray), .int .i64 0] 24 (0, 0)) (by (with_reducible repeat (first | apply kN_ | apply kD_ | apply kA_)); refine blk_far ?_ NB336_335.out _; (with_reducible repeat (first | apply kN_ | apply kD_ | apply kA_)); refine blk_far ?_ NB336_335.out _; (with_reducible repeat (first | apply kN_ | apply kD_ | apply kA_)); refine blk_far ?_ NB336_335.out _; (with_reducible repeat (first | apply kN_ | apply kD_ | apply kA_)); refine blk_far ?_ NB336_335.out _; (with_reducible repeat (first | apply kN_ | apply kD_ | apply kA_)); exact BK336.out) hb); have n3_ := Aside0.mk (below_step (by repeat (first | (with_reducible first | exact HB.out | apply bA_ | apply bN_ | apply bD_ | refine bS_ ?_ GE334.out | refine bS_ ?_ GE335.out | refine bS_ ?_ GE336.out) | exact HB.out)) hb); clear BK334; clear BK335; clear BK336; clear HB; have BK334 := n0_; have BK335 := n1_; have BK336 := n2_; have HB := n3_; clear n0_ n1_ n2_ n3_; (try clear hb); (try clear hb2); (try clear hk); (try clear hi); obtain ⟨hcz60_0, hcz60_1, hcz60_2, hcz60_3⟩ := cells4_ BK336.out; obtain ⟨hfz60_0, hfz60_1, hfz60_2, hfz60_3⟩ := froz4_ BK336.out))
       refine bodyPost_ret (results_ct rfl _ _ gb336 24 #[.int .i64 t350, .int .u64 t351, .string t352, .int .i64 t353] (0, 0) _ rfl (by (with_reducible repeat (first | apply kN_ | apply kD_ | apply kA_)); refine blk_put (cs := #[.int .i64 t350, .int .u64 t351, .string t352, .int .i64 0]) ?_ 3 _ rfl; (with_reducible repeat (first | apply kN_ | apply kD_ | apply kA_)); refine blk_put (cs := #[.int .i64 t350, .int .u64 t351, .string (⟨#[]⟩ : ByteArray), .int .i64 0]) ?_ 2 _ rfl; (with_reducible repeat (first | apply kN_ | apply kD_ | apply kA_)); refine blk_put (cs := #[.int .i64 t350, .int .u64 0, .string (⟨#[]⟩ : ByteArray), .int .i64 0]) ?_ 1 _ rfl; (with_reducible repeat (first | apply kN_ | apply kD_ | apply kA_)); refine blk_put (cs := #[.int .i64 0, .int .u64 0, .string (⟨#[]⟩ : ByteArray), .int .i64 0]) ?_ 0 _ rfl; (with_reducible repeat (first | apply kN_ | apply kD_ | apply kA_)); exact BK336.out) Tryd.underlying24 rfl (by kernel_rfl)) rfl ?_
       exact ⟨by first | rfl | (simp [errW_none, errW_some] <;> rfl) | (simp [*, errW_none, errW_some] <;> rfl), by repeat (first | (with_reducible first | exact HB.out | apply bA_ | apply bN_ | apply bD_ | refine bS_ ?_ GE334.out | refine bS_ ?_ GE335.out | refine bS_ ?_ GE336.out) | exact HB.out)⟩
     ·rw [if_neg c25] at H
      have c25b0 : (a0 == 72) = false := beq_eq_false_iff_ne.mpr c25
      have c25b1 : (a0 != 72) = true := bne_iff_ne.mpr c25
      by_cases c61 : a0 = 73
      ·rw [if_pos c61] at H
       have c61b0 : (a0 == 73) = true := beq_iff_eq.mpr c61
       have c61b1 : (a0 != 73) = false := bne_eq_false_iff_eq.mpr c61
       clear c61
       by_cases c62 : a1_0 = 1
       ·rw [if_pos c62] at H
        have c62b0 : (a1_0 == 1) = true := beq_iff_eq.mpr c62
        have c62b1 : (a1_0 != 1) = false := bne_eq_false_iff_eq.mpr c62
        clear c62
        by_cases c63 : a1_1 < t338
        ·rw [if_pos c63] at H
         have c63b0 : decide (a1_1 < t338) = true := decide_eq_true c63
         clear c63
         replace H := Option.bind_eq_some_iff.mp H
         obtain ⟨⟨t354, t355, t356, t357⟩, A640, H⟩ := H
         replace H : (some (t354, t355, t356, t357, 0)) = some (r1, r2, r3, r4, r5) := H
         have A64 := Aside0.mk A640
         clear A640
         simp only [Option.some.injEq, Prod.mk.injEq] at H
         obtain ⟨rfl, rfl, rfl, rfl, rfl⟩ := H
         have hnb65 := NB335_334.out
         have hnc65 := NB334_335.out
         have hnb66 := NB335_336.out
         have hnc66 := NB336_335.out
         obtain ⟨hcz67_0, hcz67_1, hcz67_2, hcz67_3⟩ := cells4_ BK335.out
         obtain ⟨hfz67_0, hfz67_1, hfz67_2, hfz67_3⟩ := froz4_ BK335.out
         have hnb68 := NB334_336.out
         have hnc68 := NB336_334.out
         obtain ⟨hcz69_0, hcz69_1, hcz69_2, hcz69_3⟩ := cells4_ BK334.out
         obtain ⟨hfz69_0, hfz69_1, hfz69_2, hfz69_3⟩ := froz4_ BK334.out
         go_wp2_with (first | ((with_reducible refine gate_callee (f := 17) rfl ?_); refine goesL_ (some 29) rfl rfl Tryd.func17 (by kernel_rfl) rfl #[.agg #[.int .i64 a2_0, .int .u64 a2_1, .string a2_2, .int .i64 a2_3], .int .i64 a1_0] rfl (by (try simp only [List.map_toArray, List.map_cons, List.map_nil]); first | done | rfl | (simp only [List.length_drop, List.length_take]; rfl)) ?_; (with_reducible refine (platformfwref08_Convert.calls kj3 a2_0 a2_1 a2_2 a2_3 a1_0 t337 t338 t339 t340 t341 _ A23.out).mono ?_); rintro e w70 ⟨rfl, hb⟩; refine ⟨_, rfl, ?_⟩; have n0_ := Aside0.mk (blk_below (g := gb334) (o := .cells #[.int .i64 a1_0, .int .u64 a1_1, .string a1_2, .int .i64 a1_3] 24 (0, 0)) (by (with_reducible repeat (first | apply kN_ | apply kD_ | apply kA_)); exact BK334.out) hb); have n1_ := Aside0.mk (blk_below (g := gb335) (o := .cells #[.int .i64 a2_0, .int .u64 a2_1, .string a2_2, .int .i64 a2_3] 24 (0, 0)) (by (with_reducible repeat (first | apply kN_ | apply kD_ | apply kA_)); exact BK335.out) hb); have n2_ := Aside0.mk (blk_below (g := gb336) (o := .cells #[.int .i64 0, .int .u64 0, .string (⟨#[]⟩ : ByteArray), .int .i64 0] 24 (0, 0)) (by (with_reducible repeat (first | apply kN_ | apply kD_ | apply kA_)); exact BK336.out) hb); have n3_ := Aside0.mk (below_step (by repeat (first | (with_reducible first | exact HB.out | apply bA_ | apply bN_ | apply bD_ | refine bS_ ?_ GE334.out | refine bS_ ?_ GE335.out | refine bS_ ?_ GE336.out) | exact HB.out)) hb); clear BK334; clear BK335; clear BK336; clear HB; have BK334 := n0_; have BK335 := n1_; have BK336 := n2_; have HB := n3_; clear n0_ n1_ n2_ n3_; (try clear hb); (try clear hb2); (try clear hk); (try clear hi); obtain ⟨hcz71_0, hcz71_1, hcz71_2, hcz71_3⟩ := cells4_ BK335.out; obtain ⟨hfz71_0, hfz71_1, hfz71_2, hfz71_3⟩ := froz4_ BK335.out; obtain ⟨hcz72_0, hcz72_1, hcz72_2, hcz72_3⟩ := cells4_ BK334.out; obtain ⟨hfz72_0, hfz72_1, hfz72_2, hfz72_3⟩ := froz4_ BK334.out) | ((with_reducible refine gate_callee (f := 14) rfl ?_); refine goesL_ (some 83) rfl rfl Tryd.func14 (by kernel_rfl) rfl #[.bool true] rfl (by (try simp only [List.map_toArray, List.map_cons, List.map_nil]); first | done | rfl | (simp only [List.length_drop, List.length_take]; rfl)) ?_; (with_reducible refine (platformfwref08_Bool.calls true t354 t355 t356 t357 _ A64.out).mono ?_); rintro e w73 ⟨rfl, hb⟩; refine ⟨_, rfl, ?_⟩; have n0_ := Aside0.mk (blk_below (g := gb334) (o := .cells #[.int .i64 a1_0, .int .u64 a1_1, .string a1_2, .int .i64 a1_3] 24 (0, 0)) (by (with_reducible repeat (first | apply kN_ | apply kD_ | apply kA_)); refine blk_far ?_ NB334_335.out _; (with_reducible repeat (first | apply kN_ | apply kD_ | apply kA_)); refine blk_far ?_ NB334_335.out _; (with_reducible repeat (first | apply kN_ | apply kD_ | apply kA_)); refine blk_far ?_ NB334_335.out _; (with_reducible repeat (first | apply kN_ | apply kD_ | apply kA_)); refine blk_far ?_ NB334_335.out _; (with_reducible repeat (first | apply kN_ | apply kD_ | apply kA_)); exact BK334.out) hb); have n1_ := Aside0.mk (blk_below (g := gb335) (o := .cells #[.int .i64 t337, .int .u64 t338, .string t339, .int .i64 t340] 24 (0, 0)) (by (with_reducible repeat (first | apply kN_ | apply kD_ | apply kA_)); refine blk_put (cs := #[.int .i64 t337, .int .u64 t338, .string t339, .int .i64 a2_3]) ?_ 3 _ rfl; (with_reducible repeat (first | apply kN_ | apply kD_ | apply kA_)); refine blk_put (cs := #[.int .i64 t337, .int .u64 t338, .string a2_2, .int .i64 a2_3]) ?_ 2 _ rfl; (with_reducible repeat (first | apply kN_ | apply kD_ | apply kA_)); refine blk_put (cs := #[.int .i64 t337, .int .u64 a2_1, .string a2_2, .int .i64 a2_3]) ?_ 1 _ rfl; (with_reducible repeat (first | apply kN_ | apply kD_ | apply kA_)); refine blk_put (cs := #[.int .i64 a2_0, .int .u64 a2_1, .string a2_2, .int .i64 a2_3]) ?_ 0 _ rfl; (with_reducible repeat (first | apply kN_ | apply kD_ | apply kA_)); exact BK335.out) hb); have n2_ := Aside0.mk (blk_below (g := gb336) (o := .cells #[.int .i64 0, .int .u64 0, .string (⟨#[]⟩ : ByteArray), .int .i64 0] 24 (0, 0)) (by (with_reducible repeat (first | apply kN_ | apply kD_ | apply kA_)); refine blk_far ?_ NB336_335.out _; (with_reducible repeat (first | apply kN_ | apply kD_ | apply kA_)); refine blk_far ?_ NB336_335.out _; (with_reducible repeat (first | apply kN_ | apply kD_ | apply kA_)); refine blk_far ?_ NB336_335.out _; (with_reducible repeat (first | apply kN_ | apply kD_ | apply kA_)); refine blk_far ?_ NB336_335.out _; (with_reducible repeat (first | apply kN_ | apply kD_ | apply kA_)); exact BK336.out) hb); have n3_ := Aside0.mk (below_step (by repeat (first | (with_reducible first | exact HB.out | apply bA_ | apply bN_ | apply bD_ | refine bS_ ?_ GE334.out | refine bS_ ?_ GE335.out | refine bS_ ?_ GE336.out) | exact HB.out)) hb); clear BK334; clear BK335; clear BK336; clear HB; have BK334 := n0_; have BK335 := n1_; have BK336 := n2_; have HB := n3_; clear n0_ n1_ n2_ n3_; (try clear hb); (try clear hb2); (try clear hk); (try clear hi); obtain ⟨hcz74_0, hcz74_1, hcz74_2, hcz74_3⟩ := cells4_ BK336.out; obtain ⟨hfz74_0, hfz74_1, hfz74_2, hfz74_3⟩ := froz4_ BK336.out))
         refine bodyPost_ret (results_ct rfl _ _ gb336 24 #[.int .i64 t354, .int .u64 t355, .string t356, .int .i64 t357] (0, 0) _ rfl (by (with_reducible repeat (first | apply kN_ | apply kD_ | apply kA_)); refine blk_put (cs := #[.int .i64 t354, .int .u64 t355, .string t356, .int .i64 0]) ?_ 3 _ rfl; (with_reducible repeat (first | apply kN_ | apply kD_ | apply kA_)); refine blk_put (cs := #[.int .i64 t354, .int .u64 t355, .string (⟨#[]⟩ : ByteArray), .int .i64 0]) ?_ 2 _ rfl; (with_reducible repeat (first | apply kN_ | apply kD_ | apply kA_)); refine blk_put (cs := #[.int .i64 t354, .int .u64 0, .string (⟨#[]⟩ : ByteArray), .int .i64 0]) ?_ 1 _ rfl; (with_reducible repeat (first | apply kN_ | apply kD_ | apply kA_)); refine blk_put (cs := #[.int .i64 0, .int .u64 0, .string (⟨#[]⟩ : ByteArray), .int .i64 0]) ?_ 0 _ rfl; (with_reducible repeat (first | apply kN_ | apply kD_ | apply kA_)); exact BK336.out) Tryd.underlying24 rfl (by kernel_rfl)) rfl ?_
         exact ⟨by first | rfl | (simp [errW_none, errW_some] <;> rfl) | (simp [*, errW_none, errW_some] <;> rfl), by repeat (first | (with_reducible first | exact HB.out | apply bA_ | apply bN_ | apply bD_ | refine bS_ ?_ GE334.out | refine bS_ ?_ GE335.out | refine bS_ ?_ GE336.out) | exact HB.out)⟩
        ·rw [if_neg c63] at H
         have c63b0 : decide (a1_1 < t338) = false := decide_eq_false c63
         clear c63
         replace H := Option.bind_eq_some_iff.mp H
         obtain ⟨⟨t358, t359, t360, t361⟩, A750, H⟩ := H
         replace H : (some (t358, t359, t360, t361, 0)) = some (r1, r2, r3, r4, r5) := H
         have A75 := Aside0.mk A750
         clear A750
         simp only [Option.some.injEq, Prod.mk.injEq] at H
         obtain ⟨rfl, rfl, rfl, rfl, rfl⟩ := H
         have hnb76 := NB335_334.out
         have hnc76 := NB334_335.out
         have hnb77 := NB335_336.out
         have hnc77 := NB336_335.out
         obtain ⟨hcz78_0, hcz78_1, hcz78_2, hcz78_3⟩ := cells4_ BK335.out
         obtain ⟨hfz78_0, hfz78_1, hfz78_2, hfz78_3⟩ := froz4_ BK335.out
         have hnb79 := NB334_336.out
         have hnc79 := NB336_334.out
         obtain ⟨hcz80_0, hcz80_1, hcz80_2, hcz80_3⟩ := cells4_ BK334.out
         obtain ⟨hfz80_0, hfz80_1, hfz80_2, hfz80_3⟩ := froz4_ BK334.out
         go_wp2_with (first | ((with_reducible refine gate_callee (f := 17) rfl ?_); refine goesL_ (some 29) rfl rfl Tryd.func17 (by kernel_rfl) rfl #[.agg #[.int .i64 a2_0, .int .u64 a2_1, .string a2_2, .int .i64 a2_3], .int .i64 a1_0] rfl (by (try simp only [List.map_toArray, List.map_cons, List.map_nil]); first | done | rfl | (simp only [List.length_drop, List.length_take]; rfl)) ?_; (with_reducible refine (platformfwref08_Convert.calls kj3 a2_0 a2_1 a2_2 a2_3 a1_0 t337 t338 t339 t340 t341 _ A23.out).mono ?_); rintro e w81 ⟨rfl, hb⟩; refine ⟨_, rfl, ?_⟩; have n0_ := Aside0.mk (blk_below (g := gb334) (o := .cells #[.int .i64 a1_0, .int .u64 a1_1, .string a1_2, .int .i64 a1_3] 24 (0, 0)) (by (with_reducible repeat (first | apply kN_ | apply kD_ | apply kA_)); exact BK334.out) hb); have n1_ := Aside0.mk (blk_below (g := gb335) (o := .cells #[.int .i64 a2_0, .int .u64 a2_1, .string a2_2, .int .i64 a2_3] 24 (0, 0)) (by (with_reducible repeat (first | apply kN_ | apply kD_ | apply kA_)); exact BK335.out) hb); have n2_ := Aside0.mk (blk_below (g := gb336) (o := .cells #[.int .i64 0, .int .u64 0, .string (⟨#[]⟩ : ByteArray), .int .i64 0] 24 (0, 0)) (by (with_reducible repeat (first | apply kN_ | apply kD_ | apply kA_)); exact BK336.out) hb); have n3_ := Aside0.mk (below_step (by repeat (first | (with_reducible first | exact HB.out | apply bA_ | apply bN_ | apply bD_ | refine bS_ ?_ GE334.out | refine bS_ ?_ GE335.out | refine bS_ ?_ GE336.out) | exact HB.out)) hb); clear BK334; clear BK335; clear BK336; clear HB; have BK334 := n0_; have BK335 := n1_; have BK336 := n2_; have HB := n3_; clear n0_ n1_ n2_ n3_; (try clear hb); (try clear hb2); (try clear hk); (try clear hi); obtain ⟨hcz82_0, hcz82_1, hcz82_2, hcz82_3⟩ := cells4_ BK335.out; obtain ⟨hfz82_0, hfz82_1, hfz82_2, hfz82_3⟩ := froz4_ BK335.out; obtain ⟨hcz83_0, hcz83_1, hcz83_2, hcz83_3⟩ := cells4_ BK334.out; obtain ⟨hfz83_0, hfz83_1, hfz83_2, hfz83_3⟩ := froz4_ BK334.out) | ((with_reducible refine gate_callee (f := 14) rfl ?_); refine goesL_ (some 83) rfl rfl Tryd.func14 (by kernel_rfl) rfl #[.bool false] rfl (by (try simp only [List.map_toArray, List.map_cons, List.map_nil]); first | done | rfl | (simp only [List.length_drop, List.length_take]; rfl)) ?_; (with_reducible refine (platformfwref08_Bool.calls false t358 t359 t360 t361 _ A75.out).mono ?_); rintro e w84 ⟨rfl, hb⟩; refine ⟨_, rfl, ?_⟩; have n0_ := Aside0.mk (blk_below (g := gb334) (o := .cells #[.int .i64 a1_0, .int .u64 a1_1, .string a1_2, .int .i64 a1_3] 24 (0, 0)) (by (with_reducible repeat (first | apply kN_ | apply kD_ | apply kA_)); refine blk_far ?_ NB334_335.out _; (with_reducible repeat (first | apply kN_ | apply kD_ | apply kA_)); refine blk_far ?_ NB334_335.out _; (with_reducible repeat (first | apply kN_ | apply kD_ | apply kA_)); refine blk_far ?_ NB334_335.out _; (with_reducible repeat (first | apply kN_ | apply kD_ | apply kA_)); refine blk_far ?_ NB334_335.out _; (with_reducible repeat (first | apply kN_ | apply kD_ | apply kA_)); exact BK334.out) hb); have n1_ := Aside0.mk (blk_below (g := gb335) (o := .cells #[.int .i64 t337, .int .u64 t338, .string t339, .int .i64 t340] 24 (0, 0)) (by (with_reducible repeat (first | apply kN_ | apply kD_ | apply kA_)); refine blk_put (cs := #[.int .i64 t337, .int .u64 t338, .string t339, .int .i64 a2_3]) ?_ 3 _ rfl; (with_reducible repeat (first | apply kN_ | apply kD_ | apply kA_)); refine blk_put (cs := #[.int .i64 t337, .int .u64 t338, .string a2_2, .int .i64 a2_3]) ?_ 2 _ rfl; (with_reducible repeat (first | apply kN_ | apply kD_ | apply kA_)); refine blk_put (cs := #[.int .i64 t337, .int .u64 a2_1, .string a2_2, .int .i64 a2_3]) ?_ 1 _ rfl; (with_reducible repeat (first | apply kN_ | apply kD_ | apply kA_)); refine blk_put (cs := #[.int .i64 a2_0, .int .u64 a2_1, .string a2_2, .int .i64 a2_3]) ?_ 0 _ rfl; (with_reducible repeat (first | apply kN_ | apply kD_ | apply kA_)); exact BK335.out) hb); have n2_ := Aside0.mk (blk_below (g := gb336) (o := .cells #[.int .i64 0, .int .u64 0, .string (⟨#[]⟩ : ByteArray), .int .i64 0] 24 (0, 0)) (by (with_reducible repeat (first | apply kN_ | apply kD_ | apply kA_)); refine blk_far ?_ NB336_335.out _; (with_reducible repeat (first | apply kN_ | apply kD_ | apply kA_)); refine blk_far ?_ NB336_335.out _; (with_reducible repeat (first | apply kN_ | apply kD_ | apply kA_)); refine blk_far ?_ NB336_335.out _; (with_reducible repeat (first | apply kN_ | apply kD_ | apply kA_)); refine blk_far ?_ NB336_335.out _; (with_reducible repeat (first | apply kN_ | apply kD_ | apply kA_)); exact BK336.out) hb); have n3_ := Aside0.mk (below_step (by repeat (first | (with_reducible first | exact HB.out | apply bA_ | apply bN_ | apply bD_ | refine bS_ ?_ GE334.out | refine bS_ ?_ GE335.out | refine bS_ ?_ GE336.out) | exact HB.out)) hb); clear BK334; clear BK335; clear BK336; clear HB; have BK334 := n0_; have BK335 := n1_; have BK336 := n2_; have HB := n3_; clear n0_ n1_ n2_ n3_; (try clear hb); (try clear hb2); (try clear hk); (try clear hi); obtain ⟨hcz85_0, hcz85_1, hcz85_2, hcz85_3⟩ := cells4_ BK336.out; obtain ⟨hfz85_0, hfz85_1, hfz85_2, hfz85_3⟩ := froz4_ BK336.out))
         refine bodyPost_ret (results_ct rfl _ _ gb336 24 #[.int .i64 t358, .int .u64 t359, .string t360, .int .i64 t361] (0, 0) _ rfl (by (with_reducible repeat (first | apply kN_ | apply kD_ | apply kA_)); refine blk_put (cs := #[.int .i64 t358, .int .u64 t359, .string t360, .int .i64 0]) ?_ 3 _ rfl; (with_reducible repeat (first | apply kN_ | apply kD_ | apply kA_)); refine blk_put (cs := #[.int .i64 t358, .int .u64 t359, .string (⟨#[]⟩ : ByteArray), .int .i64 0]) ?_ 2 _ rfl; (with_reducible repeat (first | apply kN_ | apply kD_ | apply kA_)); refine blk_put (cs := #[.int .i64 t358, .int .u64 0, .string (⟨#[]⟩ : ByteArray), .int .i64 0]) ?_ 1 _ rfl; (with_reducible repeat (first | apply kN_ | apply kD_ | apply kA_)); refine blk_put (cs := #[.int .i64 0, .int .u64 0, .string (⟨#[]⟩ : ByteArray), .int .i64 0]) ?_ 0 _ rfl; (with_reducible repeat (first | apply kN_ | apply kD_ | apply kA_)); exact BK336.out) Tryd.underlying24 rfl (by kernel_rfl)) rfl ?_
         exact ⟨by first | rfl | (simp [errW_none, errW_some] <;> rfl) | (simp [*, errW_none, errW_some] <;> rfl), by repeat (first | (with_reducible first | exact HB.out | apply bA_ | apply bN_ | apply bD_ | refine bS_ ?_ GE334.out | refine bS_ ?_ GE335.out | refine bS_ ?_ GE336.out) | exact HB.out)⟩
       ·rw [if_neg c62] at H
        have c62b0 : (a1_0 == 1) = false := beq_eq_false_iff_ne.mpr c62
        have c62b1 : (a1_0 != 1) = true := bne_iff_ne.mpr c62
        replace H := Option.bind_eq_some_iff.mp H
        obtain ⟨⟨t362, t363, t364, t365⟩, A860, H⟩ := H
        replace H : (some (t362, t363, t364, t365, 0)) = some (r1, r2, r3, r4, r5) := H
        have A86 := Aside0.mk A860
        clear A860
        simp only [Option.some.injEq, Prod.mk.injEq] at H
        obtain ⟨rfl, rfl, rfl, rfl, rfl⟩ := H
        have hnb87 := NB335_334.out
        have hnc87 := NB334_335.out
        have hnb88 := NB335_336.out
        have hnc88 := NB336_335.out
        obtain ⟨hcz89_0, hcz89_1, hcz89_2, hcz89_3⟩ := cells4_ BK335.out
        obtain ⟨hfz89_0, hfz89_1, hfz89_2, hfz89_3⟩ := froz4_ BK335.out
        have hnb90 := NB334_336.out
        have hnc90 := NB336_334.out
        obtain ⟨hcz91_0, hcz91_1, hcz91_2, hcz91_3⟩ := cells4_ BK334.out
        obtain ⟨hfz91_0, hfz91_1, hfz91_2, hfz91_3⟩ := froz4_ BK334.out
        go_wp2_with (first | ((with_reducible refine gate_callee (f := 17) rfl ?_); refine goesL_ (some 29) rfl rfl Tryd.func17 (by kernel_rfl) rfl #[.agg #[.int .i64 a2_0, .int .u64 a2_1, .string a2_2, .int .i64 a2_3], .int .i64 a1_0] rfl (by (try simp only [List.map_toArray, List.map_cons, List.map_nil]); first | done | rfl | (simp only [List.length_drop, List.length_take]; rfl)) ?_; (with_reducible refine (platformfwref08_Convert.calls kj3 a2_0 a2_1 a2_2 a2_3 a1_0 t337 t338 t339 t340 t341 _ A23.out).mono ?_); rintro e w92 ⟨rfl, hb⟩; refine ⟨_, rfl, ?_⟩; have n0_ := Aside0.mk (blk_below (g := gb334) (o := .cells #[.int .i64 a1_0, .int .u64 a1_1, .string a1_2, .int .i64 a1_3] 24 (0, 0)) (by (with_reducible repeat (first | apply kN_ | apply kD_ | apply kA_)); exact BK334.out) hb); have n1_ := Aside0.mk (blk_below (g := gb335) (o := .cells #[.int .i64 a2_0, .int .u64 a2_1, .string a2_2, .int .i64 a2_3] 24 (0, 0)) (by (with_reducible repeat (first | apply kN_ | apply kD_ | apply kA_)); exact BK335.out) hb); have n2_ := Aside0.mk (blk_below (g := gb336) (o := .cells #[.int .i64 0, .int .u64 0, .string (⟨#[]⟩ : ByteArray), .int .i64 0] 24 (0, 0)) (by (with_reducible repeat (first | apply kN_ | apply kD_ | apply kA_)); exact BK336.out) hb); have n3_ := Aside0.mk (below_step (by repeat (first | (with_reducible first | exact HB.out | apply bA_ | apply bN_ | apply bD_ | refine bS_ ?_ GE334.out | refine bS_ ?_ GE335.out | refine bS_ ?_ GE336.out) | exact HB.out)) hb); clear BK334; clear BK335; clear BK336; clear HB; have BK334 := n0_; have BK335 := n1_; have BK336 := n2_; have HB := n3_; clear n0_ n1_ n2_ n3_; (try clear hb); (try clear hb2); (try clear hk); (try clear hi); obtain ⟨hcz93_0, hcz93_1, hcz93_2, hcz93_3⟩ := cells4_ BK335.out; obtain ⟨hfz93_0, hfz93_1, hfz93_2, hfz93_3⟩ := froz4_ BK335.out; obtain ⟨hcz94_0, hcz94_1, hcz94_2, hcz94_3⟩ := cells4_ BK334.out; obtain ⟨hfz94_0, hfz94_1, hfz94_2, hfz94_3⟩ := froz4_ BK334.out) | ((with_reducible refine gate_callee (f := 14) rfl ?_); refine goesL_ (some 83) rfl rfl Tryd.func14 (by kernel_rfl) rfl #[.bool (Op.bytesLess a1_2.toList t339.toList)] rfl (by (try simp only [List.map_toArray, List.map_cons, List.map_nil]); first | done | rfl | (simp only [List.length_drop, List.length_take]; rfl)) ?_; (with_reducible refine (platformfwref08_Bool.calls (Op.bytesLess a1_2.toList t339.toList) t362 t363 t364 t365 _ A86.out).mono ?_); rintro e w95 ⟨rfl, hb⟩; refine ⟨_, rfl, ?_⟩; have n0_ := Aside0.mk (blk_below (g := gb334) (o := .cells #[.int .i64 a1_0, .int .u64 a1_1, .string a1_2, .int .i64 a1_3] 24 (0, 0)) (by (with_reducible repeat (first | apply kN_ | apply kD_ | apply kA_)); refine blk_far ?_ NB334_335.out _; (with_reducible repeat (first | apply kN_ | apply kD_ | apply kA_)); refine blk_far ?_ NB334_335.out _; (with_reducible repeat (first | apply kN_ | apply kD_ | apply kA_)); refine blk_far ?_ NB334_335.out _; (with_reducible repeat (first | apply kN_ | apply kD_ | apply kA_)); refine blk_far ?_ NB334_335.out _; (with_reducible repeat (first | apply kN_ | apply kD_ | apply kA_)); exact BK334.out) hb); have n1_ := Aside0.mk (blk_below (g := gb335) (o := .cells #[.int .i64 t337, .int .u64 t338, .string t339, .int .i64 t340] 24 (0, 0)) (by (with_reducible repeat (first | apply kN_ | apply kD_ | apply kA_)); refine blk_put (cs := #[.int .i64 t337, .int .u64 t338, .string t339, .int .i64 a2_3]) ?_ 3 _ rfl; (with_reducible repeat (first | apply kN_ | apply kD_ | apply kA_)); refine blk_put (cs := #[.int .i64 t337, .int .u64 t338, .string a2_2, .int .i64 a2_3]) ?_ 2 _ rfl; (with_reducible repeat (first | apply kN_ | apply kD_ | apply kA_)); refine blk_put (cs := #[.int .i64 t337, .int .u64 a2_1, .string a2_2, .int .i64 a2_3]) ?_ 1 _ rfl; (with_reducible repeat (first | apply kN_ | apply kD_ | apply kA_)); refine blk_put (cs := #[.int .i64 a2_0, .int .u64 a2_1, .string a2_2, .int .i64 a2_3]) ?_ 0 _ rfl; (with_reducible repeat (first | apply kN_ | apply kD_ | apply kA_)); exact BK335.out) hb); have n2_ := Aside0.mk (blk_below (g := gb336) (o := .cells #[.int .i64 0, .int .u64 0, .string (⟨#[]⟩ : ByteArray), .int .i64 0] 24 (0, 0)) (by (with_reducible repeat (first | apply kN_ | apply kD_ | apply kA_)); refine blk_far ?_ NB336_335.out _; (with_reducible repeat (first | apply kN_ | apply kD_ | apply kA_)); refine blk_far ?_ NB336_335.out _; (with_reducible repeat (first | apply kN_ | apply kD_ | apply kA_)); refine blk_far ?_ NB336_335.out _; (with_reducible repeat (first | apply kN_ | apply kD_ | apply kA_)); refine blk_far ?_ NB336_335.out _; (with_reducible repeat (first | apply kN_ | apply kD_ | apply kA_)); exact BK336.out) hb); have n3_ := Aside0.mk (below_step (by repeat (first | (with_reducible first | exact HB.out | apply bA_ | apply bN_ | apply bD_ | refine bS_ ?_ GE334.out | refine bS_ ?_ GE335.out | refine bS_ ?_ GE336.out) | exact HB.out)) hb); clear BK334; clear BK335; clear BK336; clear HB; have BK334 := n0_; have BK335 := n1_; have BK336 := n2_; have HB := n3_; clear n0_ n1_ n2_ n3_; (try clear hb); (try clear hb2); (try clear hk); (try clear hi); obtain ⟨hcz96_0, hcz96_1, hcz96_2, hcz96_3⟩ := cells4_ BK336.out; obtain ⟨hfz96_0, hfz96_1, hfz96_2, hfz96_3⟩ := froz4_ BK336.out))
        refine bodyPost_ret (results_ct rfl _ _ gb336 24 #[.int .i64 t362, .int .u64 t363, .string t364, .int .i64 t365] (0, 0) _ rfl (by (with_reducible repeat (first | apply kN_ | apply kD_ | apply kA_)); refine blk_put (cs := #[.int .i64 t362, .int .u64 t363, .string t364, .int .i64 0]) ?_ 3 _ rfl; (with_reducible repeat (first | apply kN_ | apply kD_ | apply kA_)); refine blk_put (cs := #[.int .i64 t362, .int .u64 t363, .string (⟨#[]⟩ : ByteArray), .int .i64 0]) ?_ 2 _ rfl; (with_reducible repeat (first | apply kN_ | apply kD_ | apply kA_)); refine blk_put (cs := #[.int .i64 t362, .int .u64 0, .string (⟨#[]⟩ : ByteArray), .int .i64 0]) ?_ 1 _ rfl; (with_reducible repeat (first | apply kN_ | apply kD_ | apply kA_)); refine blk_put (cs := #[.int .i64 0, .int .u64 0, .string (⟨#[]⟩ : ByteArray), .int .i64 0]) ?_ 0 _ rfl; (with_reducible repeat (first | apply kN_ | apply kD_ | apply kA_)); exact BK336.out) Tryd.underlying24 rfl (by kernel_rfl)) rfl ?_
        exact ⟨by first | rfl | (simp [errW_none, errW_some] <;> rfl) | (simp [*, errW_none, errW_some] <;> rfl), by repeat (first | (with_reducible first | exact HB.out | apply bA_ | apply bN_ | apply bD_ | refine bS_ ?_ GE334.out | refine bS_ ?_ GE335.out | refine bS_ ?_ GE336.out) | exact HB.out)⟩
      ·rw [if_neg c61] at H
       have c61b0 : (a0 == 73) = false := beq_eq_false_iff_ne.mpr c61
       have c61b1 : (a0 != 73) = true := bne_iff_ne.mpr c61
       by_cases c97 : a0 = 74
       ·rw [if_pos c97] at H
        have c97b0 : (a0 == 74) = true := beq_iff_eq.mpr c97
        have c97b1 : (a0 != 74) = false := bne_eq_false_iff_eq.mpr c97
        clear c97
        by_cases c98 : a1_0 = 1
        ·rw [if_pos c98] at H
         have c98b0 : (a1_0 == 1) = true := beq_iff_eq.mpr c98
         have c98b1 : (a1_0 != 1) = false := bne_eq_false_iff_eq.mpr c98
         clear c98
         by_cases c99 : a1_1 > t338
         ·rw [if_pos c99] at H
          have c99b0 : decide (t338 < a1_1) = true := decide_eq_true c99
          clear c99
          replace H := Option.bind_eq_some_iff.mp H
          obtain ⟨⟨t366, t367, t368, t369⟩, A1000, H⟩ := H
          replace H : (some (t366, t367, t368, t369, 0)) = some (r1, r2, r3, r4, r5) := H
          have A100 := Aside0.mk A1000
          clear A1000
          simp only [Option.some.injEq, Prod.mk.injEq] at H
          obtain ⟨rfl, rfl, rfl, rfl, rfl⟩ := H
          have hnb101 := NB335_334.out
          have hnc101 := NB334_335.out
          have hnb102 := NB335_336.out
          have hnc102 := NB336_335.out
          obtain ⟨hcz103_0, hcz103_1, hcz103_2, hcz103_3⟩ := cells4_ BK335.out
          obtain ⟨hfz103_0, hfz103_1, hfz103_2, hfz103_3⟩ := froz4_ BK335.out
          have hnb104 := NB334_336.out
          have hnc104 := NB336_334.out
          obtain ⟨hcz105_0, hcz105_1, hcz105_2, hcz105_3⟩ := cells4_ BK334.out
          obtain ⟨hfz105_0, hfz105_1, hfz105_2, hfz105_3⟩ := froz4_ BK334.out
          go_wp2_with (first | ((with_reducible refine gate_callee (f := 17) rfl ?_); refine goesL_ (some 29) rfl rfl Tryd.func17 (by kernel_rfl) rfl #[.agg #[.int .i64 a2_0, .int .u64 a2_1, .string a2_2, .int .i64 a2_3], .int .i64 a1_0] rfl (by (try simp only [List.map_toArray, List.map_cons, List.map_nil]); first | done | rfl | (simp only [List.length_drop, List.length_take]; rfl)) ?_; (with_reducible refine (platformfwref08_Convert.calls kj3 a2_0 a2_1 a2_2 a2_3 a1_0 t337 t338 t339 t340 t341 _ A23.out).mono ?_); rintro e w106 ⟨rfl, hb⟩; refine ⟨_, rfl, ?_⟩; have n0_ := Aside0.mk (blk_below (g := gb334) (o := .cells #[.int .i64 a1_0, .int .u64 a1_1, .string a1_2, .int .i64 a1_3] 24 (0, 0)) (by (with_reducible repeat (first | apply kN_ | apply kD_ | apply kA_)); exact BK334.out) hb); have n1_ := Aside0.mk (blk_below (g := gb335) (o := .cells #[.int .i64 a2_0, .int .u64 a2_1, .string a2_2, .int .i64 a2_3] 24 (0, 0)) (by (with_reducible repeat (first | apply kN_ | apply kD_ | apply kA_)); exact BK335.out) hb); have n2_ := Aside0.mk (blk_below (g := gb336) (o := .cells #[.int .i64 0, .int .u64 0, .string (⟨#[]⟩ : ByteArray), .int .i64 0] 24 (0, 0)) (by (with_reducible repeat (first | apply kN_ | apply kD_ | apply kA_)); exact BK336.out) hb); have n3_ := Aside0.mk (below_step (by repeat (first | (with_reducible first | exact HB.out | apply bA_ | apply bN_ | apply bD_ | refine bS_ ?_ GE334.out | refine bS_ ?_ GE335.out | refine bS_ ?_ GE336.out) | exact HB.out)) hb); clear BK334; clear BK335; clear BK336; clear HB; have BK334 := n0_; have BK335 := n1_; have BK336 := n2_; have HB := n3_; clear n0_ n1_ n2_ n3_; (try clear hb); (try clear hb2); (try clear hk); (try clear hi); obtain ⟨hcz107_0, hcz107_1, hcz107_2, hcz107_3⟩ := cells4_ BK335.out; obtain ⟨hfz107_0, hfz107_1, hfz107_2, hfz107_3⟩ := froz4_ BK335.out; obtain ⟨hcz108_0, hcz108_1, hcz108_2, hcz108_3⟩ := cells4_ BK334.out; obtain ⟨hfz108_0, hfz108_1, hfz108_2, hfz108_3⟩ := froz4_ BK334.out) | ((with_reducible refine gate_callee (f := 14) rfl ?_); refine goesL_ (some 105) rfl rfl Tryd.func14 (by kernel_rfl) rfl #[.bool true] rfl (by (try simp only [List.map_toArray, List.map_cons, List.map_nil]); first | done | rfl | (simp only [List.length_drop, List.length_take]; rfl)) ?_; (with_reducible refine (platformfwref08_Bool.calls true t366 t367 t368 t369 _ A100.out).mono ?_); rintro e w109 ⟨rfl, hb⟩; refine ⟨_, rfl, ?_⟩; have n0_ := Aside0.mk (blk_below (g := gb334) (o := .cells #[.int .i64 a1_0, .int .u64 a1_1, .string a1_2, .int .i64 a1_3] 24 (0, 0)) (by (with_reducible repeat (first | apply kN_ | apply kD_ | apply kA_)); refine blk_far ?_ NB334_335.out _; (with_reducible repeat (first | apply kN_ | apply kD_ | apply kA_)); refine blk_far ?_ NB334_335.out _; (with_reducible repeat (first | apply kN_ | apply kD_ | apply kA_)); refine blk_far ?_ NB334_335.out _; (with_reducible repeat (first | apply kN_ | apply kD_ | apply kA_)); refine blk_far ?_ NB334_335.out _; (with_reducible repeat (first | apply kN_ | apply kD_ | apply kA_)); exact BK334.out) hb); have n1_ := Aside0.mk (blk_below (g := gb335) (o := .cells #[.int .i64 t337, .int .u64 t338, .string t339, .int .i64 t340] 24 (0, 0)) (by (with_reducible repeat (first | apply kN_ | apply kD_ | apply kA_)); refine blk_put (cs := #[.int .i64 t337, .int .u64 t338, .string t339, .int .i64 a2_3]) ?_ 3 _ rfl; (with_reducible repeat (first | apply kN_ | apply kD_ | apply kA_)); refine blk_put (cs := #[.int .i64 t337, .int .u64 t338, .string a2_2, .int .i64 a2_3]) ?_ 2 _ rfl; (with_reducible repeat (first | apply kN_ | apply kD_ | apply kA_)); refine blk_put (cs := #[.int .i64 t337, .int .u64 a2_1, .string a2_2, .int .i64 a2_3]) ?_ 1 _ rfl; (with_reducible repeat (first | apply kN_ | apply kD_ | apply kA_)); refine blk_put (cs := #[.int .i64 a2_0, .int .u64 a2_1, .string a2_2, .int .i64 a2_3]) ?_ 0 _ rfl; (with_reducible repeat (first | apply kN_ | apply kD_ | apply kA_)); exact BK335.out) hb); have n2_ := Aside0.mk (blk_below (g := gb336) (o := .cells #[.int .i64 0, .int .u64 0, .string (⟨#[]⟩ : ByteArray), .int .i64 0] 24 (0, 0)) (by (with_reducible repeat (first | apply kN_ | apply kD_ | apply kA_)); refine blk_far ?_ NB336_335.out _; (with_reducible repeat (first | apply kN_ | apply kD_ | apply kA_)); refine blk_far ?_ NB336_335.out _; (with_reducible repeat (first | apply kN_ | apply kD_ | apply kA_)); refine blk_far ?_ NB336_335.out _; (with_reducible repeat (first | apply kN_ | apply kD_ | apply kA_)); refine blk_far ?_ NB336_335.out _; (with_reducible repeat (first | apply kN_ | apply kD_ | apply kA_)); exact BK336.out) hb); have n3_ := Aside0.mk (below_step (by repeat (first | (with_reducible first | exact HB.out | apply bA_ | apply bN_ | apply bD_ | refine bS_ ?_ GE334.out | refine bS_ ?_ GE335.out | refine bS_ ?_ GE336.out) | exact HB.out)) hb); clear BK334; clear BK335; clear BK336; clear HB; have BK334 := n0_; have BK335 := n1_; have BK336 := n2_; have HB := n3_; clear n0_ n1_ n2_ n3_; (try clear hb); (try clear hb2); (try clear hk); (try clear hi); obtain ⟨hcz110_0, hcz110_1, hcz110_2, hcz110_3⟩ := cells4_ BK336.out; obtain ⟨hfz110_0, hfz110_1, hfz110_2, hfz110_3⟩ := froz4_ BK336.out))
          refine bodyPost_ret (results_ct rfl _ _ gb336 24 #[.int .i64 t366, .int .u64 t367, .string t368, .int .i64 t369] (0, 0) _ rfl (by (with_reducible repeat (first | apply kN_ | apply kD_ | apply kA_)); refine blk_put (cs := #[.int .i64 t366, .int .u64 t367, .string t368, .int .i64 0]) ?_ 3 _ rfl; (with_reducible repeat (first | apply kN_ | apply kD_ | apply kA_)); refine blk_put (cs := #[.int .i64 t366, .int .u64 t367, .string (⟨#[]⟩ : ByteArray), .int .i64 0]) ?_ 2 _ rfl; (with_reducible repeat (first | apply kN_ | apply kD_ | apply kA_)); refine blk_put (cs := #[.int .i64 t366, .int .u64 0, .string (⟨#[]⟩ : ByteArray), .int .i64 0]) ?_ 1 _ rfl; (with_reducible repeat (first | apply kN_ | apply kD_ | apply kA_)); refine blk_put (cs := #[.int .i64 0, .int .u64 0, .string (⟨#[]⟩ : ByteArray), .int .i64 0]) ?_ 0 _ rfl; (with_reducible repeat (first | apply kN_ | apply kD_ | apply kA_)); exact BK336.out) Tryd.underlying24 rfl (by kernel_rfl)) rfl ?_
          exact ⟨by first | rfl | (simp [errW_none, errW_some] <;> rfl) | (simp [*, errW_none, errW_some] <;> rfl), by repeat (first | (with_reducible first | exact HB.out | apply bA_ | apply bN_ | apply bD_ | refine bS_ ?_ GE334.out | refine bS_ ?_ GE335.out | refine bS_ ?_ GE336.out) | exact HB.out)⟩
         ·rw [if_neg c99] at H
          have c99b0 : decide (t338 < a1_1) = false := decide_eq_false c99
          clear c99
          replace H := Option.bind_eq_some_iff.mp H
          obtain ⟨⟨t370, t371, t372, t373⟩, A1110, H⟩ := H
          replace H : (some (t370, t371, t372, t373, 0)) = some (r1, r2, r3, r4, r5) := H
          have A111 := Aside0.mk A1110
          clear A1110
          simp only [Option.some.injEq, Prod.mk.injEq] at H
          obtain ⟨rfl, rfl, rfl, rfl, rfl⟩ := H
          have hnb112 := NB335_334.out
          have hnc112 := NB334_335.out
          have hnb113 := NB335_336.out
          have hnc113 := NB336_335.out
          obtain ⟨hcz114_0, hcz114_1, hcz114_2, hcz114_3⟩ := cells4_ BK335.out
          obtain ⟨hfz114_0, hfz114_1, hfz114_2, hfz114_3⟩ := froz4_ BK335.out
          have hnb115 := NB334_336.out
          have hnc115 := NB336_334.out
          obtain ⟨hcz116_0, hcz116_1, hcz116_2, hcz116_3⟩ := cells4_ BK334.out
          obtain ⟨hfz116_0, hfz116_1, hfz116_2, hfz116_3⟩ := froz4_ BK334.out
          go_wp2_with (first | ((with_reducible refine gate_callee (f := 17) rfl ?_); refine goesL_ (some 29) rfl rfl Tryd.func17 (by kernel_rfl) rfl #[.agg #[.int .i64 a2_0, .int .u64 a2_1, .string a2_2, .int .i64 a2_3], .int .i64 a1_0] rfl (by (try simp only [List.map_toArray, List.map_cons, List.map_nil]); first | done | rfl | (simp only [List.length_drop, List.length_take]; rfl)) ?_; (with_reducible refine (platformfwref08_Convert.calls kj3 a2_0 a2_1 a2_2 a2_3 a1_0 t337 t338 t339 t340 t341 _ A23.out).mono ?_); rintro e w117 ⟨rfl, hb⟩; refine ⟨_, rfl, ?_⟩; have n0_ := Aside0.mk (blk_below (g := gb334) (o := .cells #[.int .i64 a1_0, .int .u64 a1_1, .string a1_2, .int .i64 a1_3] 24 (0, 0)) (by (with_reducible repeat (first | apply kN_ | apply kD_ | apply kA_)); exact BK334.out) hb); have n1_ := Aside0.mk (blk_below (g := gb335) (o := .cells #[.int .i64 a2_0, .int .u64 a2_1, .string a2_2, .int .i64 a2_3] 24 (0, 0)) (by (with_reducible repeat (first | apply kN_ | apply kD_ | apply kA_)); exact BK335.out) hb); have n2_ := Aside0.mk (blk_below (g := gb336) (o := .cells #[.int .i64 0, .int .u64 0, .string (⟨#[]⟩ : ByteArray), .int .i64 0] 24 (0, 0)) (by (with_reducible repeat (first | apply kN_ | apply kD_ | apply kA_)); exact BK336.out) hb); have n3_ := Aside0.mk (below_step (by repeat (first | (with_reducible first | exact HB.out | apply bA_ | apply bN_ | apply bD_ | refine bS_ ?_ GE334.out | refine bS_ ?_ GE335.out | refine bS_ ?_ GE336.out) | exact HB.out)) hb); clear BK334; clear BK335; clear BK336; clear HB; have BK334 := n0_; have BK335 := n1_; have BK336 := n2_; have HB := n3_; clear n0_ n1_ n2_ n3_; (try clear hb); (try clear hb2); (try clear hk); (try clear hi); obtain ⟨hcz118_0, hcz118_1, hcz118_2, hcz118_3⟩ := cells4_ BK335.out; obtain ⟨hfz118_0, hfz118_1, hfz118_2, hfz118_3⟩ := froz4_ BK335.out; obtain ⟨hcz119_0, hcz119_1, hcz119_2, hcz119_3⟩ := cells4_ BK334.out; obtain ⟨hfz119_0, hfz119_1, hfz119_2, hfz119_3⟩ := froz4_ BK334.out) | ((with_reducible refine gate_callee (f := 14) rfl ?_); refine goesL_ (some 105) rfl rfl Tryd.func14 (by kernel_rfl) rfl #[.bool false] rfl (by (try simp only [List.map_toArray, List.map_cons, List.map_nil]); first | done | rfl | (simp only [List.length_drop, List.length_take]; rfl)) ?_; (with_reducible refine (platformfwref08_Bool.calls false t370 t371 t372 t373 _ A111.out).mono ?_); rintro e w120 ⟨rfl, hb⟩; refine ⟨_, rfl, ?_⟩; have n0_ := Aside0.mk (blk_below (g := gb334) (o := .cells #[.int .i64 a1_0, .int .u64 a1_1, .string a1_2, .int .i64 a1_3] 24 (0, 0)) (by (with_reducible repeat (first | apply kN_ | apply kD_ | apply kA_)); refine blk_far ?_ NB334_335.out _; (with_reducible repeat (first | apply kN_ | apply kD_ | apply kA_)); refine blk_far ?_ NB334_335.out _; (with_reducible repeat (first | apply kN_ | apply kD_ | apply kA_)); refine blk_far ?_ NB334_335.out _; (with_reducible repeat (first | apply kN_ | apply kD_ | apply kA_)); refine blk_far ?_ NB334_335.out _; (with_reducible repeat (first | apply kN_ | apply kD_ | apply kA_)); exact BK334.out) hb); have n1_ := Aside0.mk (blk_below (g := gb335) (o := .cells #[.int .i64 t337, .int .u64 t338, .string t339, .int .i64 t340] 24 (0, 0)) (by (with_reducible repeat (first | apply kN_ | apply kD_ | apply kA_)); refine blk_put (cs := #[.int .i64 t337, .int .u64 t338, .string t339, .int .i64 a2_3]) ?_ 3 _ rfl; (with_reducible repeat (first | apply kN_ | apply kD_ | apply kA_)); refine blk_put (cs := #[.int .i64 t337, .int .u64 t338, .string a2_2, .int .i64 a2_3]) ?_ 2 _ rfl; (with_reducible repeat (first | apply kN_ | apply kD_ | apply kA_)); refine blk_put (cs := #[.int .i64 t337, .int .u64 a2_1, .string a2_2, .int .i64 a2_3]) ?_ 1 _ rfl; (with_reducible repeat (first | apply kN_ | apply kD_ | apply kA_)); refine blk_put (cs := #[.int .i64 a2_0, .int .u64 a2_1, .string a2_2, .int .i64 a2_3]) ?_ 0 _ rfl; (with_reducible repeat (first | apply kN_ | apply kD_ | apply kA_)); exact BK335.out) hb); have n2_ := Aside0.mk (blk_below (g := gb336) (o := .cells #[.int .i64 0, .int .u64 0, .string (⟨#[]⟩ : ByteArray), .int .i64 0] 24 (0, 0)) (by (with_reducible repeat (first | apply kN_ | apply kD_ | apply kA_)); refine blk_far ?_ NB336_335.out _; (with_reducible repeat (first | apply kN_ | apply kD_ | apply kA_)); refine blk_far ?_ NB336_335.out _; (with_reducible repeat (first | apply kN_ | apply kD_ | apply kA_)); refine blk_far ?_ NB336_335.out _; (with_reducible repeat (first | apply kN_ | apply kD_ | apply kA_)); refine blk_far ?_ NB336_335.out _; (with_reducible repeat (first | apply kN_ | apply kD_ | apply kA_)); exact BK336.out) hb); have n3_ := Aside0.mk (below_step (by repeat (first | (with_reducible first | exact HB.out | apply bA_ | apply bN_ | apply bD_ | refine bS_ ?_ GE334.out | refine bS_ ?_ GE335.out | refine bS_ ?_ GE336.out) | exact HB.out)) hb); clear BK334; clear BK335; clear BK336; clear HB; have BK334 := n0_; have BK335 := n1_; have BK336 := n2_; have HB := n3_; clear n0_ n1_ n2_ n3_; (try clear hb); (try clear hb2); (try clear hk); (try clear hi); obtain ⟨hcz121_0, hcz121_1, hcz121_2, hcz121_3⟩ := cells4_ BK336.out; obtain ⟨hfz121_0, hfz121_1, hfz121_2, hfz121_3⟩ := froz4_ BK336.out))
          refine bodyPost_ret (results_ct rfl _ _ gb336 24 #[.int .i64 t370, .int .u64 t371, .string t372, .int .i64 t373] (0, 0) _ rfl (by (with_reducible repeat (first | apply kN_ | apply kD_ | apply kA_)); refine blk_put (cs := #[.int .i64 t370, .int .u64 t371, .string t372, .int .i64 0]) ?_ 3 _ rfl; (with_reducible repeat (first | apply kN_ | apply kD_ | apply kA_)); refine blk_put (cs := #[.int .i64 t370, .int .u64 t371, .string (⟨#[]⟩ : ByteArray), .int .i64 0]) ?_ 2 _ rfl; (with_reducible repeat (first | apply kN_ | apply kD_ | apply kA_)); refine blk_put (cs := #[.int .i64 t370, .int .u64 0, .string (⟨#[]⟩ : ByteArray), .int .i64 0]) ?_ 1 _ rfl; (with_reducible repeat (first | apply kN_ | apply kD_ | apply kA_)); refine blk_put (cs := #[.int .i64 0, .int .u64 0, .string (⟨#[]⟩ : ByteArray), .int .i64 0]) ?_ 0 _ rfl; (with_reducible repeat (first | apply kN_ | apply kD_ | apply kA_)); exact BK336.out) Tryd.underlying24 rfl (by kernel_rfl)) rfl ?_
          exact ⟨by first | rfl | (simp [errW_none, errW_some] <;> rfl) | (simp [*, errW_none, errW_some] <;> rfl), by repeat (first | (with_reducible first | exact HB.out | apply bA_ | apply bN_ | apply bD_ | refine bS_ ?_ GE334.out | refine bS_ ?_ GE335.out | refine bS_ ?_ GE336.out) | exact HB.out)⟩
        ·rw [if_neg c98] at H
         have c98b0 : (a1_0 == 1) = false := beq_eq_false_iff_ne.mpr c98
         have c98b1 : (a1_0 != 1) = true := bne_iff_ne.mpr c98
         replace H := Option.bind_eq_some_iff.mp H
         obtain ⟨⟨t374, t375, t376, t377⟩, A1220, H⟩ := H
         replace H : (some (t374, t375, t376, t377, 0)) = some (r1, r2, r3, r4, r5) := H
         have A122 := Aside0.mk A1220
         clear A1220
         simp only [Option.some.injEq, Prod.mk.injEq] at H
         obtain ⟨rfl, rfl, rfl, rfl, rfl⟩ := H
         have hnb123 := NB335_334.out
         have hnc123 := NB334_335.out
         have hnb124 := NB335_336.out
         have hnc124 := NB336_335.out
         obtain ⟨hcz125_0, hcz125_1, hcz125_2, hcz125_3⟩ := cells4_ BK335.out
         obtain ⟨hfz125_0, hfz125_1, hfz125_2, hfz125_3⟩ := froz4_ BK335.out
         have hnb126 := NB334_336.out
         have hnc126 := NB336_334.out
         obtain ⟨hcz127_0, hcz127_1, hcz127_2, hcz127_3⟩ := cells4_ BK334.out
         obtain ⟨hfz127_0, hfz127_1, hfz127_2, hfz127_3⟩ := froz4_ BK334.out
         go_wp2_with (first | ((with_reducible refine gate_callee (f := 17) rfl ?_); refine goesL_ (some 29) rfl rfl Tryd.func17 (by kernel_rfl) rfl #[.agg #[.int .i64 a2_0, .int .u64 a2_1, .string a2_2, .int .i64 a2_3], .int .i64 a1_0] rfl (by (try simp only [List.map_toArray, List.map_cons, List.map_nil]); first | done | rfl | (simp only [List.length_drop, List.length_take]; rfl)) ?_; (with_reducible refine (platformfwref08_Convert.calls kj3 a2_0 a2_1 a2_2 a2_3 a1_0 t337 t338 t339 t340 t341 _ A23.out).mono ?_); rintro e w128 ⟨rfl, hb⟩; refine ⟨_, rfl, ?_⟩; have n0_ := Aside0.mk (blk_below (g := gb334) (o := .cells #[.int .i64 a1_0, .int .u64 a1_1, .string a1_2, .int .i64 a1_3] 24 (0, 0)) (by (with_reducible repeat (first | apply kN_ | apply kD_ | apply kA_)); exact BK334.out) hb); have n1_ := Aside0.mk (blk_below (g := gb335) (o := .cells #[.int .i64 a2_0, .int .u64 a2_1, .string a2_2, .int .i64 a2_3] 24 (0, 0)) (by (with_reducible repeat (first | apply kN_ | apply kD_ | apply kA_)); exact BK335.out) hb); have n2_ := Aside0.mk (blk_below (g := gb336) (o := .cells #[.int .i64 0, .int .u64 0, .string (⟨#[]⟩ : ByteArray), .int .i64 0] 24 (0, 0)) (by (with_reducible repeat (first | apply kN_ | apply kD_ | apply kA_)); exact BK336.out) hb); have n3_ := Aside0.mk (below_step (by repeat (first | (with_reducible first | exact HB.out | apply bA_ | apply bN_ | apply bD_ | refine bS_ ?_ GE334.out | refine bS_ ?_ GE335.out | refine bS_ ?_ GE336.out) | exact HB.out)) hb); clear BK334; clear BK335; clear BK336; clear HB; have BK334 := n0_; have BK335 := n1_; have BK336 := n2_; have HB := n3_; clear n0_ n1_ n2_ n3_; (try clear hb); (try clear hb2); (try clear hk); (try clear hi); obtain ⟨hcz129_0, hcz129_1, hcz129_2, hcz129_3⟩ := cells4_ BK335.out; obtain ⟨hfz129_0, hfz129_1, hfz129_2, hfz129_3⟩ := froz4_ BK335.out; obtain ⟨hcz130_0, hcz130_1, hcz130_2, hcz130_3⟩ := cells4_ BK334.out; obtain ⟨hfz130_0, hfz130_1, hfz130_2, hfz130_3⟩ := froz4_ BK334.out) | ((with_reducible refine gate_callee (f := 14) rfl ?_); refine goesL_ (some 105) rfl rfl Tryd.func14 (by kernel_rfl) rfl #[.bool (Op.bytesLess t339.toList a1_2.toList)] rfl (by (try simp only [List.map_toArray, List.map_cons, List.map_nil]); first | done | rfl | (simp only [List.length_drop, List.length_take]; rfl)) ?_; (with_reducible refine (platformfwref08_Bool.calls (Op.bytesLess t339.toList a1_2.toList) t374 t375 t376 t377 _ A122.out).mono ?_); rintro e w131 ⟨rfl, hb⟩; refine ⟨_, rfl, ?_⟩; have n0_ := Aside0.mk (blk_below (g := gb334) (o := .cells #[.int .i64 a1_0, .int .u64 a1_1, .string a1_2, .int .i64 a1_3] 24 (0, 0)) (by (with_reducible repeat (first | apply kN_ | apply kD_ | apply kA_)); refine blk_far ?_ NB334_335.out _; (with_reducible repeat (first | apply kN_ | apply kD_ | apply kA_)); refine blk_far ?_ NB334_335.out _; (with_reducible repeat (first | apply kN_ | apply kD_ | apply kA_)); refine blk_far ?_ NB334_335.out _; (with_reducible repeat (first | apply kN_ | apply kD_ | apply kA_)); refine blk_far ?_ NB334_335.out _; (with_reducible repeat (first | apply kN_ | apply kD_ | apply kA_)); exact BK334.out) hb); have n1_ := Aside0.mk (blk_below (g := gb335) (o := .cells #[.int .i64 t337, .int .u64 t338, .string t339, .int .i64 t340] 24 (0, 0)) (by (with_reducible repeat (first | apply kN_ | apply kD_ | apply kA_)); refine blk_put (cs := #[.int .i64 t337, .int .u64 t338, .string t339, .int .i64 a2_3]) ?_ 3 _ rfl; (with_reducible repeat (first | apply kN_ | apply kD_ | apply kA_)); refine blk_put (cs := #[.int .i64 t337, .int .u64 t338, .string a2_2, .int .i64 a2_3]) ?_ 2 _ rfl; (with_reducible repeat (first | apply kN_ | apply kD_ | apply kA_)); refine blk_put (cs := #[.int .i64 t337, .int .u64 a2_1, .string a2_2, .int .i64 a2_3]) ?_ 1 _ rfl; (with_reducible repeat (first | apply kN_ | apply kD_ | apply kA_)); refine blk_put (cs := #[.int .i64 a2_0, .int .u64 a2_1, .string a2_2, .int .i64 a2_3]) ?_ 0 _ rfl; (with_reducible repeat (first | apply kN_ | apply kD_ | apply kA_)); exact BK335.out) hb); have n2_ := Aside0.mk (blk_below (g := gb336) (o := .cells #[.int .i64 0, .int .u64 0, .string (⟨#[]⟩ : ByteArray), .int .i64 0] 24 (0, 0)) (by (with_reducible repeat (first | apply kN_ | apply kD_ | apply kA_)); refine blk_far ?_ NB336_335.out _; (with_reducible repeat (first | apply kN_ | apply kD_ | apply kA_)); refine blk_far ?_ NB336_335.out _; (with_reducible repeat (first | apply kN_ | apply kD_ | apply kA_)); refine blk_far ?_ NB336_335.out _; (with_reducible repeat (first | apply kN_ | apply kD_ | apply kA_)); refine blk_far ?_ NB336_335.out _; (with_reducible repeat (first | apply kN_ | apply kD_ | apply kA_)); exact BK336.out) hb); have n3_ := Aside0.mk (below_step (by repeat (first | (with_reducible first | exact HB.out | apply bA_ | apply bN_ | apply bD_ | refine bS_ ?_ GE334.out | refine bS_ ?_ GE335.out | refine bS_ ?_ GE336.out) | exact HB.out)) hb); clear BK334; clear BK335; clear BK336; clear HB; have BK334 := n0_; have BK335 := n1_; have BK336 := n2_; have HB := n3_; clear n0_ n1_ n2_ n3_; (try clear hb); (try clear hb2); (try clear hk); (try clear hi); obtain ⟨hcz132_0, hcz132_1, hcz132_2, hcz132_3⟩ := cells4_ BK336.out; obtain ⟨hfz132_0, hfz132_1, hfz132_2, hfz132_3⟩ := froz4_ BK336.out))
         refine bodyPost_ret (results_ct rfl _ _ gb336 24 #[.int .i64 t374, .int .u64 t375, .string t376, .int .i64 t377] (0, 0) _ rfl (by (with_reducible repeat (first | apply kN_ | apply kD_ | apply kA_)); refine blk_put (cs := #[.int .i64 t374, .int .u64 t375, .string t376, .int .i64 0]) ?_ 3 _ rfl; (with_reducible repeat (first | apply kN_ | apply kD_ | apply kA_)); refine blk_put (cs := #[.int .i64 t374, .int .u64 t375, .string (⟨#[]⟩ : ByteArray), .int .i64 0]) ?_ 2 _ rfl; (with_reducible repeat (first | apply kN_ | apply kD_ | apply kA_)); refine blk_put (cs := #[.int .i64 t374, .int .u64 0, .string (⟨#[]⟩ : ByteArray), .int .i64 0]) ?_ 1 _ rfl; (with_reducible repeat (first | apply kN_ | apply kD_ | apply kA_)); refine blk_put (cs := #[.int .i64 0, .int .u64 0, .string (⟨#[]⟩ : ByteArray), .int .i64 0]) ?_ 0 _ rfl; (with_reducible repeat (first | apply kN_ | apply kD_ | apply kA_)); exact BK336.out) Tryd.underlying24 rfl (by kernel_rfl)) rfl ?_
         exact ⟨by first | rfl | (simp [errW_none, errW_some] <;> rfl) | (simp [*, errW_none, errW_some] <;> rfl), by repeat (first | (with_reducible first | exact HB.out | apply bA_ | apply bN_ | apply bD_ | refine bS_ ?_ GE334.out | refine bS_ ?_ GE335.out | refine bS_ ?_ GE336.out) | exact HB.out)⟩
       ·rw [if_neg c97] at H
        have c97b0 : (a0 == 74) = false := beq_eq_false_iff_ne.mpr c97
        have c97b1 : (a0 != 74) = true := bne_iff_ne.mpr c97
        by_cases c133 : a1_0 = 1
        ·rw [if_pos c133] at H
         have c133b0 : (a1_0 == 1) = true := beq_iff_eq.mpr c133
         have c133b1 : (a1_0 != 1) = false := bne_eq_false_iff_eq.mpr c133
         clear c133
         replace H := Option.bind_eq_some_iff.mp H
         obtain ⟨t378, A1340, H⟩ := H
         replace H : ((platformfwref08_little.f kj3 t338).bind fun t379 => (if t378.size + t379.size ≤ 9223372036854775807 then (some (3, 0, t378 ++ t379, 0, 0)) else (none))) = some (r1, r2, r3, r4, r5) := H
         have A134 := Aside0.mk A1340
         clear A1340
         replace H := Option.bind_eq_some_iff.mp H
         obtain ⟨t379, A1350, H⟩ := H
         replace H : (if t378.size + t379.size ≤ 9223372036854775807 then (some (3, 0, t378 ++ t379, 0, 0)) else (none)) = some (r1, r2, r3, r4, r5) := H
         have A135 := Aside0.mk A1350
         clear A1350
         by_cases c136 : t378.size + t379.size ≤ 9223372036854775807
         ·rw [if_pos c136] at H
          have c136b0 := eq_true c136
          have c136b1 : decide (t378.size + t379.size ≤ 9223372036854775807) = true := decide_eq_true c136
          try have c136b2 : (9223372036854775807 < t378.size + t379.size) = False := eq_false (Nat.not_lt.2 c136)
          clear c136
          simp only [Option.some.injEq, Prod.mk.injEq] at H
          obtain ⟨rfl, rfl, rfl, rfl, rfl⟩ := H
          have hnb137 := NB335_334.out
          have hnc137 := NB334_335.out
          have hnb138 := NB335_336.out
          have hnc138 := NB336_335.out
          obtain ⟨hcz139_0, hcz139_1, hcz139_2, hcz139_3⟩ := cells4_ BK335.out
          obtain ⟨hfz139_0, hfz139_1, hfz139_2, hfz139_3⟩ := froz4_ BK335.out
          have hnb140 := NB334_336.out
          have hnc140 := NB336_334.out
          obtain ⟨hcz141_0, hcz141_1, hcz141_2, hcz141_3⟩ := cells4_ BK334.out
          obtain ⟨hfz141_0, hfz141_1, hfz141_2, hfz141_3⟩ := froz4_ BK334.out
          try go_wp2_with (first | ((with_reducible refine gate_callee (f := 17) rfl ?_); refine goesL_ (some 29) rfl rfl Tryd.func17 (by kernel_rfl) rfl #[.agg #[.int .i64 a2_0, .int .u64 a2_1, .string a2_2, .int .i64 a2_3], .int .i64 a1_0] rfl (by (try simp only [List.map_toArray, List.map_cons, List.map_nil]); first | done | rfl | (simp only [List.length_drop, List.length_take]; rfl)) ?_; (with_reducible refine (platformfwref08_Convert.calls kj3 a2_0 a2_1 a2_2 a2_3 a1_0 t337 t338 t339 t340 t341 _ A23.out).mono ?_); rintro e w142 ⟨rfl, hb⟩; refine ⟨_, rfl, ?_⟩; have n0_ := Aside0.mk (blk_below (g := gb334) (o := .cells #[.int .i64 a1_0, .int .u64 a1_1, .string a1_2, .int .i64 a1_3] 24 (0, 0)) (by (with_reducible repeat (first | apply kN_ | apply kD_ | apply kA_)); exact BK334.out) hb); have n1_ := Aside0.mk (blk_below (g := gb335) (o := .cells #[.int .i64 a2_0, .int .u64 a2_1, .string a2_2, .int .i64 a2_3] 24 (0, 0)) (by (with_reducible repeat (first | apply kN_ | apply kD_ | apply kA_)); exact BK335.out) hb); have n2_ := Aside0.mk (blk_below (g := gb336) (o := .cells #[.int .i64 0, .int .u64 0, .string (⟨#[]⟩ : ByteArray), .int .i64 0] 24 (0, 0)) (by (with_reducible repeat (first | apply kN_ | apply kD_ | apply kA_)); exact BK336.out) hb); have n3_ := Aside0.mk (below_step (by repeat (first | (with_reducible first | exact HB.out | apply bA_ | apply bN_ | apply bD_ | refine bS_ ?_ GE334.out | refine bS_ ?_ GE335.out | refine bS_ ?_ GE336.out) | exact HB.out)) hb); clear BK334; clear BK335; clear BK336; clear HB; have BK334 := n0_; have BK335 := n1_; have BK336 := n2_; have HB := n3_; clear n0_ n1_ n2_ n3_; (try clear hb); (try clear hb2); (try clear hk); (try clear hi); obtain ⟨hcz143_0, hcz143_1, hcz143_2, hcz143_3⟩ := cells4_ BK335.out; obtain ⟨hfz143_0, hfz143_1, hfz143_2, hfz143_3⟩ := froz4_ BK335.out; obtain ⟨hcz144_0, hcz144_1, hcz144_2, hcz144_3⟩ := cells4_ BK334.out; obtain ⟨hfz144_0, hfz144_1, hfz144_2, hfz144_3⟩ := froz4_ BK334.out))
          have n0_ : Aside0 (((((w142.setCell ⟨gb335, 0, none⟩ (.int .i64 t337)).setCell ⟨gb335, 1, none⟩ (.int .u64 t338)).setCell ⟨gb335, 2, none⟩ (.string t339)).setCell ⟨gb335, 3, none⟩ (.int .i64 t340)).heap[gb334]? = some (.cells #[.int .i64 a1_0, .int .u64 a1_1, .string a1_2, .int .i64 a1_3] 24 (0, 0))) := ⟨by (with_reducible repeat (first | apply kN_ | apply kD_ | apply kA_)); refine blk_far ?_ NB334_335.out _; (with_reducible repeat (first | apply kN_ | apply kD_ | apply kA_)); refine blk_far ?_ NB334_335.out _; (with_reducible repeat (first | apply kN_ | apply kD_ | apply kA_)); refine blk_far ?_ NB334_335.out _; (with_reducible repeat (first | apply kN_ | apply kD_ | apply kA_)); refine blk_far ?_ NB334_335.out _; (with_reducible repeat (first | apply kN_ | apply kD_ | apply kA_)); exact BK334.out⟩
          have n1_ : Aside0 (((((w142.setCell ⟨gb335, 0, none⟩ (.int .i64 t337)).setCell ⟨gb335, 1, none⟩ (.int .u64 t338)).setCell ⟨gb335, 2, none⟩ (.string t339)).setCell ⟨gb335, 3, none⟩ (.int .i64 t340)).heap[gb335]? = some (.cells #[.int .i64 t337, .int .u64 t338, .string t339, .int .i64 t340] 24 (0, 0))) := ⟨by (with_reducible repeat (first | apply kN_ | apply kD_ | apply kA_)); refine blk_put (cs := #[.int .i64 t337, .int .u64 t338, .string t339, .int .i64 a2_3]) ?_ 3 _ rfl; (with_reducible repeat (first | apply kN_ | apply kD_ | apply kA_)); refine blk_put (cs := #[.int .i64 t337, .int .u64 t338, .string a2_2, .int .i64 a2_3]) ?_ 2 _ rfl; (with_reducible repeat (first | apply kN_ | apply kD_ | apply kA_)); refine blk_put (cs := #[.int .i64 t337, .int .u64 a2_1, .string a2_2, .int .i64 a2_3]) ?_ 1 _ rfl; (with_reducible repeat (first | apply kN_ | apply kD_ | apply kA_)); refine blk_put (cs := #[.int .i64 a2_0, .int .u64 a2_1, .string a2_2, .int .i64 a2_3]) ?_ 0 _ rfl; (with_reducible repeat (first | apply kN_ | apply kD_ | apply kA_)); exact BK335.out⟩
          have n2_ : Aside0 (((((w142.setCell ⟨gb335, 0, none⟩ (.int .i64 t337)).setCell ⟨gb335, 1, none⟩ (.int .u64 t338)).setCell ⟨gb335, 2, none⟩ (.string t339)).setCell ⟨gb335, 3, none⟩ (.int .i64 t340)).heap[gb336]? = some (.cells #[.int .i64 0, .int .u64 0, .string (⟨#[]⟩ : ByteArray), .int .i64 0] 24 (0, 0))) := ⟨by (with_reducible repeat (first | apply kN_ | apply kD_ | apply kA_)); refine blk_far ?_ NB336_335.out _; (with_reducible repeat (first | apply kN_ | apply kD_ | apply kA_)); refine blk_far ?_ NB336_335.out _; (with_reducible repeat (first | apply kN_ | apply kD_ | apply kA_)); refine blk_far ?_ NB336_335.out _; (with_reducible repeat (first | apply kN_ | apply kD_ | apply kA_)); refine blk_far ?_ NB336_335.out _; (with_reducible repeat (first | apply kN_ | apply kD_ | apply kA_)); exact BK336.out⟩
          have n3_ : Aside0 (Below w.heap.size w ((((w142.setCell ⟨gb335, 0, none⟩ (.int .i64 t337)).setCell ⟨gb335, 1, none⟩ (.int .u64 t338)).setCell ⟨gb335, 2, none⟩ (.string t339)).setCell ⟨gb335, 3, none⟩ (.int .i64 t340))) := ⟨by repeat (first | (with_reducible first | exact HB.out | apply bA_ | apply bN_ | apply bD_ | refine bS_ ?_ GE334.out | refine bS_ ?_ GE335.out | refine bS_ ?_ GE336.out) | exact HB.out)⟩
          (try clear BK334)
          (try clear BK335)
          (try clear BK336)
          (try clear HB)
          generalize ((((w142.setCell ⟨gb335, 0, none⟩ (.int .i64 t337)).setCell ⟨gb335, 1, none⟩ (.int .u64 t338)).setCell ⟨gb335, 2, none⟩ (.string t339)).setCell ⟨gb335, 3, none⟩ (.int .i64 t340)) = w145 at n0_ n1_ n2_ n3_ ⊢
          have BK334 := n0_
          have BK335 := n1_
          have BK336 := n2_
          have HB := n3_
          clear n0_ n1_ n2_ n3_
          have n0_ := Aside0.mk (kD_ BK334.out)
          have n1_ := Aside0.mk (kD_ BK335.out)
          have n2_ := Aside0.mk (kD_ BK336.out)
          have n3_ := Aside0.mk (bD_ HB.out)
          clear BK334
          clear BK335
          clear BK336
          clear HB
          have BK334 := n0_
          have BK335 := n1_
          have BK336 := n2_
          have HB := n3_
          clear n0_ n1_ n2_ n3_
          refine start_ (n := 10) (S := fun w' => w'.cell? ⟨gb334, 0, none⟩ = some (.int .i64 a1_0) ∧ w'.cell? ⟨gb334, 1, none⟩ = some (.int .u64 a1_1) ∧ w'.cell? ⟨gb334, 2, none⟩ = some (.string a1_2) ∧ w'.cell? ⟨gb334, 3, none⟩ = some (.int .i64 a1_3) ∧ w'.cell? ⟨gb335, 0, none⟩ = some (.int .i64 t337) ∧ w'.cell? ⟨gb335, 1, none⟩ = some (.int .u64 t338) ∧ w'.cell? ⟨gb335, 2, none⟩ = some (.string t339) ∧ w'.cell? ⟨gb335, 3, none⟩ = some (.int .i64 t340)) (ds := []) #[false, false, false, false, false, false, false, false, false, false] (by kernel_rfl) rfl rfl ⟨(blk_cell BK334.out 0).trans rfl, (blk_cell BK334.out 1).trans rfl, (blk_cell BK334.out 2).trans rfl, (blk_cell BK334.out 3).trans rfl, (blk_cell BK335.out 0).trans rfl, (blk_cell BK335.out 1).trans rfl, (blk_cell BK335.out 2).trans rfl, (blk_cell BK335.out 3).trans rfl⟩ (fun hHeld => ?_); refine with_tabW platformfwref08_paired.tab15 platformfwref08_paired.bits15 (fun HT_ HW_ => ?_)
          generalize w145.drew = w146 at BK334 BK335 BK336 HB hHeld ⊢
          refine pure_ (i := 0) (N := some 107) (v := ?_) (a' := ?_) (tf 10 1) rfl rfl (any_of HT_.out (by kernel_rfl)) (fun _ _ _ h => h) (Or.inl ⟨by rfl, ?_⟩) ?_ ?_
          rotate_left
          ·intro w'
           go_simp
           with_reducible rfl
          rotate_left
          ·simp only [Act.put, sA_, sB_, sC_, i64_w, i32_w]
           rfl
          refine pure_ (i := 3) (N := some 110) (v := ?_) (a' := ?_) (tf 10 9) rfl rfl (any_of HT_.out (by kernel_rfl)) (fun _ _ _ h => h) (Or.inl ⟨by rfl, ?_⟩) ?_ ?_
          rotate_left
          ·intro w'
           go_simp
           with_reducible rfl
          rotate_left
          ·simp only [Act.put, sA_, sB_, sC_, i64_w, i32_w]
           rfl
          refine take_ (i := 1) (N := some 108) (v := ?_) (a' := ?_) (tf 10 11) rfl rfl (take_ofW HT_.out HW_.out (by kernel_rfl)) (fun _ _ _ h => h) (Or.inl ⟨by rfl, ?_⟩) hHeld ?_ ?_
          rotate_left
          ·rintro w' ⟨s0, s1, s2, s3, s4, s5, s6, s7⟩
           go_simp
           with_reducible rfl
          rotate_left
          ·simp only [Act.put, sA_, sB_, sC_, i64_w, i32_w]
           rfl
          refine take_ (i := 4) (N := some 111) (v := ?_) (a' := ?_) (tf 10 27) rfl rfl (take_ofW HT_.out HW_.out (by kernel_rfl)) (fun _ _ _ h => h) (Or.inl ⟨by rfl, ?_⟩) hHeld ?_ ?_
          rotate_left
          ·rintro w' ⟨s0, s1, s2, s3, s4, s5, s6, s7⟩
           go_simp
           with_reducible rfl
          rotate_left
          ·simp only [Act.put, sA_, sB_, sC_, i64_w, i32_w]
           rfl
          refine one_ (i := 2) (N := some 109) (tf 10 31) rfl rfl (one_of HT_.out (by kernel_rfl)) (by decide) (fun K hK => ?_)
          refine goes_ Tryd.func32 (by kernel_rfl) rfl #[.int .u64 a1_1] (by rfl) rfl rfl (by (try simp only [List.map_toArray, List.map_cons, List.map_nil]); first | done | rfl | (simp only [List.length_drop, List.length_take]; rfl)) ?_
          with_reducible refine (platformfwref08_little.calls kj3 a1_1 t378 _ A134.out).mono ?_
          rintro e w147 ⟨rfl, hb⟩
          refine ⟨_, rfl, ?_⟩
          have n0_ := Aside0.mk (blk_below (g := gb334) (o := .cells #[.int .i64 a1_0, .int .u64 a1_1, .string a1_2, .int .i64 a1_3] 24 (0, 0)) (by (with_reducible repeat (first | apply kN_ | apply kD_ | apply kA_)); exact BK334.out) hb)
          have n1_ := Aside0.mk (blk_below (g := gb335) (o := .cells #[.int .i64 t337, .int .u64 t338, .string t339, .int .i64 t340] 24 (0, 0)) (by (with_reducible repeat (first | apply kN_ | apply kD_ | apply kA_)); exact BK335.out) hb)
          have n2_ := Aside0.mk (blk_below (g := gb336) (o := .cells #[.int .i64 0, .int .u64 0, .string (⟨#[]⟩ : ByteArray), .int .i64 0] 24 (0, 0)) (by (with_reducible repeat (first | apply kN_ | apply kD_ | apply kA_)); exact BK336.out) hb)
          have n3_ := Aside0.mk (below_step (by repeat (first | (with_reducible first | exact HB.out | apply bA_ | apply bN_ | apply bD_ | refine bS_ ?_ GE334.out | refine bS_ ?_ GE335.out | refine bS_ ?_ GE336.out) | exact HB.out)) hb)
          clear BK334
          clear BK335
          clear BK336
          clear HB
          have BK334 := n0_
          have BK335 := n1_
          have BK336 := n2_
          have HB := n3_
          clear n0_ n1_ n2_ n3_
          (try clear hb)
          (try clear hb2)
          (try clear hk)
          (try clear hi)
          refine hK.out _ _ ⟨(blk_cell BK334.out 0).trans rfl, (blk_cell BK334.out 1).trans rfl, (blk_cell BK334.out 2).trans rfl, (blk_cell BK334.out 3).trans rfl, (blk_cell BK335.out 0).trans rfl, (blk_cell BK335.out 1).trans rfl, (blk_cell BK335.out 2).trans rfl, (blk_cell BK335.out 3).trans rfl⟩ (fun hHeld => ?_)
          clear hK K
          refine norm_ (a' := ?_) ?_ ?_
          rotate_left
          ·show Act.put _ (some 109) _ = _
           simp only [Act.put, sA_, sB_, sC_, i64_w, i32_w]
           rfl
          refine one_ (i := 5) (N := some 112) (tf 10 63) rfl rfl (one_of HT_.out (by kernel_rfl)) (by decide) (fun K hK => ?_)
          refine goes_ Tryd.func32 (by kernel_rfl) rfl #[.int .u64 t338] (by rfl) rfl rfl (by (try simp only [List.map_toArray, List.map_cons, List.map_nil]); first | done | rfl | (simp only [List.length_drop, List.length_take]; rfl)) ?_
          with_reducible refine (platformfwref08_little.calls kj3 t338 t379 _ A135.out).mono ?_
          rintro e w148 ⟨rfl, hb⟩
          refine ⟨_, rfl, ?_⟩
          have n0_ := Aside0.mk (blk_below (g := gb334) (o := .cells #[.int .i64 a1_0, .int .u64 a1_1, .string a1_2, .int .i64 a1_3] 24 (0, 0)) (by (with_reducible repeat (first | apply kN_ | apply kD_ | apply kA_)); exact BK334.out) hb)
          have n1_ := Aside0.mk (blk_below (g := gb335) (o := .cells #[.int .i64 t337, .int .u64 t338, .string t339, .int .i64 t340] 24 (0, 0)) (by (with_reducible repeat (first | apply kN_ | apply kD_ | apply kA_)); exact BK335.out) hb)
          have n2_ := Aside0.mk (blk_below (g := gb336) (o := .cells #[.int .i64 0, .int .u64 0, .string (⟨#[]⟩ : ByteArray), .int .i64 0] 24 (0, 0)) (by (with_reducible repeat (first | apply kN_ | apply kD_ | apply kA_)); exact BK336.out) hb)
          have n3_ := Aside0.mk (below_step (by repeat (first | (with_reducible first | exact HB.out | apply bA_ | apply bN_ | apply bD_ | refine bS_ ?_ GE334.out | refine bS_ ?_ GE335.out | refine bS_ ?_ GE336.out) | exact HB.out)) hb)
          clear BK334
          clear BK335
          clear BK336
          clear HB
          have BK334 := n0_
          have BK335 := n1_
          have BK336 := n2_
          have HB := n3_
          clear n0_ n1_ n2_ n3_
          (try clear hb)
          (try clear hb2)
          (try clear hk)
          (try clear hi)
          refine hK.out _ _ ⟨(blk_cell BK334.out 0).trans rfl, (blk_cell BK334.out 1).trans rfl, (blk_cell BK334.out 2).trans rfl, (blk_cell BK334.out 3).trans rfl, (blk_cell BK335.out 0).trans rfl, (blk_cell BK335.out 1).trans rfl, (blk_cell BK335.out 2).trans rfl, (blk_cell BK335.out 3).trans rfl⟩ (fun hHeld => ?_)
          clear hK K
          refine norm_ (a' := ?_) ?_ ?_
          rotate_left
          ·show Act.put _ (some 112) _ = _
           simp only [Act.put, sA_, sB_, sC_, i64_w, i32_w]
           rfl
          refine pure_ (i := 6) (N := some 113) (v := ?_) (a' := ?_) (tf 10 127) rfl rfl (any_of HT_.out (by kernel_rfl)) (fun _ _ _ h => h) (Or.inl ⟨by rfl, ?_⟩) ?_ ?_
          rotate_left
          ·intro w'
           go_simp
           with_reducible rfl
          rotate_left
          ·simp only [Act.put, sA_, sB_, sC_, i64_w, i32_w]
           rfl
          refine pure_ (i := 7) (N := some 114) (v := ?_) (a' := ?_) (tf 10 255) rfl rfl (any_of HT_.out (by kernel_rfl)) (fun _ _ _ h => h) (Or.inl ⟨by rfl, ?_⟩) ?_ ?_
          rotate_left
          ·intro w'
           go_simp
           with_reducible rfl
          rotate_left
          ·simp only [Act.put, sA_, sB_, sC_, i64_w, i32_w]
           rfl
          refine one_ (i := 8) (N := none) (tf 10 511) rfl rfl (one_of HT_.out (by kernel_rfl)) (by decide) (fun K hK => ?_)
          have hs149 : w148.cell? ⟨gb336, 0, none⟩ = some (.int .i64 0) := (blk_cell BK336.out 0).trans rfl
          have hfs149 := blk_frozen BK336.out 0
          have hns149_0 := NB334_336.out
          have hns149_1 := NB335_336.out
          have hms149_0 := NB336_334.out
          have hms149_1 := NB336_335.out
          have hs150 : w148.cell? ⟨gb336, 1, none⟩ = some (.int .u64 0) := (blk_cell BK336.out 1).trans rfl
          have hfs150 := blk_frozen BK336.out 1
          have hns150_0 := NB334_336.out
          have hns150_1 := NB335_336.out
          have hms150_0 := NB336_334.out
          have hms150_1 := NB336_335.out
          have hs151 : w148.cell? ⟨gb336, 2, none⟩ = some (.string (⟨#[]⟩ : ByteArray)) := (blk_cell BK336.out 2).trans rfl
          have hfs151 := blk_frozen BK336.out 2
          have hns151_0 := NB334_336.out
          have hns151_1 := NB335_336.out
          have hms151_0 := NB336_334.out
          have hms151_1 := NB336_335.out
          have hs152 : w148.cell? ⟨gb336, 3, none⟩ = some (.int .i64 0) := (blk_cell BK336.out 3).trans rfl
          have hfs152 := blk_frozen BK336.out 3
          have hns152_0 := NB334_336.out
          have hns152_1 := NB335_336.out
          have hms152_0 := NB336_334.out
          have hms152_1 := NB336_335.out
          refine skip_ (w1 := ?_) (by rfl) rfl ?_ ?_
          rotate_left
          ·go_simp
           rfl
          refine hK.out _ _ ⟨((cell_far (p := ⟨gb336, _, none⟩) NB334_336.out _).trans (((cell_far (p := ⟨gb336, _, none⟩) NB334_336.out _).trans (((cell_far (p := ⟨gb336, _, none⟩) NB334_336.out _).trans (((cell_far (p := ⟨gb336, _, none⟩) NB334_336.out _).trans (hHeld.1)))))))), ((cell_far (p := ⟨gb336, _, none⟩) NB334_336.out _).trans (((cell_far (p := ⟨gb336, _, none⟩) NB334_336.out _).trans (((cell_far (p := ⟨gb336, _, none⟩) NB334_336.out _).trans (((cell_far (p := ⟨gb336, _, none⟩) NB334_336.out _).trans (hHeld.2.1)))))))), ((cell_far (p := ⟨gb336, _, none⟩) NB334_336.out _).trans (((cell_far (p := ⟨gb336, _, none⟩) NB334_336.out _).trans (((cell_far (p := ⟨gb336, _, none⟩) NB334_336.out _).trans (((cell_far (p := ⟨gb336, _, none⟩) NB334_336.out _).trans (hHeld.2.2.1)))))))), ((cell_far (p := ⟨gb336, _, none⟩) NB334_336.out _).trans (((cell_far (p := ⟨gb336, _, none⟩) NB334_336.out _).trans (((cell_far (p := ⟨gb336, _, none⟩) NB334_336.out _).trans (((cell_far (p := ⟨gb336, _, none⟩) NB334_336.out _).trans (hHeld.2.2.2.1)))))))), ((cell_far (p := ⟨gb336, _, none⟩) NB335_336.out _).trans (((cell_far (p := ⟨gb336, _, none⟩) NB335_336.out _).trans (((cell_far (p := ⟨gb336, _, none⟩) NB335_336.out _).trans (((cell_far (p := ⟨gb336, _, none⟩) NB335_336.out _).trans (hHeld.2.2.2.2.1)))))))), ((cell_far (p := ⟨gb336, _, none⟩) NB335_336.out _).trans (((cell_far (p := ⟨gb336, _, none⟩) NB335_336.out _).trans (((cell_far (p := ⟨gb336, _, none⟩) NB335_336.out _).trans (((cell_far (p := ⟨gb336, _, none⟩) NB335_336.out _).trans (hHeld.2.2.2.2.2.1)))))))), ((cell_far (p := ⟨gb336, _, none⟩) NB335_336.out _).trans (((cell_far (p := ⟨gb336, _, none⟩) NB335_336.out _).trans (((cell_far (p := ⟨gb336, _, none⟩) NB335_336.out _).trans (((cell_far (p := ⟨gb336, _, none⟩) NB335_336.out _).trans (hHeld.2.2.2.2.2.2.1)))))))), ((cell_far (p := ⟨gb336, _, none⟩) NB335_336.out _).trans (((cell_far (p := ⟨gb336, _, none⟩) NB335_336.out _).trans (((cell_far (p := ⟨gb336, _, none⟩) NB335_336.out _).trans (((cell_far (p := ⟨gb336, _, none⟩) NB335_336.out _).trans (hHeld.2.2.2.2.2.2.2))))))))⟩ (fun hHeld => ?_)
          clear hK K
          refine pure_ (i := 9) (N := some 7) (v := ?_) (a' := ?_) (tf 10 1023) rfl rfl (any_of HT_.out (by kernel_rfl)) (fun _ _ _ h => h) (Or.inl ⟨by rfl, ?_⟩) ?_ ?_
          rotate_left
          ·intro w'
           go_simp
           with_reducible rfl
          rotate_left
          ·simp only [Act.put, sA_, sB_, sC_, i64_w, i32_w]
           rfl
          refine done_ (done_of HT_.out (by kernel_rfl)) ?_
          try go_wp2
          refine bodyPost_ret (results_ct rfl _ _ gb336 24 #[.int .i64 3, .int .u64 0, .string (t378 ++ t379), .int .i64 0] (0, 0) _ rfl (by (with_reducible repeat (first | apply kN_ | apply kD_ | apply kA_)); refine blk_put (cs := #[.int .i64 3, .int .u64 0, .string (t378 ++ t379), .int .i64 0]) ?_ 3 _ rfl; (with_reducible repeat (first | apply kN_ | apply kD_ | apply kA_)); refine blk_put (cs := #[.int .i64 3, .int .u64 0, .string (⟨#[]⟩ : ByteArray), .int .i64 0]) ?_ 2 _ rfl; (with_reducible repeat (first | apply kN_ | apply kD_ | apply kA_)); refine blk_put (cs := #[.int .i64 3, .int .u64 0, .string (⟨#[]⟩ : ByteArray), .int .i64 0]) ?_ 1 _ rfl; (with_reducible repeat (first | apply kN_ | apply kD_ | apply kA_)); refine blk_put (cs := #[.int .i64 0, .int .u64 0, .string (⟨#[]⟩ : ByteArray), .int .i64 0]) ?_ 0 _ rfl; (with_reducible repeat (first | apply kN_ | apply kD_ | apply kA_)); exact BK336.out) Tryd.underlying24 rfl (by kernel_rfl)) rfl ?_
          exact ⟨by first | rfl | (simp [errW_none, errW_some] <;> rfl) | (simp [*, errW_none, errW_some] <;> rfl), by repeat (first | (with_reducible first | exact HB.out | apply bA_ | apply bN_ | apply bD_ | refine bS_ ?_ GE334.out | refine bS_ ?_ GE335.out | refine bS_ ?_ GE336.out) | exact HB.out)⟩
         ·rw [if_neg c136] at H
          exact absurd H (by simp)
        ·rw [if_neg c133] at H
         have c133b0 : (a1_0 == 1) = false := beq_eq_false_iff_ne.mpr c133
         have c133b1 : (a1_0 != 1) = true := bne_iff_ne.mpr c133
         by_cases c153 : a1_2.size + t339.size ≤ 9223372036854775807
         ·rw [if_pos c153] at H
          have c153b0 := eq_true c153
          have c153b1 : decide (a1_2.size + t339.size ≤ 9223372036854775807) = true := decide_eq_true c153
          try have c153b2 : (9223372036854775807 < a1_2.size + t339.size) = False := eq_false (Nat.not_lt.2 c153)
          clear c153
          replace H := Option.bind_eq_some_iff.mp H
          obtain ⟨⟨t380, t381⟩, A1540, H⟩ := H
          replace H : (if t381 = 0 then (some (a1_0, 0, t380, 0, 0)) else (some (0, 0, (⟨#[]⟩ : ByteArray), 0, t381))) = some (r1, r2, r3, r4, r5) := H
          have A154 := Aside0.mk A1540
          clear A1540
          by_cases c155 : t381 = 0
          ·rw [if_pos c155] at H
           have c155b0 : (t381 == 0) = true := beq_iff_eq.mpr c155
           have c155b1 : (t381 != 0) = false := bne_eq_false_iff_eq.mpr c155
           clear c155
           simp only [Option.some.injEq, Prod.mk.injEq] at H
           obtain ⟨rfl, rfl, rfl, rfl, rfl⟩ := H
           have hnb156 := NB335_334.out
           have hnc156 := NB334_335.out
           have hnb157 := NB335_336.out
           have hnc157 := NB336_335.out
           obtain ⟨hcz158_0, hcz158_1, hcz158_2, hcz158_3⟩ := cells4_ BK335.out
           obtain ⟨hfz158_0, hfz158_1, hfz158_2, hfz158_3⟩ := froz4_ BK335.out
           have hnb159 := NB334_336.out
           have hnc159 := NB336_334.out
           obtain ⟨hcz160_0, hcz160_1, hcz160_2, hcz160_3⟩ := cells4_ BK334.out
           obtain ⟨hfz160_0, hfz160_1, hfz160_2, hfz160_3⟩ := froz4_ BK334.out
           go_wp2_with (first | ((with_reducible refine gate_callee (f := 17) rfl ?_); refine goesL_ (some 29) rfl rfl Tryd.func17 (by kernel_rfl) rfl #[.agg #[.int .i64 a2_0, .int .u64 a2_1, .string a2_2, .int .i64 a2_3], .int .i64 a1_0] rfl (by (try simp only [List.map_toArray, List.map_cons, List.map_nil]); first | done | rfl | (simp only [List.length_drop, List.length_take]; rfl)) ?_; (with_reducible refine (platformfwref08_Convert.calls kj3 a2_0 a2_1 a2_2 a2_3 a1_0 t337 t338 t339 t340 t341 _ A23.out).mono ?_); rintro e w161 ⟨rfl, hb⟩; refine ⟨_, rfl, ?_⟩; have n0_ := Aside0.mk (blk_below (g := gb334) (o := .cells #[.int .i64 a1_0, .int .u64 a1_1, .string a1_2, .int .i64 a1_3] 24 (0, 0)) (by (with_reducible repeat (first | apply kN_ | apply kD_ | apply kA_)); exact BK334.out) hb); have n1_ := Aside0.mk (blk_below (g := gb335) (o := .cells #[.int .i64 a2_0, .int .u64 a2_1, .string a2_2, .int .i64 a2_3] 24 (0, 0)) (by (with_reducible repeat (first | apply kN_ | apply kD_ | apply kA_)); exact BK335.out) hb); have n2_ := Aside0.mk (blk_below (g := gb336) (o := .cells #[.int .i64 0, .int .u64 0, .string (⟨#[]⟩ : ByteArray), .int .i64 0] 24 (0, 0)) (by (with_reducible repeat (first | apply kN_ | apply kD_ | apply kA_)); exact BK336.out) hb); have n3_ := Aside0.mk (below_step (by repeat (first | (with_reducible first | exact HB.out | apply bA_ | apply bN_ | apply bD_ | refine bS_ ?_ GE334.out | refine bS_ ?_ GE335.out | refine bS_ ?_ GE336.out) | exact HB.out)) hb); clear BK334; clear BK335; clear BK336; clear HB; have BK334 := n0_; have BK335 := n1_; have BK336 := n2_; have HB := n3_; clear n0_ n1_ n2_ n3_; (try clear hb); (try clear hb2); (try clear hk); (try clear hi); obtain ⟨hcz162_0, hcz162_1, hcz162_2, hcz162_3⟩ := cells4_ BK335.out; obtain ⟨hfz162_0, hfz162_1, hfz162_2, hfz162_3⟩ := froz4_ BK335.out; obtain ⟨hcz163_0, hcz163_1, hcz163_2, hcz163_3⟩ := cells4_ BK334.out; obtain ⟨hfz163_0, hfz163_1, hfz163_2, hfz163_3⟩ := froz4_ BK334.out) | ((with_reducible refine gate_callee (f := 56) rfl ?_); refine goesL_ (some 121) rfl rfl Tryd.func56 (by kernel_rfl) rfl #[.string (a1_2 ++ t339)] rfl (by (try simp only [List.map_toArray, List.map_cons, List.map_nil]); first | done | rfl | (simp only [List.length_drop, List.length_take]; rfl)) ?_; (with_reducible refine (platformfwref08_bounded.calls (a1_2 ++ t339) t380 t381 _ A154.out).mono ?_); rintro e w' ⟨rfl, ⟨nd, rfl⟩⟩; refine ⟨_, rfl, ?_⟩; obtain ⟨hcz164_0, hcz164_1, hcz164_2, hcz164_3⟩ := cells4_ BK336.out; obtain ⟨hfz164_0, hfz164_1, hfz164_2, hfz164_3⟩ := froz4_ BK336.out))
           refine bodyPost_ret (results_ct rfl _ _ gb336 24 #[.int .i64 a1_0, .int .u64 0, .string t380, .int .i64 0] (0, 0) _ rfl (by (with_reducible repeat (first | apply kN_ | apply kD_ | apply kA_)); refine blk_put (cs := #[.int .i64 a1_0, .int .u64 0, .string t380, .int .i64 0]) ?_ 3 _ rfl; (with_reducible repeat (first | apply kN_ | apply kD_ | apply kA_)); refine blk_put (cs := #[.int .i64 a1_0, .int .u64 0, .string (⟨#[]⟩ : ByteArray), .int .i64 0]) ?_ 2 _ rfl; (with_reducible repeat (first | apply kN_ | apply kD_ | apply kA_)); refine blk_put (cs := #[.int .i64 a1_0, .int .u64 0, .string (⟨#[]⟩ : ByteArray), .int .i64 0]) ?_ 1 _ rfl; (with_reducible repeat (first | apply kN_ | apply kD_ | apply kA_)); refine blk_put (cs := #[.int .i64 0, .int .u64 0, .string (⟨#[]⟩ : ByteArray), .int .i64 0]) ?_ 0 _ rfl; (with_reducible repeat (first | apply kN_ | apply kD_ | apply kA_)); refine blk_far ?_ NB336_335.out _; (with_reducible repeat (first | apply kN_ | apply kD_ | apply kA_)); refine blk_far ?_ NB336_335.out _; (with_reducible repeat (first | apply kN_ | apply kD_ | apply kA_)); refine blk_far ?_ NB336_335.out _; (with_reducible repeat (first | apply kN_ | apply kD_ | apply kA_)); refine blk_far ?_ NB336_335.out _; (with_reducible repeat (first | apply kN_ | apply kD_ | apply kA_)); exact BK336.out) Tryd.underlying24 rfl (by kernel_rfl)) rfl ?_
           exact ⟨by first | rfl | (simp [errW_none, errW_some] <;> rfl) | (simp [*, errW_none, errW_some] <;> rfl), by repeat (first | (with_reducible first | exact HB.out | apply bA_ | apply bN_ | apply bD_ | refine bS_ ?_ GE334.out | refine bS_ ?_ GE335.out | refine bS_ ?_ GE336.out) | exact HB.out)⟩
          ·rw [if_neg c155] at H
           have c155b0 : (t381 == 0) = false := beq_eq_false_iff_ne.mpr c155
           have c155b1 : (t381 != 0) = true := bne_iff_ne.mpr c155
           simp only [Option.some.injEq, Prod.mk.injEq] at H
           obtain ⟨rfl, rfl, rfl, rfl, rfl⟩ := H
           have hnb165 := NB335_334.out
           have hnc165 := NB334_335.out
           have hnb166 := NB335_336.out
           have hnc166 := NB336_335.out
           obtain ⟨hcz167_0, hcz167_1, hcz167_2, hcz167_3⟩ := cells4_ BK335.out
           obtain ⟨hfz167_0, hfz167_1, hfz167_2, hfz167_3⟩ := froz4_ BK335.out
           have hnb168 := NB334_336.out
           have hnc168 := NB336_334.out
           obtain ⟨hcz169_0, hcz169_1, hcz169_2, hcz169_3⟩ := cells4_ BK334.out
           obtain ⟨hfz169_0, hfz169_1, hfz169_2, hfz169_3⟩ := froz4_ BK334.out
           go_wp2_with (first | ((with_reducible refine gate_callee (f := 17) rfl ?_); refine goesL_ (some 29) rfl rfl Tryd.func17 (by kernel_rfl) rfl #[.agg #[.int .i64 a2_0, .int .u64 a2_1, .string a2_2, .int .i64 a2_3], .int .i64 a1_0] rfl (by (try simp only [List.map_toArray, List.map_cons, List.map_nil]); first | done | rfl | (simp only [List.length_drop, List.length_take]; rfl)) ?_; (with_reducible refine (platformfwref08_Convert.calls kj3 a2_0 a2_1 a2_2 a2_3 a1_0 t337 t338 t339 t340 t341 _ A23.out).mono ?_); rintro e w170 ⟨rfl, hb⟩; refine ⟨_, rfl, ?_⟩; have n0_ := Aside0.mk (blk_below (g := gb334) (o := .cells #[.int .i64 a1_0, .int .u64 a1_1, .string a1_2, .int .i64 a1_3] 24 (0, 0)) (by (with_reducible repeat (first | apply kN_ | apply kD_ | apply kA_)); exact BK334.out) hb); have n1_ := Aside0.mk (blk_below (g := gb335) (o := .cells #[.int .i64 a2_0, .int .u64 a2_1, .string a2_2, .int .i64 a2_3] 24 (0, 0)) (by (with_reducible repeat (first | apply kN_ | apply kD_ | apply kA_)); exact BK335.out) hb); have n2_ := Aside0.mk (blk_below (g := gb336) (o := .cells #[.int .i64 0, .int .u64 0, .string (⟨#[]⟩ : ByteArray), .int .i64 0] 24 (0, 0)) (by (with_reducible repeat (first | apply kN_ | apply kD_ | apply kA_)); exact BK336.out) hb); have n3_ := Aside0.mk (below_step (by repeat (first | (with_reducible first | exact HB.out | apply bA_ | apply bN_ | apply bD_ | refine bS_ ?_ GE334.out | refine bS_ ?_ GE335.out | refine bS_ ?_ GE336.out) | exact HB.out)) hb); clear BK334; clear BK335; clear BK336; clear HB; have BK334 := n0_; have BK335 := n1_; have BK336 := n2_; have HB := n3_; clear n0_ n1_ n2_ n3_; (try clear hb); (try clear hb2); (try clear hk); (try clear hi); obtain ⟨hcz171_0, hcz171_1, hcz171_2, hcz171_3⟩ := cells4_ BK335.out; obtain ⟨hfz171_0, hfz171_1, hfz171_2, hfz171_3⟩ := froz4_ BK335.out; obtain ⟨hcz172_0, hcz172_1, hcz172_2, hcz172_3⟩ := cells4_ BK334.out; obtain ⟨hfz172_0, hfz172_1, hfz172_2, hfz172_3⟩ := froz4_ BK334.out) | ((with_reducible refine gate_callee (f := 56) rfl ?_); refine goesL_ (some 121) rfl rfl Tryd.func56 (by kernel_rfl) rfl #[.string (a1_2 ++ t339)] rfl (by (try simp only [List.map_toArray, List.map_cons, List.map_nil]); first | done | rfl | (simp only [List.length_drop, List.length_take]; rfl)) ?_; (with_reducible refine (platformfwref08_bounded.calls (a1_2 ++ t339) t380 t381 _ A154.out).mono ?_); rintro e w' ⟨rfl, ⟨nd, rfl⟩⟩; refine ⟨_, rfl, ?_⟩; obtain ⟨hcz173_0, hcz173_1, hcz173_2, hcz173_3⟩ := cells4_ BK336.out; obtain ⟨hfz173_0, hfz173_1, hfz173_2, hfz173_3⟩ := froz4_ BK336.out))
           refine bodyPost_ret (results_ct rfl _ _ gb336 24 #[.int .i64 0, .int .u64 0, .string (⟨#[]⟩ : ByteArray), .int .i64 0] (0, 0) _ rfl (by (with_reducible repeat (first | apply kN_ | apply kD_ | apply kA_)); refine blk_put (cs := #[.int .i64 0, .int .u64 0, .string (⟨#[]⟩ : ByteArray), .int .i64 0]) ?_ 3 _ rfl; (with_reducible repeat (first | apply kN_ | apply kD_ | apply kA_)); refine blk_put (cs := #[.int .i64 0, .int .u64 0, .string (⟨#[]⟩ : ByteArray), .int .i64 0]) ?_ 2 _ rfl; (with_reducible repeat (first | apply kN_ | apply kD_ | apply kA_)); refine blk_put (cs := #[.int .i64 0, .int .u64 0, .string (⟨#[]⟩ : ByteArray), .int .i64 0]) ?_ 1 _ rfl; (with_reducible repeat (first | apply kN_ | apply kD_ | apply kA_)); refine blk_put (cs := #[.int .i64 0, .int .u64 0, .string (⟨#[]⟩ : ByteArray), .int .i64 0]) ?_ 0 _ rfl; (with_reducible repeat (first | apply kN_ | apply kD_ | apply kA_)); refine blk_far ?_ NB336_335.out _; (with_reducible repeat (first | apply kN_ | apply kD_ | apply kA_)); refine blk_far ?_ NB336_335.out _; (with_reducible repeat (first | apply kN_ | apply kD_ | apply kA_)); refine blk_far ?_ NB336_335.out _; (with_reducible repeat (first | apply kN_ | apply kD_ | apply kA_)); refine blk_far ?_ NB336_335.out _; (with_reducible repeat (first | apply kN_ | apply kD_ | apply kA_)); exact BK336.out) Tryd.underlying24 rfl (by kernel_rfl)) rfl ?_
           exact ⟨by first | rfl | (simp [errW_none, errW_some] <;> rfl) | (simp [*, errW_none, errW_some] <;> rfl), by repeat (first | (with_reducible first | exact HB.out | apply bA_ | apply bN_ | apply bD_ | refine bS_ ?_ GE334.out | refine bS_ ?_ GE335.out | refine bS_ ?_ GE336.out) | exact HB.out)⟩
         ·rw [if_neg c153] at H
          exact absurd H (by simp)
    ·rw [if_neg c24] at H
     have c24b0 : (t341 == 0) = false := beq_eq_false_iff_ne.mpr c24
     have c24b1 : (t341 != 0) = true := bne_iff_ne.mpr c24
     simp only [Option.some.injEq, Prod.mk.injEq] at H
     obtain ⟨rfl, rfl, rfl, rfl, rfl⟩ := H
     have hnb174 := NB335_334.out
     have hnc174 := NB334_335.out
     have hnb175 := NB335_336.out
     have hnc175 := NB336_335.out
     obtain ⟨hcz176_0, hcz176_1, hcz176_2, hcz176_3⟩ := cells4_ BK335.out
     obtain ⟨hfz176_0, hfz176_1, hfz176_2, hfz176_3⟩ := froz4_ BK335.out
     have hnb177 := NB334_336.out
     have hnc177 := NB336_334.out
     obtain ⟨hcz178_0, hcz178_1, hcz178_2, hcz178_3⟩ := cells4_ BK334.out
     obtain ⟨hfz178_0, hfz178_1, hfz178_2, hfz178_3⟩ := froz4_ BK334.out
     go_wp2_with (first | ((with_reducible refine gate_callee (f := 17) rfl ?_); refine goesL_ (some 29) rfl rfl Tryd.func17 (by kernel_rfl) rfl #[.agg #[.int .i64 a2_0, .int .u64 a2_1, .string a2_2, .int .i64 a2_3], .int .i64 a1_0] rfl (by (try simp only [List.map_toArray, List.map_cons, List.map_nil]); first | done | rfl | (simp only [List.length_drop, List.length_take]; rfl)) ?_; (with_reducible refine (platformfwref08_Convert.calls kj3 a2_0 a2_1 a2_2 a2_3 a1_0 t337 t338 t339 t340 t341 _ A23.out).mono ?_); rintro e w179 ⟨rfl, hb⟩; refine ⟨_, rfl, ?_⟩; have n0_ := Aside0.mk (blk_below (g := gb334) (o := .cells #[.int .i64 a1_0, .int .u64 a1_1, .string a1_2, .int .i64 a1_3] 24 (0, 0)) (by (with_reducible repeat (first | apply kN_ | apply kD_ | apply kA_)); exact BK334.out) hb); have n1_ := Aside0.mk (blk_below (g := gb335) (o := .cells #[.int .i64 a2_0, .int .u64 a2_1, .string a2_2, .int .i64 a2_3] 24 (0, 0)) (by (with_reducible repeat (first | apply kN_ | apply kD_ | apply kA_)); exact BK335.out) hb); have n2_ := Aside0.mk (blk_below (g := gb336) (o := .cells #[.int .i64 0, .int .u64 0, .string (⟨#[]⟩ : ByteArray), .int .i64 0] 24 (0, 0)) (by (with_reducible repeat (first | apply kN_ | apply kD_ | apply kA_)); exact BK336.out) hb); have n3_ := Aside0.mk (below_step (by repeat (first | (with_reducible first | exact HB.out | apply bA_ | apply bN_ | apply bD_ | refine bS_ ?_ GE334.out | refine bS_ ?_ GE335.out | refine bS_ ?_ GE336.out) | exact HB.out)) hb); clear BK334; clear BK335; clear BK336; clear HB; have BK334 := n0_; have BK335 := n1_; have BK336 := n2_; have HB := n3_; clear n0_ n1_ n2_ n3_; (try clear hb); (try clear hb2); (try clear hk); (try clear hi); obtain ⟨hcz180_0, hcz180_1, hcz180_2, hcz180_3⟩ := cells4_ BK335.out; obtain ⟨hfz180_0, hfz180_1, hfz180_2, hfz180_3⟩ := froz4_ BK335.out; obtain ⟨hcz181_0, hcz181_1, hcz181_2, hcz181_3⟩ := cells4_ BK336.out; obtain ⟨hfz181_0, hfz181_1, hfz181_2, hfz181_3⟩ := froz4_ BK336.out))
     refine bodyPost_ret (results_ct rfl _ _ gb336 24 #[.int .i64 0, .int .u64 0, .string (⟨#[]⟩ : ByteArray), .int .i64 0] (0, 0) _ rfl (by (with_reducible repeat (first | apply kN_ | apply kD_ | apply kA_)); refine blk_put (cs := #[.int .i64 0, .int .u64 0, .string (⟨#[]⟩ : ByteArray), .int .i64 0]) ?_ 3 _ rfl; (with_reducible repeat (first | apply kN_ | apply kD_ | apply kA_)); refine blk_put (cs := #[.int .i64 0, .int .u64 0, .string (⟨#[]⟩ : ByteArray), .int .i64 0]) ?_ 2 _ rfl; (with_reducible repeat (first | apply kN_ | apply kD_ | apply kA_)); refine blk_put (cs := #[.int .i64 0, .int .u64 0, .string (⟨#[]⟩ : ByteArray), .int .i64 0]) ?_ 1 _ rfl; (with_reducible repeat (first | apply kN_ | apply kD_ | apply kA_)); refine blk_put (cs := #[.int .i64 0, .int .u64 0, .string (⟨#[]⟩ : ByteArray), .int .i64 0]) ?_ 0 _ rfl; (with_reducible repeat (first | apply kN_ | apply kD_ | apply kA_)); refine blk_far ?_ NB336_335.out _; (with_reducible repeat (first | apply kN_ | apply kD_ | apply kA_)); refine blk_far ?_ NB336_335.out _; (with_reducible repeat (first | apply kN_ | apply kD_ | apply kA_)); refine blk_far ?_ NB336_335.out _; (with_reducible repeat (first | apply kN_ | apply kD_ | apply kA_)); refine blk_far ?_ NB336_335.out _; (with_reducible repeat (first | apply kN_ | apply kD_ | apply kA_)); exact BK336.out) Tryd.underlying24 rfl (by kernel_rfl)) rfl ?_
     exact ⟨by first | rfl | (simp [errW_none, errW_some] <;> rfl) | (simp [*, errW_none, errW_some] <;> rfl), by repeat (first | (with_reducible first | exact HB.out | apply bA_ | apply bN_ | apply bD_ | refine bS_ ?_ GE334.out | refine bS_ ?_ GE335.out | refine bS_ ?_ GE336.out) | exact HB.out)⟩

end Go.Proofs.YtdmeglmmihaonaaDoor.PValueBinary
