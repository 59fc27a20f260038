-- Written by a program of this session's (wip/print_patch.py over the kit's print) out of the translation; Lean checks it.
import Derived.Test.YtpjajjmipbjliaaDoorPNspathOrderx0
import Derived.Test.YtpjajjmipbjliaaDoorPNspathOrderx3
import Derived.Test.YtpjajjmipbjliaaDoorPNspathOrderx4
import Derived.Test.YtpjajjmipbjliaaDoorExtP
import Derived.Test.YtpjajjmipbjliaaDoorExtO
namespace Go.Proofs.YtpjajjmipbjliaaDoor.PNspathOrder
open Go.RowKit Go.Proofs.YtpjajjmipbjliaaDoor.Ext Go.Proofs.YtpjajjmipbjliaaDoorW.PrintWords Go.Proofs.YtpjajjmipbjliaaDoorW.PrintLast Go.Proofs.YtpjajjmipbjliaaDoorW.PrintMore
attribute [local go_sem] max2_int min2_int max_two min_two max_three min_three max_four min_four   -- for this text's walks alone
set_option linter.unusedVariables false
set_option linter.unusedSimpArgs false

/-! ### platformfwlaw02_NspathOrder: function 9 -/
mutual
def platformfwlaw02_NspathOrder.j0 : Nat → Bool → Bool → Int → List ByteArray → Bool → Int → List ByteArray → Bool → Int → List ByteArray → Option (Bool)
 | 0, _, _, _, _, _, _, _, _, _, _ => none
 | k + 1, x24, x240000, x240001, x240002, x241000, x241001, x241002, x242000, x242001, x242002 => if x24 = true then ((platformfwlaw02_awake.f k).bind fun t242 => (some t242)) else ((nspath_Compare.f k x240000 x240001 x240002 x241000 x241001 x241002).bind fun t243 => ((nspath_Compare.f k x241000 x241001 x241002 x240000 x240001 x240002).bind fun t244 => ((platformfwlaw02_awake.f k).bind fun t245 => (if t245 = true then ((platformfwref01_ComparePaths.f k x240000 x240001 x240002 x241000 x241001 x241002).bind fun t246 => (if t243 = t246 then (if t243 = (wrap64 (-t244)) then ((platformfwlaw02_same.f k x240000 x240001 x240002 x241000 x241001 x241002).bind fun t247 => (platformfwlaw02_NspathOrder.j1 k t243 ((t243 == 0) != t247) x240000 x240001 x240002 x241000 x241001 x241002 x242000 x242001 x242002)) else (platformfwlaw02_NspathOrder.j1 k t243 true x240000 x240001 x240002 x241000 x241001 x241002 x242000 x242001 x242002)) else (platformfwlaw02_NspathOrder.j1 k t243 true x240000 x240001 x240002 x241000 x241001 x241002 x242000 x242001 x242002))) else (platformfwlaw02_NspathOrder.j1 k t243 true x240000 x240001 x240002 x241000 x241001 x241002 x242000 x242001 x242002)))))
def platformfwlaw02_NspathOrder.j1 : Nat → Int → Bool → Bool → Int → List ByteArray → Bool → Int → List ByteArray → Bool → Int → List ByteArray → Option (Bool)
 | 0, _, _, _, _, _, _, _, _, _, _, _ => none
 | k + 1, x7, x54, x240000, x240001, x240002, x241000, x241001, x241002, x242000, x242001, x242002 => if x54 = true then (some false) else (if x7 > 0 then (some true) else ((nspath_Compare.f k x241000 x241001 x241002 x242000 x242001 x242002).bind fun t248 => (if t248 > 0 then (some true) else ((nspath_Compare.f k x240000 x240001 x240002 x242000 x242001 x242002).bind fun t249 => (some (decide (t249 ≤ 0)))))))
end
def platformfwlaw02_NspathOrder.f (k : Nat) (a0_0 : Bool) (a0_1 : Int) (l0_2 : List ByteArray) (a1_0 : Bool) (a1_1 : Int) (l1_2 : List ByteArray) (a2_0 : Bool) (a2_1 : Int) (l2_2 : List ByteArray) : Option (Bool) := if (l0_2.length : Int) > 100 then (platformfwlaw02_NspathOrder.j0 k true a0_0 a0_1 l0_2 a1_0 a1_1 l1_2 a2_0 a2_1 l2_2) else (if (l1_2.length : Int) > 100 then (platformfwlaw02_NspathOrder.j0 k true a0_0 a0_1 l0_2 a1_0 a1_1 l1_2 a2_0 a2_1 l2_2) else (platformfwlaw02_NspathOrder.j0 k (decide ((l2_2.length : Int) > 100)) a0_0 a0_1 l0_2 a1_0 a1_1 l1_2 a2_0 a2_1 l2_2))
theorem platformfwlaw02_NspathOrder.mono_l : ∀ k, (∀ y0 y1 y2 y3 y4 y5 y6 y7 y8 y9, LeO (platformfwlaw02_NspathOrder.j0 k y0 y1 y2 y3 y4 y5 y6 y7 y8 y9) (platformfwlaw02_NspathOrder.j0 (k + 1) y0 y1 y2 y3 y4 y5 y6 y7 y8 y9)) ∧ (∀ y0 y1 y2 y3 y4 y5 y6 y7 y8 y9 y10, LeO (platformfwlaw02_NspathOrder.j1 k y0 y1 y2 y3 y4 y5 y6 y7 y8 y9 y10) (platformfwlaw02_NspathOrder.j1 (k + 1) y0 y1 y2 y3 y4 y5 y6 y7 y8 y9 y10))
 | 0 => ⟨fun _ _ _ _ _ _ _ _ _ _ r h => by simp [platformfwlaw02_NspathOrder.j0] at h, fun _ _ _ _ _ _ _ _ _ _ _ r h => by simp [platformfwlaw02_NspathOrder.j1] at h⟩
 | k + 1 => by
  obtain ⟨ih0, ih1⟩ := platformfwlaw02_NspathOrder.mono_l k
  refine ⟨?_, ?_⟩
  ·intro y0 y1 y2 y3 y4 y5 y6 y7 y8 y9
   unfold platformfwlaw02_NspathOrder.j0
   repeat' first
   | (with_reducible exact ih0 _ _ _ _ _ _ _ _ _ _)
   | (with_reducible exact ih1 _ _ _ _ _ _ _ _ _ _ _)
   | (with_reducible exact nspath_Compare.mono _ _ _ _ _ _ _)
   | (with_reducible exact platformfwlaw02_awake.mono _)
   | (with_reducible exact platformfwlaw02_same.mono _ _ _ _ _ _ _)
   | (with_reducible exact platformfwref01_ComparePaths.mono _ _ _ _ _ _ _)
   | (with_reducible exact LeO.refl _)
   | (with_reducible exact LeO.none _)
   | (with_reducible refine LeO.ite ?_ ?_)
   | (with_reducible refine LeO.bind ?_ (fun _ => ?_))
   | exact ih0 _ _ _ _ _ _ _ _ _ _
   | exact ih1 _ _ _ _ _ _ _ _ _ _ _
   | exact nspath_Compare.mono _ _ _ _ _ _ _
   | exact platformfwlaw02_awake.mono _
   | exact platformfwlaw02_same.mono _ _ _ _ _ _ _
   | exact platformfwref01_ComparePaths.mono _ _ _ _ _ _ _
   | exact LeO.none _
   | refine LeO.ite ?_ ?_
   | refine LeO.bind ?_ (fun _ => ?_)
  ·intro y0 y1 y2 y3 y4 y5 y6 y7 y8 y9 y10
   unfold platformfwlaw02_NspathOrder.j1
   repeat' first
   | (with_reducible exact ih0 _ _ _ _ _ _ _ _ _ _)
   | (with_reducible exact ih1 _ _ _ _ _ _ _ _ _ _ _)
   | (with_reducible exact nspath_Compare.mono _ _ _ _ _ _ _)
   | (with_reducible exact platformfwlaw02_awake.mono _)
   | (with_reducible exact platformfwlaw02_same.mono _ _ _ _ _ _ _)
   | (with_reducible exact platformfwref01_ComparePaths.mono _ _ _ _ _ _ _)
   | (with_reducible exact LeO.refl _)
   | (with_reducible exact LeO.none _)
   | (with_reducible refine LeO.ite ?_ ?_)
   | (with_reducible refine LeO.bind ?_ (fun _ => ?_))
   | exact ih0 _ _ _ _ _ _ _ _ _ _
   | exact ih1 _ _ _ _ _ _ _ _ _ _ _
   | exact nspath_Compare.mono _ _ _ _ _ _ _
   | exact platformfwlaw02_awake.mono _
   | exact platformfwlaw02_same.mono _ _ _ _ _ _ _
   | exact platformfwref01_ComparePaths.mono _ _ _ _ _ _ _
   | exact LeO.none _
   | refine LeO.ite ?_ ?_
   | refine LeO.bind ?_ (fun _ => ?_)
theorem platformfwlaw02_NspathOrder.mono : ∀ a0 a1 a2 a3 a4 a5 a6 a7 a8 k, LeO (platformfwlaw02_NspathOrder.f k a0 a1 a2 a3 a4 a5 a6 a7 a8) (platformfwlaw02_NspathOrder.f (k + 1) a0 a1 a2 a3 a4 a5 a6 a7 a8) := by
 intro a0 a1 a2 a3 a4 a5 a6 a7 a8 k
 obtain ⟨ih0, ih1⟩ := platformfwlaw02_NspathOrder.mono_l k
 unfold platformfwlaw02_NspathOrder.f
 repeat' first
   | (with_reducible exact ih0 _ _ _ _ _ _ _ _ _ _)
   | (with_reducible exact ih1 _ _ _ _ _ _ _ _ _ _ _)
   | (with_reducible exact nspath_Compare.mono _ _ _ _ _ _ _)
   | (with_reducible exact platformfwlaw02_awake.mono _)
   | (with_reducible exact platformfwlaw02_same.mono _ _ _ _ _ _ _)
   | (with_reducible exact platformfwref01_ComparePaths.mono _ _ _ _ _ _ _)
   | (with_reducible exact LeO.refl _)
   | (with_reducible exact LeO.none _)
   | (with_reducible refine LeO.ite ?_ ?_)
   | (with_reducible refine LeO.bind ?_ (fun _ => ?_))
   | exact ih0 _ _ _ _ _ _ _ _ _ _
   | exact ih1 _ _ _ _ _ _ _ _ _ _ _
   | exact nspath_Compare.mono _ _ _ _ _ _ _
   | exact platformfwlaw02_awake.mono _
   | exact platformfwlaw02_same.mono _ _ _ _ _ _ _
   | exact platformfwref01_ComparePaths.mono _ _ _ _ _ _ _
   | exact LeO.none _
   | refine LeO.ite ?_ ?_
   | refine LeO.bind ?_ (fun _ => ?_)
def platformfwlaw02_NspathOrder.T3 : Bool × List (List Nat × List Nat) := (true, [([], []), ([], []), ([0, 1], [0, 1]), ([], []), ([], []), ([3, 4, 2], [3, 4]), ([2, 5, 0, 1, 2], [2]), ([5, 6, 0, 1, 2, 3, 4, 5, 6], [5])])
def platformfwlaw02_NspathOrder.B3 : List Nat := [0, 0, 3, 0, 0, 31, 63, 127]
theorem platformfwlaw02_NspathOrder.tab3 : rtab .any (opsOf Tryd.f9 3) = platformfwlaw02_NspathOrder.T3 := by kernel_rfl
theorem platformfwlaw02_NspathOrder.bits3 : waitsOk platformfwlaw02_NspathOrder.T3.2 platformfwlaw02_NspathOrder.B3 = true := by kernel_rfl
set_option maxHeartbeats 8000000 in
set_option maxRecDepth 100000 in
theorem platformfwlaw02_NspathOrder.calls (k : Nat) (a0_0 : Bool) (a0_1 : Int) (A0_2 : Option Addr) (c0_2 : Nat) (l0_2 : List ByteArray) (a1_0 : Bool) (a1_1 : Int) (A1_2 : Option Addr) (c1_2 : Nat) (l1_2 : List ByteArray) (a2_0 : Bool) (a2_1 : Int) (A2_2 : Option Addr) (c2_2 : Nat) (l2_2 : List ByteArray) (r : Bool) (w : World) (hr0_2 : Kd.C Kd.string w A0_2 l0_2.length l0_2) (hc0_2 : l0_2.length ≤ c0_2) (hr1_2 : Kd.C Kd.string w A1_2 l1_2.length l1_2) (hc1_2 : l1_2.length ≤ c1_2) (hr2_2 : Kd.C Kd.string w A2_2 l2_2.length l2_2) (hc2_2 : l2_2.length ≤ c2_2) (hr_ : Aside0 (r = true)) (h : platformfwlaw02_NspathOrder.f k a0_0 a0_1 l0_2 a1_0 a1_1 l1_2 a2_0 a2_1 l2_2 = some r) :
  Calls Tryd.prog 9 #[.agg #[.bool a0_0, .int .i64 a0_1, .slice A0_2 l0_2.length c0_2], .agg #[.bool a1_0, .int .i64 a1_1, .slice A1_2 l1_2.length c1_2], .agg #[.bool a2_0, .int .i64 a2_1, .slice A2_2 l2_2.length c2_2]] w fun e w' => e = .returned (.bool r) ∧ Below w.heap.size w w' := by
 have hu24 := Tryd.underlying24
 have HR0_2 := Aside0.mk hr0_2
 have HC0_2 := Aside0.mk hc0_2
 clear hr0_2 hc0_2
 have HR1_2 := Aside0.mk hr1_2
 have HC1_2 := Aside0.mk hc1_2
 clear hr1_2 hc1_2
 have HR2_2 := Aside0.mk hr2_2
 have HC2_2 := Aside0.mk hc2_2
 clear hr2_2 hc2_2
 have HB := Aside0.mk (Below.refl w.heap.size w)
 have H : (if (l0_2.length : Int) > 100 then (platformfwlaw02_NspathOrder.j0 k true a0_0 a0_1 l0_2 a1_0 a1_1 l1_2 a2_0 a2_1 l2_2) else (if (l1_2.length : Int) > 100 then (platformfwlaw02_NspathOrder.j0 k true a0_0 a0_1 l0_2 a1_0 a1_1 l1_2 a2_0 a2_1 l2_2) else (platformfwlaw02_NspathOrder.j0 k (decide ((l2_2.length : Int) > 100)) a0_0 a0_1 l0_2 a1_0 a1_1 l1_2 a2_0 a2_1 l2_2))) = some r := h
 clear h
 have HC4 := Aside0.mk H
 clear H
 go_enter Tryd.func9, Tryd.ntmps9
 go_upto_region 1 with (first | ((with_reducible refine gate_dst (N := 3) rfl ?_); (try (refine gate_guard (by rfl) ?_; dsimp only)); refine box_event ?hg (N := 3) ?hd (cs := #[.bool a0_0, .int .i64 a0_1, .slice A0_2 l0_2.length c0_2]) (t := 24) ?hr ?_; (case hd => rfl); (case hg => rfl); (case hr => first | (go_simp; done) | (go_simp; rfl)); intro gb239 hg w5 hbox hb; have n0_ := Aside0.mk (below_step (by repeat (first | (with_reducible first | exact HB.out | apply bA_ | apply bN_ | apply bD_) | exact HB.out)) hb); have n1_ := Aside0.mk (hbox); have n2_ := Aside0.mk ((by rw [hg]; exact (below_size (by repeat (first | (with_reducible first | exact HB.out | apply bA_ | apply bN_ | apply bD_) | exact HB.out))) : w.heap.size ≤ gb239)); have n3_ := Aside0.mk ((by rw [hg]; exact (below_size (by repeat (first | (with_reducible first | exact HB.out | apply bA_ | apply bN_ | apply bD_) | exact HB.out))) : w.heap.size ≤ gb239)); clear HB; have HB := n0_; have BK239 := n1_; have GW239 := n2_; have GE239 := n3_; clear n0_ n1_ n2_ n3_; clear hb hbox hg) | ((with_reducible refine gate_dst (N := 4) rfl ?_); (try (refine gate_guard (by rfl) ?_; dsimp only)); refine box_event ?hg (N := 4) ?hd (cs := #[.bool a1_0, .int .i64 a1_1, .slice A1_2 l1_2.length c1_2]) (t := 24) ?hr ?_; (case hd => rfl); (case hg => rfl); (case hr => first | (go_simp; done) | (go_simp; rfl)); intro gb240 hg w6 hbox hb; have n0_ := Aside0.mk (blk_below (g := gb239) (o := .cells #[.bool a0_0, .int .i64 a0_1, .slice A0_2 l0_2.length c0_2] 24 (0, 0)) (by (with_reducible repeat (first | refine kN_ ?_ _ | refine kD_ ?_ | refine kA_ ?_ _)); exact BK239.out) hb); have n1_ := Aside0.mk (below_step (by repeat (first | (with_reducible first | exact HB.out | apply bA_ | apply bN_ | apply bD_ | refine bS_ ?_ GE239.out) | exact HB.out)) hb); have n2_ := Aside0.mk (hbox); have n3_ := Aside0.mk ((by rw [hg]; exact (below_size (by repeat (first | (with_reducible first | exact HB.out | apply bA_ | apply bN_ | apply bD_ | refine bS_ ?_ GE239.out) | exact HB.out))) : w.heap.size ≤ gb240)); have n4_ := Aside0.mk ((by rw [hg]; exact (below_size (by repeat (first | (with_reducible first | exact HB.out | apply bA_ | apply bN_ | apply bD_ | refine bS_ ?_ GE239.out) | exact HB.out))) : w.heap.size ≤ gb240)); have n5_ := Aside0.mk ((by rw [hg]; exact Nat.ne_of_lt (blk_lt (g := gb239) (o := .cells #[.bool a0_0, .int .i64 a0_1, .slice A0_2 l0_2.length c0_2] 24 (0, 0)) (by (with_reducible repeat (first | refine kN_ ?_ _ | refine kD_ ?_ | refine kA_ ?_ _)); exact BK239.out)) : gb239 ≠ gb240)); have n6_ := Aside0.mk ((by rw [hg]; exact Nat.ne_of_gt (blk_lt (g := gb239) (o := .cells #[.bool a0_0, .int .i64 a0_1, .slice A0_2 l0_2.length c0_2] 24 (0, 0)) (by (with_reducible repeat (first | refine kN_ ?_ _ | refine kD_ ?_ | refine kA_ ?_ _)); exact BK239.out)) : gb240 ≠ gb239)); clear BK239; clear HB; have BK239 := n0_; have HB := n1_; have BK240 := n2_; have GW240 := n3_; have GE240 := n4_; have NB239_240 := n5_; have NB240_239 := n6_; clear n0_ n1_ n2_ n3_ n4_ n5_ n6_; clear hb hbox hg) | ((with_reducible refine gate_dst (N := 5) rfl ?_); (try (refine gate_guard (by rfl) ?_; dsimp only)); refine box_event ?hg (N := 5) ?hd (cs := #[.bool a2_0, .int .i64 a2_1, .slice A2_2 l2_2.length c2_2]) (t := 24) ?hr ?_; (case hd => rfl); (case hg => rfl); (case hr => first | (go_simp; done) | (go_simp; rfl)); intro gb241 hg w7 hbox hb; have n0_ := Aside0.mk (blk_below (g := gb239) (o := .cells #[.bool a0_0, .int .i64 a0_1, .slice A0_2 l0_2.length c0_2] 24 (0, 0)) (by (with_reducible repeat (first | refine kN_ ?_ _ | refine kD_ ?_ | refine kA_ ?_ _)); exact BK239.out) hb); have n1_ := Aside0.mk (blk_below (g := gb240) (o := .cells #[.bool a1_0, .int .i64 a1_1, .slice A1_2 l1_2.length c1_2] 24 (0, 0)) (by (with_reducible repeat (first | refine kN_ ?_ _ | refine kD_ ?_ | refine kA_ ?_ _)); exact BK240.out) hb); have n2_ := Aside0.mk (below_step (by repeat (first | (with_reducible first | exact HB.out | apply bA_ | apply bN_ | apply bD_ | refine bS_ ?_ GE239.out | refine bS_ ?_ GE240.out) | exact HB.out)) hb); have n3_ := Aside0.mk (hbox); have n4_ := Aside0.mk ((by rw [hg]; exact (below_size (by repeat (first | (with_reducible first | exact HB.out | apply bA_ | apply bN_ | apply bD_ | refine bS_ ?_ GE239.out | refine bS_ ?_ GE240.out) | exact HB.out))) : w.heap.size ≤ gb241)); have n5_ := Aside0.mk ((by rw [hg]; exact (below_size (by repeat (first | (with_reducible first | exact HB.out | apply bA_ | apply bN_ | apply bD_ | refine bS_ ?_ GE239.out | refine bS_ ?_ GE240.out) | exact HB.out))) : w.heap.size ≤ gb241)); have n6_ := Aside0.mk ((by rw [hg]; exact Nat.ne_of_lt (blk_lt (g := gb239) (o := .cells #[.bool a0_0, .int .i64 a0_1, .slice A0_2 l0_2.length c0_2] 24 (0, 0)) (by (with_reducible repeat (first | refine kN_ ?_ _ | refine kD_ ?_ | refine kA_ ?_ _)); exact BK239.out)) : gb239 ≠ gb241)); have n7_ := Aside0.mk ((by rw [hg]; exact Nat.ne_of_gt (blk_lt (g := gb239) (o := .cells #[.bool a0_0, .int .i64 a0_1, .slice A0_2 l0_2.length c0_2] 24 (0, 0)) (by (with_reducible repeat (first | refine kN_ ?_ _ | refine kD_ ?_ | refine kA_ ?_ _)); exact BK239.out)) : gb241 ≠ gb239)); have n8_ := Aside0.mk ((by rw [hg]; exact Nat.ne_of_lt (blk_lt (g := gb240) (o := .cells #[.bool a1_0, .int .i64 a1_1, .slice A1_2 l1_2.length c1_2] 24 (0, 0)) (by (with_reducible repeat (first | refine kN_ ?_ _ | refine kD_ ?_ | refine kA_ ?_ _)); exact BK240.out)) : gb240 ≠ gb241)); have n9_ := Aside0.mk ((by rw [hg]; exact Nat.ne_of_gt (blk_lt (g := gb240) (o := .cells #[.bool a1_0, .int .i64 a1_1, .slice A1_2 l1_2.length c1_2] 24 (0, 0)) (by (with_reducible repeat (first | refine kN_ ?_ _ | refine kD_ ?_ | refine kA_ ?_ _)); exact BK240.out)) : gb241 ≠ gb240)); clear BK239; clear BK240; clear HB; have BK239 := n0_; have BK240 := n1_; have HB := n2_; have BK241 := n3_; have GW241 := n4_; have GE241 := n5_; have NB239_241 := n6_; have NB241_239 := n7_; have NB240_241 := n8_; have NB241_240 := n9_; clear n0_ n1_ n2_ n3_ n4_ n5_ n6_ n7_ n8_ n9_; clear hb hbox hg))
 (try simp only [Act.put, sA_, sB_, sC_])
 go_cut [24] (fun v24 wc => ∃ (kq : Nat) (x24_3 : Bool), v24 = .bool x24_3 ∧ Aside0 (platformfwlaw02_NspathOrder.j0 kq x24_3 a0_0 a0_1 l0_2 a1_0 a1_1 l1_2 a2_0 a2_1 l2_2 = some r) ∧ Aside0 (kq ≤ k) ∧ Aside0 (wc.heap[gb239]? = some (.cells #[.bool a0_0, .int .i64 a0_1, (.slice A0_2 l0_2.length c0_2)] 24 (0, 0))) ∧ Aside0 (wc.heap[gb240]? = some (.cells #[.bool a1_0, .int .i64 a1_1, (.slice A1_2 l1_2.length c1_2)] 24 (0, 0))) ∧ Aside0 (wc.heap[gb241]? = some (.cells #[.bool a2_0, .int .i64 a2_1, (.slice A2_2 l2_2.length c2_2)] 24 (0, 0))) ∧ Aside0 (Below w.heap.size w wc))
 case first =>
  have H := HC4.out
  clear HC4
  by_cases c8 : (l0_2.length : Int) > 100
  ·rw [if_pos c8] at H
   have c8b0 : decide (100 < (l0_2.length : Int)) = true := decide_eq_true c8
   have c8b1 : decide (100 < l0_2.length) = true := decide_eq_true (by omega)
   clear c8
   (first | rw [c8b0] | (simp only [i64_w, i32_w]; rw [c8b0]) | skip)
   have H' := Aside0.mk H
   clear H
   have hnb9 := NB239_240.out
   have hnc9 := NB240_239.out
   have hnb10 := NB239_241.out
   have hnc10 := NB241_239.out
   obtain ⟨hcz11_0, hcz11_1, hcz11_2⟩ := cells3_ BK239.out
   obtain ⟨hfz11_0, hfz11_1, hfz11_2⟩ := froz3_ BK239.out
   go_wp2
   go_meet
   case rel => exact ⟨_, (true), (by first | rfl | (simp; done) | (simp [*]; done)), H', ⟨by first | omega | exact Nat.le_refl _⟩, ⟨by (with_reducible repeat (first | refine kN_ ?_ _ | refine kD_ ?_ | refine kA_ ?_ _)); exact BK239.out⟩, ⟨by (with_reducible repeat (first | refine kN_ ?_ _ | refine kD_ ?_ | refine kA_ ?_ _)); exact BK240.out⟩, ⟨by (with_reducible repeat (first | refine kN_ ?_ _ | refine kD_ ?_ | refine kA_ ?_ _)); exact BK241.out⟩, ⟨by repeat (first | (with_reducible first | exact HB.out | apply bA_ | apply bN_ | apply bD_ | refine bS_ ?_ GE239.out | refine bS_ ?_ GE240.out | refine bS_ ?_ GE241.out) | exact HB.out)⟩⟩
  ·rw [if_neg c8] at H
   have c8b0 : decide (100 < (l0_2.length : Int)) = false := decide_eq_false c8
   have c8b1 : decide (100 < l0_2.length) = false := decide_eq_false (by omega)
   clear c8
   (first | rw [c8b0] | (simp only [i64_w, i32_w]; rw [c8b0]) | skip)
   by_cases c12 : (l1_2.length : Int) > 100
   ·rw [if_pos c12] at H
    have c12b0 : decide (100 < (l1_2.length : Int)) = true := decide_eq_true c12
    have c12b1 : decide (100 < l1_2.length) = true := decide_eq_true (by omega)
    clear c12
    have H' := Aside0.mk H
    clear H
    have hnb13 := NB239_240.out
    have hnc13 := NB240_239.out
    have hnb14 := NB239_241.out
    have hnc14 := NB241_239.out
    obtain ⟨hcz15_0, hcz15_1, hcz15_2⟩ := cells3_ BK239.out
    obtain ⟨hfz15_0, hfz15_1, hfz15_2⟩ := froz3_ BK239.out
    have hnb16 := NB240_241.out
    have hnc16 := NB241_240.out
    obtain ⟨hcz17_0, hcz17_1, hcz17_2⟩ := cells3_ BK240.out
    obtain ⟨hfz17_0, hfz17_1, hfz17_2⟩ := froz3_ BK240.out
    go_wp2
    go_meet
    case rel => exact ⟨_, (true), (by first | rfl | (simp; done) | (simp [*]; done)), H', ⟨by first | omega | exact Nat.le_refl _⟩, ⟨by (with_reducible repeat (first | refine kN_ ?_ _ | refine kD_ ?_ | refine kA_ ?_ _)); exact BK239.out⟩, ⟨by (with_reducible repeat (first | refine kN_ ?_ _ | refine kD_ ?_ | refine kA_ ?_ _)); exact BK240.out⟩, ⟨by (with_reducible repeat (first | refine kN_ ?_ _ | refine kD_ ?_ | refine kA_ ?_ _)); exact BK241.out⟩, ⟨by repeat (first | (with_reducible first | exact HB.out | apply bA_ | apply bN_ | apply bD_ | refine bS_ ?_ GE239.out | refine bS_ ?_ GE240.out | refine bS_ ?_ GE241.out) | exact HB.out)⟩⟩
   ·rw [if_neg c12] at H
    have c12b0 : decide (100 < (l1_2.length : Int)) = false := decide_eq_false c12
    have c12b1 : decide (100 < l1_2.length) = false := decide_eq_false (by omega)
    clear c12
    have H' := Aside0.mk H
    clear H
    have hnb18 := NB239_240.out
    have hnc18 := NB240_239.out
    have hnb19 := NB239_241.out
    have hnc19 := NB241_239.out
    obtain ⟨hcz20_0, hcz20_1, hcz20_2⟩ := cells3_ BK239.out
    obtain ⟨hfz20_0, hfz20_1, hfz20_2⟩ := froz3_ BK239.out
    have hnb21 := NB240_241.out
    have hnc21 := NB241_240.out
    obtain ⟨hcz22_0, hcz22_1, hcz22_2⟩ := cells3_ BK240.out
    obtain ⟨hfz22_0, hfz22_1, hfz22_2⟩ := froz3_ BK240.out
    obtain ⟨hcz23_0, hcz23_1, hcz23_2⟩ := cells3_ BK241.out
    obtain ⟨hfz23_0, hfz23_1, hfz23_2⟩ := froz3_ BK241.out
    go_wp2
    go_meet
    case rel => exact ⟨_, (decide ((l2_2.length : Int) > 100)), (by first | rfl | (simp; done) | (simp [*]; done)), H', ⟨by first | omega | exact Nat.le_refl _⟩, ⟨by (with_reducible repeat (first | refine kN_ ?_ _ | refine kD_ ?_ | refine kA_ ?_ _)); exact BK239.out⟩, ⟨by (with_reducible repeat (first | refine kN_ ?_ _ | refine kD_ ?_ | refine kA_ ?_ _)); exact BK240.out⟩, ⟨by (with_reducible repeat (first | refine kN_ ?_ _ | refine kD_ ?_ | refine kA_ ?_ _)); exact BK241.out⟩, ⟨by repeat (first | (with_reducible first | exact HB.out | apply bA_ | apply bN_ | apply bD_ | refine bS_ ?_ GE239.out | refine bS_ ?_ GE240.out | refine bS_ ?_ GE241.out) | exact HB.out)⟩⟩
 case rest =>
  clear HC4
  try clear c1
  try clear c2
  try clear p2
  try clear c8
  try clear c8b0
  try clear c8b1
  try clear c9
  try clear c10
  try clear c12
  try clear c12b0
  try clear c12b1
  try clear c13
  try clear c14
  try clear c16
  try clear c18
  try clear c19
  try clear c21
  try clear hcz11_0 hcz11_1 hcz11_2
  try clear hcz15_0 hcz15_1 hcz15_2
  try clear hcz17_0 hcz17_1 hcz17_2
  try clear hcz20_0 hcz20_1 hcz20_2
  try clear hcz22_0 hcz22_1 hcz22_2
  try clear hcz23_0 hcz23_1 hcz23_2
  try clear hfz11_0 hfz11_1 hfz11_2
  try clear hfz15_0 hfz15_1 hfz15_2
  try clear hfz17_0 hfz17_1 hfz17_2
  try clear hfz20_0 hfz20_1 hfz20_2
  try clear hfz22_0 hfz22_1 hfz22_2
  try clear hfz23_0 hfz23_1 hfz23_2
  obtain ⟨kq, x24_3, rfl, HA, HJ3, BK239, BK240, BK241, HB⟩ := hcut
  cases kq with
  | zero => exact absurd HA.out (by simp [platformfwlaw02_NspathOrder.j0])
  | succ kj3 =>
   have H := HA.out
   clear HA
   simp only [platformfwlaw02_NspathOrder.j0] at H
   by_cases c24 : x24_3 = true
   ·subst c24
    have H1 : ((platformfwlaw02_awake.f kj3).bind fun t242 => (some t242)) = some r := by rw [if_pos rfl] at H; exact H
    clear H
    have H := H1
    clear H1
    replace H := Option.bind_eq_some_iff.mp H
    obtain ⟨t242, A250, H⟩ := H
    replace H : (some t242) = some r := H
    have A25 := Aside0.mk A250
    clear A250
    obtain rfl := Option.some.inj H
    go_wp2_with (first | ((with_reducible refine gate_callee (f := 11) rfl ?_); refine goesL_ (some 25) rfl rfl Tryd.func11 (by kernel_rfl) rfl #[] rfl (by (try simp only [List.map_toArray, List.map_cons, List.map_nil]); first | done | rfl | (simp only [List.length_drop, List.length_take]; rfl)) ?_; (with_reducible refine (platformfwlaw02_awake.calls kj3  t242 _ A25.out).mono ?_); rintro e w26 ⟨rfl, hb⟩; refine ⟨_, rfl, ?_⟩; have n0_ := Aside0.mk (blk_below (g := gb239) (o := .cells #[.bool a0_0, .int .i64 a0_1, .slice A0_2 l0_2.length c0_2] 24 (0, 0)) (by (with_reducible repeat (first | refine kN_ ?_ _ | refine kD_ ?_ | refine kA_ ?_ _)); exact BK239.out) hb); have n1_ := Aside0.mk (blk_below (g := gb240) (o := .cells #[.bool a1_0, .int .i64 a1_1, .slice A1_2 l1_2.length c1_2] 24 (0, 0)) (by (with_reducible repeat (first | refine kN_ ?_ _ | refine kD_ ?_ | refine kA_ ?_ _)); exact BK240.out) hb); have n2_ := Aside0.mk (blk_below (g := gb241) (o := .cells #[.bool a2_0, .int .i64 a2_1, .slice A2_2 l2_2.length c2_2] 24 (0, 0)) (by (with_reducible repeat (first | refine kN_ ?_ _ | refine kD_ ?_ | refine kA_ ?_ _)); exact BK241.out) hb); have n3_ := Aside0.mk (below_step (by repeat (first | (with_reducible first | exact HB.out | apply bA_ | apply bN_ | apply bD_ | refine bS_ ?_ GE239.out | refine bS_ ?_ GE240.out | refine bS_ ?_ GE241.out) | exact HB.out)) hb); clear BK239; clear BK240; clear BK241; clear HB; have BK239 := n0_; have BK240 := n1_; have BK241 := n2_; have HB := n3_; clear n0_ n1_ n2_ n3_; (try clear hb); (try clear hb2); (try clear hk); (try clear hi)))
    go_ret
    exact ⟨by first | rfl | (simp [errW_none, errW_some] <;> rfl) | (simp [*, errW_none, errW_some] <;> rfl), by repeat (first | (with_reducible first | exact HB.out | apply bA_ | apply bN_ | apply bD_ | refine bS_ ?_ GE239.out | refine bS_ ?_ GE240.out | refine bS_ ?_ GE241.out) | exact HB.out)⟩
   ·replace c24 := Bool.eq_false_iff.mpr c24
    subst c24
    have H1 : ((nspath_Compare.f kj3 a0_0 a0_1 l0_2 a1_0 a1_1 l1_2).bind fun t243 => ((nspath_Compare.f kj3 a1_0 a1_1 l1_2 a0_0 a0_1 l0_2).bind fun t244 => ((platformfwlaw02_awake.f kj3).bind fun t245 => (if t245 = true then ((platformfwref01_ComparePaths.f kj3 a0_0 a0_1 l0_2 a1_0 a1_1 l1_2).bind fun t246 => (if t243 = t246 then (if t243 = (wrap64 (-t244)) then ((platformfwlaw02_same.f kj3 a0_0 a0_1 l0_2 a1_0 a1_1 l1_2).bind fun t247 => (platformfwlaw02_NspathOrder.j1 kj3 t243 ((t243 == 0) != t247) a0_0 a0_1 l0_2 a1_0 a1_1 l1_2 a2_0 a2_1 l2_2)) else (platformfwlaw02_NspathOrder.j1 kj3 t243 true a0_0 a0_1 l0_2 a1_0 a1_1 l1_2 a2_0 a2_1 l2_2)) else (platformfwlaw02_NspathOrder.j1 kj3 t243 true a0_0 a0_1 l0_2 a1_0 a1_1 l1_2 a2_0 a2_1 l2_2))) else (platformfwlaw02_NspathOrder.j1 kj3 t243 true a0_0 a0_1 l0_2 a1_0 a1_1 l1_2 a2_0 a2_1 l2_2))))) = some r := by rw [if_neg (show ¬ (false = true) by decide)] at H; exact H
    clear H
    have H := H1
    clear H1
    replace H := Option.bind_eq_some_iff.mp H
    obtain ⟨t243, A270, H⟩ := H
    replace H : ((nspath_Compare.f kj3 a1_0 a1_1 l1_2 a0_0 a0_1 l0_2).bind fun t244 => ((platformfwlaw02_awake.f kj3).bind fun t245 => (if t245 = true then ((platformfwref01_ComparePaths.f kj3 a0_0 a0_1 l0_2 a1_0 a1_1 l1_2).bind fun t246 => (if t243 = t246 then (if t243 = (wrap64 (-t244)) then ((platformfwlaw02_same.f kj3 a0_0 a0_1 l0_2 a1_0 a1_1 l1_2).bind fun t247 => (platformfwlaw02_NspathOrder.j1 kj3 t243 ((t243 == 0) != t247) a0_0 a0_1 l0_2 a1_0 a1_1 l1_2 a2_0 a2_1 l2_2)) else (platformfwlaw02_NspathOrder.j1 kj3 t243 true a0_0 a0_1 l0_2 a1_0 a1_1 l1_2 a2_0 a2_1 l2_2)) else (platformfwlaw02_NspathOrder.j1 kj3 t243 true a0_0 a0_1 l0_2 a1_0 a1_1 l1_2 a2_0 a2_1 l2_2))) else (platformfwlaw02_NspathOrder.j1 kj3 t243 true a0_0 a0_1 l0_2 a1_0 a1_1 l1_2 a2_0 a2_1 l2_2)))) = some r := H
    have A27 := Aside0.mk A270
    clear A270
    replace H := Option.bind_eq_some_iff.mp H
    obtain ⟨t244, A280, H⟩ := H
    replace H : ((platformfwlaw02_awake.f kj3).bind fun t245 => (if t245 = true then ((platformfwref01_ComparePaths.f kj3 a0_0 a0_1 l0_2 a1_0 a1_1 l1_2).bind fun t246 => (if t243 = t246 then (if t243 = (wrap64 (-t244)) then ((platformfwlaw02_same.f kj3 a0_0 a0_1 l0_2 a1_0 a1_1 l1_2).bind fun t247 => (platformfwlaw02_NspathOrder.j1 kj3 t243 ((t243 == 0) != t247) a0_0 a0_1 l0_2 a1_0 a1_1 l1_2 a2_0 a2_1 l2_2)) else (platformfwlaw02_NspathOrder.j1 kj3 t243 true a0_0 a0_1 l0_2 a1_0 a1_1 l1_2 a2_0 a2_1 l2_2)) else (platformfwlaw02_NspathOrder.j1 kj3 t243 true a0_0 a0_1 l0_2 a1_0 a1_1 l1_2 a2_0 a2_1 l2_2))) else (platformfwlaw02_NspathOrder.j1 kj3 t243 true a0_0 a0_1 l0_2 a1_0 a1_1 l1_2 a2_0 a2_1 l2_2))) = some r := H
    have A28 := Aside0.mk A280
    clear A280
    have HC29 := Aside0.mk H
    clear H
    try go_wp2
    have n0_ := Aside0.mk (kD_ BK239.out)
    have n1_ := Aside0.mk (kD_ BK240.out)
    have n2_ := Aside0.mk (kD_ BK241.out)
    have n3_ := Aside0.mk (bD_ HB.out)
    clear BK239
    clear BK240
    clear BK241
    clear HB
    have BK239 := n0_
    have BK240 := n1_
    have BK241 := n2_
    have HB := n3_
    clear n0_ n1_ n2_ n3_
    refine start_ (n := 8) (S := fun w' => w'.cell? ⟨gb239, 0, none⟩ = some (.bool a0_0) ∧ w'.cell? ⟨gb239, 1, none⟩ = some (.int .i64 a0_1) ∧ w'.cell? ⟨gb239, 2, none⟩ = some (.slice A0_2 l0_2.length c0_2) ∧ w'.cell? ⟨gb240, 0, none⟩ = some (.bool a1_0) ∧ w'.cell? ⟨gb240, 1, none⟩ = some (.int .i64 a1_1) ∧ w'.cell? ⟨gb240, 2, none⟩ = some (.slice A1_2 l1_2.length c1_2)) (ds := []) #[false, false, false, false, false, false, false, false] (by kernel_rfl) rfl rfl ⟨(blk_cell BK239.out 0).trans rfl, (blk_cell BK239.out 1).trans rfl, (blk_cell BK239.out 2).trans rfl, (blk_cell BK240.out 0).trans rfl, (blk_cell BK240.out 1).trans rfl, (blk_cell BK240.out 2).trans rfl⟩ (fun hHeld => ?_); refine with_tabW platformfwlaw02_NspathOrder.tab3 platformfwlaw02_NspathOrder.bits3 (fun HT_ HW_ => ?_)
    generalize wc.drew = w30 at BK239 BK240 BK241 HB hHeld ⊢
    refine take_ (i := 0) (N := some 26) (v := ?_) (a' := ?_) (tf 8 1) rfl rfl (take_ofW HT_.out HW_.out (by kernel_rfl)) (fun _ _ _ h => h) (Or.inl ⟨by rfl, ?_⟩) hHeld ?_ ?_
    rotate_left
    ·rintro w' ⟨s0, s1, s2, s3, s4, s5⟩
     go_simp
     with_reducible rfl
    rotate_left
    ·simp only [Act.put, sA_, sB_, sC_, i64_w, i32_w]
     rfl
    refine take_ (i := 1) (N := some 27) (v := ?_) (a' := ?_) (tf 8 3) rfl rfl (take_ofW HT_.out HW_.out (by kernel_rfl)) (fun _ _ _ h => h) (Or.inl ⟨by rfl, ?_⟩) hHeld ?_ ?_
    rotate_left
    ·rintro w' ⟨s0, s1, s2, s3, s4, s5⟩
     go_simp
     with_reducible rfl
    rotate_left
    ·simp only [Act.put, sA_, sB_, sC_, i64_w, i32_w]
     rfl
    refine take_ (i := 3) (N := some 29) (v := ?_) (a' := ?_) (tf 8 11) rfl rfl (take_ofW HT_.out HW_.out (by kernel_rfl)) (fun _ _ _ h => h) (Or.inl ⟨by rfl, ?_⟩) hHeld ?_ ?_
    rotate_left
    ·rintro w' ⟨s0, s1, s2, s3, s4, s5⟩
     go_simp
     with_reducible rfl
    rotate_left
    ·simp only [Act.put, sA_, sB_, sC_, i64_w, i32_w]
     rfl
    refine take_ (i := 4) (N := some 30) (v := ?_) (a' := ?_) (tf 8 27) rfl rfl (take_ofW HT_.out HW_.out (by kernel_rfl)) (fun _ _ _ h => h) (Or.inl ⟨by rfl, ?_⟩) hHeld ?_ ?_
    rotate_left
    ·rintro w' ⟨s0, s1, s2, s3, s4, s5⟩
     go_simp
     with_reducible rfl
    rotate_left
    ·simp only [Act.put, sA_, sB_, sC_, i64_w, i32_w]
     rfl
    refine one_ (i := 2) (N := some 28) (tf 8 31) rfl rfl (one_of HT_.out (by kernel_rfl)) (by decide) (fun K hK => ?_)
    refine goes_ Tryd.func28 (by kernel_rfl) rfl #[.agg #[.bool a0_0, .int .i64 a0_1, .slice A0_2 l0_2.length c0_2], .agg #[.bool a1_0, .int .i64 a1_1, .slice A1_2 l1_2.length c1_2]] (by rfl) rfl rfl (by (try simp only [List.map_toArray, List.map_cons, List.map_nil]); first | done | rfl | (simp only [List.length_drop, List.length_take]; rfl)) ?_
    with_reducible refine (nspath_Compare.calls kj3 a0_0 a0_1 _ _ l0_2 a1_0 a1_1 _ _ l1_2 t243 _ ?side1 ?side2 ?side3 ?side4 A27.out).mono ?_
    (case side1 => repeat (first | exact (Kd.C_below HR0_2.out HB.out) | (with_reducible refine Kd.C_alloc ?_ _) | (with_reducible refine Kd.C_drewN ?_ _) | (with_reducible refine Kd.C_drew ?_)))
    (case side2 => exact HC0_2.out)
    (case side3 => repeat (first | exact (Kd.C_below HR1_2.out HB.out) | (with_reducible refine Kd.C_alloc ?_ _) | (with_reducible refine Kd.C_drewN ?_ _) | (with_reducible refine Kd.C_drew ?_)))
    (case side4 => exact HC1_2.out)
    rintro e w31 ⟨rfl, hb⟩
    refine ⟨_, rfl, ?_⟩
    have n0_ := Aside0.mk (blk_below (g := gb239) (o := .cells #[.bool a0_0, .int .i64 a0_1, .slice A0_2 l0_2.length c0_2] 24 (0, 0)) (by (with_reducible repeat (first | refine kN_ ?_ _ | refine kD_ ?_ | refine kA_ ?_ _)); exact BK239.out) hb)
    have n1_ := Aside0.mk (blk_below (g := gb240) (o := .cells #[.bool a1_0, .int .i64 a1_1, .slice A1_2 l1_2.length c1_2] 24 (0, 0)) (by (with_reducible repeat (first | refine kN_ ?_ _ | refine kD_ ?_ | refine kA_ ?_ _)); exact BK240.out) hb)
    have n2_ := Aside0.mk (blk_below (g := gb241) (o := .cells #[.bool a2_0, .int .i64 a2_1, .slice A2_2 l2_2.length c2_2] 24 (0, 0)) (by (with_reducible repeat (first | refine kN_ ?_ _ | refine kD_ ?_ | refine kA_ ?_ _)); exact BK241.out) hb)
    have n3_ := Aside0.mk (below_step (by repeat (first | (with_reducible first | exact HB.out | apply bA_ | apply bN_ | apply bD_ | refine bS_ ?_ GE239.out | refine bS_ ?_ GE240.out | refine bS_ ?_ GE241.out) | exact HB.out)) hb)
    clear BK239
    clear BK240
    clear BK241
    clear HB
    have BK239 := n0_
    have BK240 := n1_
    have BK241 := n2_
    have HB := n3_
    clear n0_ n1_ n2_ n3_
    (try clear hb)
    (try clear hb2)
    (try clear hk)
    (try clear hi)
    refine hK.out _ _ ⟨(blk_cell BK239.out 0).trans rfl, (blk_cell BK239.out 1).trans rfl, (blk_cell BK239.out 2).trans rfl, (blk_cell BK240.out 0).trans rfl, (blk_cell BK240.out 1).trans rfl, (blk_cell BK240.out 2).trans rfl⟩ (fun hHeld => ?_)
    clear hK K
    refine norm_ (a' := ?_) ?_ ?_
    rotate_left
    ·show Act.put _ (some 28) _ = _
     simp only [Act.put, sA_, sB_, sC_, i64_w, i32_w]
     rfl
    refine one_ (i := 5) (N := some 31) (tf 8 63) rfl rfl (one_of HT_.out (by kernel_rfl)) (by decide) (fun K hK => ?_)
    refine goes_ Tryd.func28 (by kernel_rfl) rfl #[.agg #[.bool a1_0, .int .i64 a1_1, .slice A1_2 l1_2.length c1_2], .agg #[.bool a0_0, .int .i64 a0_1, .slice A0_2 l0_2.length c0_2]] (by rfl) rfl rfl (by (try simp only [List.map_toArray, List.map_cons, List.map_nil]); first | done | rfl | (simp only [List.length_drop, List.length_take]; rfl)) ?_
    with_reducible refine (nspath_Compare.calls kj3 a1_0 a1_1 _ _ l1_2 a0_0 a0_1 _ _ l0_2 t244 _ ?side1 ?side2 ?side3 ?side4 A28.out).mono ?_
    (case side1 => repeat (first | exact (Kd.C_below HR1_2.out HB.out) | (with_reducible refine Kd.C_alloc ?_ _) | (with_reducible refine Kd.C_drewN ?_ _) | (with_reducible refine Kd.C_drew ?_)))
    (case side2 => exact HC1_2.out)
    (case side3 => repeat (first | exact (Kd.C_below HR0_2.out HB.out) | (with_reducible refine Kd.C_alloc ?_ _) | (with_reducible refine Kd.C_drewN ?_ _) | (with_reducible refine Kd.C_drew ?_)))
    (case side4 => exact HC0_2.out)
    rintro e w32 ⟨rfl, hb⟩
    refine ⟨_, rfl, ?_⟩
    have n0_ := Aside0.mk (blk_below (g := gb239) (o := .cells #[.bool a0_0, .int .i64 a0_1, .slice A0_2 l0_2.length c0_2] 24 (0, 0)) (by (with_reducible repeat (first | refine kN_ ?_ _ | refine kD_ ?_ | refine kA_ ?_ _)); exact BK239.out) hb)
    have n1_ := Aside0.mk (blk_below (g := gb240) (o := .cells #[.bool a1_0, .int .i64 a1_1, .slice A1_2 l1_2.length c1_2] 24 (0, 0)) (by (with_reducible repeat (first | refine kN_ ?_ _ | refine kD_ ?_ | refine kA_ ?_ _)); exact BK240.out) hb)
    have n2_ := Aside0.mk (blk_below (g := gb241) (o := .cells #[.bool a2_0, .int .i64 a2_1, .slice A2_2 l2_2.length c2_2] 24 (0, 0)) (by (with_reducible repeat (first | refine kN_ ?_ _ | refine kD_ ?_ | refine kA_ ?_ _)); exact BK241.out) hb)
    have n3_ := Aside0.mk (below_step (by repeat (first | (with_reducible first | exact HB.out | apply bA_ | apply bN_ | apply bD_ | refine bS_ ?_ GE239.out | refine bS_ ?_ GE240.out | refine bS_ ?_ GE241.out) | exact HB.out)) hb)
    clear BK239
    clear BK240
    clear BK241
    clear HB
    have BK239 := n0_
    have BK240 := n1_
    have BK241 := n2_
    have HB := n3_
    clear n0_ n1_ n2_ n3_
    (try clear hb)
    (try clear hb2)
    (try clear hk)
    (try clear hi)
    refine hK.out _ _ ⟨(blk_cell BK239.out 0).trans rfl, (blk_cell BK239.out 1).trans rfl, (blk_cell BK239.out 2).trans rfl, (blk_cell BK240.out 0).trans rfl, (blk_cell BK240.out 1).trans rfl, (blk_cell BK240.out 2).trans rfl⟩ (fun hHeld => ?_)
    clear hK K
    refine norm_ (a' := ?_) ?_ ?_
    rotate_left
    ·show Act.put _ (some 31) _ = _
     simp only [Act.put, sA_, sB_, sC_, i64_w, i32_w]
     rfl
    refine pure_ (i := 6) (N := some 7) (v := ?_) (a' := ?_) (tf 8 127) rfl rfl (any_of HT_.out (by kernel_rfl)) (fun _ _ _ h => h) (Or.inl ⟨by rfl, ?_⟩) ?_ ?_
    rotate_left
    ·intro w'
     go_simp
     with_reducible rfl
    rotate_left
    ·simp only [Act.put, sA_, sB_, sC_, i64_w, i32_w]
     rfl
    refine pure_ (i := 7) (N := some 8) (v := ?_) (a' := ?_) (tf 8 255) rfl rfl (any_of HT_.out (by kernel_rfl)) (fun _ _ _ h => h) (Or.inl ⟨by rfl, ?_⟩) ?_ ?_
    rotate_left
    ·intro w'
     go_simp
     with_reducible rfl
    rotate_left
    ·simp only [Act.put, sA_, sB_, sC_, i64_w, i32_w]
     rfl
    refine done_ (done_of HT_.out (by kernel_rfl)) ?_
    go_upto_region 4 with (fail)
    go_cut [54] (fun v54 wc => ∃ (kq : Nat) (x54_28 : Bool), v54 = .bool x54_28 ∧ Aside0 (platformfwlaw02_NspathOrder.j1 kq t243 x54_28 a0_0 a0_1 l0_2 a1_0 a1_1 l1_2 a2_0 a2_1 l2_2 = some r) ∧ Aside0 (kq ≤ kj3) ∧ Aside0 (wc.heap[gb239]? = some (.cells #[.bool a0_0, .int .i64 a0_1, (.slice A0_2 l0_2.length c0_2)] 24 (0, 0))) ∧ Aside0 (wc.heap[gb240]? = some (.cells #[.bool a1_0, .int .i64 a1_1, (.slice A1_2 l1_2.length c1_2)] 24 (0, 0))) ∧ Aside0 (wc.heap[gb241]? = some (.cells #[.bool a2_0, .int .i64 a2_1, (.slice A2_2 l2_2.length c2_2)] 24 (0, 0))) ∧ Aside0 (Below w.heap.size w wc))
    case first =>
     have H := HC29.out
     clear HC29
     replace H := Option.bind_eq_some_iff.mp H
     obtain ⟨t245, A330, H⟩ := H
     replace H : (if t245 = true then ((platformfwref01_ComparePaths.f kj3 a0_0 a0_1 l0_2 a1_0 a1_1 l1_2).bind fun t246 => (if t243 = t246 then (if t243 = (wrap64 (-t244)) then ((platformfwlaw02_same.f kj3 a0_0 a0_1 l0_2 a1_0 a1_1 l1_2).bind fun t247 => (platformfwlaw02_NspathOrder.j1 kj3 t243 ((t243 == 0) != t247) a0_0 a0_1 l0_2 a1_0 a1_1 l1_2 a2_0 a2_1 l2_2)) else (platformfwlaw02_NspathOrder.j1 kj3 t243 true a0_0 a0_1 l0_2 a1_0 a1_1 l1_2 a2_0 a2_1 l2_2)) else (platformfwlaw02_NspathOrder.j1 kj3 t243 true a0_0 a0_1 l0_2 a1_0 a1_1 l1_2 a2_0 a2_1 l2_2))) else (platformfwlaw02_NspathOrder.j1 kj3 t243 true a0_0 a0_1 l0_2 a1_0 a1_1 l1_2 a2_0 a2_1 l2_2)) = some r := H
     have A33 := Aside0.mk A330
     clear A330
     by_cases c34 : t245 = true
     ·subst c34
      have H1 : ((platformfwref01_ComparePaths.f kj3 a0_0 a0_1 l0_2 a1_0 a1_1 l1_2).bind fun t246 => (if t243 = t246 then (if t243 = (wrap64 (-t244)) then ((platformfwlaw02_same.f kj3 a0_0 a0_1 l0_2 a1_0 a1_1 l1_2).bind fun t247 => (platformfwlaw02_NspathOrder.j1 kj3 t243 ((t243 == 0) != t247) a0_0 a0_1 l0_2 a1_0 a1_1 l1_2 a2_0 a2_1 l2_2)) else (platformfwlaw02_NspathOrder.j1 kj3 t243 true a0_0 a0_1 l0_2 a1_0 a1_1 l1_2 a2_0 a2_1 l2_2)) else (platformfwlaw02_NspathOrder.j1 kj3 t243 true a0_0 a0_1 l0_2 a1_0 a1_1 l1_2 a2_0 a2_1 l2_2))) = some r := by rw [if_pos rfl] at H; exact H
      clear H
      have H := H1
      clear H1
      replace H := Option.bind_eq_some_iff.mp H
      obtain ⟨t246, A350, H⟩ := H
      replace H : (if t243 = t246 then (if t243 = (wrap64 (-t244)) then ((platformfwlaw02_same.f kj3 a0_0 a0_1 l0_2 a1_0 a1_1 l1_2).bind fun t247 => (platformfwlaw02_NspathOrder.j1 kj3 t243 ((t243 == 0) != t247) a0_0 a0_1 l0_2 a1_0 a1_1 l1_2 a2_0 a2_1 l2_2)) else (platformfwlaw02_NspathOrder.j1 kj3 t243 true a0_0 a0_1 l0_2 a1_0 a1_1 l1_2 a2_0 a2_1 l2_2)) else (platformfwlaw02_NspathOrder.j1 kj3 t243 true a0_0 a0_1 l0_2 a1_0 a1_1 l1_2 a2_0 a2_1 l2_2)) = some r := H
      have A35 := Aside0.mk A350
      clear A350
      by_cases c36 : t243 = t246
      ·rw [if_pos c36] at H
       have c36b0 : (t243 == t246) = true := beq_iff_eq.mpr c36
       have c36b1 : (t243 != t246) = false := bne_eq_false_iff_eq.mpr c36
       clear c36
       (first | rw [c36b0] | (simp only [i64_w, i32_w]; rw [c36b0]) | skip)
       by_cases c37 : t243 = (wrap64 (-t244))
       ·rw [if_pos c37] at H
        have c37b0 : (t243 == (wrap64 (-t244))) = true := beq_iff_eq.mpr c37
        have c37b1 : (t243 != (wrap64 (-t244))) = false := bne_eq_false_iff_eq.mpr c37
        clear c37
        replace H := Option.bind_eq_some_iff.mp H
        obtain ⟨t247, A380, H⟩ := H
        replace H : (platformfwlaw02_NspathOrder.j1 kj3 t243 ((t243 == 0) != t247) a0_0 a0_1 l0_2 a1_0 a1_1 l1_2 a2_0 a2_1 l2_2) = some r := H
        have A38 := Aside0.mk A380
        clear A380
        have H' := Aside0.mk H
        clear H
        go_wp2_with (first | ((with_reducible refine gate_callee (f := 11) rfl ?_); refine goesL_ (some 32) rfl rfl Tryd.func11 (by kernel_rfl) rfl #[] rfl (by (try simp only [List.map_toArray, List.map_cons, List.map_nil]); first | done | rfl | (simp only [List.length_drop, List.length_take]; rfl)) ?_; (with_reducible refine (platformfwlaw02_awake.calls kj3  true _ A33.out).mono ?_); rintro e w39 ⟨rfl, hb⟩; refine ⟨_, rfl, ?_⟩; have n0_ := Aside0.mk (blk_below (g := gb239) (o := .cells #[.bool a0_0, .int .i64 a0_1, .slice A0_2 l0_2.length c0_2] 24 (0, 0)) (by (with_reducible repeat (first | refine kN_ ?_ _ | refine kD_ ?_ | refine kA_ ?_ _)); exact BK239.out) hb); have n1_ := Aside0.mk (blk_below (g := gb240) (o := .cells #[.bool a1_0, .int .i64 a1_1, .slice A1_2 l1_2.length c1_2] 24 (0, 0)) (by (with_reducible repeat (first | refine kN_ ?_ _ | refine kD_ ?_ | refine kA_ ?_ _)); exact BK240.out) hb); have n2_ := Aside0.mk (blk_below (g := gb241) (o := .cells #[.bool a2_0, .int .i64 a2_1, .slice A2_2 l2_2.length c2_2] 24 (0, 0)) (by (with_reducible repeat (first | refine kN_ ?_ _ | refine kD_ ?_ | refine kA_ ?_ _)); exact BK241.out) hb); have n3_ := Aside0.mk (below_step (by repeat (first | (with_reducible first | exact HB.out | apply bA_ | apply bN_ | apply bD_ | refine bS_ ?_ GE239.out | refine bS_ ?_ GE240.out | refine bS_ ?_ GE241.out) | exact HB.out)) hb); clear BK239; clear BK240; clear BK241; clear HB; have BK239 := n0_; have BK240 := n1_; have BK241 := n2_; have HB := n3_; clear n0_ n1_ n2_ n3_; (try clear hb); (try clear hb2); (try clear hk); (try clear hi); have hnb40 := NB239_240.out; have hnc40 := NB240_239.out; have hnb41 := NB239_241.out; have hnc41 := NB241_239.out; obtain ⟨hcz42_0, hcz42_1, hcz42_2⟩ := cells3_ BK239.out; obtain ⟨hfz42_0, hfz42_1, hfz42_2⟩ := froz3_ BK239.out; have hnb43 := NB240_241.out; have hnc43 := NB241_240.out; obtain ⟨hcz44_0, hcz44_1, hcz44_2⟩ := cells3_ BK240.out; obtain ⟨hfz44_0, hfz44_1, hfz44_2⟩ := froz3_ BK240.out) | (go_at_call 29; (with_reducible refine (platformfwref01_ComparePaths.calls kj3 a0_0 a0_1 _ _ l0_2 a1_0 a1_1 _ _ l1_2 t246 _ ?side1 ?side2 ?side3 ?side4 A35.out).mono ?_); (case side1 => repeat (first | exact (Kd.C_below HR0_2.out HB.out) | (with_reducible refine Kd.C_alloc ?_ _) | (with_reducible refine Kd.C_drewN ?_ _) | (with_reducible refine Kd.C_drew ?_))); (case side2 => exact HC0_2.out); (case side3 => repeat (first | exact (Kd.C_below HR1_2.out HB.out) | (with_reducible refine Kd.C_alloc ?_ _) | (with_reducible refine Kd.C_drewN ?_ _) | (with_reducible refine Kd.C_drew ?_))); (case side4 => exact HC1_2.out); rintro e w45 ⟨rfl, hb⟩; have n0_ := Aside0.mk (blk_below (g := gb239) (o := .cells #[.bool a0_0, .int .i64 a0_1, .slice A0_2 l0_2.length c0_2] 24 (0, 0)) (by (with_reducible repeat (first | refine kN_ ?_ _ | refine kD_ ?_ | refine kA_ ?_ _)); exact BK239.out) hb); have n1_ := Aside0.mk (blk_below (g := gb240) (o := .cells #[.bool a1_0, .int .i64 a1_1, .slice A1_2 l1_2.length c1_2] 24 (0, 0)) (by (with_reducible repeat (first | refine kN_ ?_ _ | refine kD_ ?_ | refine kA_ ?_ _)); exact BK240.out) hb); have n2_ := Aside0.mk (blk_below (g := gb241) (o := .cells #[.bool a2_0, .int .i64 a2_1, .slice A2_2 l2_2.length c2_2] 24 (0, 0)) (by (with_reducible repeat (first | refine kN_ ?_ _ | refine kD_ ?_ | refine kA_ ?_ _)); exact BK241.out) hb); have n3_ := Aside0.mk (below_step (by repeat (first | (with_reducible first | exact HB.out | apply bA_ | apply bN_ | apply bD_ | refine bS_ ?_ GE239.out | refine bS_ ?_ GE240.out | refine bS_ ?_ GE241.out) | exact HB.out)) hb); clear BK239; clear BK240; clear BK241; clear HB; have BK239 := n0_; have BK240 := n1_; have BK241 := n2_; have HB := n3_; clear n0_ n1_ n2_ n3_; (try clear hb); (try clear hb2); (try clear hk); (try clear hi); obtain ⟨hcz46_0, hcz46_1, hcz46_2⟩ := cells3_ BK239.out; obtain ⟨hfz46_0, hfz46_1, hfz46_2⟩ := froz3_ BK239.out; obtain ⟨hcz47_0, hcz47_1, hcz47_2⟩ := cells3_ BK240.out; obtain ⟨hfz47_0, hfz47_1, hfz47_2⟩ := froz3_ BK240.out) | (go_at_call 18; (with_reducible refine (platformfwlaw02_same.calls kj3 a0_0 a0_1 _ _ l0_2 a1_0 a1_1 _ _ l1_2 t247 _ ?side1 ?side2 ?side3 ?side4 A38.out).mono ?_); (case side1 => repeat (first | exact (Kd.C_below HR0_2.out HB.out) | (with_reducible refine Kd.C_alloc ?_ _) | (with_reducible refine Kd.C_drewN ?_ _) | (with_reducible refine Kd.C_drew ?_))); (case side2 => exact HC0_2.out); (case side3 => repeat (first | exact (Kd.C_below HR1_2.out HB.out) | (with_reducible refine Kd.C_alloc ?_ _) | (with_reducible refine Kd.C_drewN ?_ _) | (with_reducible refine Kd.C_drew ?_))); (case side4 => exact HC1_2.out); rintro e w48 ⟨rfl, hb⟩; have n0_ := Aside0.mk (blk_below (g := gb239) (o := .cells #[.bool a0_0, .int .i64 a0_1, .slice A0_2 l0_2.length c0_2] 24 (0, 0)) (by (with_reducible repeat (first | refine kN_ ?_ _ | refine kD_ ?_ | refine kA_ ?_ _)); exact BK239.out) hb); have n1_ := Aside0.mk (blk_below (g := gb240) (o := .cells #[.bool a1_0, .int .i64 a1_1, .slice A1_2 l1_2.length c1_2] 24 (0, 0)) (by (with_reducible repeat (first | refine kN_ ?_ _ | refine kD_ ?_ | refine kA_ ?_ _)); exact BK240.out) hb); have n2_ := Aside0.mk (blk_below (g := gb241) (o := .cells #[.bool a2_0, .int .i64 a2_1, .slice A2_2 l2_2.length c2_2] 24 (0, 0)) (by (with_reducible repeat (first | refine kN_ ?_ _ | refine kD_ ?_ | refine kA_ ?_ _)); exact BK241.out) hb); have n3_ := Aside0.mk (below_step (by repeat (first | (with_reducible first | exact HB.out | apply bA_ | apply bN_ | apply bD_ | refine bS_ ?_ GE239.out | refine bS_ ?_ GE240.out | refine bS_ ?_ GE241.out) | exact HB.out)) hb); clear BK239; clear BK240; clear BK241; clear HB; have BK239 := n0_; have BK240 := n1_; have BK241 := n2_; have HB := n3_; clear n0_ n1_ n2_ n3_; (try clear hb); (try clear hb2); (try clear hk); (try clear hi)))
        go_meet
        case rel => exact ⟨_, (((t243 == 0) != t247)), (by first | rfl | (simp; done) | (simp [*]; done)), H', ⟨by have := HJ3.out; first | omega | exact Nat.le_refl _⟩, ⟨by (with_reducible repeat (first | refine kN_ ?_ _ | refine kD_ ?_ | refine kA_ ?_ _)); exact BK239.out⟩, ⟨by (with_reducible repeat (first | refine kN_ ?_ _ | refine kD_ ?_ | refine kA_ ?_ _)); exact BK240.out⟩, ⟨by (with_reducible repeat (first | refine kN_ ?_ _ | refine kD_ ?_ | refine kA_ ?_ _)); exact BK241.out⟩, ⟨by repeat (first | (with_reducible first | exact HB.out | apply bA_ | apply bN_ | apply bD_ | refine bS_ ?_ GE239.out | refine bS_ ?_ GE240.out | refine bS_ ?_ GE241.out) | exact HB.out)⟩⟩
       ·rw [if_neg c37] at H
        have c37b0 : (t243 == (wrap64 (-t244))) = false := beq_eq_false_iff_ne.mpr c37
        have c37b1 : (t243 != (wrap64 (-t244))) = true := bne_iff_ne.mpr c37
        have H' := Aside0.mk H
        clear H
        go_wp2_with (first | ((with_reducible refine gate_callee (f := 11) rfl ?_); refine goesL_ (some 32) rfl rfl Tryd.func11 (by kernel_rfl) rfl #[] rfl (by (try simp only [List.map_toArray, List.map_cons, List.map_nil]); first | done | rfl | (simp only [List.length_drop, List.length_take]; rfl)) ?_; (with_reducible refine (platformfwlaw02_awake.calls kj3  true _ A33.out).mono ?_); rintro e w49 ⟨rfl, hb⟩; refine ⟨_, rfl, ?_⟩; have n0_ := Aside0.mk (blk_below (g := gb239) (o := .cells #[.bool a0_0, .int .i64 a0_1, .slice A0_2 l0_2.length c0_2] 24 (0, 0)) (by (with_reducible repeat (first | refine kN_ ?_ _ | refine kD_ ?_ | refine kA_ ?_ _)); exact BK239.out) hb); have n1_ := Aside0.mk (blk_below (g := gb240) (o := .cells #[.bool a1_0, .int .i64 a1_1, .slice A1_2 l1_2.length c1_2] 24 (0, 0)) (by (with_reducible repeat (first | refine kN_ ?_ _ | refine kD_ ?_ | refine kA_ ?_ _)); exact BK240.out) hb); have n2_ := Aside0.mk (blk_below (g := gb241) (o := .cells #[.bool a2_0, .int .i64 a2_1, .slice A2_2 l2_2.length c2_2] 24 (0, 0)) (by (with_reducible repeat (first | refine kN_ ?_ _ | refine kD_ ?_ | refine kA_ ?_ _)); exact BK241.out) hb); have n3_ := Aside0.mk (below_step (by repeat (first | (with_reducible first | exact HB.out | apply bA_ | apply bN_ | apply bD_ | refine bS_ ?_ GE239.out | refine bS_ ?_ GE240.out | refine bS_ ?_ GE241.out) | exact HB.out)) hb); clear BK239; clear BK240; clear BK241; clear HB; have BK239 := n0_; have BK240 := n1_; have BK241 := n2_; have HB := n3_; clear n0_ n1_ n2_ n3_; (try clear hb); (try clear hb2); (try clear hk); (try clear hi); have hnb50 := NB239_240.out; have hnc50 := NB240_239.out; have hnb51 := NB239_241.out; have hnc51 := NB241_239.out; obtain ⟨hcz52_0, hcz52_1, hcz52_2⟩ := cells3_ BK239.out; obtain ⟨hfz52_0, hfz52_1, hfz52_2⟩ := froz3_ BK239.out; have hnb53 := NB240_241.out; have hnc53 := NB241_240.out; obtain ⟨hcz54_0, hcz54_1, hcz54_2⟩ := cells3_ BK240.out; obtain ⟨hfz54_0, hfz54_1, hfz54_2⟩ := froz3_ BK240.out) | (go_at_call 29; (with_reducible refine (platformfwref01_ComparePaths.calls kj3 a0_0 a0_1 _ _ l0_2 a1_0 a1_1 _ _ l1_2 t246 _ ?side1 ?side2 ?side3 ?side4 A35.out).mono ?_); (case side1 => repeat (first | exact (Kd.C_below HR0_2.out HB.out) | (with_reducible refine Kd.C_alloc ?_ _) | (with_reducible refine Kd.C_drewN ?_ _) | (with_reducible refine Kd.C_drew ?_))); (case side2 => exact HC0_2.out); (case side3 => repeat (first | exact (Kd.C_below HR1_2.out HB.out) | (with_reducible refine Kd.C_alloc ?_ _) | (with_reducible refine Kd.C_drewN ?_ _) | (with_reducible refine Kd.C_drew ?_))); (case side4 => exact HC1_2.out); rintro e w55 ⟨rfl, hb⟩; have n0_ := Aside0.mk (blk_below (g := gb239) (o := .cells #[.bool a0_0, .int .i64 a0_1, .slice A0_2 l0_2.length c0_2] 24 (0, 0)) (by (with_reducible repeat (first | refine kN_ ?_ _ | refine kD_ ?_ | refine kA_ ?_ _)); exact BK239.out) hb); have n1_ := Aside0.mk (blk_below (g := gb240) (o := .cells #[.bool a1_0, .int .i64 a1_1, .slice A1_2 l1_2.length c1_2] 24 (0, 0)) (by (with_reducible repeat (first | refine kN_ ?_ _ | refine kD_ ?_ | refine kA_ ?_ _)); exact BK240.out) hb); have n2_ := Aside0.mk (blk_below (g := gb241) (o := .cells #[.bool a2_0, .int .i64 a2_1, .slice A2_2 l2_2.length c2_2] 24 (0, 0)) (by (with_reducible repeat (first | refine kN_ ?_ _ | refine kD_ ?_ | refine kA_ ?_ _)); exact BK241.out) hb); have n3_ := Aside0.mk (below_step (by repeat (first | (with_reducible first | exact HB.out | apply bA_ | apply bN_ | apply bD_ | refine bS_ ?_ GE239.out | refine bS_ ?_ GE240.out | refine bS_ ?_ GE241.out) | exact HB.out)) hb); clear BK239; clear BK240; clear BK241; clear HB; have BK239 := n0_; have BK240 := n1_; have BK241 := n2_; have HB := n3_; clear n0_ n1_ n2_ n3_; (try clear hb); (try clear hb2); (try clear hk); (try clear hi)))
        go_meet
        case rel => exact ⟨_, (true), (by first | rfl | (simp; done) | (simp [*]; done)), H', ⟨by have := HJ3.out; first | omega | exact Nat.le_refl _⟩, ⟨by (with_reducible repeat (first | refine kN_ ?_ _ | refine kD_ ?_ | refine kA_ ?_ _)); exact BK239.out⟩, ⟨by (with_reducible repeat (first | refine kN_ ?_ _ | refine kD_ ?_ | refine kA_ ?_ _)); exact BK240.out⟩, ⟨by (with_reducible repeat (first | refine kN_ ?_ _ | refine kD_ ?_ | refine kA_ ?_ _)); exact BK241.out⟩, ⟨by repeat (first | (with_reducible first | exact HB.out | apply bA_ | apply bN_ | apply bD_ | refine bS_ ?_ GE239.out | refine bS_ ?_ GE240.out | refine bS_ ?_ GE241.out) | exact HB.out)⟩⟩
      ·rw [if_neg c36] at H
       have c36b0 : (t243 == t246) = false := beq_eq_false_iff_ne.mpr c36
       have c36b1 : (t243 != t246) = true := bne_iff_ne.mpr c36
       (first | rw [c36b0] | (simp only [i64_w, i32_w]; rw [c36b0]) | skip)
       have H' := Aside0.mk H
       clear H
       go_wp2_with (first | ((with_reducible refine gate_callee (f := 11) rfl ?_); refine goesL_ (some 32) rfl rfl Tryd.func11 (by kernel_rfl) rfl #[] rfl (by (try simp only [List.map_toArray, List.map_cons, List.map_nil]); first | done | rfl | (simp only [List.length_drop, List.length_take]; rfl)) ?_; (with_reducible refine (platformfwlaw02_awake.calls kj3  true _ A33.out).mono ?_); rintro e w56 ⟨rfl, hb⟩; refine ⟨_, rfl, ?_⟩; have n0_ := Aside0.mk (blk_below (g := gb239) (o := .cells #[.bool a0_0, .int .i64 a0_1, .slice A0_2 l0_2.length c0_2] 24 (0, 0)) (by (with_reducible repeat (first | refine kN_ ?_ _ | refine kD_ ?_ | refine kA_ ?_ _)); exact BK239.out) hb); have n1_ := Aside0.mk (blk_below (g := gb240) (o := .cells #[.bool a1_0, .int .i64 a1_1, .slice A1_2 l1_2.length c1_2] 24 (0, 0)) (by (with_reducible repeat (first | refine kN_ ?_ _ | refine kD_ ?_ | refine kA_ ?_ _)); exact BK240.out) hb); have n2_ := Aside0.mk (blk_below (g := gb241) (o := .cells #[.bool a2_0, .int .i64 a2_1, .slice A2_2 l2_2.length c2_2] 24 (0, 0)) (by (with_reducible repeat (first | refine kN_ ?_ _ | refine kD_ ?_ | refine kA_ ?_ _)); exact BK241.out) hb); have n3_ := Aside0.mk (below_step (by repeat (first | (with_reducible first | exact HB.out | apply bA_ | apply bN_ | apply bD_ | refine bS_ ?_ GE239.out | refine bS_ ?_ GE240.out | refine bS_ ?_ GE241.out) | exact HB.out)) hb); clear BK239; clear BK240; clear BK241; clear HB; have BK239 := n0_; have BK240 := n1_; have BK241 := n2_; have HB := n3_; clear n0_ n1_ n2_ n3_; (try clear hb); (try clear hb2); (try clear hk); (try clear hi); have hnb57 := NB239_240.out; have hnc57 := NB240_239.out; have hnb58 := NB239_241.out; have hnc58 := NB241_239.out; obtain ⟨hcz59_0, hcz59_1, hcz59_2⟩ := cells3_ BK239.out; obtain ⟨hfz59_0, hfz59_1, hfz59_2⟩ := froz3_ BK239.out; have hnb60 := NB240_241.out; have hnc60 := NB241_240.out; obtain ⟨hcz61_0, hcz61_1, hcz61_2⟩ := cells3_ BK240.out; obtain ⟨hfz61_0, hfz61_1, hfz61_2⟩ := froz3_ BK240.out) | (go_at_call 29; (with_reducible refine (platformfwref01_ComparePaths.calls kj3 a0_0 a0_1 _ _ l0_2 a1_0 a1_1 _ _ l1_2 t246 _ ?side1 ?side2 ?side3 ?side4 A35.out).mono ?_); (case side1 => repeat (first | exact (Kd.C_below HR0_2.out HB.out) | (with_reducible refine Kd.C_alloc ?_ _) | (with_reducible refine Kd.C_drewN ?_ _) | (with_reducible refine Kd.C_drew ?_))); (case side2 => exact HC0_2.out); (case side3 => repeat (first | exact (Kd.C_below HR1_2.out HB.out) | (with_reducible refine Kd.C_alloc ?_ _) | (with_reducible refine Kd.C_drewN ?_ _) | (with_reducible refine Kd.C_drew ?_))); (case side4 => exact HC1_2.out); rintro e w62 ⟨rfl, hb⟩; have n0_ := Aside0.mk (blk_below (g := gb239) (o := .cells #[.bool a0_0, .int .i64 a0_1, .slice A0_2 l0_2.length c0_2] 24 (0, 0)) (by (with_reducible repeat (first | refine kN_ ?_ _ | refine kD_ ?_ | refine kA_ ?_ _)); exact BK239.out) hb); have n1_ := Aside0.mk (blk_below (g := gb240) (o := .cells #[.bool a1_0, .int .i64 a1_1, .slice A1_2 l1_2.length c1_2] 24 (0, 0)) (by (with_reducible repeat (first | refine kN_ ?_ _ | refine kD_ ?_ | refine kA_ ?_ _)); exact BK240.out) hb); have n2_ := Aside0.mk (blk_below (g := gb241) (o := .cells #[.bool a2_0, .int .i64 a2_1, .slice A2_2 l2_2.length c2_2] 24 (0, 0)) (by (with_reducible repeat (first | refine kN_ ?_ _ | refine kD_ ?_ | refine kA_ ?_ _)); exact BK241.out) hb); have n3_ := Aside0.mk (below_step (by repeat (first | (with_reducible first | exact HB.out | apply bA_ | apply bN_ | apply bD_ | refine bS_ ?_ GE239.out | refine bS_ ?_ GE240.out | refine bS_ ?_ GE241.out) | exact HB.out)) hb); clear BK239; clear BK240; clear BK241; clear HB; have BK239 := n0_; have BK240 := n1_; have BK241 := n2_; have HB := n3_; clear n0_ n1_ n2_ n3_; (try clear hb); (try clear hb2); (try clear hk); (try clear hi)))
       go_meet
       case rel => exact ⟨_, (true), (by first | rfl | (simp; done) | (simp [*]; done)), H', ⟨by have := HJ3.out; first | omega | exact Nat.le_refl _⟩, ⟨by (with_reducible repeat (first | refine kN_ ?_ _ | refine kD_ ?_ | refine kA_ ?_ _)); exact BK239.out⟩, ⟨by (with_reducible repeat (first | refine kN_ ?_ _ | refine kD_ ?_ | refine kA_ ?_ _)); exact BK240.out⟩, ⟨by (with_reducible repeat (first | refine kN_ ?_ _ | refine kD_ ?_ | refine kA_ ?_ _)); exact BK241.out⟩, ⟨by repeat (first | (with_reducible first | exact HB.out | apply bA_ | apply bN_ | apply bD_ | refine bS_ ?_ GE239.out | refine bS_ ?_ GE240.out | refine bS_ ?_ GE241.out) | exact HB.out)⟩⟩
     ·replace c34 := Bool.eq_false_iff.mpr c34
      subst c34
      have H1 : (platformfwlaw02_NspathOrder.j1 kj3 t243 true a0_0 a0_1 l0_2 a1_0 a1_1 l1_2 a2_0 a2_1 l2_2) = some r := by rw [if_neg (show ¬ (false = true) by decide)] at H; exact H
      clear H
      have H := H1
      clear H1
      have H' := Aside0.mk H
      clear H
      go_wp2_with (first | ((with_reducible refine gate_callee (f := 11) rfl ?_); refine goesL_ (some 32) rfl rfl Tryd.func11 (by kernel_rfl) rfl #[] rfl (by (try simp only [List.map_toArray, List.map_cons, List.map_nil]); first | done | rfl | (simp only [List.length_drop, List.length_take]; rfl)) ?_; (with_reducible refine (platformfwlaw02_awake.calls kj3  false _ A33.out).mono ?_); rintro e w63 ⟨rfl, hb⟩; refine ⟨_, rfl, ?_⟩; have n0_ := Aside0.mk (blk_below (g := gb239) (o := .cells #[.bool a0_0, .int .i64 a0_1, .slice A0_2 l0_2.length c0_2] 24 (0, 0)) (by (with_reducible repeat (first | refine kN_ ?_ _ | refine kD_ ?_ | refine kA_ ?_ _)); exact BK239.out) hb); have n1_ := Aside0.mk (blk_below (g := gb240) (o := .cells #[.bool a1_0, .int .i64 a1_1, .slice A1_2 l1_2.length c1_2] 24 (0, 0)) (by (with_reducible repeat (first | refine kN_ ?_ _ | refine kD_ ?_ | refine kA_ ?_ _)); exact BK240.out) hb); have n2_ := Aside0.mk (blk_below (g := gb241) (o := .cells #[.bool a2_0, .int .i64 a2_1, .slice A2_2 l2_2.length c2_2] 24 (0, 0)) (by (with_reducible repeat (first | refine kN_ ?_ _ | refine kD_ ?_ | refine kA_ ?_ _)); exact BK241.out) hb); have n3_ := Aside0.mk (below_step (by repeat (first | (with_reducible first | exact HB.out | apply bA_ | apply bN_ | apply bD_ | refine bS_ ?_ GE239.out | refine bS_ ?_ GE240.out | refine bS_ ?_ GE241.out) | exact HB.out)) hb); clear BK239; clear BK240; clear BK241; clear HB; have BK239 := n0_; have BK240 := n1_; have BK241 := n2_; have HB := n3_; clear n0_ n1_ n2_ n3_; (try clear hb); (try clear hb2); (try clear hk); (try clear hi)))
      go_meet
      case rel => exact ⟨_, (true), (by first | rfl | (simp; done) | (simp [*]; done)), H', ⟨by have := HJ3.out; first | omega | exact Nat.le_refl _⟩, ⟨by (with_reducible repeat (first | refine kN_ ?_ _ | refine kD_ ?_ | refine kA_ ?_ _)); exact BK239.out⟩, ⟨by (with_reducible repeat (first | refine kN_ ?_ _ | refine kD_ ?_ | refine kA_ ?_ _)); exact BK240.out⟩, ⟨by (with_reducible repeat (first | refine kN_ ?_ _ | refine kD_ ?_ | refine kA_ ?_ _)); exact BK241.out⟩, ⟨by repeat (first | (with_reducible first | exact HB.out | apply bA_ | apply bN_ | apply bD_ | refine bS_ ?_ GE239.out | refine bS_ ?_ GE240.out | refine bS_ ?_ GE241.out) | exact HB.out)⟩⟩
    case rest =>
     clear HC29
     try clear c1
     try clear c2
     try clear p2
     try clear c3
     try clear c4
     try clear c5
     try clear c6
     try clear p6
     try clear c8
     try clear c8b0
     try clear c8b1
     try clear c9
     try clear c10
     try clear c11
     try clear c12
     try clear c12b0
     try clear c12b1
     try clear c13
     try clear c14
     try clear c16
     try clear c18
     try clear c19
     try clear c21
     try clear c24
     try clear c28
     try clear c34
     try clear c36
     try clear c36b0
     try clear c36b1
     try clear c37
     try clear c37b0
     try clear c37b1
     try clear c40
     try clear c41
     try clear c43
     try clear c50
     try clear c51
     try clear c53
     try clear c57
     try clear c58
     try clear c60
     try clear hcz11_0 hcz11_1 hcz11_2
     try clear hcz15_0 hcz15_1 hcz15_2
     try clear hcz17_0 hcz17_1 hcz17_2
     try clear hcz20_0 hcz20_1 hcz20_2
     try clear hcz22_0 hcz22_1 hcz22_2
     try clear hcz23_0 hcz23_1 hcz23_2
     try clear hcz42_0 hcz42_1 hcz42_2
     try clear hcz44_0 hcz44_1 hcz44_2
     try clear hcz46_0 hcz46_1 hcz46_2
     try clear hcz47_0 hcz47_1 hcz47_2
     try clear hcz52_0 hcz52_1 hcz52_2
     try clear hcz54_0 hcz54_1 hcz54_2
     try clear hcz59_0 hcz59_1 hcz59_2
     try clear hcz61_0 hcz61_1 hcz61_2
     try clear hfz11_0 hfz11_1 hfz11_2
     try clear hfz15_0 hfz15_1 hfz15_2
     try clear hfz17_0 hfz17_1 hfz17_2
     try clear hfz20_0 hfz20_1 hfz20_2
     try clear hfz22_0 hfz22_1 hfz22_2
     try clear hfz23_0 hfz23_1 hfz23_2
     try clear hfz42_0 hfz42_1 hfz42_2
     try clear hfz44_0 hfz44_1 hfz44_2
     try clear hfz46_0 hfz46_1 hfz46_2
     try clear hfz47_0 hfz47_1 hfz47_2
     try clear hfz52_0 hfz52_1 hfz52_2
     try clear hfz54_0 hfz54_1 hfz54_2
     try clear hfz59_0 hfz59_1 hfz59_2
     try clear hfz61_0 hfz61_1 hfz61_2
     try clear p2
     obtain ⟨kq, x54_28, rfl, HA, HJ28, BK239, BK240, BK241, HB⟩ := hcut
     cases kq with
     | zero => exact absurd HA.out (by simp [platformfwlaw02_NspathOrder.j1])
     | succ kj28 =>
      have H := HA.out
      clear HA
      simp only [platformfwlaw02_NspathOrder.j1] at H
      by_cases c64 : x54_28 = true
      ·subst c64
       have H1 : (some false) = some r := by rw [if_pos rfl] at H; exact H
       clear H
       have H := H1
       clear H1
       obtain rfl := Option.some.inj H
       exact absurd hr_.out (by simp)
      ·replace c64 := Bool.eq_false_iff.mpr c64
       subst c64
       have H1 : (if t243 > 0 then (some true) else ((nspath_Compare.f kj28 a1_0 a1_1 l1_2 a2_0 a2_1 l2_2).bind fun t248 => (if t248 > 0 then (some true) else ((nspath_Compare.f kj28 a0_0 a0_1 l0_2 a2_0 a2_1 l2_2).bind fun t249 => (some (decide (t249 ≤ 0))))))) = some r := by rw [if_neg (show ¬ (false = true) by decide)] at H; exact H
       clear H
       have H := H1
       clear H1
       by_cases c65 : t243 > 0
       ·rw [if_pos c65] at H
        have c65b0 : decide (0 < t243) = true := decide_eq_true c65
        clear c65
        obtain rfl := Option.some.inj H
        go_wp2
        go_ret
        exact ⟨by first | rfl | (simp [errW_none, errW_some] <;> rfl) | (simp [*, errW_none, errW_some] <;> rfl), by repeat (first | (with_reducible first | exact HB.out | apply bA_ | apply bN_ | apply bD_ | refine bS_ ?_ GE239.out | refine bS_ ?_ GE240.out | refine bS_ ?_ GE241.out) | exact HB.out)⟩
       ·rw [if_neg c65] at H
        have c65b0 : decide (0 < t243) = false := decide_eq_false c65
        clear c65
        replace H := Option.bind_eq_some_iff.mp H
        obtain ⟨t248, A660, H⟩ := H
        replace H : (if t248 > 0 then (some true) else ((nspath_Compare.f kj28 a0_0 a0_1 l0_2 a2_0 a2_1 l2_2).bind fun t249 => (some (decide (t249 ≤ 0))))) = some r := H
        have A66 := Aside0.mk A660
        clear A660
        by_cases c67 : t248 > 0
        ·rw [if_pos c67] at H
         have c67b0 : decide (0 < t248) = true := decide_eq_true c67
         clear c67
         obtain rfl := Option.some.inj H
         have hnb68 := NB240_239.out
         have hnc68 := NB239_240.out
         have hnb69 := NB240_241.out
         have hnc69 := NB241_240.out
         obtain ⟨hcz70_0, hcz70_1, hcz70_2⟩ := cells3_ BK240.out
         obtain ⟨hfz70_0, hfz70_1, hfz70_2⟩ := froz3_ BK240.out
         have hnb71 := NB241_239.out
         have hnc71 := NB239_241.out
         obtain ⟨hcz72_0, hcz72_1, hcz72_2⟩ := cells3_ BK241.out
         obtain ⟨hfz72_0, hfz72_1, hfz72_2⟩ := froz3_ BK241.out
         go_wp2_with (first | (go_at_call 28; (with_reducible refine (nspath_Compare.calls kj28 a1_0 a1_1 _ _ l1_2 a2_0 a2_1 _ _ l2_2 t248 _ ?side1 ?side2 ?side3 ?side4 A66.out).mono ?_); (case side1 => repeat (first | exact (Kd.C_below HR1_2.out HB.out) | (with_reducible refine Kd.C_alloc ?_ _) | (with_reducible refine Kd.C_drewN ?_ _) | (with_reducible refine Kd.C_drew ?_))); (case side2 => exact HC1_2.out); (case side3 => repeat (first | exact (Kd.C_below HR2_2.out HB.out) | (with_reducible refine Kd.C_alloc ?_ _) | (with_reducible refine Kd.C_drewN ?_ _) | (with_reducible refine Kd.C_drew ?_))); (case side4 => exact HC2_2.out); rintro e w73 ⟨rfl, hb⟩; have n0_ := Aside0.mk (blk_below (g := gb239) (o := .cells #[.bool a0_0, .int .i64 a0_1, .slice A0_2 l0_2.length c0_2] 24 (0, 0)) (by (with_reducible repeat (first | refine kN_ ?_ _ | refine kD_ ?_ | refine kA_ ?_ _)); exact BK239.out) hb); have n1_ := Aside0.mk (blk_below (g := gb240) (o := .cells #[.bool a1_0, .int .i64 a1_1, .slice A1_2 l1_2.length c1_2] 24 (0, 0)) (by (with_reducible repeat (first | refine kN_ ?_ _ | refine kD_ ?_ | refine kA_ ?_ _)); exact BK240.out) hb); have n2_ := Aside0.mk (blk_below (g := gb241) (o := .cells #[.bool a2_0, .int .i64 a2_1, .slice A2_2 l2_2.length c2_2] 24 (0, 0)) (by (with_reducible repeat (first | refine kN_ ?_ _ | refine kD_ ?_ | refine kA_ ?_ _)); exact BK241.out) hb); have n3_ := Aside0.mk (below_step (by repeat (first | (with_reducible first | exact HB.out | apply bA_ | apply bN_ | apply bD_ | refine bS_ ?_ GE239.out | refine bS_ ?_ GE240.out | refine bS_ ?_ GE241.out) | exact HB.out)) hb); clear BK239; clear BK240; clear BK241; clear HB; have BK239 := n0_; have BK240 := n1_; have BK241 := n2_; have HB := n3_; clear n0_ n1_ n2_ n3_; (try clear hb); (try clear hb2); (try clear hk); (try clear hi)))
         go_ret
         exact ⟨by first | rfl | (simp [errW_none, errW_some] <;> rfl) | (simp [*, errW_none, errW_some] <;> rfl), by repeat (first | (with_reducible first | exact HB.out | apply bA_ | apply bN_ | apply bD_ | refine bS_ ?_ GE239.out | refine bS_ ?_ GE240.out | refine bS_ ?_ GE241.out) | exact HB.out)⟩
        ·rw [if_neg c67] at H
         have c67b0 : decide (0 < t248) = false := decide_eq_false c67
         clear c67
         replace H := Option.bind_eq_some_iff.mp H
         obtain ⟨t249, A740, H⟩ := H
         replace H : (some (decide (t249 ≤ 0))) = some r := H
         have A74 := Aside0.mk A740
         clear A740
         obtain rfl := Option.some.inj H
         have hnb75 := NB240_239.out
         have hnc75 := NB239_240.out
         have hnb76 := NB240_241.out
         have hnc76 := NB241_240.out
         obtain ⟨hcz77_0, hcz77_1, hcz77_2⟩ := cells3_ BK240.out
         obtain ⟨hfz77_0, hfz77_1, hfz77_2⟩ := froz3_ BK240.out
         have hnb78 := NB241_239.out
         have hnc78 := NB239_241.out
         obtain ⟨hcz79_0, hcz79_1, hcz79_2⟩ := cells3_ BK241.out
         obtain ⟨hfz79_0, hfz79_1, hfz79_2⟩ := froz3_ BK241.out
         go_wp2_with (first | (go_at_call 28; (with_reducible refine (nspath_Compare.calls kj28 a1_0 a1_1 _ _ l1_2 a2_0 a2_1 _ _ l2_2 t248 _ ?side1 ?side2 ?side3 ?side4 A66.out).mono ?_); (case side1 => repeat (first | exact (Kd.C_below HR1_2.out HB.out) | (with_reducible refine Kd.C_alloc ?_ _) | (with_reducible refine Kd.C_drewN ?_ _) | (with_reducible refine Kd.C_drew ?_))); (case side2 => exact HC1_2.out); (case side3 => repeat (first | exact (Kd.C_below HR2_2.out HB.out) | (with_reducible refine Kd.C_alloc ?_ _) | (with_reducible refine Kd.C_drewN ?_ _) | (with_reducible refine Kd.C_drew ?_))); (case side4 => exact HC2_2.out); rintro e w80 ⟨rfl, hb⟩; have n0_ := Aside0.mk (blk_below (g := gb239) (o := .cells #[.bool a0_0, .int .i64 a0_1, .slice A0_2 l0_2.length c0_2] 24 (0, 0)) (by (with_reducible repeat (first | refine kN_ ?_ _ | refine kD_ ?_ | refine kA_ ?_ _)); exact BK239.out) hb); have n1_ := Aside0.mk (blk_below (g := gb240) (o := .cells #[.bool a1_0, .int .i64 a1_1, .slice A1_2 l1_2.length c1_2] 24 (0, 0)) (by (with_reducible repeat (first | refine kN_ ?_ _ | refine kD_ ?_ | refine kA_ ?_ _)); exact BK240.out) hb); have n2_ := Aside0.mk (blk_below (g := gb241) (o := .cells #[.bool a2_0, .int .i64 a2_1, .slice A2_2 l2_2.length c2_2] 24 (0, 0)) (by (with_reducible repeat (first | refine kN_ ?_ _ | refine kD_ ?_ | refine kA_ ?_ _)); exact BK241.out) hb); have n3_ := Aside0.mk (below_step (by repeat (first | (with_reducible first | exact HB.out | apply bA_ | apply bN_ | apply bD_ | refine bS_ ?_ GE239.out | refine bS_ ?_ GE240.out | refine bS_ ?_ GE241.out) | exact HB.out)) hb); clear BK239; clear BK240; clear BK241; clear HB; have BK239 := n0_; have BK240 := n1_; have BK241 := n2_; have HB := n3_; clear n0_ n1_ n2_ n3_; (try clear hb); (try clear hb2); (try clear hk); (try clear hi); obtain ⟨hcz81_0, hcz81_1, hcz81_2⟩ := cells3_ BK239.out; obtain ⟨hfz81_0, hfz81_1, hfz81_2⟩ := froz3_ BK239.out; obtain ⟨hcz82_0, hcz82_1, hcz82_2⟩ := cells3_ BK241.out; obtain ⟨hfz82_0, hfz82_1, hfz82_2⟩ := froz3_ BK241.out) | (go_at_call 28; (with_reducible refine (nspath_Compare.calls kj28 a0_0 a0_1 _ _ l0_2 a2_0 a2_1 _ _ l2_2 t249 _ ?side1 ?side2 ?side3 ?side4 A74.out).mono ?_); (case side1 => repeat (first | exact (Kd.C_below HR0_2.out HB.out) | (with_reducible refine Kd.C_alloc ?_ _) | (with_reducible refine Kd.C_drewN ?_ _) | (with_reducible refine Kd.C_drew ?_))); (case side2 => exact HC0_2.out); (case side3 => repeat (first | exact (Kd.C_below HR2_2.out HB.out) | (with_reducible refine Kd.C_alloc ?_ _) | (with_reducible refine Kd.C_drewN ?_ _) | (with_reducible refine Kd.C_drew ?_))); (case side4 => exact HC2_2.out); rintro e w83 ⟨rfl, hb⟩; have n0_ := Aside0.mk (blk_below (g := gb239) (o := .cells #[.bool a0_0, .int .i64 a0_1, .slice A0_2 l0_2.length c0_2] 24 (0, 0)) (by (with_reducible repeat (first | refine kN_ ?_ _ | refine kD_ ?_ | refine kA_ ?_ _)); exact BK239.out) hb); have n1_ := Aside0.mk (blk_below (g := gb240) (o := .cells #[.bool a1_0, .int .i64 a1_1, .slice A1_2 l1_2.length c1_2] 24 (0, 0)) (by (with_reducible repeat (first | refine kN_ ?_ _ | refine kD_ ?_ | refine kA_ ?_ _)); exact BK240.out) hb); have n2_ := Aside0.mk (blk_below (g := gb241) (o := .cells #[.bool a2_0, .int .i64 a2_1, .slice A2_2 l2_2.length c2_2] 24 (0, 0)) (by (with_reducible repeat (first | refine kN_ ?_ _ | refine kD_ ?_ | refine kA_ ?_ _)); exact BK241.out) hb); have n3_ := Aside0.mk (below_step (by repeat (first | (with_reducible first | exact HB.out | apply bA_ | apply bN_ | apply bD_ | refine bS_ ?_ GE239.out | refine bS_ ?_ GE240.out | refine bS_ ?_ GE241.out) | exact HB.out)) hb); clear BK239; clear BK240; clear BK241; clear HB; have BK239 := n0_; have BK240 := n1_; have BK241 := n2_; have HB := n3_; clear n0_ n1_ n2_ n3_; (try clear hb); (try clear hb2); (try clear hk); (try clear hi)))
         go_ret
         exact ⟨by first | rfl | (simp [errW_none, errW_some] <;> rfl) | (simp [*, errW_none, errW_some] <;> rfl), by repeat (first | (with_reducible first | exact HB.out | apply bA_ | apply bN_ | apply bD_ | refine bS_ ?_ GE239.out | refine bS_ ?_ GE240.out | refine bS_ ?_ GE241.out) | exact HB.out)⟩

end Go.Proofs.YtpjajjmipbjliaaDoor.PNspathOrder
