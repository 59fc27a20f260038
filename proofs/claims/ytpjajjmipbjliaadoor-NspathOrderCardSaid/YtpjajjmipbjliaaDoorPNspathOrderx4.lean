-- Written by a program of this session's (wip/print_patch.py over the kit's print) out of the translation; Lean checks it.
import Derived.Test.YtpjajjmipbjliaaDoorPNspathOrderx0
import Derived.Test.YtpjajjmipbjliaaDoorExtP
import Derived.Test.YtpjajjmipbjliaaDoorExtO
namespace Go.Proofs.YtpjajjmipbjliaaDoor.PNspathOrder
open Go.RowKit Go.Proofs.YtpjajjmipbjliaaDoor.Ext Go.Proofs.YtpjajjmipbjliaaDoorW.PrintWords Go.Proofs.YtpjajjmipbjliaaDoorW.PrintLast Go.Proofs.YtpjajjmipbjliaaDoorW.PrintMore
attribute [local go_sem] max2_int min2_int max_two min_two max_three min_three max_four min_four   -- for this text's walks alone
set_option linter.unusedVariables false
set_option linter.unusedSimpArgs false

/-! ### platformfwref01_ComparePaths: function 29 -/
mutual
def platformfwref01_ComparePaths.l0 : Nat → Int → Bool → Int → List ByteArray → Bool → Int → List ByteArray → Option (Int)
 | 0, _, _, _, _, _, _, _ => none
 | k + 1, x5, x234000, x234001, x234002, x235000, x235001, x235002 => if x5 < (x234002.length : Int) then (platformfwref01_ComparePaths.j1 k x5 (decide (x5 < (x235002.length : Int))) x234000 x234001 x234002 x235000 x235001 x235002) else (platformfwref01_ComparePaths.j1 k x5 false x234000 x234001 x234002 x235000 x235001 x235002)
def platformfwref01_ComparePaths.j1 : Nat → Int → Bool → Bool → Int → List ByteArray → Bool → Int → List ByteArray → Option (Int)
 | 0, _, _, _, _, _, _, _, _ => none
 | k + 1, x5, x37, x234000, x234001, x234002, x235000, x235001, x235002 => if x37 = true then (if 0 ≤ x5 then (if x5 < (x234002.length : Int) then (if x5 < (x235002.length : Int) then (if (Op.bytesLess ((rdOf ByteArray.empty x234002 x5).toList) ((rdOf ByteArray.empty x235002 x5).toList)) = true then (some (-1)) else (if (Op.bytesLess ((rdOf ByteArray.empty x235002 x5).toList) ((rdOf ByteArray.empty x234002 x5).toList)) = true then (some 1) else (platformfwref01_ComparePaths.l0 k (wrap64 (x5 + 1)) x234000 x234001 x234002 x235000 x235001 x235002))) else (none)) else (none)) else (none)) else (if (x234002.length : Int) < (x235002.length : Int) then (some (-1)) else (if (x234002.length : Int) > (x235002.length : Int) then (some 1) else (some 0)))
end
def platformfwref01_ComparePaths.f (k : Nat) (a0_0 : Bool) (a0_1 : Int) (l0_2 : List ByteArray) (a1_0 : Bool) (a1_1 : Int) (l1_2 : List ByteArray) : Option (Int) := if (a0_0 != a1_0) = true then (if a1_0 = true then (some (-1)) else (some 1)) else (if a0_1 < a1_1 then (some (-1)) else (if a0_1 > a1_1 then (some 1) else (platformfwref01_ComparePaths.l0 k 0 a0_0 a0_1 l0_2 a1_0 a1_1 l1_2)))
theorem platformfwref01_ComparePaths.mono_l : ∀ k, (∀ y0 y1 y2 y3 y4 y5 y6, LeO (platformfwref01_ComparePaths.l0 k y0 y1 y2 y3 y4 y5 y6) (platformfwref01_ComparePaths.l0 (k + 1) y0 y1 y2 y3 y4 y5 y6)) ∧ (∀ y0 y1 y2 y3 y4 y5 y6 y7, LeO (platformfwref01_ComparePaths.j1 k y0 y1 y2 y3 y4 y5 y6 y7) (platformfwref01_ComparePaths.j1 (k + 1) y0 y1 y2 y3 y4 y5 y6 y7))
 | 0 => ⟨fun _ _ _ _ _ _ _ r h => by simp [platformfwref01_ComparePaths.l0] at h, fun _ _ _ _ _ _ _ _ r h => by simp [platformfwref01_ComparePaths.j1] at h⟩
 | k + 1 => by
  obtain ⟨ih0, ih1⟩ := platformfwref01_ComparePaths.mono_l k
  refine ⟨?_, ?_⟩
  ·intro y0 y1 y2 y3 y4 y5 y6
   unfold platformfwref01_ComparePaths.l0
   repeat' first
   | (with_reducible exact ih0 _ _ _ _ _ _ _)
   | (with_reducible exact ih1 _ _ _ _ _ _ _ _)
   | (with_reducible exact LeO.refl _)
   | (with_reducible exact LeO.none _)
   | (with_reducible refine LeO.ite ?_ ?_)
   | (with_reducible refine LeO.bind ?_ (fun _ => ?_))
   | exact ih0 _ _ _ _ _ _ _
   | exact ih1 _ _ _ _ _ _ _ _
   | exact LeO.none _
   | refine LeO.ite ?_ ?_
   | refine LeO.bind ?_ (fun _ => ?_)
  ·intro y0 y1 y2 y3 y4 y5 y6 y7
   unfold platformfwref01_ComparePaths.j1
   repeat' first
   | (with_reducible exact ih0 _ _ _ _ _ _ _)
   | (with_reducible exact ih1 _ _ _ _ _ _ _ _)
   | (with_reducible exact LeO.refl _)
   | (with_reducible exact LeO.none _)
   | (with_reducible refine LeO.ite ?_ ?_)
   | (with_reducible refine LeO.bind ?_ (fun _ => ?_))
   | exact ih0 _ _ _ _ _ _ _
   | exact ih1 _ _ _ _ _ _ _ _
   | exact LeO.none _
   | refine LeO.ite ?_ ?_
   | refine LeO.bind ?_ (fun _ => ?_)
theorem platformfwref01_ComparePaths.mono : ∀ a0 a1 a2 a3 a4 a5 k, LeO (platformfwref01_ComparePaths.f k a0 a1 a2 a3 a4 a5) (platformfwref01_ComparePaths.f (k + 1) a0 a1 a2 a3 a4 a5) := by
 intro a0 a1 a2 a3 a4 a5 k
 obtain ⟨ih0, ih1⟩ := platformfwref01_ComparePaths.mono_l k
 unfold platformfwref01_ComparePaths.f
 repeat' first
   | (with_reducible exact ih0 _ _ _ _ _ _ _)
   | (with_reducible exact ih1 _ _ _ _ _ _ _ _)
   | (with_reducible exact LeO.refl _)
   | (with_reducible exact LeO.none _)
   | (with_reducible refine LeO.ite ?_ ?_)
   | (with_reducible refine LeO.bind ?_ (fun _ => ?_))
   | exact ih0 _ _ _ _ _ _ _
   | exact ih1 _ _ _ _ _ _ _ _
   | exact LeO.none _
   | refine LeO.ite ?_ ?_
   | refine LeO.bind ?_ (fun _ => ?_)
set_option maxHeartbeats 8000000 in
set_option maxRecDepth 100000 in
theorem platformfwref01_ComparePaths.calls (k : Nat) (a0_0 : Bool) (a0_1 : Int) (A0_2 : Option Addr) (c0_2 : Nat) (l0_2 : List ByteArray) (a1_0 : Bool) (a1_1 : Int) (A1_2 : Option Addr) (c1_2 : Nat) (l1_2 : List ByteArray) (r : Int) (w : World) (hr0_2 : Kd.C Kd.string w A0_2 l0_2.length l0_2) (hc0_2 : l0_2.length ≤ c0_2) (hr1_2 : Kd.C Kd.string w A1_2 l1_2.length l1_2) (hc1_2 : l1_2.length ≤ c1_2) (h : platformfwref01_ComparePaths.f k a0_0 a0_1 l0_2 a1_0 a1_1 l1_2 = some r) :
  Calls Tryd.prog 29 #[.agg #[.bool a0_0, .int .i64 a0_1, .slice A0_2 l0_2.length c0_2], .agg #[.bool a1_0, .int .i64 a1_1, .slice A1_2 l1_2.length c1_2]] w fun e w' => e = .returned (.int .i64 r) ∧ Below w.heap.size w w' := by
 have hu24 := Tryd.underlying24
 have HR0_2 := Aside0.mk hr0_2
 have HC0_2 := Aside0.mk hc0_2
 clear hr0_2 hc0_2
 have HR1_2 := Aside0.mk hr1_2
 have HC1_2 := Aside0.mk hc1_2
 clear hr1_2 hc1_2
 have HB := Aside0.mk (Below.refl w.heap.size w)
 have H : (if (a0_0 != a1_0) = true then (if a1_0 = true then (some (-1)) else (some 1)) else (if a0_1 < a1_1 then (some (-1)) else (if a0_1 > a1_1 then (some 1) else (platformfwref01_ComparePaths.l0 k 0 a0_0 a0_1 l0_2 a1_0 a1_1 l1_2)))) = some r := h
 clear h
 by_cases c3 : (a0_0 != a1_0) = true
 ·rw [if_pos c3] at H
  have c3b0 : (a0_0 != a1_0) = true := c3
  (try (have c3b1 : decide (a0_0 = a1_0) = false := by simpa using c3))
  (try (have c3b2 : (a0_0 == a1_0) = false := by simpa using c3))
  (try (have c3b3 : ¬ (a0_0 = a1_0) := by simpa using c3))
  clear c3
  by_cases c4 : a1_0 = true
  ·subst c4
   have H1 : (some (-1)) = some r := by rw [if_pos rfl] at H; exact H
   clear H
   have H := H1
   clear H1
   obtain rfl := Option.some.inj H
   go_enter Tryd.func29, Tryd.ntmps29
   go_wp2_with (first | ((with_reducible refine gate_dst (N := 2) rfl ?_); (try (refine gate_guard (by rfl) ?_; dsimp only)); refine box_event ?hg (N := 2) ?hd (cs := #[.bool a0_0, .int .i64 a0_1, .slice A0_2 l0_2.length c0_2]) (t := 24) ?hr ?_; (case hd => rfl); (case hg => rfl); (case hr => first | (go_simp; done) | (go_simp; rfl)); intro gb233 hg w5 hbox hb; have n0_ := Aside0.mk (below_step (by repeat (first | (with_reducible first | exact HB.out | apply bA_ | apply bN_ | apply bD_) | exact HB.out)) hb); have n1_ := Aside0.mk (hbox); have n2_ := Aside0.mk ((by rw [hg]; exact (below_size (by repeat (first | (with_reducible first | exact HB.out | apply bA_ | apply bN_ | apply bD_) | exact HB.out))) : w.heap.size ≤ gb233)); have n3_ := Aside0.mk ((by rw [hg]; exact (below_size (by repeat (first | (with_reducible first | exact HB.out | apply bA_ | apply bN_ | apply bD_) | exact HB.out))) : w.heap.size ≤ gb233)); clear HB; have HB := n0_; have BK233 := n1_; have GW233 := n2_; have GE233 := n3_; clear n0_ n1_ n2_ n3_; clear hb hbox hg) | ((with_reducible refine gate_dst (N := 3) rfl ?_); (try (refine gate_guard (by rfl) ?_; dsimp only)); refine box_event ?hg (N := 3) ?hd (cs := #[.bool true, .int .i64 a1_1, .slice A1_2 l1_2.length c1_2]) (t := 24) ?hr ?_; (case hd => rfl); (case hg => rfl); (case hr => first | (go_simp; done) | (go_simp; rfl)); intro gb234 hg w6 hbox hb; have n0_ := Aside0.mk (blk_below (g := gb233) (o := .cells #[.bool a0_0, .int .i64 a0_1, .slice A0_2 l0_2.length c0_2] 24 (0, 0)) (by (with_reducible repeat (first | refine kN_ ?_ _ | refine kD_ ?_ | refine kA_ ?_ _)); exact BK233.out) hb); have n1_ := Aside0.mk (below_step (by repeat (first | (with_reducible first | exact HB.out | apply bA_ | apply bN_ | apply bD_ | refine bS_ ?_ GE233.out) | exact HB.out)) hb); have n2_ := Aside0.mk (hbox); have n3_ := Aside0.mk ((by rw [hg]; exact (below_size (by repeat (first | (with_reducible first | exact HB.out | apply bA_ | apply bN_ | apply bD_ | refine bS_ ?_ GE233.out) | exact HB.out))) : w.heap.size ≤ gb234)); have n4_ := Aside0.mk ((by rw [hg]; exact (below_size (by repeat (first | (with_reducible first | exact HB.out | apply bA_ | apply bN_ | apply bD_ | refine bS_ ?_ GE233.out) | exact HB.out))) : w.heap.size ≤ gb234)); have n5_ := Aside0.mk ((by rw [hg]; exact Nat.ne_of_lt (blk_lt (g := gb233) (o := .cells #[.bool a0_0, .int .i64 a0_1, .slice A0_2 l0_2.length c0_2] 24 (0, 0)) (by (with_reducible repeat (first | refine kN_ ?_ _ | refine kD_ ?_ | refine kA_ ?_ _)); exact BK233.out)) : gb233 ≠ gb234)); have n6_ := Aside0.mk ((by rw [hg]; exact Nat.ne_of_gt (blk_lt (g := gb233) (o := .cells #[.bool a0_0, .int .i64 a0_1, .slice A0_2 l0_2.length c0_2] 24 (0, 0)) (by (with_reducible repeat (first | refine kN_ ?_ _ | refine kD_ ?_ | refine kA_ ?_ _)); exact BK233.out)) : gb234 ≠ gb233)); clear BK233; clear HB; have BK233 := n0_; have HB := n1_; have BK234 := n2_; have GW234 := n3_; have GE234 := n4_; have NB233_234 := n5_; have NB234_233 := n6_; clear n0_ n1_ n2_ n3_ n4_ n5_ n6_; clear hb hbox hg; have hnb7 := NB233_234.out; have hnc7 := NB234_233.out; obtain ⟨hcz8_0, hcz8_1, hcz8_2⟩ := cells3_ BK233.out; obtain ⟨hfz8_0, hfz8_1, hfz8_2⟩ := froz3_ BK233.out; obtain ⟨hcz9_0, hcz9_1, hcz9_2⟩ := cells3_ BK234.out; obtain ⟨hfz9_0, hfz9_1, hfz9_2⟩ := froz3_ BK234.out))
   all_goals (try (exfalso; first | exact tri_no1 (by assumption) (by assumption) (by assumption) | exact tri_no2 (by assumption) (by assumption) (by assumption)))
   repeat (go_quiet (first | ((with_reducible refine gate_dst (N := 2) rfl ?_); (try (refine gate_guard (by rfl) ?_; dsimp only)); refine box_event ?hg (N := 2) ?hd (cs := #[.bool a0_0, .int .i64 a0_1, .slice A0_2 l0_2.length c0_2]) (t := 24) ?hr ?_; (case hd => rfl); (case hg => rfl); (case hr => first | (go_simp; done) | (go_simp; rfl)); intro gb233 hg w5 hbox hb; have n0_ := Aside0.mk (below_step (by repeat (first | (with_reducible first | exact HB.out | apply bA_ | apply bN_ | apply bD_) | exact HB.out)) hb); have n1_ := Aside0.mk (hbox); have n2_ := Aside0.mk ((by rw [hg]; exact (below_size (by repeat (first | (with_reducible first | exact HB.out | apply bA_ | apply bN_ | apply bD_) | exact HB.out))) : w.heap.size ≤ gb233)); have n3_ := Aside0.mk ((by rw [hg]; exact (below_size (by repeat (first | (with_reducible first | exact HB.out | apply bA_ | apply bN_ | apply bD_) | exact HB.out))) : w.heap.size ≤ gb233)); clear HB; have HB := n0_; have BK233 := n1_; have GW233 := n2_; have GE233 := n3_; clear n0_ n1_ n2_ n3_; clear hb hbox hg) | ((with_reducible refine gate_dst (N := 3) rfl ?_); (try (refine gate_guard (by rfl) ?_; dsimp only)); refine box_event ?hg (N := 3) ?hd (cs := #[.bool true, .int .i64 a1_1, .slice A1_2 l1_2.length c1_2]) (t := 24) ?hr ?_; (case hd => rfl); (case hg => rfl); (case hr => first | (go_simp; done) | (go_simp; rfl)); intro gb234 hg w6 hbox hb; have n0_ := Aside0.mk (blk_below (g := gb233) (o := .cells #[.bool a0_0, .int .i64 a0_1, .slice A0_2 l0_2.length c0_2] 24 (0, 0)) (by (with_reducible repeat (first | refine kN_ ?_ _ | refine kD_ ?_ | refine kA_ ?_ _)); exact BK233.out) hb); have n1_ := Aside0.mk (below_step (by repeat (first | (with_reducible first | exact HB.out | apply bA_ | apply bN_ | apply bD_ | refine bS_ ?_ GE233.out) | exact HB.out)) hb); have n2_ := Aside0.mk (hbox); have n3_ := Aside0.mk ((by rw [hg]; exact (below_size (by repeat (first | (with_reducible first | exact HB.out | apply bA_ | apply bN_ | apply bD_ | refine bS_ ?_ GE233.out) | exact HB.out))) : w.heap.size ≤ gb234)); have n4_ := Aside0.mk ((by rw [hg]; exact (below_size (by repeat (first | (with_reducible first | exact HB.out | apply bA_ | apply bN_ | apply bD_ | refine bS_ ?_ GE233.out) | exact HB.out))) : w.heap.size ≤ gb234)); have n5_ := Aside0.mk ((by rw [hg]; exact Nat.ne_of_lt (blk_lt (g := gb233) (o := .cells #[.bool a0_0, .int .i64 a0_1, .slice A0_2 l0_2.length c0_2] 24 (0, 0)) (by (with_reducible repeat (first | refine kN_ ?_ _ | refine kD_ ?_ | refine kA_ ?_ _)); exact BK233.out)) : gb233 ≠ gb234)); have n6_ := Aside0.mk ((by rw [hg]; exact Nat.ne_of_gt (blk_lt (g := gb233) (o := .cells #[.bool a0_0, .int .i64 a0_1, .slice A0_2 l0_2.length c0_2] 24 (0, 0)) (by (with_reducible repeat (first | refine kN_ ?_ _ | refine kD_ ?_ | refine kA_ ?_ _)); exact BK233.out)) : gb234 ≠ gb233)); clear BK233; clear HB; have BK233 := n0_; have HB := n1_; have BK234 := n2_; have GW234 := n3_; have GE234 := n4_; have NB233_234 := n5_; have NB234_233 := n6_; clear n0_ n1_ n2_ n3_ n4_ n5_ n6_; clear hb hbox hg; have hnb7 := NB233_234.out; have hnc7 := NB234_233.out; obtain ⟨hcz8_0, hcz8_1, hcz8_2⟩ := cells3_ BK233.out; obtain ⟨hfz8_0, hfz8_1, hfz8_2⟩ := froz3_ BK233.out; obtain ⟨hcz9_0, hcz9_1, hcz9_2⟩ := cells3_ BK234.out; obtain ⟨hfz9_0, hfz9_1, hfz9_2⟩ := froz3_ BK234.out)); try go_wp2_with (first | ((with_reducible refine gate_dst (N := 2) rfl ?_); (try (refine gate_guard (by rfl) ?_; dsimp only)); refine box_event ?hg (N := 2) ?hd (cs := #[.bool a0_0, .int .i64 a0_1, .slice A0_2 l0_2.length c0_2]) (t := 24) ?hr ?_; (case hd => rfl); (case hg => rfl); (case hr => first | (go_simp; done) | (go_simp; rfl)); intro gb233 hg w5 hbox hb; have n0_ := Aside0.mk (below_step (by repeat (first | (with_reducible first | exact HB.out | apply bA_ | apply bN_ | apply bD_) | exact HB.out)) hb); have n1_ := Aside0.mk (hbox); have n2_ := Aside0.mk ((by rw [hg]; exact (below_size (by repeat (first | (with_reducible first | exact HB.out | apply bA_ | apply bN_ | apply bD_) | exact HB.out))) : w.heap.size ≤ gb233)); have n3_ := Aside0.mk ((by rw [hg]; exact (below_size (by repeat (first | (with_reducible first | exact HB.out | apply bA_ | apply bN_ | apply bD_) | exact HB.out))) : w.heap.size ≤ gb233)); clear HB; have HB := n0_; have BK233 := n1_; have GW233 := n2_; have GE233 := n3_; clear n0_ n1_ n2_ n3_; clear hb hbox hg) | ((with_reducible refine gate_dst (N := 3) rfl ?_); (try (refine gate_guard (by rfl) ?_; dsimp only)); refine box_event ?hg (N := 3) ?hd (cs := #[.bool true, .int .i64 a1_1, .slice A1_2 l1_2.length c1_2]) (t := 24) ?hr ?_; (case hd => rfl); (case hg => rfl); (case hr => first | (go_simp; done) | (go_simp; rfl)); intro gb234 hg w6 hbox hb; have n0_ := Aside0.mk (blk_below (g := gb233) (o := .cells #[.bool a0_0, .int .i64 a0_1, .slice A0_2 l0_2.length c0_2] 24 (0, 0)) (by (with_reducible repeat (first | refine kN_ ?_ _ | refine kD_ ?_ | refine kA_ ?_ _)); exact BK233.out) hb); have n1_ := Aside0.mk (below_step (by repeat (first | (with_reducible first | exact HB.out | apply bA_ | apply bN_ | apply bD_ | refine bS_ ?_ GE233.out) | exact HB.out)) hb); have n2_ := Aside0.mk (hbox); have n3_ := Aside0.mk ((by rw [hg]; exact (below_size (by repeat (first | (with_reducible first | exact HB.out | apply bA_ | apply bN_ | apply bD_ | refine bS_ ?_ GE233.out) | exact HB.out))) : w.heap.size ≤ gb234)); have n4_ := Aside0.mk ((by rw [hg]; exact (below_size (by repeat (first | (with_reducible first | exact HB.out | apply bA_ | apply bN_ | apply bD_ | refine bS_ ?_ GE233.out) | exact HB.out))) : w.heap.size ≤ gb234)); have n5_ := Aside0.mk ((by rw [hg]; exact Nat.ne_of_lt (blk_lt (g := gb233) (o := .cells #[.bool a0_0, .int .i64 a0_1, .slice A0_2 l0_2.length c0_2] 24 (0, 0)) (by (with_reducible repeat (first | refine kN_ ?_ _ | refine kD_ ?_ | refine kA_ ?_ _)); exact BK233.out)) : gb233 ≠ gb234)); have n6_ := Aside0.mk ((by rw [hg]; exact Nat.ne_of_gt (blk_lt (g := gb233) (o := .cells #[.bool a0_0, .int .i64 a0_1, .slice A0_2 l0_2.length c0_2] 24 (0, 0)) (by (with_reducible repeat (first | refine kN_ ?_ _ | refine kD_ ?_ | refine kA_ ?_ _)); exact BK233.out)) : gb234 ≠ gb233)); clear BK233; clear HB; have BK233 := n0_; have HB := n1_; have BK234 := n2_; have GW234 := n3_; have GE234 := n4_; have NB233_234 := n5_; have NB234_233 := n6_; clear n0_ n1_ n2_ n3_ n4_ n5_ n6_; clear hb hbox hg; have hnb7 := NB233_234.out; have hnc7 := NB234_233.out; obtain ⟨hcz8_0, hcz8_1, hcz8_2⟩ := cells3_ BK233.out; obtain ⟨hfz8_0, hfz8_1, hfz8_2⟩ := froz3_ BK233.out; obtain ⟨hcz9_0, hcz9_1, hcz9_2⟩ := cells3_ BK234.out; obtain ⟨hfz9_0, hfz9_1, hfz9_2⟩ := froz3_ BK234.out)))
   all_goals (try (exfalso; first | exact tri_no1 (by assumption) (by assumption) (by assumption) | exact tri_no2 (by assumption) (by assumption) (by assumption)))
   go_ret
   exact ⟨by first | rfl | (simp [errW_none, errW_some] <;> rfl) | (simp [*, errW_none, errW_some] <;> rfl), by repeat (first | (with_reducible first | exact HB.out | apply bA_ | apply bN_ | apply bD_ | refine bS_ ?_ GE233.out | refine bS_ ?_ GE234.out) | exact HB.out)⟩
  ·replace c4 := Bool.eq_false_iff.mpr c4
   subst c4
   have H1 : (some 1) = some r := by rw [if_neg (show ¬ (false = true) by decide)] at H; exact H
   clear H
   have H := H1
   clear H1
   obtain rfl := Option.some.inj H
   go_enter Tryd.func29, Tryd.ntmps29
   go_wp2_with (first | ((with_reducible refine gate_dst (N := 2) rfl ?_); (try (refine gate_guard (by rfl) ?_; dsimp only)); refine box_event ?hg (N := 2) ?hd (cs := #[.bool a0_0, .int .i64 a0_1, .slice A0_2 l0_2.length c0_2]) (t := 24) ?hr ?_; (case hd => rfl); (case hg => rfl); (case hr => first | (go_simp; done) | (go_simp; rfl)); intro gb233 hg w10 hbox hb; have n0_ := Aside0.mk (below_step (by repeat (first | (with_reducible first | exact HB.out | apply bA_ | apply bN_ | apply bD_) | exact HB.out)) hb); have n1_ := Aside0.mk (hbox); have n2_ := Aside0.mk ((by rw [hg]; exact (below_size (by repeat (first | (with_reducible first | exact HB.out | apply bA_ | apply bN_ | apply bD_) | exact HB.out))) : w.heap.size ≤ gb233)); have n3_ := Aside0.mk ((by rw [hg]; exact (below_size (by repeat (first | (with_reducible first | exact HB.out | apply bA_ | apply bN_ | apply bD_) | exact HB.out))) : w.heap.size ≤ gb233)); clear HB; have HB := n0_; have BK233 := n1_; have GW233 := n2_; have GE233 := n3_; clear n0_ n1_ n2_ n3_; clear hb hbox hg) | ((with_reducible refine gate_dst (N := 3) rfl ?_); (try (refine gate_guard (by rfl) ?_; dsimp only)); refine box_event ?hg (N := 3) ?hd (cs := #[.bool false, .int .i64 a1_1, .slice A1_2 l1_2.length c1_2]) (t := 24) ?hr ?_; (case hd => rfl); (case hg => rfl); (case hr => first | (go_simp; done) | (go_simp; rfl)); intro gb234 hg w11 hbox hb; have n0_ := Aside0.mk (blk_below (g := gb233) (o := .cells #[.bool a0_0, .int .i64 a0_1, .slice A0_2 l0_2.length c0_2] 24 (0, 0)) (by (with_reducible repeat (first | refine kN_ ?_ _ | refine kD_ ?_ | refine kA_ ?_ _)); exact BK233.out) hb); have n1_ := Aside0.mk (below_step (by repeat (first | (with_reducible first | exact HB.out | apply bA_ | apply bN_ | apply bD_ | refine bS_ ?_ GE233.out) | exact HB.out)) hb); have n2_ := Aside0.mk (hbox); have n3_ := Aside0.mk ((by rw [hg]; exact (below_size (by repeat (first | (with_reducible first | exact HB.out | apply bA_ | apply bN_ | apply bD_ | refine bS_ ?_ GE233.out) | exact HB.out))) : w.heap.size ≤ gb234)); have n4_ := Aside0.mk ((by rw [hg]; exact (below_size (by repeat (first | (with_reducible first | exact HB.out | apply bA_ | apply bN_ | apply bD_ | refine bS_ ?_ GE233.out) | exact HB.out))) : w.heap.size ≤ gb234)); have n5_ := Aside0.mk ((by rw [hg]; exact Nat.ne_of_lt (blk_lt (g := gb233) (o := .cells #[.bool a0_0, .int .i64 a0_1, .slice A0_2 l0_2.length c0_2] 24 (0, 0)) (by (with_reducible repeat (first | refine kN_ ?_ _ | refine kD_ ?_ | refine kA_ ?_ _)); exact BK233.out)) : gb233 ≠ gb234)); have n6_ := Aside0.mk ((by rw [hg]; exact Nat.ne_of_gt (blk_lt (g := gb233) (o := .cells #[.bool a0_0, .int .i64 a0_1, .slice A0_2 l0_2.length c0_2] 24 (0, 0)) (by (with_reducible repeat (first | refine kN_ ?_ _ | refine kD_ ?_ | refine kA_ ?_ _)); exact BK233.out)) : gb234 ≠ gb233)); clear BK233; clear HB; have BK233 := n0_; have HB := n1_; have BK234 := n2_; have GW234 := n3_; have GE234 := n4_; have NB233_234 := n5_; have NB234_233 := n6_; clear n0_ n1_ n2_ n3_ n4_ n5_ n6_; clear hb hbox hg; have hnb12 := NB233_234.out; have hnc12 := NB234_233.out; obtain ⟨hcz13_0, hcz13_1, hcz13_2⟩ := cells3_ BK233.out; obtain ⟨hfz13_0, hfz13_1, hfz13_2⟩ := froz3_ BK233.out; obtain ⟨hcz14_0, hcz14_1, hcz14_2⟩ := cells3_ BK234.out; obtain ⟨hfz14_0, hfz14_1, hfz14_2⟩ := froz3_ BK234.out))
   all_goals (try (exfalso; first | exact tri_no1 (by assumption) (by assumption) (by assumption) | exact tri_no2 (by assumption) (by assumption) (by assumption)))
   repeat (go_quiet (first | ((with_reducible refine gate_dst (N := 2) rfl ?_); (try (refine gate_guard (by rfl) ?_; dsimp only)); refine box_event ?hg (N := 2) ?hd (cs := #[.bool a0_0, .int .i64 a0_1, .slice A0_2 l0_2.length c0_2]) (t := 24) ?hr ?_; (case hd => rfl); (case hg => rfl); (case hr => first | (go_simp; done) | (go_simp; rfl)); intro gb233 hg w10 hbox hb; have n0_ := Aside0.mk (below_step (by repeat (first | (with_reducible first | exact HB.out | apply bA_ | apply bN_ | apply bD_) | exact HB.out)) hb); have n1_ := Aside0.mk (hbox); have n2_ := Aside0.mk ((by rw [hg]; exact (below_size (by repeat (first | (with_reducible first | exact HB.out | apply bA_ | apply bN_ | apply bD_) | exact HB.out))) : w.heap.size ≤ gb233)); have n3_ := Aside0.mk ((by rw [hg]; exact (below_size (by repeat (first | (with_reducible first | exact HB.out | apply bA_ | apply bN_ | apply bD_) | exact HB.out))) : w.heap.size ≤ gb233)); clear HB; have HB := n0_; have BK233 := n1_; have GW233 := n2_; have GE233 := n3_; clear n0_ n1_ n2_ n3_; clear hb hbox hg) | ((with_reducible refine gate_dst (N := 3) rfl ?_); (try (refine gate_guard (by rfl) ?_; dsimp only)); refine box_event ?hg (N := 3) ?hd (cs := #[.bool false, .int .i64 a1_1, .slice A1_2 l1_2.length c1_2]) (t := 24) ?hr ?_; (case hd => rfl); (case hg => rfl); (case hr => first | (go_simp; done) | (go_simp; rfl)); intro gb234 hg w11 hbox hb; have n0_ := Aside0.mk (blk_below (g := gb233) (o := .cells #[.bool a0_0, .int .i64 a0_1, .slice A0_2 l0_2.length c0_2] 24 (0, 0)) (by (with_reducible repeat (first | refine kN_ ?_ _ | refine kD_ ?_ | refine kA_ ?_ _)); exact BK233.out) hb); have n1_ := Aside0.mk (below_step (by repeat (first | (with_reducible first | exact HB.out | apply bA_ | apply bN_ | apply bD_ | refine bS_ ?_ GE233.out) | exact HB.out)) hb); have n2_ := Aside0.mk (hbox); have n3_ := Aside0.mk ((by rw [hg]; exact (below_size (by repeat (first | (with_reducible first | exact HB.out | apply bA_ | apply bN_ | apply bD_ | refine bS_ ?_ GE233.out) | exact HB.out))) : w.heap.size ≤ gb234)); have n4_ := Aside0.mk ((by rw [hg]; exact (below_size (by repeat (first | (with_reducible first | exact HB.out | apply bA_ | apply bN_ | apply bD_ | refine bS_ ?_ GE233.out) | exact HB.out))) : w.heap.size ≤ gb234)); have n5_ := Aside0.mk ((by rw [hg]; exact Nat.ne_of_lt (blk_lt (g := gb233) (o := .cells #[.bool a0_0, .int .i64 a0_1, .slice A0_2 l0_2.length c0_2] 24 (0, 0)) (by (with_reducible repeat (first | refine kN_ ?_ _ | refine kD_ ?_ | refine kA_ ?_ _)); exact BK233.out)) : gb233 ≠ gb234)); have n6_ := Aside0.mk ((by rw [hg]; exact Nat.ne_of_gt (blk_lt (g := gb233) (o := .cells #[.bool a0_0, .int .i64 a0_1, .slice A0_2 l0_2.length c0_2] 24 (0, 0)) (by (with_reducible repeat (first | refine kN_ ?_ _ | refine kD_ ?_ | refine kA_ ?_ _)); exact BK233.out)) : gb234 ≠ gb233)); clear BK233; clear HB; have BK233 := n0_; have HB := n1_; have BK234 := n2_; have GW234 := n3_; have GE234 := n4_; have NB233_234 := n5_; have NB234_233 := n6_; clear n0_ n1_ n2_ n3_ n4_ n5_ n6_; clear hb hbox hg; have hnb12 := NB233_234.out; have hnc12 := NB234_233.out; obtain ⟨hcz13_0, hcz13_1, hcz13_2⟩ := cells3_ BK233.out; obtain ⟨hfz13_0, hfz13_1, hfz13_2⟩ := froz3_ BK233.out; obtain ⟨hcz14_0, hcz14_1, hcz14_2⟩ := cells3_ BK234.out; obtain ⟨hfz14_0, hfz14_1, hfz14_2⟩ := froz3_ BK234.out)); try go_wp2_with (first | ((with_reducible refine gate_dst (N := 2) rfl ?_); (try (refine gate_guard (by rfl) ?_; dsimp only)); refine box_event ?hg (N := 2) ?hd (cs := #[.bool a0_0, .int .i64 a0_1, .slice A0_2 l0_2.length c0_2]) (t := 24) ?hr ?_; (case hd => rfl); (case hg => rfl); (case hr => first | (go_simp; done) | (go_simp; rfl)); intro gb233 hg w10 hbox hb; have n0_ := Aside0.mk (below_step (by repeat (first | (with_reducible first | exact HB.out | apply bA_ | apply bN_ | apply bD_) | exact HB.out)) hb); have n1_ := Aside0.mk (hbox); have n2_ := Aside0.mk ((by rw [hg]; exact (below_size (by repeat (first | (with_reducible first | exact HB.out | apply bA_ | apply bN_ | apply bD_) | exact HB.out))) : w.heap.size ≤ gb233)); have n3_ := Aside0.mk ((by rw [hg]; exact (below_size (by repeat (first | (with_reducible first | exact HB.out | apply bA_ | apply bN_ | apply bD_) | exact HB.out))) : w.heap.size ≤ gb233)); clear HB; have HB := n0_; have BK233 := n1_; have GW233 := n2_; have GE233 := n3_; clear n0_ n1_ n2_ n3_; clear hb hbox hg) | ((with_reducible refine gate_dst (N := 3) rfl ?_); (try (refine gate_guard (by rfl) ?_; dsimp only)); refine box_event ?hg (N := 3) ?hd (cs := #[.bool false, .int .i64 a1_1, .slice A1_2 l1_2.length c1_2]) (t := 24) ?hr ?_; (case hd => rfl); (case hg => rfl); (case hr => first | (go_simp; done) | (go_simp; rfl)); intro gb234 hg w11 hbox hb; have n0_ := Aside0.mk (blk_below (g := gb233) (o := .cells #[.bool a0_0, .int .i64 a0_1, .slice A0_2 l0_2.length c0_2] 24 (0, 0)) (by (with_reducible repeat (first | refine kN_ ?_ _ | refine kD_ ?_ | refine kA_ ?_ _)); exact BK233.out) hb); have n1_ := Aside0.mk (below_step (by repeat (first | (with_reducible first | exact HB.out | apply bA_ | apply bN_ | apply bD_ | refine bS_ ?_ GE233.out) | exact HB.out)) hb); have n2_ := Aside0.mk (hbox); have n3_ := Aside0.mk ((by rw [hg]; exact (below_size (by repeat (first | (with_reducible first | exact HB.out | apply bA_ | apply bN_ | apply bD_ | refine bS_ ?_ GE233.out) | exact HB.out))) : w.heap.size ≤ gb234)); have n4_ := Aside0.mk ((by rw [hg]; exact (below_size (by repeat (first | (with_reducible first | exact HB.out | apply bA_ | apply bN_ | apply bD_ | refine bS_ ?_ GE233.out) | exact HB.out))) : w.heap.size ≤ gb234)); have n5_ := Aside0.mk ((by rw [hg]; exact Nat.ne_of_lt (blk_lt (g := gb233) (o := .cells #[.bool a0_0, .int .i64 a0_1, .slice A0_2 l0_2.length c0_2] 24 (0, 0)) (by (with_reducible repeat (first | refine kN_ ?_ _ | refine kD_ ?_ | refine kA_ ?_ _)); exact BK233.out)) : gb233 ≠ gb234)); have n6_ := Aside0.mk ((by rw [hg]; exact Nat.ne_of_gt (blk_lt (g := gb233) (o := .cells #[.bool a0_0, .int .i64 a0_1, .slice A0_2 l0_2.length c0_2] 24 (0, 0)) (by (with_reducible repeat (first | refine kN_ ?_ _ | refine kD_ ?_ | refine kA_ ?_ _)); exact BK233.out)) : gb234 ≠ gb233)); clear BK233; clear HB; have BK233 := n0_; have HB := n1_; have BK234 := n2_; have GW234 := n3_; have GE234 := n4_; have NB233_234 := n5_; have NB234_233 := n6_; clear n0_ n1_ n2_ n3_ n4_ n5_ n6_; clear hb hbox hg; have hnb12 := NB233_234.out; have hnc12 := NB234_233.out; obtain ⟨hcz13_0, hcz13_1, hcz13_2⟩ := cells3_ BK233.out; obtain ⟨hfz13_0, hfz13_1, hfz13_2⟩ := froz3_ BK233.out; obtain ⟨hcz14_0, hcz14_1, hcz14_2⟩ := cells3_ BK234.out; obtain ⟨hfz14_0, hfz14_1, hfz14_2⟩ := froz3_ BK234.out)))
   all_goals (try (exfalso; first | exact tri_no1 (by assumption) (by assumption) (by assumption) | exact tri_no2 (by assumption) (by assumption) (by assumption)))
   go_ret
   exact ⟨by first | rfl | (simp [errW_none, errW_some] <;> rfl) | (simp [*, errW_none, errW_some] <;> rfl), by repeat (first | (with_reducible first | exact HB.out | apply bA_ | apply bN_ | apply bD_ | refine bS_ ?_ GE233.out | refine bS_ ?_ GE234.out) | exact HB.out)⟩
 ·rw [if_neg c3] at H
  have c3b0 : (a0_0 != a1_0) = false := by simpa using c3
  (try (have c3b1 : decide (a0_0 = a1_0) = true := by simpa using c3))
  (try (have c3b2 : (a0_0 == a1_0) = true := by simpa using c3))
  clear c3
  by_cases c15 : a0_1 < a1_1
  ·rw [if_pos c15] at H
   have c15b0 : decide (a0_1 < a1_1) = true := decide_eq_true c15
   clear c15
   obtain rfl := Option.some.inj H
   go_enter Tryd.func29, Tryd.ntmps29
   go_wp2_with (first | ((with_reducible refine gate_dst (N := 2) rfl ?_); (try (refine gate_guard (by rfl) ?_; dsimp only)); refine box_event ?hg (N := 2) ?hd (cs := #[.bool a0_0, .int .i64 a0_1, .slice A0_2 l0_2.length c0_2]) (t := 24) ?hr ?_; (case hd => rfl); (case hg => rfl); (case hr => first | (go_simp; done) | (go_simp; rfl)); intro gb233 hg w16 hbox hb; have n0_ := Aside0.mk (below_step (by repeat (first | (with_reducible first | exact HB.out | apply bA_ | apply bN_ | apply bD_) | exact HB.out)) hb); have n1_ := Aside0.mk (hbox); have n2_ := Aside0.mk ((by rw [hg]; exact (below_size (by repeat (first | (with_reducible first | exact HB.out | apply bA_ | apply bN_ | apply bD_) | exact HB.out))) : w.heap.size ≤ gb233)); have n3_ := Aside0.mk ((by rw [hg]; exact (below_size (by repeat (first | (with_reducible first | exact HB.out | apply bA_ | apply bN_ | apply bD_) | exact HB.out))) : w.heap.size ≤ gb233)); clear HB; have HB := n0_; have BK233 := n1_; have GW233 := n2_; have GE233 := n3_; clear n0_ n1_ n2_ n3_; clear hb hbox hg) | ((with_reducible refine gate_dst (N := 3) rfl ?_); (try (refine gate_guard (by rfl) ?_; dsimp only)); refine box_event ?hg (N := 3) ?hd (cs := #[.bool a1_0, .int .i64 a1_1, .slice A1_2 l1_2.length c1_2]) (t := 24) ?hr ?_; (case hd => rfl); (case hg => rfl); (case hr => first | (go_simp; done) | (go_simp; rfl)); intro gb234 hg w17 hbox hb; have n0_ := Aside0.mk (blk_below (g := gb233) (o := .cells #[.bool a0_0, .int .i64 a0_1, .slice A0_2 l0_2.length c0_2] 24 (0, 0)) (by (with_reducible repeat (first | refine kN_ ?_ _ | refine kD_ ?_ | refine kA_ ?_ _)); exact BK233.out) hb); have n1_ := Aside0.mk (below_step (by repeat (first | (with_reducible first | exact HB.out | apply bA_ | apply bN_ | apply bD_ | refine bS_ ?_ GE233.out) | exact HB.out)) hb); have n2_ := Aside0.mk (hbox); have n3_ := Aside0.mk ((by rw [hg]; exact (below_size (by repeat (first | (with_reducible first | exact HB.out | apply bA_ | apply bN_ | apply bD_ | refine bS_ ?_ GE233.out) | exact HB.out))) : w.heap.size ≤ gb234)); have n4_ := Aside0.mk ((by rw [hg]; exact (below_size (by repeat (first | (with_reducible first | exact HB.out | apply bA_ | apply bN_ | apply bD_ | refine bS_ ?_ GE233.out) | exact HB.out))) : w.heap.size ≤ gb234)); have n5_ := Aside0.mk ((by rw [hg]; exact Nat.ne_of_lt (blk_lt (g := gb233) (o := .cells #[.bool a0_0, .int .i64 a0_1, .slice A0_2 l0_2.length c0_2] 24 (0, 0)) (by (with_reducible repeat (first | refine kN_ ?_ _ | refine kD_ ?_ | refine kA_ ?_ _)); exact BK233.out)) : gb233 ≠ gb234)); have n6_ := Aside0.mk ((by rw [hg]; exact Nat.ne_of_gt (blk_lt (g := gb233) (o := .cells #[.bool a0_0, .int .i64 a0_1, .slice A0_2 l0_2.length c0_2] 24 (0, 0)) (by (with_reducible repeat (first | refine kN_ ?_ _ | refine kD_ ?_ | refine kA_ ?_ _)); exact BK233.out)) : gb234 ≠ gb233)); clear BK233; clear HB; have BK233 := n0_; have HB := n1_; have BK234 := n2_; have GW234 := n3_; have GE234 := n4_; have NB233_234 := n5_; have NB234_233 := n6_; clear n0_ n1_ n2_ n3_ n4_ n5_ n6_; clear hb hbox hg; have hnb18 := NB233_234.out; have hnc18 := NB234_233.out; obtain ⟨hcz19_0, hcz19_1, hcz19_2⟩ := cells3_ BK233.out; obtain ⟨hfz19_0, hfz19_1, hfz19_2⟩ := froz3_ BK233.out; obtain ⟨hcz20_0, hcz20_1, hcz20_2⟩ := cells3_ BK234.out; obtain ⟨hfz20_0, hfz20_1, hfz20_2⟩ := froz3_ BK234.out))
   all_goals (try (exfalso; first | exact tri_no1 (by assumption) (by assumption) (by assumption) | exact tri_no2 (by assumption) (by assumption) (by assumption)))
   repeat (go_quiet (first | ((with_reducible refine gate_dst (N := 2) rfl ?_); (try (refine gate_guard (by rfl) ?_; dsimp only)); refine box_event ?hg (N := 2) ?hd (cs := #[.bool a0_0, .int .i64 a0_1, .slice A0_2 l0_2.length c0_2]) (t := 24) ?hr ?_; (case hd => rfl); (case hg => rfl); (case hr => first | (go_simp; done) | (go_simp; rfl)); intro gb233 hg w16 hbox hb; have n0_ := Aside0.mk (below_step (by repeat (first | (with_reducible first | exact HB.out | apply bA_ | apply bN_ | apply bD_) | exact HB.out)) hb); have n1_ := Aside0.mk (hbox); have n2_ := Aside0.mk ((by rw [hg]; exact (below_size (by repeat (first | (with_reducible first | exact HB.out | apply bA_ | apply bN_ | apply bD_) | exact HB.out))) : w.heap.size ≤ gb233)); have n3_ := Aside0.mk ((by rw [hg]; exact (below_size (by repeat (first | (with_reducible first | exact HB.out | apply bA_ | apply bN_ | apply bD_) | exact HB.out))) : w.heap.size ≤ gb233)); clear HB; have HB := n0_; have BK233 := n1_; have GW233 := n2_; have GE233 := n3_; clear n0_ n1_ n2_ n3_; clear hb hbox hg) | ((with_reducible refine gate_dst (N := 3) rfl ?_); (try (refine gate_guard (by rfl) ?_; dsimp only)); refine box_event ?hg (N := 3) ?hd (cs := #[.bool a1_0, .int .i64 a1_1, .slice A1_2 l1_2.length c1_2]) (t := 24) ?hr ?_; (case hd => rfl); (case hg => rfl); (case hr => first | (go_simp; done) | (go_simp; rfl)); intro gb234 hg w17 hbox hb; have n0_ := Aside0.mk (blk_below (g := gb233) (o := .cells #[.bool a0_0, .int .i64 a0_1, .slice A0_2 l0_2.length c0_2] 24 (0, 0)) (by (with_reducible repeat (first | refine kN_ ?_ _ | refine kD_ ?_ | refine kA_ ?_ _)); exact BK233.out) hb); have n1_ := Aside0.mk (below_step (by repeat (first | (with_reducible first | exact HB.out | apply bA_ | apply bN_ | apply bD_ | refine bS_ ?_ GE233.out) | exact HB.out)) hb); have n2_ := Aside0.mk (hbox); have n3_ := Aside0.mk ((by rw [hg]; exact (below_size (by repeat (first | (with_reducible first | exact HB.out | apply bA_ | apply bN_ | apply bD_ | refine bS_ ?_ GE233.out) | exact HB.out))) : w.heap.size ≤ gb234)); have n4_ := Aside0.mk ((by rw [hg]; exact (below_size (by repeat (first | (with_reducible first | exact HB.out | apply bA_ | apply bN_ | apply bD_ | refine bS_ ?_ GE233.out) | exact HB.out))) : w.heap.size ≤ gb234)); have n5_ := Aside0.mk ((by rw [hg]; exact Nat.ne_of_lt (blk_lt (g := gb233) (o := .cells #[.bool a0_0, .int .i64 a0_1, .slice A0_2 l0_2.length c0_2] 24 (0, 0)) (by (with_reducible repeat (first | refine kN_ ?_ _ | refine kD_ ?_ | refine kA_ ?_ _)); exact BK233.out)) : gb233 ≠ gb234)); have n6_ := Aside0.mk ((by rw [hg]; exact Nat.ne_of_gt (blk_lt (g := gb233) (o := .cells #[.bool a0_0, .int .i64 a0_1, .slice A0_2 l0_2.length c0_2] 24 (0, 0)) (by (with_reducible repeat (first | refine kN_ ?_ _ | refine kD_ ?_ | refine kA_ ?_ _)); exact BK233.out)) : gb234 ≠ gb233)); clear BK233; clear HB; have BK233 := n0_; have HB := n1_; have BK234 := n2_; have GW234 := n3_; have GE234 := n4_; have NB233_234 := n5_; have NB234_233 := n6_; clear n0_ n1_ n2_ n3_ n4_ n5_ n6_; clear hb hbox hg; have hnb18 := NB233_234.out; have hnc18 := NB234_233.out; obtain ⟨hcz19_0, hcz19_1, hcz19_2⟩ := cells3_ BK233.out; obtain ⟨hfz19_0, hfz19_1, hfz19_2⟩ := froz3_ BK233.out; obtain ⟨hcz20_0, hcz20_1, hcz20_2⟩ := cells3_ BK234.out; obtain ⟨hfz20_0, hfz20_1, hfz20_2⟩ := froz3_ BK234.out)); try go_wp2_with (first | ((with_reducible refine gate_dst (N := 2) rfl ?_); (try (refine gate_guard (by rfl) ?_; dsimp only)); refine box_event ?hg (N := 2) ?hd (cs := #[.bool a0_0, .int .i64 a0_1, .slice A0_2 l0_2.length c0_2]) (t := 24) ?hr ?_; (case hd => rfl); (case hg => rfl); (case hr => first | (go_simp; done) | (go_simp; rfl)); intro gb233 hg w16 hbox hb; have n0_ := Aside0.mk (below_step (by repeat (first | (with_reducible first | exact HB.out | apply bA_ | apply bN_ | apply bD_) | exact HB.out)) hb); have n1_ := Aside0.mk (hbox); have n2_ := Aside0.mk ((by rw [hg]; exact (below_size (by repeat (first | (with_reducible first | exact HB.out | apply bA_ | apply bN_ | apply bD_) | exact HB.out))) : w.heap.size ≤ gb233)); have n3_ := Aside0.mk ((by rw [hg]; exact (below_size (by repeat (first | (with_reducible first | exact HB.out | apply bA_ | apply bN_ | apply bD_) | exact HB.out))) : w.heap.size ≤ gb233)); clear HB; have HB := n0_; have BK233 := n1_; have GW233 := n2_; have GE233 := n3_; clear n0_ n1_ n2_ n3_; clear hb hbox hg) | ((with_reducible refine gate_dst (N := 3) rfl ?_); (try (refine gate_guard (by rfl) ?_; dsimp only)); refine box_event ?hg (N := 3) ?hd (cs := #[.bool a1_0, .int .i64 a1_1, .slice A1_2 l1_2.length c1_2]) (t := 24) ?hr ?_; (case hd => rfl); (case hg => rfl); (case hr => first | (go_simp; done) | (go_simp; rfl)); intro gb234 hg w17 hbox hb; have n0_ := Aside0.mk (blk_below (g := gb233) (o := .cells #[.bool a0_0, .int .i64 a0_1, .slice A0_2 l0_2.length c0_2] 24 (0, 0)) (by (with_reducible repeat (first | refine kN_ ?_ _ | refine kD_ ?_ | refine kA_ ?_ _)); exact BK233.out) hb); have n1_ := Aside0.mk (below_step (by repeat (first | (with_reducible first | exact HB.out | apply bA_ | apply bN_ | apply bD_ | refine bS_ ?_ GE233.out) | exact HB.out)) hb); have n2_ := Aside0.mk (hbox); have n3_ := Aside0.mk ((by rw [hg]; exact (below_size (by repeat (first | (with_reducible first | exact HB.out | apply bA_ | apply bN_ | apply bD_ | refine bS_ ?_ GE233.out) | exact HB.out))) : w.heap.size ≤ gb234)); have n4_ := Aside0.mk ((by rw [hg]; exact (below_size (by repeat (first | (with_reducible first | exact HB.out | apply bA_ | apply bN_ | apply bD_ | refine bS_ ?_ GE233.out) | exact HB.out))) : w.heap.size ≤ gb234)); have n5_ := Aside0.mk ((by rw [hg]; exact Nat.ne_of_lt (blk_lt (g := gb233) (o := .cells #[.bool a0_0, .int .i64 a0_1, .slice A0_2 l0_2.length c0_2] 24 (0, 0)) (by (with_reducible repeat (first | refine kN_ ?_ _ | refine kD_ ?_ | refine kA_ ?_ _)); exact BK233.out)) : gb233 ≠ gb234)); have n6_ := Aside0.mk ((by rw [hg]; exact Nat.ne_of_gt (blk_lt (g := gb233) (o := .cells #[.bool a0_0, .int .i64 a0_1, .slice A0_2 l0_2.length c0_2] 24 (0, 0)) (by (with_reducible repeat (first | refine kN_ ?_ _ | refine kD_ ?_ | refine kA_ ?_ _)); exact BK233.out)) : gb234 ≠ gb233)); clear BK233; clear HB; have BK233 := n0_; have HB := n1_; have BK234 := n2_; have GW234 := n3_; have GE234 := n4_; have NB233_234 := n5_; have NB234_233 := n6_; clear n0_ n1_ n2_ n3_ n4_ n5_ n6_; clear hb hbox hg; have hnb18 := NB233_234.out; have hnc18 := NB234_233.out; obtain ⟨hcz19_0, hcz19_1, hcz19_2⟩ := cells3_ BK233.out; obtain ⟨hfz19_0, hfz19_1, hfz19_2⟩ := froz3_ BK233.out; obtain ⟨hcz20_0, hcz20_1, hcz20_2⟩ := cells3_ BK234.out; obtain ⟨hfz20_0, hfz20_1, hfz20_2⟩ := froz3_ BK234.out)))
   all_goals (try (exfalso; first | exact tri_no1 (by assumption) (by assumption) (by assumption) | exact tri_no2 (by assumption) (by assumption) (by assumption)))
   go_ret
   exact ⟨by first | rfl | (simp [errW_none, errW_some] <;> rfl) | (simp [*, errW_none, errW_some] <;> rfl), by repeat (first | (with_reducible first | exact HB.out | apply bA_ | apply bN_ | apply bD_ | refine bS_ ?_ GE233.out | refine bS_ ?_ GE234.out) | exact HB.out)⟩
  ·rw [if_neg c15] at H
   have c15b0 : decide (a0_1 < a1_1) = false := decide_eq_false c15
   clear c15
   by_cases c21 : a0_1 > a1_1
   ·rw [if_pos c21] at H
    have c21b0 : decide (a1_1 < a0_1) = true := decide_eq_true c21
    clear c21
    obtain rfl := Option.some.inj H
    go_enter Tryd.func29, Tryd.ntmps29
    go_wp2_with (first | ((with_reducible refine gate_dst (N := 2) rfl ?_); (try (refine gate_guard (by rfl) ?_; dsimp only)); refine box_event ?hg (N := 2) ?hd (cs := #[.bool a0_0, .int .i64 a0_1, .slice A0_2 l0_2.length c0_2]) (t := 24) ?hr ?_; (case hd => rfl); (case hg => rfl); (case hr => first | (go_simp; done) | (go_simp; rfl)); intro gb233 hg w22 hbox hb; have n0_ := Aside0.mk (below_step (by repeat (first | (with_reducible first | exact HB.out | apply bA_ | apply bN_ | apply bD_) | exact HB.out)) hb); have n1_ := Aside0.mk (hbox); have n2_ := Aside0.mk ((by rw [hg]; exact (below_size (by repeat (first | (with_reducible first | exact HB.out | apply bA_ | apply bN_ | apply bD_) | exact HB.out))) : w.heap.size ≤ gb233)); have n3_ := Aside0.mk ((by rw [hg]; exact (below_size (by repeat (first | (with_reducible first | exact HB.out | apply bA_ | apply bN_ | apply bD_) | exact HB.out))) : w.heap.size ≤ gb233)); clear HB; have HB := n0_; have BK233 := n1_; have GW233 := n2_; have GE233 := n3_; clear n0_ n1_ n2_ n3_; clear hb hbox hg) | ((with_reducible refine gate_dst (N := 3) rfl ?_); (try (refine gate_guard (by rfl) ?_; dsimp only)); refine box_event ?hg (N := 3) ?hd (cs := #[.bool a1_0, .int .i64 a1_1, .slice A1_2 l1_2.length c1_2]) (t := 24) ?hr ?_; (case hd => rfl); (case hg => rfl); (case hr => first | (go_simp; done) | (go_simp; rfl)); intro gb234 hg w23 hbox hb; have n0_ := Aside0.mk (blk_below (g := gb233) (o := .cells #[.bool a0_0, .int .i64 a0_1, .slice A0_2 l0_2.length c0_2] 24 (0, 0)) (by (with_reducible repeat (first | refine kN_ ?_ _ | refine kD_ ?_ | refine kA_ ?_ _)); exact BK233.out) hb); have n1_ := Aside0.mk (below_step (by repeat (first | (with_reducible first | exact HB.out | apply bA_ | apply bN_ | apply bD_ | refine bS_ ?_ GE233.out) | exact HB.out)) hb); have n2_ := Aside0.mk (hbox); have n3_ := Aside0.mk ((by rw [hg]; exact (below_size (by repeat (first | (with_reducible first | exact HB.out | apply bA_ | apply bN_ | apply bD_ | refine bS_ ?_ GE233.out) | exact HB.out))) : w.heap.size ≤ gb234)); have n4_ := Aside0.mk ((by rw [hg]; exact (below_size (by repeat (first | (with_reducible first | exact HB.out | apply bA_ | apply bN_ | apply bD_ | refine bS_ ?_ GE233.out) | exact HB.out))) : w.heap.size ≤ gb234)); have n5_ := Aside0.mk ((by rw [hg]; exact Nat.ne_of_lt (blk_lt (g := gb233) (o := .cells #[.bool a0_0, .int .i64 a0_1, .slice A0_2 l0_2.length c0_2] 24 (0, 0)) (by (with_reducible repeat (first | refine kN_ ?_ _ | refine kD_ ?_ | refine kA_ ?_ _)); exact BK233.out)) : gb233 ≠ gb234)); have n6_ := Aside0.mk ((by rw [hg]; exact Nat.ne_of_gt (blk_lt (g := gb233) (o := .cells #[.bool a0_0, .int .i64 a0_1, .slice A0_2 l0_2.length c0_2] 24 (0, 0)) (by (with_reducible repeat (first | refine kN_ ?_ _ | refine kD_ ?_ | refine kA_ ?_ _)); exact BK233.out)) : gb234 ≠ gb233)); clear BK233; clear HB; have BK233 := n0_; have HB := n1_; have BK234 := n2_; have GW234 := n3_; have GE234 := n4_; have NB233_234 := n5_; have NB234_233 := n6_; clear n0_ n1_ n2_ n3_ n4_ n5_ n6_; clear hb hbox hg; have hnb24 := NB233_234.out; have hnc24 := NB234_233.out; obtain ⟨hcz25_0, hcz25_1, hcz25_2⟩ := cells3_ BK233.out; obtain ⟨hfz25_0, hfz25_1, hfz25_2⟩ := froz3_ BK233.out; obtain ⟨hcz26_0, hcz26_1, hcz26_2⟩ := cells3_ BK234.out; obtain ⟨hfz26_0, hfz26_1, hfz26_2⟩ := froz3_ BK234.out))
    all_goals (try (exfalso; first | exact tri_no1 (by assumption) (by assumption) (by assumption) | exact tri_no2 (by assumption) (by assumption) (by assumption)))
    repeat (go_quiet (first | ((with_reducible refine gate_dst (N := 2) rfl ?_); (try (refine gate_guard (by rfl) ?_; dsimp only)); refine box_event ?hg (N := 2) ?hd (cs := #[.bool a0_0, .int .i64 a0_1, .slice A0_2 l0_2.length c0_2]) (t := 24) ?hr ?_; (case hd => rfl); (case hg => rfl); (case hr => first | (go_simp; done) | (go_simp; rfl)); intro gb233 hg w22 hbox hb; have n0_ := Aside0.mk (below_step (by repeat (first | (with_reducible first | exact HB.out | apply bA_ | apply bN_ | apply bD_) | exact HB.out)) hb); have n1_ := Aside0.mk (hbox); have n2_ := Aside0.mk ((by rw [hg]; exact (below_size (by repeat (first | (with_reducible first | exact HB.out | apply bA_ | apply bN_ | apply bD_) | exact HB.out))) : w.heap.size ≤ gb233)); have n3_ := Aside0.mk ((by rw [hg]; exact (below_size (by repeat (first | (with_reducible first | exact HB.out | apply bA_ | apply bN_ | apply bD_) | exact HB.out))) : w.heap.size ≤ gb233)); clear HB; have HB := n0_; have BK233 := n1_; have GW233 := n2_; have GE233 := n3_; clear n0_ n1_ n2_ n3_; clear hb hbox hg) | ((with_reducible refine gate_dst (N := 3) rfl ?_); (try (refine gate_guard (by rfl) ?_; dsimp only)); refine box_event ?hg (N := 3) ?hd (cs := #[.bool a1_0, .int .i64 a1_1, .slice A1_2 l1_2.length c1_2]) (t := 24) ?hr ?_; (case hd => rfl); (case hg => rfl); (case hr => first | (go_simp; done) | (go_simp; rfl)); intro gb234 hg w23 hbox hb; have n0_ := Aside0.mk (blk_below (g := gb233) (o := .cells #[.bool a0_0, .int .i64 a0_1, .slice A0_2 l0_2.length c0_2] 24 (0, 0)) (by (with_reducible repeat (first | refine kN_ ?_ _ | refine kD_ ?_ | refine kA_ ?_ _)); exact BK233.out) hb); have n1_ := Aside0.mk (below_step (by repeat (first | (with_reducible first | exact HB.out | apply bA_ | apply bN_ | apply bD_ | refine bS_ ?_ GE233.out) | exact HB.out)) hb); have n2_ := Aside0.mk (hbox); have n3_ := Aside0.mk ((by rw [hg]; exact (below_size (by repeat (first | (with_reducible first | exact HB.out | apply bA_ | apply bN_ | apply bD_ | refine bS_ ?_ GE233.out) | exact HB.out))) : w.heap.size ≤ gb234)); have n4_ := Aside0.mk ((by rw [hg]; exact (below_size (by repeat (first | (with_reducible first | exact HB.out | apply bA_ | apply bN_ | apply bD_ | refine bS_ ?_ GE233.out) | exact HB.out))) : w.heap.size ≤ gb234)); have n5_ := Aside0.mk ((by rw [hg]; exact Nat.ne_of_lt (blk_lt (g := gb233) (o := .cells #[.bool a0_0, .int .i64 a0_1, .slice A0_2 l0_2.length c0_2] 24 (0, 0)) (by (with_reducible repeat (first | refine kN_ ?_ _ | refine kD_ ?_ | refine kA_ ?_ _)); exact BK233.out)) : gb233 ≠ gb234)); have n6_ := Aside0.mk ((by rw [hg]; exact Nat.ne_of_gt (blk_lt (g := gb233) (o := .cells #[.bool a0_0, .int .i64 a0_1, .slice A0_2 l0_2.length c0_2] 24 (0, 0)) (by (with_reducible repeat (first | refine kN_ ?_ _ | refine kD_ ?_ | refine kA_ ?_ _)); exact BK233.out)) : gb234 ≠ gb233)); clear BK233; clear HB; have BK233 := n0_; have HB := n1_; have BK234 := n2_; have GW234 := n3_; have GE234 := n4_; have NB233_234 := n5_; have NB234_233 := n6_; clear n0_ n1_ n2_ n3_ n4_ n5_ n6_; clear hb hbox hg; have hnb24 := NB233_234.out; have hnc24 := NB234_233.out; obtain ⟨hcz25_0, hcz25_1, hcz25_2⟩ := cells3_ BK233.out; obtain ⟨hfz25_0, hfz25_1, hfz25_2⟩ := froz3_ BK233.out; obtain ⟨hcz26_0, hcz26_1, hcz26_2⟩ := cells3_ BK234.out; obtain ⟨hfz26_0, hfz26_1, hfz26_2⟩ := froz3_ BK234.out)); try go_wp2_with (first | ((with_reducible refine gate_dst (N := 2) rfl ?_); (try (refine gate_guard (by rfl) ?_; dsimp only)); refine box_event ?hg (N := 2) ?hd (cs := #[.bool a0_0, .int .i64 a0_1, .slice A0_2 l0_2.length c0_2]) (t := 24) ?hr ?_; (case hd => rfl); (case hg => rfl); (case hr => first | (go_simp; done) | (go_simp; rfl)); intro gb233 hg w22 hbox hb; have n0_ := Aside0.mk (below_step (by repeat (first | (with_reducible first | exact HB.out | apply bA_ | apply bN_ | apply bD_) | exact HB.out)) hb); have n1_ := Aside0.mk (hbox); have n2_ := Aside0.mk ((by rw [hg]; exact (below_size (by repeat (first | (with_reducible first | exact HB.out | apply bA_ | apply bN_ | apply bD_) | exact HB.out))) : w.heap.size ≤ gb233)); have n3_ := Aside0.mk ((by rw [hg]; exact (below_size (by repeat (first | (with_reducible first | exact HB.out | apply bA_ | apply bN_ | apply bD_) | exact HB.out))) : w.heap.size ≤ gb233)); clear HB; have HB := n0_; have BK233 := n1_; have GW233 := n2_; have GE233 := n3_; clear n0_ n1_ n2_ n3_; clear hb hbox hg) | ((with_reducible refine gate_dst (N := 3) rfl ?_); (try (refine gate_guard (by rfl) ?_; dsimp only)); refine box_event ?hg (N := 3) ?hd (cs := #[.bool a1_0, .int .i64 a1_1, .slice A1_2 l1_2.length c1_2]) (t := 24) ?hr ?_; (case hd => rfl); (case hg => rfl); (case hr => first | (go_simp; done) | (go_simp; rfl)); intro gb234 hg w23 hbox hb; have n0_ := Aside0.mk (blk_below (g := gb233) (o := .cells #[.bool a0_0, .int .i64 a0_1, .slice A0_2 l0_2.length c0_2] 24 (0, 0)) (by (with_reducible repeat (first | refine kN_ ?_ _ | refine kD_ ?_ | refine kA_ ?_ _)); exact BK233.out) hb); have n1_ := Aside0.mk (below_step (by repeat (first | (with_reducible first | exact HB.out | apply bA_ | apply bN_ | apply bD_ | refine bS_ ?_ GE233.out) | exact HB.out)) hb); have n2_ := Aside0.mk (hbox); have n3_ := Aside0.mk ((by rw [hg]; exact (below_size (by repeat (first | (with_reducible first | exact HB.out | apply bA_ | apply bN_ | apply bD_ | refine bS_ ?_ GE233.out) | exact HB.out))) : w.heap.size ≤ gb234)); have n4_ := Aside0.mk ((by rw [hg]; exact (below_size (by repeat (first | (with_reducible first | exact HB.out | apply bA_ | apply bN_ | apply bD_ | refine bS_ ?_ GE233.out) | exact HB.out))) : w.heap.size ≤ gb234)); have n5_ := Aside0.mk ((by rw [hg]; exact Nat.ne_of_lt (blk_lt (g := gb233) (o := .cells #[.bool a0_0, .int .i64 a0_1, .slice A0_2 l0_2.length c0_2] 24 (0, 0)) (by (with_reducible repeat (first | refine kN_ ?_ _ | refine kD_ ?_ | refine kA_ ?_ _)); exact BK233.out)) : gb233 ≠ gb234)); have n6_ := Aside0.mk ((by rw [hg]; exact Nat.ne_of_gt (blk_lt (g := gb233) (o := .cells #[.bool a0_0, .int .i64 a0_1, .slice A0_2 l0_2.length c0_2] 24 (0, 0)) (by (with_reducible repeat (first | refine kN_ ?_ _ | refine kD_ ?_ | refine kA_ ?_ _)); exact BK233.out)) : gb234 ≠ gb233)); clear BK233; clear HB; have BK233 := n0_; have HB := n1_; have BK234 := n2_; have GW234 := n3_; have GE234 := n4_; have NB233_234 := n5_; have NB234_233 := n6_; clear n0_ n1_ n2_ n3_ n4_ n5_ n6_; clear hb hbox hg; have hnb24 := NB233_234.out; have hnc24 := NB234_233.out; obtain ⟨hcz25_0, hcz25_1, hcz25_2⟩ := cells3_ BK233.out; obtain ⟨hfz25_0, hfz25_1, hfz25_2⟩ := froz3_ BK233.out; obtain ⟨hcz26_0, hcz26_1, hcz26_2⟩ := cells3_ BK234.out; obtain ⟨hfz26_0, hfz26_1, hfz26_2⟩ := froz3_ BK234.out)))
    all_goals (try (exfalso; first | exact tri_no1 (by assumption) (by assumption) (by assumption) | exact tri_no2 (by assumption) (by assumption) (by assumption)))
    go_ret
    exact ⟨by first | rfl | (simp [errW_none, errW_some] <;> rfl) | (simp [*, errW_none, errW_some] <;> rfl), by repeat (first | (with_reducible first | exact HB.out | apply bA_ | apply bN_ | apply bD_ | refine bS_ ?_ GE233.out | refine bS_ ?_ GE234.out) | exact HB.out)⟩
   ·rw [if_neg c21] at H
    have c21b0 : decide (a1_1 < a0_1) = false := decide_eq_false c21
    clear c21
    have H' := Aside0.mk H
    clear H
    go_enter Tryd.func29, Tryd.ntmps29
    go_wp2_with (first | ((with_reducible refine gate_dst (N := 2) rfl ?_); (try (refine gate_guard (by rfl) ?_; dsimp only)); refine box_event ?hg (N := 2) ?hd (cs := #[.bool a0_0, .int .i64 a0_1, .slice A0_2 l0_2.length c0_2]) (t := 24) ?hr ?_; (case hd => rfl); (case hg => rfl); (case hr => first | (go_simp; done) | (go_simp; rfl)); intro gb233 hg w27 hbox hb; have n0_ := Aside0.mk (below_step (by repeat (first | (with_reducible first | exact HB.out | apply bA_ | apply bN_ | apply bD_) | exact HB.out)) hb); have n1_ := Aside0.mk (hbox); have n2_ := Aside0.mk ((by rw [hg]; exact (below_size (by repeat (first | (with_reducible first | exact HB.out | apply bA_ | apply bN_ | apply bD_) | exact HB.out))) : w.heap.size ≤ gb233)); have n3_ := Aside0.mk ((by rw [hg]; exact (below_size (by repeat (first | (with_reducible first | exact HB.out | apply bA_ | apply bN_ | apply bD_) | exact HB.out))) : w.heap.size ≤ gb233)); clear HB; have HB := n0_; have BK233 := n1_; have GW233 := n2_; have GE233 := n3_; clear n0_ n1_ n2_ n3_; clear hb hbox hg) | ((with_reducible refine gate_dst (N := 3) rfl ?_); (try (refine gate_guard (by rfl) ?_; dsimp only)); refine box_event ?hg (N := 3) ?hd (cs := #[.bool a1_0, .int .i64 a1_1, .slice A1_2 l1_2.length c1_2]) (t := 24) ?hr ?_; (case hd => rfl); (case hg => rfl); (case hr => first | (go_simp; done) | (go_simp; rfl)); intro gb234 hg w28 hbox hb; have n0_ := Aside0.mk (blk_below (g := gb233) (o := .cells #[.bool a0_0, .int .i64 a0_1, .slice A0_2 l0_2.length c0_2] 24 (0, 0)) (by (with_reducible repeat (first | refine kN_ ?_ _ | refine kD_ ?_ | refine kA_ ?_ _)); exact BK233.out) hb); have n1_ := Aside0.mk (below_step (by repeat (first | (with_reducible first | exact HB.out | apply bA_ | apply bN_ | apply bD_ | refine bS_ ?_ GE233.out) | exact HB.out)) hb); have n2_ := Aside0.mk (hbox); have n3_ := Aside0.mk ((by rw [hg]; exact (below_size (by repeat (first | (with_reducible first | exact HB.out | apply bA_ | apply bN_ | apply bD_ | refine bS_ ?_ GE233.out) | exact HB.out))) : w.heap.size ≤ gb234)); have n4_ := Aside0.mk ((by rw [hg]; exact (below_size (by repeat (first | (with_reducible first | exact HB.out | apply bA_ | apply bN_ | apply bD_ | refine bS_ ?_ GE233.out) | exact HB.out))) : w.heap.size ≤ gb234)); have n5_ := Aside0.mk ((by rw [hg]; exact Nat.ne_of_lt (blk_lt (g := gb233) (o := .cells #[.bool a0_0, .int .i64 a0_1, .slice A0_2 l0_2.length c0_2] 24 (0, 0)) (by (with_reducible repeat (first | refine kN_ ?_ _ | refine kD_ ?_ | refine kA_ ?_ _)); exact BK233.out)) : gb233 ≠ gb234)); have n6_ := Aside0.mk ((by rw [hg]; exact Nat.ne_of_gt (blk_lt (g := gb233) (o := .cells #[.bool a0_0, .int .i64 a0_1, .slice A0_2 l0_2.length c0_2] 24 (0, 0)) (by (with_reducible repeat (first | refine kN_ ?_ _ | refine kD_ ?_ | refine kA_ ?_ _)); exact BK233.out)) : gb234 ≠ gb233)); clear BK233; clear HB; have BK233 := n0_; have HB := n1_; have BK234 := n2_; have GW234 := n3_; have GE234 := n4_; have NB233_234 := n5_; have NB234_233 := n6_; clear n0_ n1_ n2_ n3_ n4_ n5_ n6_; clear hb hbox hg; have hnb29 := NB233_234.out; have hnc29 := NB234_233.out; obtain ⟨hcz30_0, hcz30_1, hcz30_2⟩ := cells3_ BK233.out; obtain ⟨hfz30_0, hfz30_1, hfz30_2⟩ := froz3_ BK233.out; obtain ⟨hcz31_0, hcz31_1, hcz31_2⟩ := cells3_ BK234.out; obtain ⟨hfz31_0, hfz31_1, hfz31_2⟩ := froz3_ BK234.out))
    all_goals (try (exfalso; first | exact tri_no1 (by assumption) (by assumption) (by assumption) | exact tri_no2 (by assumption) (by assumption) (by assumption)))
    repeat (go_quiet (first | ((with_reducible refine gate_dst (N := 2) rfl ?_); (try (refine gate_guard (by rfl) ?_; dsimp only)); refine box_event ?hg (N := 2) ?hd (cs := #[.bool a0_0, .int .i64 a0_1, .slice A0_2 l0_2.length c0_2]) (t := 24) ?hr ?_; (case hd => rfl); (case hg => rfl); (case hr => first | (go_simp; done) | (go_simp; rfl)); intro gb233 hg w27 hbox hb; have n0_ := Aside0.mk (below_step (by repeat (first | (with_reducible first | exact HB.out | apply bA_ | apply bN_ | apply bD_) | exact HB.out)) hb); have n1_ := Aside0.mk (hbox); have n2_ := Aside0.mk ((by rw [hg]; exact (below_size (by repeat (first | (with_reducible first | exact HB.out | apply bA_ | apply bN_ | apply bD_) | exact HB.out))) : w.heap.size ≤ gb233)); have n3_ := Aside0.mk ((by rw [hg]; exact (below_size (by repeat (first | (with_reducible first | exact HB.out | apply bA_ | apply bN_ | apply bD_) | exact HB.out))) : w.heap.size ≤ gb233)); clear HB; have HB := n0_; have BK233 := n1_; have GW233 := n2_; have GE233 := n3_; clear n0_ n1_ n2_ n3_; clear hb hbox hg) | ((with_reducible refine gate_dst (N := 3) rfl ?_); (try (refine gate_guard (by rfl) ?_; dsimp only)); refine box_event ?hg (N := 3) ?hd (cs := #[.bool a1_0, .int .i64 a1_1, .slice A1_2 l1_2.length c1_2]) (t := 24) ?hr ?_; (case hd => rfl); (case hg => rfl); (case hr => first | (go_simp; done) | (go_simp; rfl)); intro gb234 hg w28 hbox hb; have n0_ := Aside0.mk (blk_below (g := gb233) (o := .cells #[.bool a0_0, .int .i64 a0_1, .slice A0_2 l0_2.length c0_2] 24 (0, 0)) (by (with_reducible repeat (first | refine kN_ ?_ _ | refine kD_ ?_ | refine kA_ ?_ _)); exact BK233.out) hb); have n1_ := Aside0.mk (below_step (by repeat (first | (with_reducible first | exact HB.out | apply bA_ | apply bN_ | apply bD_ | refine bS_ ?_ GE233.out) | exact HB.out)) hb); have n2_ := Aside0.mk (hbox); have n3_ := Aside0.mk ((by rw [hg]; exact (below_size (by repeat (first | (with_reducible first | exact HB.out | apply bA_ | apply bN_ | apply bD_ | refine bS_ ?_ GE233.out) | exact HB.out))) : w.heap.size ≤ gb234)); have n4_ := Aside0.mk ((by rw [hg]; exact (below_size (by repeat (first | (with_reducible first | exact HB.out | apply bA_ | apply bN_ | apply bD_ | refine bS_ ?_ GE233.out) | exact HB.out))) : w.heap.size ≤ gb234)); have n5_ := Aside0.mk ((by rw [hg]; exact Nat.ne_of_lt (blk_lt (g := gb233) (o := .cells #[.bool a0_0, .int .i64 a0_1, .slice A0_2 l0_2.length c0_2] 24 (0, 0)) (by (with_reducible repeat (first | refine kN_ ?_ _ | refine kD_ ?_ | refine kA_ ?_ _)); exact BK233.out)) : gb233 ≠ gb234)); have n6_ := Aside0.mk ((by rw [hg]; exact Nat.ne_of_gt (blk_lt (g := gb233) (o := .cells #[.bool a0_0, .int .i64 a0_1, .slice A0_2 l0_2.length c0_2] 24 (0, 0)) (by (with_reducible repeat (first | refine kN_ ?_ _ | refine kD_ ?_ | refine kA_ ?_ _)); exact BK233.out)) : gb234 ≠ gb233)); clear BK233; clear HB; have BK233 := n0_; have HB := n1_; have BK234 := n2_; have GW234 := n3_; have GE234 := n4_; have NB233_234 := n5_; have NB234_233 := n6_; clear n0_ n1_ n2_ n3_ n4_ n5_ n6_; clear hb hbox hg; have hnb29 := NB233_234.out; have hnc29 := NB234_233.out; obtain ⟨hcz30_0, hcz30_1, hcz30_2⟩ := cells3_ BK233.out; obtain ⟨hfz30_0, hfz30_1, hfz30_2⟩ := froz3_ BK233.out; obtain ⟨hcz31_0, hcz31_1, hcz31_2⟩ := cells3_ BK234.out; obtain ⟨hfz31_0, hfz31_1, hfz31_2⟩ := froz3_ BK234.out)); try go_wp2_with (first | ((with_reducible refine gate_dst (N := 2) rfl ?_); (try (refine gate_guard (by rfl) ?_; dsimp only)); refine box_event ?hg (N := 2) ?hd (cs := #[.bool a0_0, .int .i64 a0_1, .slice A0_2 l0_2.length c0_2]) (t := 24) ?hr ?_; (case hd => rfl); (case hg => rfl); (case hr => first | (go_simp; done) | (go_simp; rfl)); intro gb233 hg w27 hbox hb; have n0_ := Aside0.mk (below_step (by repeat (first | (with_reducible first | exact HB.out | apply bA_ | apply bN_ | apply bD_) | exact HB.out)) hb); have n1_ := Aside0.mk (hbox); have n2_ := Aside0.mk ((by rw [hg]; exact (below_size (by repeat (first | (with_reducible first | exact HB.out | apply bA_ | apply bN_ | apply bD_) | exact HB.out))) : w.heap.size ≤ gb233)); have n3_ := Aside0.mk ((by rw [hg]; exact (below_size (by repeat (first | (with_reducible first | exact HB.out | apply bA_ | apply bN_ | apply bD_) | exact HB.out))) : w.heap.size ≤ gb233)); clear HB; have HB := n0_; have BK233 := n1_; have GW233 := n2_; have GE233 := n3_; clear n0_ n1_ n2_ n3_; clear hb hbox hg) | ((with_reducible refine gate_dst (N := 3) rfl ?_); (try (refine gate_guard (by rfl) ?_; dsimp only)); refine box_event ?hg (N := 3) ?hd (cs := #[.bool a1_0, .int .i64 a1_1, .slice A1_2 l1_2.length c1_2]) (t := 24) ?hr ?_; (case hd => rfl); (case hg => rfl); (case hr => first | (go_simp; done) | (go_simp; rfl)); intro gb234 hg w28 hbox hb; have n0_ := Aside0.mk (blk_below (g := gb233) (o := .cells #[.bool a0_0, .int .i64 a0_1, .slice A0_2 l0_2.length c0_2] 24 (0, 0)) (by (with_reducible repeat (first | refine kN_ ?_ _ | refine kD_ ?_ | refine kA_ ?_ _)); exact BK233.out) hb); have n1_ := Aside0.mk (below_step (by repeat (first | (with_reducible first | exact HB.out | apply bA_ | apply bN_ | apply bD_ | refine bS_ ?_ GE233.out) | exact HB.out)) hb); have n2_ := Aside0.mk (hbox); have n3_ := Aside0.mk ((by rw [hg]; exact (below_size (by repeat (first | (with_reducible first | exact HB.out | apply bA_ | apply bN_ | apply bD_ | refine bS_ ?_ GE233.out) | exact HB.out))) : w.heap.size ≤ gb234)); have n4_ := Aside0.mk ((by rw [hg]; exact (below_size (by repeat (first | (with_reducible first | exact HB.out | apply bA_ | apply bN_ | apply bD_ | refine bS_ ?_ GE233.out) | exact HB.out))) : w.heap.size ≤ gb234)); have n5_ := Aside0.mk ((by rw [hg]; exact Nat.ne_of_lt (blk_lt (g := gb233) (o := .cells #[.bool a0_0, .int .i64 a0_1, .slice A0_2 l0_2.length c0_2] 24 (0, 0)) (by (with_reducible repeat (first | refine kN_ ?_ _ | refine kD_ ?_ | refine kA_ ?_ _)); exact BK233.out)) : gb233 ≠ gb234)); have n6_ := Aside0.mk ((by rw [hg]; exact Nat.ne_of_gt (blk_lt (g := gb233) (o := .cells #[.bool a0_0, .int .i64 a0_1, .slice A0_2 l0_2.length c0_2] 24 (0, 0)) (by (with_reducible repeat (first | refine kN_ ?_ _ | refine kD_ ?_ | refine kA_ ?_ _)); exact BK233.out)) : gb234 ≠ gb233)); clear BK233; clear HB; have BK233 := n0_; have HB := n1_; have BK234 := n2_; have GW234 := n3_; have GE234 := n4_; have NB233_234 := n5_; have NB234_233 := n6_; clear n0_ n1_ n2_ n3_ n4_ n5_ n6_; clear hb hbox hg; have hnb29 := NB233_234.out; have hnc29 := NB234_233.out; obtain ⟨hcz30_0, hcz30_1, hcz30_2⟩ := cells3_ BK233.out; obtain ⟨hfz30_0, hfz30_1, hfz30_2⟩ := froz3_ BK233.out; obtain ⟨hcz31_0, hcz31_1, hcz31_2⟩ := cells3_ BK234.out; obtain ⟨hfz31_0, hfz31_1, hfz31_2⟩ := froz3_ BK234.out)))
    all_goals (try (exfalso; first | exact tri_no1 (by assumption) (by assumption) (by assumption) | exact tri_no2 (by assumption) (by assumption) (by assumption)))
    go_loopg [5] k (fun kq v5 w' => ∃ (x5_1 : Int), v5 = .int .i64 x5_1 ∧ Aside0 (platformfwref01_ComparePaths.l0 kq x5_1 a0_0 a0_1 l0_2 a1_0 a1_1 l1_2 = some r) ∧ Aside0 (kq ≤ k) ∧ Aside0 (w'.heap[gb233]? = some (.cells #[.bool a0_0, .int .i64 a0_1, (.slice A0_2 l0_2.length c0_2)] 24 (0, 0))) ∧ Aside0 (w'.heap[gb234]? = some (.cells #[.bool a1_0, .int .i64 a1_1, (.slice A1_2 l1_2.length c1_2)] 24 (0, 0))) ∧ Aside0 (Below w.heap.size w w'))
    case atStart => exact ⟨(0), (by first | rfl | (simp; done) | (simp [*]; done)), H', ⟨Nat.le_refl _⟩, ⟨by (with_reducible repeat (first | refine kN_ ?_ _ | refine kD_ ?_ | refine kA_ ?_ _)); exact BK233.out⟩, ⟨by (with_reducible repeat (first | refine kN_ ?_ _ | refine kD_ ?_ | refine kA_ ?_ _)); exact BK234.out⟩, ⟨by repeat (first | (with_reducible first | exact HB.out | apply bA_ | apply bN_ | apply bD_ | refine bS_ ?_ GE233.out | refine bS_ ?_ GE234.out) | exact HB.out)⟩⟩
    case round =>
     clear H'
     try clear c1
     try clear c2
     try clear p2
     try clear c3
     try clear c3b0
     try clear c3b1
     try clear c3b2
     try clear c4
     try clear c7
     try clear c12
     try clear c15
     try clear c15b0
     try clear c18
     try clear c21
     try clear c21b0
     try clear c24
     try clear c29
     try clear hcz13_0 hcz13_1 hcz13_2
     try clear hcz14_0 hcz14_1 hcz14_2
     try clear hcz19_0 hcz19_1 hcz19_2
     try clear hcz20_0 hcz20_1 hcz20_2
     try clear hcz25_0 hcz25_1 hcz25_2
     try clear hcz26_0 hcz26_1 hcz26_2
     try clear hcz30_0 hcz30_1 hcz30_2
     try clear hcz31_0 hcz31_1 hcz31_2
     try clear hcz8_0 hcz8_1 hcz8_2
     try clear hcz9_0 hcz9_1 hcz9_2
     try clear hfz13_0 hfz13_1 hfz13_2
     try clear hfz14_0 hfz14_1 hfz14_2
     try clear hfz19_0 hfz19_1 hfz19_2
     try clear hfz20_0 hfz20_1 hfz20_2
     try clear hfz25_0 hfz25_1 hfz25_2
     try clear hfz26_0 hfz26_1 hfz26_2
     try clear hfz30_0 hfz30_1 hfz30_2
     try clear hfz31_0 hfz31_1 hfz31_2
     try clear hfz8_0 hfz8_1 hfz8_2
     try clear hfz9_0 hfz9_1 hfz9_2
     obtain ⟨x5_1, rfl, HA, HK1, BK233, BK234, HB⟩ := hrel
     cases gk with
     | zero => exact absurd HA.out (by simp [platformfwref01_ComparePaths.l0])
     | succ k1 =>
      have H := HA.out
      clear HA
      simp only [platformfwref01_ComparePaths.l0] at H
      have HC32 := Aside0.mk H
      clear H
      go_upto_region 10 with (fail)
      all_goals (try (exfalso; first | exact tri_no1 (by assumption) (by assumption) (by assumption) | exact tri_no2 (by assumption) (by assumption) (by assumption)))
      repeat (go_quiet (fail); go_upto_region 10 with (fail))
      all_goals (try (exfalso; first | exact tri_no1 (by assumption) (by assumption) (by assumption) | exact tri_no2 (by assumption) (by assumption) (by assumption)))
      go_cut [37] (fun v37 wc => ∃ (kq : Nat) (x37_31 : Bool), v37 = .bool x37_31 ∧ Aside0 (platformfwref01_ComparePaths.j1 kq x5_1 x37_31 a0_0 a0_1 l0_2 a1_0 a1_1 l1_2 = some r) ∧ Aside0 (kq ≤ k1) ∧ Aside0 (wc.heap[gb233]? = some (.cells #[.bool a0_0, .int .i64 a0_1, (.slice A0_2 l0_2.length c0_2)] 24 (0, 0))) ∧ Aside0 (wc.heap[gb234]? = some (.cells #[.bool a1_0, .int .i64 a1_1, (.slice A1_2 l1_2.length c1_2)] 24 (0, 0))) ∧ Aside0 (Below w.heap.size w wc))
      case first =>
       have H := HC32.out
       clear HC32
       by_cases c33 : x5_1 < (l0_2.length : Int)
       ·rw [if_pos c33] at H
        have c33b0 : decide (x5_1 < (l0_2.length : Int)) = true := decide_eq_true c33
        clear c33
        (first | rw [c33b0] | (simp only [i64_w, i32_w]; rw [c33b0]) | skip)
        have H' := Aside0.mk H
        clear H
        have hnb34 := NB233_234.out
        have hnc34 := NB234_233.out
        obtain ⟨hcz35_0, hcz35_1, hcz35_2⟩ := cells3_ BK233.out
        obtain ⟨hfz35_0, hfz35_1, hfz35_2⟩ := froz3_ BK233.out
        obtain ⟨hcz36_0, hcz36_1, hcz36_2⟩ := cells3_ BK234.out
        obtain ⟨hfz36_0, hfz36_1, hfz36_2⟩ := froz3_ BK234.out
        go_wp2
        all_goals (try (exfalso; first | exact tri_no1 (by assumption) (by assumption) (by assumption) | exact tri_no2 (by assumption) (by assumption) (by assumption)))
        repeat (go_quiet (fail); try go_wp2)
        all_goals (try (exfalso; first | exact tri_no1 (by assumption) (by assumption) (by assumption) | exact tri_no2 (by assumption) (by assumption) (by assumption)))
        go_meet
        case rel => exact ⟨_, (decide (x5_1 < (l1_2.length : Int))), (by first | rfl | (simp; done) | (simp [*]; done)), H', ⟨by have := HK1.out; first | omega | exact Nat.le_refl _⟩, ⟨by (with_reducible repeat (first | refine kN_ ?_ _ | refine kD_ ?_ | refine kA_ ?_ _)); exact BK233.out⟩, ⟨by (with_reducible repeat (first | refine kN_ ?_ _ | refine kD_ ?_ | refine kA_ ?_ _)); exact BK234.out⟩, ⟨by repeat (first | (with_reducible first | exact HB.out | apply bA_ | apply bN_ | apply bD_ | refine bS_ ?_ GE233.out | refine bS_ ?_ GE234.out) | exact HB.out)⟩⟩
       ·rw [if_neg c33] at H
        have c33b0 : decide (x5_1 < (l0_2.length : Int)) = false := decide_eq_false c33
        clear c33
        (first | rw [c33b0] | (simp only [i64_w, i32_w]; rw [c33b0]) | skip)
        have H' := Aside0.mk H
        clear H
        have hnb37 := NB233_234.out
        have hnc37 := NB234_233.out
        obtain ⟨hcz38_0, hcz38_1, hcz38_2⟩ := cells3_ BK233.out
        obtain ⟨hfz38_0, hfz38_1, hfz38_2⟩ := froz3_ BK233.out
        go_wp2
        all_goals (try (exfalso; first | exact tri_no1 (by assumption) (by assumption) (by assumption) | exact tri_no2 (by assumption) (by assumption) (by assumption)))
        repeat (go_quiet (fail); try go_wp2)
        all_goals (try (exfalso; first | exact tri_no1 (by assumption) (by assumption) (by assumption) | exact tri_no2 (by assumption) (by assumption) (by assumption)))
        go_meet
        case rel => exact ⟨_, (false), (by first | rfl | (simp; done) | (simp [*]; done)), H', ⟨by have := HK1.out; first | omega | exact Nat.le_refl _⟩, ⟨by (with_reducible repeat (first | refine kN_ ?_ _ | refine kD_ ?_ | refine kA_ ?_ _)); exact BK233.out⟩, ⟨by (with_reducible repeat (first | refine kN_ ?_ _ | refine kD_ ?_ | refine kA_ ?_ _)); exact BK234.out⟩, ⟨by repeat (first | (with_reducible first | exact HB.out | apply bA_ | apply bN_ | apply bD_ | refine bS_ ?_ GE233.out | refine bS_ ?_ GE234.out) | exact HB.out)⟩⟩
      case rest =>
       clear HC32
       try clear c1
       try clear c2
       try clear p2
       try clear c3
       try clear c3b0
       try clear c3b1
       try clear c3b2
       try clear c4
       try clear c7
       try clear c12
       try clear c15
       try clear c15b0
       try clear c18
       try clear c21
       try clear c21b0
       try clear c24
       try clear c29
       try clear c33
       try clear c33b0
       try clear c34
       try clear c37
       try clear hcz13_0 hcz13_1 hcz13_2
       try clear hcz14_0 hcz14_1 hcz14_2
       try clear hcz19_0 hcz19_1 hcz19_2
       try clear hcz20_0 hcz20_1 hcz20_2
       try clear hcz25_0 hcz25_1 hcz25_2
       try clear hcz26_0 hcz26_1 hcz26_2
       try clear hcz30_0 hcz30_1 hcz30_2
       try clear hcz31_0 hcz31_1 hcz31_2
       try clear hcz35_0 hcz35_1 hcz35_2
       try clear hcz36_0 hcz36_1 hcz36_2
       try clear hcz38_0 hcz38_1 hcz38_2
       try clear hcz8_0 hcz8_1 hcz8_2
       try clear hcz9_0 hcz9_1 hcz9_2
       try clear hfz13_0 hfz13_1 hfz13_2
       try clear hfz14_0 hfz14_1 hfz14_2
       try clear hfz19_0 hfz19_1 hfz19_2
       try clear hfz20_0 hfz20_1 hfz20_2
       try clear hfz25_0 hfz25_1 hfz25_2
       try clear hfz26_0 hfz26_1 hfz26_2
       try clear hfz30_0 hfz30_1 hfz30_2
       try clear hfz31_0 hfz31_1 hfz31_2
       try clear hfz35_0 hfz35_1 hfz35_2
       try clear hfz36_0 hfz36_1 hfz36_2
       try clear hfz38_0 hfz38_1 hfz38_2
       try clear hfz8_0 hfz8_1 hfz8_2
       try clear hfz9_0 hfz9_1 hfz9_2
       try clear p2
       obtain ⟨kq, x37_31, rfl, HA, HJ31, BK233, BK234, HB⟩ := hcut
       cases kq with
       | zero => exact absurd HA.out (by simp [platformfwref01_ComparePaths.j1])
       | succ kj31 =>
        have H := HA.out
        clear HA
        simp only [platformfwref01_ComparePaths.j1] at H
        by_cases c39 : x37_31 = true
        ·subst c39
         have H1 : (if 0 ≤ x5_1 then (if x5_1 < (l0_2.length : Int) then (if x5_1 < (l1_2.length : Int) then (if (Op.bytesLess ((rdOf ByteArray.empty l0_2 x5_1).toList) ((rdOf ByteArray.empty l1_2 x5_1).toList)) = true then (some (-1)) else (if (Op.bytesLess ((rdOf ByteArray.empty l1_2 x5_1).toList) ((rdOf ByteArray.empty l0_2 x5_1).toList)) = true then (some 1) else (platformfwref01_ComparePaths.l0 kj31 (wrap64 (x5_1 + 1)) a0_0 a0_1 l0_2 a1_0 a1_1 l1_2))) else (none)) else (none)) else (none)) = some r := by rw [if_pos rfl] at H; exact H
         clear H
         have H := H1
         clear H1
         by_cases c40 : 0 ≤ x5_1
         ·rw [if_pos c40] at H
          have c40b0 : decide (0 ≤ x5_1) = true := decide_eq_true c40
          clear c40
          by_cases c41 : x5_1 < (l0_2.length : Int)
          ·rw [if_pos c41] at H
           have c41b0 : decide (x5_1 < (l0_2.length : Int)) = true := decide_eq_true c41
           clear c41
           by_cases c42 : x5_1 < (l1_2.length : Int)
           ·rw [if_pos c42] at H
            have c42b0 : decide (x5_1 < (l1_2.length : Int)) = true := decide_eq_true c42
            clear c42
            by_cases c43 : (Op.bytesLess ((rdOf ByteArray.empty l0_2 x5_1).toList) ((rdOf ByteArray.empty l1_2 x5_1).toList)) = true
            ·rw [if_pos c43] at H
             have c43b0 : (Op.bytesLess ((rdOf ByteArray.empty l0_2 x5_1).toList) ((rdOf ByteArray.empty l1_2 x5_1).toList)) = true := c43
             clear c43
             obtain rfl := Option.some.inj H
             have hnb44 := NB233_234.out
             have hnc44 := NB234_233.out
             obtain ⟨hcz45_0, hcz45_1, hcz45_2⟩ := cells3_ BK233.out
             obtain ⟨hfz45_0, hfz45_1, hfz45_2⟩ := froz3_ BK233.out
             have p235 : 0 ≤ (x5_1 : Int) := of_decide_eq_true (by first | (with_reducible assumption) | assumption)
             have q235 : x5_1 < (l0_2.length : Int) := of_decide_eq_true (by first | (with_reducible assumption) | assumption)
             obtain ⟨ad235, e235, hx235_0⟩ := Kd.at_string HR0_2.out x5_1 p235 q235
             cases e235
             replace hx235_0 := (HB.out.cell (World.block_lt_of_cell? w _ hx235_0)).trans hx235_0
             replace p235 := eq_true p235
             replace q235 := eq_true q235
             obtain ⟨hcz46_0, hcz46_1, hcz46_2⟩ := cells3_ BK234.out
             obtain ⟨hfz46_0, hfz46_1, hfz46_2⟩ := froz3_ BK234.out
             have p236 : 0 ≤ (x5_1 : Int) := of_decide_eq_true (by first | (with_reducible assumption) | assumption)
             have q236 : x5_1 < (l1_2.length : Int) := of_decide_eq_true (by first | (with_reducible assumption) | assumption)
             obtain ⟨ad236, e236, hx236_0⟩ := Kd.at_string HR1_2.out x5_1 p236 q236
             cases e236
             replace hx236_0 := (HB.out.cell (World.block_lt_of_cell? w _ hx236_0)).trans hx236_0
             replace p236 := eq_true p236
             replace q236 := eq_true q236
             go_wp2
             all_goals (try (exfalso; first | exact tri_no1 (by assumption) (by assumption) (by assumption) | exact tri_no2 (by assumption) (by assumption) (by assumption)))
             repeat (go_quiet (fail); try go_wp2)
             all_goals (try (exfalso; first | exact tri_no1 (by assumption) (by assumption) (by assumption) | exact tri_no2 (by assumption) (by assumption) (by assumption)))
             go_ret
             exact ⟨by first | rfl | (simp [errW_none, errW_some] <;> rfl) | (simp [*, errW_none, errW_some] <;> rfl), by repeat (first | (with_reducible first | exact HB.out | apply bA_ | apply bN_ | apply bD_ | refine bS_ ?_ GE233.out | refine bS_ ?_ GE234.out) | exact HB.out)⟩
            ·rw [if_neg c43] at H
             have c43b0 : (Op.bytesLess ((rdOf ByteArray.empty l0_2 x5_1).toList) ((rdOf ByteArray.empty l1_2 x5_1).toList)) = false := by simpa using c43
             clear c43
             by_cases c47 : (Op.bytesLess ((rdOf ByteArray.empty l1_2 x5_1).toList) ((rdOf ByteArray.empty l0_2 x5_1).toList)) = true
             ·rw [if_pos c47] at H
              have c47b0 : (Op.bytesLess ((rdOf ByteArray.empty l1_2 x5_1).toList) ((rdOf ByteArray.empty l0_2 x5_1).toList)) = true := c47
              clear c47
              obtain rfl := Option.some.inj H
              have hnb48 := NB233_234.out
              have hnc48 := NB234_233.out
              obtain ⟨hcz49_0, hcz49_1, hcz49_2⟩ := cells3_ BK233.out
              obtain ⟨hfz49_0, hfz49_1, hfz49_2⟩ := froz3_ BK233.out
              have p235 : 0 ≤ (x5_1 : Int) := of_decide_eq_true (by first | (with_reducible assumption) | assumption)
              have q235 : x5_1 < (l0_2.length : Int) := of_decide_eq_true (by first | (with_reducible assumption) | assumption)
              obtain ⟨ad235, e235, hx235_0⟩ := Kd.at_string HR0_2.out x5_1 p235 q235
              cases e235
              replace hx235_0 := (HB.out.cell (World.block_lt_of_cell? w _ hx235_0)).trans hx235_0
              replace p235 := eq_true p235
              replace q235 := eq_true q235
              obtain ⟨hcz50_0, hcz50_1, hcz50_2⟩ := cells3_ BK234.out
              obtain ⟨hfz50_0, hfz50_1, hfz50_2⟩ := froz3_ BK234.out
              have p236 : 0 ≤ (x5_1 : Int) := of_decide_eq_true (by first | (with_reducible assumption) | assumption)
              have q236 : x5_1 < (l1_2.length : Int) := of_decide_eq_true (by first | (with_reducible assumption) | assumption)
              obtain ⟨ad236, e236, hx236_0⟩ := Kd.at_string HR1_2.out x5_1 p236 q236
              cases e236
              replace hx236_0 := (HB.out.cell (World.block_lt_of_cell? w _ hx236_0)).trans hx236_0
              replace p236 := eq_true p236
              replace q236 := eq_true q236
              have p237 : 0 ≤ (x5_1 : Int) := of_decide_eq_true (by first | (with_reducible assumption) | assumption)
              have q237 : x5_1 < (l0_2.length : Int) := of_decide_eq_true (by first | (with_reducible assumption) | assumption)
              obtain ⟨ad237, e237, hx237_0⟩ := Kd.at_string HR0_2.out x5_1 p237 q237
              obtain rfl : ad235 = ad237 := (by injection e237)
              replace hx237_0 := (HB.out.cell (World.block_lt_of_cell? w _ hx237_0)).trans hx237_0
              replace p237 := eq_true p237
              replace q237 := eq_true q237
              have p238 : 0 ≤ (x5_1 : Int) := of_decide_eq_true (by first | (with_reducible assumption) | assumption)
              have q238 : x5_1 < (l1_2.length : Int) := of_decide_eq_true (by first | (with_reducible assumption) | assumption)
              obtain ⟨ad238, e238, hx238_0⟩ := Kd.at_string HR1_2.out x5_1 p238 q238
              obtain rfl : ad236 = ad238 := (by injection e238)
              replace hx238_0 := (HB.out.cell (World.block_lt_of_cell? w _ hx238_0)).trans hx238_0
              replace p238 := eq_true p238
              replace q238 := eq_true q238
              go_wp2
              all_goals (try (exfalso; first | exact tri_no1 (by assumption) (by assumption) (by assumption) | exact tri_no2 (by assumption) (by assumption) (by assumption)))
              repeat (go_quiet (fail); try go_wp2)
              all_goals (try (exfalso; first | exact tri_no1 (by assumption) (by assumption) (by assumption) | exact tri_no2 (by assumption) (by assumption) (by assumption)))
              go_ret
              exact ⟨by first | rfl | (simp [errW_none, errW_some] <;> rfl) | (simp [*, errW_none, errW_some] <;> rfl), by repeat (first | (with_reducible first | exact HB.out | apply bA_ | apply bN_ | apply bD_ | refine bS_ ?_ GE233.out | refine bS_ ?_ GE234.out) | exact HB.out)⟩
             ·rw [if_neg c47] at H
              have c47b0 : (Op.bytesLess ((rdOf ByteArray.empty l1_2 x5_1).toList) ((rdOf ByteArray.empty l0_2 x5_1).toList)) = false := by simpa using c47
              clear c47
              have H' := Aside0.mk H
              clear H
              have hnb51 := NB233_234.out
              have hnc51 := NB234_233.out
              obtain ⟨hcz52_0, hcz52_1, hcz52_2⟩ := cells3_ BK233.out
              obtain ⟨hfz52_0, hfz52_1, hfz52_2⟩ := froz3_ BK233.out
              have p235 : 0 ≤ (x5_1 : Int) := of_decide_eq_true (by first | (with_reducible assumption) | assumption)
              have q235 : x5_1 < (l0_2.length : Int) := of_decide_eq_true (by first | (with_reducible assumption) | assumption)
              obtain ⟨ad235, e235, hx235_0⟩ := Kd.at_string HR0_2.out x5_1 p235 q235
              cases e235
              replace hx235_0 := (HB.out.cell (World.block_lt_of_cell? w _ hx235_0)).trans hx235_0
              replace p235 := eq_true p235
              replace q235 := eq_true q235
              obtain ⟨hcz53_0, hcz53_1, hcz53_2⟩ := cells3_ BK234.out
              obtain ⟨hfz53_0, hfz53_1, hfz53_2⟩ := froz3_ BK234.out
              have p236 : 0 ≤ (x5_1 : Int) := of_decide_eq_true (by first | (with_reducible assumption) | assumption)
              have q236 : x5_1 < (l1_2.length : Int) := of_decide_eq_true (by first | (with_reducible assumption) | assumption)
              obtain ⟨ad236, e236, hx236_0⟩ := Kd.at_string HR1_2.out x5_1 p236 q236
              cases e236
              replace hx236_0 := (HB.out.cell (World.block_lt_of_cell? w _ hx236_0)).trans hx236_0
              replace p236 := eq_true p236
              replace q236 := eq_true q236
              have p237 : 0 ≤ (x5_1 : Int) := of_decide_eq_true (by first | (with_reducible assumption) | assumption)
              have q237 : x5_1 < (l0_2.length : Int) := of_decide_eq_true (by first | (with_reducible assumption) | assumption)
              obtain ⟨ad237, e237, hx237_0⟩ := Kd.at_string HR0_2.out x5_1 p237 q237
              obtain rfl : ad235 = ad237 := (by injection e237)
              replace hx237_0 := (HB.out.cell (World.block_lt_of_cell? w _ hx237_0)).trans hx237_0
              replace p237 := eq_true p237
              replace q237 := eq_true q237
              have p238 : 0 ≤ (x5_1 : Int) := of_decide_eq_true (by first | (with_reducible assumption) | assumption)
              have q238 : x5_1 < (l1_2.length : Int) := of_decide_eq_true (by first | (with_reducible assumption) | assumption)
              obtain ⟨ad238, e238, hx238_0⟩ := Kd.at_string HR1_2.out x5_1 p238 q238
              obtain rfl : ad236 = ad238 := (by injection e238)
              replace hx238_0 := (HB.out.cell (World.block_lt_of_cell? w _ hx238_0)).trans hx238_0
              replace p238 := eq_true p238
              replace q238 := eq_true q238
              go_wp2
              all_goals (try (exfalso; first | exact tri_no1 (by assumption) (by assumption) (by assumption) | exact tri_no2 (by assumption) (by assumption) (by assumption)))
              repeat (go_quiet (fail); try go_wp2)
              all_goals (try (exfalso; first | exact tri_no1 (by assumption) (by assumption) (by assumption) | exact tri_no2 (by assumption) (by assumption) (by assumption)))
              go_roundg kj31
              case measure => have := HK1.out; have := HJ31.out; omega
              case rel => exact ⟨(wrap64 (x5_1 + 1)), (by first | rfl | (simp; done) | (simp [*]; done)), H', ⟨by have := HK1.out; have := HJ31.out; omega⟩, ⟨by (with_reducible repeat (first | refine kN_ ?_ _ | refine kD_ ?_ | refine kA_ ?_ _)); exact BK233.out⟩, ⟨by (with_reducible repeat (first | refine kN_ ?_ _ | refine kD_ ?_ | refine kA_ ?_ _)); exact BK234.out⟩, ⟨by repeat (first | (with_reducible first | exact HB.out | apply bA_ | apply bN_ | apply bD_ | refine bS_ ?_ GE233.out | refine bS_ ?_ GE234.out) | exact HB.out)⟩⟩
           ·rw [if_neg c42] at H
            exact absurd H (by simp)
          ·rw [if_neg c41] at H
           exact absurd H (by simp)
         ·rw [if_neg c40] at H
          exact absurd H (by simp)
        ·replace c39 := Bool.eq_false_iff.mpr c39
         subst c39
         have H1 : (if (l0_2.length : Int) < (l1_2.length : Int) then (some (-1)) else (if (l0_2.length : Int) > (l1_2.length : Int) then (some 1) else (some 0))) = some r := by rw [if_neg (show ¬ (false = true) by decide)] at H; exact H
         clear H
         have H := H1
         clear H1
         by_cases c54 : (l0_2.length : Int) < (l1_2.length : Int)
         ·rw [if_pos c54] at H
          have c54b0 : decide ((l0_2.length : Int) < (l1_2.length : Int)) = true := decide_eq_true c54
          have c54b1 : decide (l0_2.length < l1_2.length) = true := decide_eq_true (Int.ofNat_lt.mp c54)
          clear c54
          obtain rfl := Option.some.inj H
          have hnb55 := NB233_234.out
          have hnc55 := NB234_233.out
          obtain ⟨hcz56_0, hcz56_1, hcz56_2⟩ := cells3_ BK233.out
          obtain ⟨hfz56_0, hfz56_1, hfz56_2⟩ := froz3_ BK233.out
          obtain ⟨hcz57_0, hcz57_1, hcz57_2⟩ := cells3_ BK234.out
          obtain ⟨hfz57_0, hfz57_1, hfz57_2⟩ := froz3_ BK234.out
          go_wp2
          all_goals (try (exfalso; first | exact tri_no1 (by assumption) (by assumption) (by assumption) | exact tri_no2 (by assumption) (by assumption) (by assumption)))
          repeat (go_quiet (fail); try go_wp2)
          all_goals (try (exfalso; first | exact tri_no1 (by assumption) (by assumption) (by assumption) | exact tri_no2 (by assumption) (by assumption) (by assumption)))
          go_ret
          exact ⟨by first | rfl | (simp [errW_none, errW_some] <;> rfl) | (simp [*, errW_none, errW_some] <;> rfl), by repeat (first | (with_reducible first | exact HB.out | apply bA_ | apply bN_ | apply bD_ | refine bS_ ?_ GE233.out | refine bS_ ?_ GE234.out) | exact HB.out)⟩
         ·rw [if_neg c54] at H
          have c54b0 : decide ((l0_2.length : Int) < (l1_2.length : Int)) = false := decide_eq_false c54
          have c54b1 : decide (l0_2.length < l1_2.length) = false := decide_eq_false (fun h => c54 (Int.ofNat_lt.mpr h))
          clear c54
          by_cases c58 : (l0_2.length : Int) > (l1_2.length : Int)
          ·rw [if_pos c58] at H
           have c58b0 : decide ((l1_2.length : Int) < (l0_2.length : Int)) = true := decide_eq_true c58
           have c58b1 : decide (l1_2.length < l0_2.length) = true := decide_eq_true (Int.ofNat_lt.mp c58)
           clear c58
           obtain rfl := Option.some.inj H
           have hnb59 := NB233_234.out
           have hnc59 := NB234_233.out
           obtain ⟨hcz60_0, hcz60_1, hcz60_2⟩ := cells3_ BK233.out
           obtain ⟨hfz60_0, hfz60_1, hfz60_2⟩ := froz3_ BK233.out
           obtain ⟨hcz61_0, hcz61_1, hcz61_2⟩ := cells3_ BK234.out
           obtain ⟨hfz61_0, hfz61_1, hfz61_2⟩ := froz3_ BK234.out
           go_wp2
           all_goals (try (exfalso; first | exact tri_no1 (by assumption) (by assumption) (by assumption) | exact tri_no2 (by assumption) (by assumption) (by assumption)))
           repeat (go_quiet (fail); try go_wp2)
           all_goals (try (exfalso; first | exact tri_no1 (by assumption) (by assumption) (by assumption) | exact tri_no2 (by assumption) (by assumption) (by assumption)))
           go_ret
           exact ⟨by first | rfl | (simp [errW_none, errW_some] <;> rfl) | (simp [*, errW_none, errW_some] <;> rfl), by repeat (first | (with_reducible first | exact HB.out | apply bA_ | apply bN_ | apply bD_ | refine bS_ ?_ GE233.out | refine bS_ ?_ GE234.out) | exact HB.out)⟩
          ·rw [if_neg c58] at H
           have c58b0 : decide ((l1_2.length : Int) < (l0_2.length : Int)) = false := decide_eq_false c58
           have c58b1 : decide (l1_2.length < l0_2.length) = false := decide_eq_false (fun h => c58 (Int.ofNat_lt.mpr h))
           clear c58
           obtain rfl := Option.some.inj H
           have hnb62 := NB233_234.out
           have hnc62 := NB234_233.out
           obtain ⟨hcz63_0, hcz63_1, hcz63_2⟩ := cells3_ BK233.out
           obtain ⟨hfz63_0, hfz63_1, hfz63_2⟩ := froz3_ BK233.out
           obtain ⟨hcz64_0, hcz64_1, hcz64_2⟩ := cells3_ BK234.out
           obtain ⟨hfz64_0, hfz64_1, hfz64_2⟩ := froz3_ BK234.out
           go_wp2
           all_goals (try (exfalso; first | exact tri_no1 (by assumption) (by assumption) (by assumption) | exact tri_no2 (by assumption) (by assumption) (by assumption)))
           repeat (go_quiet (fail); try go_wp2)
           all_goals (try (exfalso; first | exact tri_no1 (by assumption) (by assumption) (by assumption) | exact tri_no2 (by assumption) (by assumption) (by assumption)))
           go_ret
           exact ⟨by first | rfl | (simp [errW_none, errW_some] <;> rfl) | (simp [*, errW_none, errW_some] <;> rfl), by repeat (first | (with_reducible first | exact HB.out | apply bA_ | apply bN_ | apply bD_ | refine bS_ ?_ GE233.out | refine bS_ ?_ GE234.out) | exact HB.out)⟩

end Go.Proofs.YtpjajjmipbjliaaDoor.PNspathOrder
