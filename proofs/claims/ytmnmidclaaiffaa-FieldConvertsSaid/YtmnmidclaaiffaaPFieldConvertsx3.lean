-- Written by a program of this session's (wip/print_patch.py over the kit's print) out of the translation; Lean checks it.
import Derived.Test.YtmnmidclaaiffaaPFieldConvertsx0
import Derived.Test.YtmnmidclaaiffaaPFieldConvertsx2
import Derived.Test.YtmnmidclaaiffaaVFieldConvertsExt
namespace Go.Proofs.Ytmnmidclaaiffaa.PFieldConverts
open Go.RowKit Go.Proofs.Ytmnmidclaaiffaa.Ext Go.Proofs.YtmnmidclaaiffaaW.PrintWords Go.Proofs.YtmnmidclaaiffaaW.PrintLast Go.Proofs.YtmnmidclaaiffaaW.PrintMore
attribute [local go_sem] max2_int min2_int max_two min_two max_three min_three max_four min_four   -- for this text's walks alone
set_option linter.unusedVariables false
set_option linter.unusedSimpArgs false

/-! ### platformfwlaw11_spec: function 15 -/
def platformfwlaw11_spec.j0 : Nat → Int → Int → Int → Int → Int → Int → Int → Int → Int → Int → Int → Int → Int → Int → Int → Int → Int → Int → Int → Option (Int × Int × Int × Int × Int × Int × Int × Int × Int)
 | 0, _, _, _, _, _, _, _, _, _, _, _, _, _, _, _, _, _, _, _ => none
 | k + 1, x4, x102000, x102001, x102002, x102003, x102004, x102005, x102006, x102007, x102008, x114000, x114001, x114002, x114003, x114004, x114005, x114006, x114007, x114008 => if x4 = 3 then ((platformfwhelp_Mod.f x102007 8).bind fun t116 => (if t116 = 6 then (some (x114000, 18446744073709551552, x114002, x114003, x114004, 1, x114006, x114007, x114008)) else (some (x114000, x114001, x114002, x114003, x114004, 1, x114006, x114007, x114008)))) else ((platformfwhelp_Mod.f x102007 8).bind fun t117 => (if t117 = 6 then (some (x114000, 18446744073709551552, x114002, x114003, x114004, x114005, x114006, x114007, x114008)) else (some (x114000, x114001, x114002, x114003, x114004, x114005, x114006, x114007, x114008))))
def platformfwlaw11_spec.f (k : Nat) (a0_0 : Int) (a0_1 : Int) (a0_2 : Int) (a0_3 : Int) (a0_4 : Int) (a0_5 : Int) (a0_6 : Int) (a0_7 : Int) (a0_8 : Int) : Option (Int × Int × Int × Int × Int × Int × Int × Int × Int) := (platformfwhelp_Mod.f a0_7 8).bind fun t103 => (if t103 = 7 then (some (a0_0, a0_1, a0_2, a0_3, a0_4, a0_5, a0_6, a0_7, a0_8)) else ((platformfwhelp_Mod.f a0_5 4).bind fun t104 => (if 0 ≤ (IntKind.u64.wrap (t104)) then ((some (([0, 1, 3, 0] : List Int) : List Int)).bind fun y105 => ((platformfwhelp_Mod.f a0_0 4).bind fun t108 => (if 0 ≤ t108 then (if t108 < (y105.length : Int) then ((platformfwhelp_Mod.f a0_3 400).bind fun t110 => ((platformfwhelp_Mod.f a0_4 100).bind fun t111 => ((platformfwhelp_Mod.f a0_6 3).bind fun t112 => ((platformfwhelp_Mod.f a0_4 9).bind fun t114 => (if t114 = 8 then ((platformfwhelp_Mod.f a0_3 3).bind fun t115 => (platformfwlaw11_spec.j0 k (rd y105 t108) a0_0 a0_1 a0_2 a0_3 a0_4 a0_5 a0_6 a0_7 a0_8 (rd y105 t108) (IntKind.u64.wrap ((Int.tmod a0_1 20) * 8)) (IntKind.u64.wrap (1 + (Int.tmod a0_2 60))) t110 (wrap64 (256 - t115)) (shl .i64 1 (IntKind.u64.wrap (t104))) t112 a0_7 a0_8)) else (platformfwlaw11_spec.j0 k (rd y105 t108) a0_0 a0_1 a0_2 a0_3 a0_4 a0_5 a0_6 a0_7 a0_8 (rd y105 t108) (IntKind.u64.wrap ((Int.tmod a0_1 20) * 8)) (IntKind.u64.wrap (1 + (Int.tmod a0_2 60))) t110 (wrap64 (1 + t111)) (shl .i64 1 (IntKind.u64.wrap (t104))) t112 a0_7 a0_8)))))) else (none)) else (none)))) else (none))))
theorem platformfwlaw11_spec.mono_l : ∀ k, (∀ y0 y1 y2 y3 y4 y5 y6 y7 y8 y9 y10 y11 y12 y13 y14 y15 y16 y17 y18, LeO (platformfwlaw11_spec.j0 k y0 y1 y2 y3 y4 y5 y6 y7 y8 y9 y10 y11 y12 y13 y14 y15 y16 y17 y18) (platformfwlaw11_spec.j0 (k + 1) y0 y1 y2 y3 y4 y5 y6 y7 y8 y9 y10 y11 y12 y13 y14 y15 y16 y17 y18))
 | 0 => fun _ _ _ _ _ _ _ _ _ _ _ _ _ _ _ _ _ _ _ r h => by simp [platformfwlaw11_spec.j0] at h
 | k + 1 => by
  have ih0 := platformfwlaw11_spec.mono_l k
  ·intro y0 y1 y2 y3 y4 y5 y6 y7 y8 y9 y10 y11 y12 y13 y14 y15 y16 y17 y18
   unfold platformfwlaw11_spec.j0
   repeat' first
   | (with_reducible exact ih0 _ _ _ _ _ _ _ _ _ _ _ _ _ _ _ _ _ _ _)
   | (with_reducible exact LeO.refl _)
   | (with_reducible exact LeO.none _)
   | (with_reducible refine LeO.ite ?_ ?_)
   | (with_reducible refine LeO.bind ?_ (fun _ => ?_))
   | exact ih0 _ _ _ _ _ _ _ _ _ _ _ _ _ _ _ _ _ _ _
   | exact LeO.none _
   | refine LeO.ite ?_ ?_
   | refine LeO.bind ?_ (fun _ => ?_)
theorem platformfwlaw11_spec.mono : ∀ a0 a1 a2 a3 a4 a5 a6 a7 a8 k, LeO (platformfwlaw11_spec.f k a0 a1 a2 a3 a4 a5 a6 a7 a8) (platformfwlaw11_spec.f (k + 1) a0 a1 a2 a3 a4 a5 a6 a7 a8) := by
 intro a0 a1 a2 a3 a4 a5 a6 a7 a8 k
 have ih0 := platformfwlaw11_spec.mono_l k
 unfold platformfwlaw11_spec.f
 repeat' first
   | (with_reducible exact ih0 _ _ _ _ _ _ _ _ _ _ _ _ _ _ _ _ _ _ _)
   | (with_reducible exact LeO.refl _)
   | (with_reducible exact LeO.none _)
   | (with_reducible refine LeO.ite ?_ ?_)
   | (with_reducible refine LeO.bind ?_ (fun _ => ?_))
   | exact ih0 _ _ _ _ _ _ _ _ _ _ _ _ _ _ _ _ _ _ _
   | exact LeO.none _
   | refine LeO.ite ?_ ?_
   | refine LeO.bind ?_ (fun _ => ?_)
def platformfwlaw11_spec.T5 : Bool × List (List Nat × List Nat) := (true, [([], []), ([], []), ([1], [1]), ([2], [2]), ([3], [3]), ([4], [4]), ([], []), ([6], [6]), ([7], [7]), ([8], [8]), ([9], [9]), ([0, 5, 10], [0, 5, 10]), ([], []), ([12], [12]), ([13], [13]), ([], []), ([15], [15]), ([16, 14], [16]), ([17], [17]), ([], []), ([], []), ([20], [20]), ([21, 17], [21]), ([], []), ([23], [23]), ([], []), ([25], [25]), ([11, 14, 18, 19, 22, 24, 26], [11, 14, 18, 19, 22, 24, 26]), ([], []), ([28, 27, 22, 0, 1, 2, 3, 4, 5, 6, 7, 8, 9, 10, 11, 12, 13, 14, 15, 16, 17, 18, 19, 20, 21, 22, 23, 24, 25, 26, 27, 28], [27, 28])])
def platformfwlaw11_spec.B5 : List Nat := [0, 0, 2, 6, 14, 30, 0, 64, 192, 448, 960, 2047, 0, 4096, 12288, 0, 32768, 126976, 258048, 0, 0, 1048576, 3403776, 0, 8388608, 0, 33554432, 134217727, 0, 536870911]
theorem platformfwlaw11_spec.tab5 : rtab .any (opsOf Try.f15 5) = platformfwlaw11_spec.T5 := by kernel_rfl
theorem platformfwlaw11_spec.bits5 : waitsOk platformfwlaw11_spec.T5.2 platformfwlaw11_spec.B5 = true := by kernel_rfl
set_option maxHeartbeats 8000000 in
set_option maxRecDepth 100000 in
theorem platformfwlaw11_spec.calls (k : Nat) (a0_0 : Int) (a0_1 : Int) (a0_2 : Int) (a0_3 : Int) (a0_4 : Int) (a0_5 : Int) (a0_6 : Int) (a0_7 : Int) (a0_8 : Int) (r1 : Int) (r2 : Int) (r3 : Int) (r4 : Int) (r5 : Int) (r6 : Int) (r7 : Int) (r8 : Int) (r9 : Int) (w : World) (h : platformfwlaw11_spec.f k a0_0 a0_1 a0_2 a0_3 a0_4 a0_5 a0_6 a0_7 a0_8 = some (r1, r2, r3, r4, r5, r6, r7, r8, r9)) :
  Calls Try.prog 15 #[.agg #[.int .i64 a0_0, .int .u64 a0_1, .int .u64 a0_2, .int .i64 a0_3, .int .i64 a0_4, .int .i64 a0_5, .int .i64 a0_6, .int .i64 a0_7, .int .i64 a0_8]] w fun e w' => e = .returned (.agg #[.int .i64 r1, .int .u64 r2, .int .u64 r3, .int .i64 r4, .int .i64 r5, .int .i64 r6, .int .i64 r7, .int .i64 r8, .int .i64 r9]) ∧ Below w.heap.size w w' := by
 have hu26 := Try.underlying26
 have hu24 := Try.underlying24
 have HB := Aside0.mk (Below.refl w.heap.size w)
 have H : ((platformfwhelp_Mod.f a0_7 8).bind fun t103 => (if t103 = 7 then (some (a0_0, a0_1, a0_2, a0_3, a0_4, a0_5, a0_6, a0_7, a0_8)) else ((platformfwhelp_Mod.f a0_5 4).bind fun t104 => (if 0 ≤ (IntKind.u64.wrap (t104)) then ((some (([0, 1, 3, 0] : List Int) : List Int)).bind fun y105 => ((platformfwhelp_Mod.f a0_0 4).bind fun t108 => (if 0 ≤ t108 then (if t108 < (y105.length : Int) then ((platformfwhelp_Mod.f a0_3 400).bind fun t110 => ((platformfwhelp_Mod.f a0_4 100).bind fun t111 => ((platformfwhelp_Mod.f a0_6 3).bind fun t112 => ((platformfwhelp_Mod.f a0_4 9).bind fun t114 => (if t114 = 8 then ((platformfwhelp_Mod.f a0_3 3).bind fun t115 => (platformfwlaw11_spec.j0 k (rd y105 t108) a0_0 a0_1 a0_2 a0_3 a0_4 a0_5 a0_6 a0_7 a0_8 (rd y105 t108) (IntKind.u64.wrap ((Int.tmod a0_1 20) * 8)) (IntKind.u64.wrap (1 + (Int.tmod a0_2 60))) t110 (wrap64 (256 - t115)) (shl .i64 1 (IntKind.u64.wrap (t104))) t112 a0_7 a0_8)) else (platformfwlaw11_spec.j0 k (rd y105 t108) a0_0 a0_1 a0_2 a0_3 a0_4 a0_5 a0_6 a0_7 a0_8 (rd y105 t108) (IntKind.u64.wrap ((Int.tmod a0_1 20) * 8)) (IntKind.u64.wrap (1 + (Int.tmod a0_2 60))) t110 (wrap64 (1 + t111)) (shl .i64 1 (IntKind.u64.wrap (t104))) t112 a0_7 a0_8)))))) else (none)) else (none)))) else (none))))) = some (r1, r2, r3, r4, r5, r6, r7, r8, r9) := h
 clear h
 replace H := Option.bind_eq_some_iff.mp H
 obtain ⟨t103, A20, H⟩ := H
 replace H : (if t103 = 7 then (some (a0_0, a0_1, a0_2, a0_3, a0_4, a0_5, a0_6, a0_7, a0_8)) else ((platformfwhelp_Mod.f a0_5 4).bind fun t104 => (if 0 ≤ (IntKind.u64.wrap (t104)) then ((some (([0, 1, 3, 0] : List Int) : List Int)).bind fun y105 => ((platformfwhelp_Mod.f a0_0 4).bind fun t108 => (if 0 ≤ t108 then (if t108 < (y105.length : Int) then ((platformfwhelp_Mod.f a0_3 400).bind fun t110 => ((platformfwhelp_Mod.f a0_4 100).bind fun t111 => ((platformfwhelp_Mod.f a0_6 3).bind fun t112 => ((platformfwhelp_Mod.f a0_4 9).bind fun t114 => (if t114 = 8 then ((platformfwhelp_Mod.f a0_3 3).bind fun t115 => (platformfwlaw11_spec.j0 k (rd y105 t108) a0_0 a0_1 a0_2 a0_3 a0_4 a0_5 a0_6 a0_7 a0_8 (rd y105 t108) (IntKind.u64.wrap ((Int.tmod a0_1 20) * 8)) (IntKind.u64.wrap (1 + (Int.tmod a0_2 60))) t110 (wrap64 (256 - t115)) (shl .i64 1 (IntKind.u64.wrap (t104))) t112 a0_7 a0_8)) else (platformfwlaw11_spec.j0 k (rd y105 t108) a0_0 a0_1 a0_2 a0_3 a0_4 a0_5 a0_6 a0_7 a0_8 (rd y105 t108) (IntKind.u64.wrap ((Int.tmod a0_1 20) * 8)) (IntKind.u64.wrap (1 + (Int.tmod a0_2 60))) t110 (wrap64 (1 + t111)) (shl .i64 1 (IntKind.u64.wrap (t104))) t112 a0_7 a0_8)))))) else (none)) else (none)))) else (none)))) = some (r1, r2, r3, r4, r5, r6, r7, r8, r9) := H
 have A2 := Aside0.mk A20
 clear A20
 by_cases c3 : t103 = 7
 ·rw [if_pos c3] at H
  have c3b0 : (t103 == 7) = true := beq_iff_eq.mpr c3
  have c3b1 : (t103 != 7) = false := bne_eq_false_iff_eq.mpr c3
  clear c3
  simp only [Option.some.injEq, Prod.mk.injEq] at H
  obtain ⟨rfl, rfl, rfl, rfl, rfl, rfl, rfl, rfl, rfl⟩ := H
  go_enter Try.func15, Try.ntmps15
  go_wp2_with (first | ((with_reducible refine gate_dst (N := 1) rfl ?_); refine box_event ?hg (N := 1) ?hd (cs := #[.int .i64 a0_0, .int .u64 a0_1, .int .u64 a0_2, .int .i64 a0_3, .int .i64 a0_4, .int .i64 a0_5, .int .i64 a0_6, .int .i64 a0_7, .int .i64 a0_8]) (t := 26) ?hr ?_; (case hd => rfl); (case hg => rfl); (case hr => first | (go_simp; done) | (go_simp; rfl)); intro gb101 hg w4 hbox hb; have n0_ := Aside0.mk (below_step (by repeat (first | (with_reducible first | exact HB.out | apply bA_ | apply bN_ | apply bD_) | exact HB.out)) hb); have n1_ := Aside0.mk (hbox); have n2_ := Aside0.mk ((by rw [hg]; exact (below_size (by repeat (first | (with_reducible first | exact HB.out | apply bA_ | apply bN_ | apply bD_) | exact HB.out))) : w.heap.size ≤ gb101)); have n3_ := Aside0.mk ((by rw [hg]; exact (below_size (by repeat (first | (with_reducible first | exact HB.out | apply bA_ | apply bN_ | apply bD_) | exact HB.out))) : w.heap.size ≤ gb101)); clear HB; have HB := n0_; have BK101 := n1_; have GW101 := n2_; have GE101 := n3_; clear n0_ n1_ n2_ n3_; clear hb hbox hg) | ((with_reducible refine gate_dst (N := 2) rfl ?_); refine box_event ?hg (N := 2) ?hd (cs := #[.int .i64 0, .int .u64 0, .int .u64 0, .int .i64 0, .int .i64 0, .int .i64 0, .int .i64 0, .int .i64 0, .int .i64 0]) (t := 26) ?hr ?_; (case hd => rfl); (case hg => rfl); (case hr => first | (go_simp; done) | (go_simp; rfl)); intro gb102 hg w5 hbox hb; have n0_ := Aside0.mk (blk_below (g := gb101) (o := .cells #[.int .i64 a0_0, .int .u64 a0_1, .int .u64 a0_2, .int .i64 a0_3, .int .i64 a0_4, .int .i64 a0_5, .int .i64 a0_6, .int .i64 a0_7, .int .i64 a0_8] 26 (0, 0)) (by (with_reducible repeat (first | refine kN_ ?_ _ | refine kD_ ?_ | refine kA_ ?_ _)); exact BK101.out) hb); have n1_ := Aside0.mk (below_step (by repeat (first | (with_reducible first | exact HB.out | apply bA_ | apply bN_ | apply bD_ | refine bS_ ?_ GE101.out) | exact HB.out)) hb); have n2_ := Aside0.mk (hbox); have n3_ := Aside0.mk ((by rw [hg]; exact (below_size (by repeat (first | (with_reducible first | exact HB.out | apply bA_ | apply bN_ | apply bD_ | refine bS_ ?_ GE101.out) | exact HB.out))) : w.heap.size ≤ gb102)); have n4_ := Aside0.mk ((by rw [hg]; exact (below_size (by repeat (first | (with_reducible first | exact HB.out | apply bA_ | apply bN_ | apply bD_ | refine bS_ ?_ GE101.out) | exact HB.out))) : w.heap.size ≤ gb102)); have n5_ := Aside0.mk ((by rw [hg]; exact Nat.ne_of_lt (blk_lt (g := gb101) (o := .cells #[.int .i64 a0_0, .int .u64 a0_1, .int .u64 a0_2, .int .i64 a0_3, .int .i64 a0_4, .int .i64 a0_5, .int .i64 a0_6, .int .i64 a0_7, .int .i64 a0_8] 26 (0, 0)) (by (with_reducible repeat (first | refine kN_ ?_ _ | refine kD_ ?_ | refine kA_ ?_ _)); exact BK101.out)) : gb101 ≠ gb102)); have n6_ := Aside0.mk ((by rw [hg]; exact Nat.ne_of_gt (blk_lt (g := gb101) (o := .cells #[.int .i64 a0_0, .int .u64 a0_1, .int .u64 a0_2, .int .i64 a0_3, .int .i64 a0_4, .int .i64 a0_5, .int .i64 a0_6, .int .i64 a0_7, .int .i64 a0_8] 26 (0, 0)) (by (with_reducible repeat (first | refine kN_ ?_ _ | refine kD_ ?_ | refine kA_ ?_ _)); exact BK101.out)) : gb102 ≠ gb101)); clear BK101; clear HB; have BK101 := n0_; have HB := n1_; have BK102 := n2_; have GW102 := n3_; have GE102 := n4_; have NB101_102 := n5_; have NB102_101 := n6_; clear n0_ n1_ n2_ n3_ n4_ n5_ n6_; clear hb hbox hg; have hnb6 := NB101_102.out; have hnc6 := NB102_101.out; obtain ⟨hcz7_0, hcz7_1, hcz7_2, hcz7_3, hcz7_4, hcz7_5, hcz7_6, hcz7_7, hcz7_8⟩ := cells9_ BK101.out; obtain ⟨hfz7_0, hfz7_1, hfz7_2, hfz7_3, hfz7_4, hfz7_5, hfz7_6, hfz7_7, hfz7_8⟩ := froz9_ BK101.out) | ((with_reducible refine gate_callee (f := 28) rfl ?_); refine goesL_ (some 8) rfl rfl Try.func28 (by kernel_rfl) rfl #[.int .i64 a0_7, .int .i64 8] rfl (by (try simp only [List.map_toArray, List.map_cons, List.map_nil]); first | done | rfl | (simp only [List.length_drop, List.length_take]; rfl)) ?_; (with_reducible refine (platformfwhelp_Mod.calls a0_7 8 t103 _ A2.out).mono ?_); rintro e w' ⟨rfl, ⟨nd, rfl⟩⟩; refine ⟨_, rfl, ?_⟩; (try (rw [drewN_self w5]; generalize hq_ : World.drewN w5 _ = w5; have n0_ : Aside0 (w5.heap[gb101]? = some (.cells #[.int .i64 a0_0, .int .u64 a0_1, .int .u64 a0_2, .int .i64 a0_3, .int .i64 a0_4, .int .i64 a0_5, .int .i64 a0_6, .int .i64 a0_7, .int .i64 a0_8] 26 (0, 0))) := ⟨by rw [← hq_]; exact (by (with_reducible repeat (first | refine kN_ ?_ _ | refine kD_ ?_ | refine kA_ ?_ _)); exact BK101.out)⟩; have n1_ : Aside0 (w5.heap[gb102]? = some (.cells #[.int .i64 0, .int .u64 0, .int .u64 0, .int .i64 0, .int .i64 0, .int .i64 0, .int .i64 0, .int .i64 0, .int .i64 0] 26 (0, 0))) := ⟨by rw [← hq_]; exact (by (with_reducible repeat (first | refine kN_ ?_ _ | refine kD_ ?_ | refine kA_ ?_ _)); exact BK102.out)⟩; have n2_ : Aside0 (Below w.heap.size w w5) := ⟨by rw [← hq_]; exact (by repeat (first | (with_reducible first | exact HB.out | apply bA_ | apply bN_ | apply bD_ | refine bS_ ?_ GE101.out | refine bS_ ?_ GE102.out) | exact HB.out))⟩; clear BK101 BK102 HB hq_; have BK101 := n0_; have BK102 := n1_; have HB := n2_; clear n0_ n1_ n2_)); obtain ⟨hcz8_0, hcz8_1, hcz8_2, hcz8_3, hcz8_4, hcz8_5, hcz8_6, hcz8_7, hcz8_8⟩ := cells9_ BK101.out; obtain ⟨hfz8_0, hfz8_1, hfz8_2, hfz8_3, hfz8_4, hfz8_5, hfz8_6, hfz8_7, hfz8_8⟩ := froz9_ BK101.out; obtain ⟨hcz9_0, hcz9_1, hcz9_2, hcz9_3, hcz9_4, hcz9_5, hcz9_6, hcz9_7, hcz9_8⟩ := cells9_ BK102.out; obtain ⟨hfz9_0, hfz9_1, hfz9_2, hfz9_3, hfz9_4, hfz9_5, hfz9_6, hfz9_7, hfz9_8⟩ := froz9_ BK102.out))
  refine bodyPost_ret (results_cell_row rfl _ _ gb102 26 #[.int .i64 a0_0, .int .u64 a0_1, .int .u64 a0_2, .int .i64 a0_3, .int .i64 a0_4, .int .i64 a0_5, .int .i64 a0_6, .int .i64 a0_7, .int .i64 a0_8] (0, 0) _ rfl (by (with_reducible repeat (first | refine kN_ ?_ _ | refine kD_ ?_ | refine kA_ ?_ _)); refine blk_put (cs := #[.int .i64 a0_0, .int .u64 a0_1, .int .u64 a0_2, .int .i64 a0_3, .int .i64 a0_4, .int .i64 a0_5, .int .i64 a0_6, .int .i64 a0_7, .int .i64 0]) ?_ 8 _ rfl; (with_reducible repeat (first | refine kN_ ?_ _ | refine kD_ ?_ | refine kA_ ?_ _)); refine blk_put (cs := #[.int .i64 a0_0, .int .u64 a0_1, .int .u64 a0_2, .int .i64 a0_3, .int .i64 a0_4, .int .i64 a0_5, .int .i64 a0_6, .int .i64 0, .int .i64 0]) ?_ 7 _ rfl; (with_reducible repeat (first | refine kN_ ?_ _ | refine kD_ ?_ | refine kA_ ?_ _)); refine blk_put (cs := #[.int .i64 a0_0, .int .u64 a0_1, .int .u64 a0_2, .int .i64 a0_3, .int .i64 a0_4, .int .i64 a0_5, .int .i64 0, .int .i64 0, .int .i64 0]) ?_ 6 _ rfl; (with_reducible repeat (first | refine kN_ ?_ _ | refine kD_ ?_ | refine kA_ ?_ _)); refine blk_put (cs := #[.int .i64 a0_0, .int .u64 a0_1, .int .u64 a0_2, .int .i64 a0_3, .int .i64 a0_4, .int .i64 0, .int .i64 0, .int .i64 0, .int .i64 0]) ?_ 5 _ rfl; (with_reducible repeat (first | refine kN_ ?_ _ | refine kD_ ?_ | refine kA_ ?_ _)); refine blk_put (cs := #[.int .i64 a0_0, .int .u64 a0_1, .int .u64 a0_2, .int .i64 a0_3, .int .i64 0, .int .i64 0, .int .i64 0, .int .i64 0, .int .i64 0]) ?_ 4 _ rfl; (with_reducible repeat (first | refine kN_ ?_ _ | refine kD_ ?_ | refine kA_ ?_ _)); refine blk_put (cs := #[.int .i64 a0_0, .int .u64 a0_1, .int .u64 a0_2, .int .i64 0, .int .i64 0, .int .i64 0, .int .i64 0, .int .i64 0, .int .i64 0]) ?_ 3 _ rfl; (with_reducible repeat (first | refine kN_ ?_ _ | refine kD_ ?_ | refine kA_ ?_ _)); refine blk_put (cs := #[.int .i64 a0_0, .int .u64 a0_1, .int .u64 0, .int .i64 0, .int .i64 0, .int .i64 0, .int .i64 0, .int .i64 0, .int .i64 0]) ?_ 2 _ rfl; (with_reducible repeat (first | refine kN_ ?_ _ | refine kD_ ?_ | refine kA_ ?_ _)); refine blk_put (cs := #[.int .i64 a0_0, .int .u64 0, .int .u64 0, .int .i64 0, .int .i64 0, .int .i64 0, .int .i64 0, .int .i64 0, .int .i64 0]) ?_ 1 _ rfl; (with_reducible repeat (first | refine kN_ ?_ _ | refine kD_ ?_ | refine kA_ ?_ _)); refine blk_put (cs := #[.int .i64 0, .int .u64 0, .int .u64 0, .int .i64 0, .int .i64 0, .int .i64 0, .int .i64 0, .int .i64 0, .int .i64 0]) ?_ 0 _ rfl; (with_reducible repeat (first | refine kN_ ?_ _ | refine kD_ ?_ | refine kA_ ?_ _)); exact BK102.out) Try.underlying26 rfl (by kernel_rfl)) rfl ?_
  exact ⟨by first | rfl | (simp [errW_none, errW_some] <;> rfl) | (simp [*, errW_none, errW_some] <;> rfl), by repeat (first | (with_reducible first | exact HB.out | apply bA_ | apply bN_ | apply bD_ | refine bS_ ?_ GE101.out | refine bS_ ?_ GE102.out) | exact HB.out)⟩
 ·rw [if_neg c3] at H
  have c3b0 : (t103 == 7) = false := beq_eq_false_iff_ne.mpr c3
  have c3b1 : (t103 != 7) = true := bne_iff_ne.mpr c3
  replace H := Option.bind_eq_some_iff.mp H
  obtain ⟨t104, A100, H⟩ := H
  replace H : (if 0 ≤ (IntKind.u64.wrap (t104)) then ((some (([0, 1, 3, 0] : List Int) : List Int)).bind fun y105 => ((platformfwhelp_Mod.f a0_0 4).bind fun t108 => (if 0 ≤ t108 then (if t108 < (y105.length : Int) then ((platformfwhelp_Mod.f a0_3 400).bind fun t110 => ((platformfwhelp_Mod.f a0_4 100).bind fun t111 => ((platformfwhelp_Mod.f a0_6 3).bind fun t112 => ((platformfwhelp_Mod.f a0_4 9).bind fun t114 => (if t114 = 8 then ((platformfwhelp_Mod.f a0_3 3).bind fun t115 => (platformfwlaw11_spec.j0 k (rd y105 t108) a0_0 a0_1 a0_2 a0_3 a0_4 a0_5 a0_6 a0_7 a0_8 (rd y105 t108) (IntKind.u64.wrap ((Int.tmod a0_1 20) * 8)) (IntKind.u64.wrap (1 + (Int.tmod a0_2 60))) t110 (wrap64 (256 - t115)) (shl .i64 1 (IntKind.u64.wrap (t104))) t112 a0_7 a0_8)) else (platformfwlaw11_spec.j0 k (rd y105 t108) a0_0 a0_1 a0_2 a0_3 a0_4 a0_5 a0_6 a0_7 a0_8 (rd y105 t108) (IntKind.u64.wrap ((Int.tmod a0_1 20) * 8)) (IntKind.u64.wrap (1 + (Int.tmod a0_2 60))) t110 (wrap64 (1 + t111)) (shl .i64 1 (IntKind.u64.wrap (t104))) t112 a0_7 a0_8)))))) else (none)) else (none)))) else (none)) = some (r1, r2, r3, r4, r5, r6, r7, r8, r9) := H
  have A10 := Aside0.mk A100
  clear A100
  obtain ⟨ji11, hji11⟩ : ∃ j_ : Int, (IntKind.u64.wrap (t104)) = j_ := ⟨_, rfl⟩
  replace H : (if 0 ≤ (ji11) then ((some (([0, 1, 3, 0] : List Int) : List Int)).bind fun y105 => ((platformfwhelp_Mod.f a0_0 4).bind fun t108 => (if 0 ≤ t108 then (if t108 < (y105.length : Int) then ((platformfwhelp_Mod.f a0_3 400).bind fun t110 => ((platformfwhelp_Mod.f a0_4 100).bind fun t111 => ((platformfwhelp_Mod.f a0_6 3).bind fun t112 => ((platformfwhelp_Mod.f a0_4 9).bind fun t114 => (if t114 = 8 then ((platformfwhelp_Mod.f a0_3 3).bind fun t115 => (platformfwlaw11_spec.j0 k (rd y105 t108) a0_0 a0_1 a0_2 a0_3 a0_4 a0_5 a0_6 a0_7 a0_8 (rd y105 t108) (IntKind.u64.wrap ((Int.tmod a0_1 20) * 8)) (IntKind.u64.wrap (1 + (Int.tmod a0_2 60))) t110 (wrap64 (256 - t115)) (shl .i64 1 (ji11)) t112 a0_7 a0_8)) else (platformfwlaw11_spec.j0 k (rd y105 t108) a0_0 a0_1 a0_2 a0_3 a0_4 a0_5 a0_6 a0_7 a0_8 (rd y105 t108) (IntKind.u64.wrap ((Int.tmod a0_1 20) * 8)) (IntKind.u64.wrap (1 + (Int.tmod a0_2 60))) t110 (wrap64 (1 + t111)) (shl .i64 1 (ji11)) t112 a0_7 a0_8)))))) else (none)) else (none)))) else (none)) = some (r1, r2, r3, r4, r5, r6, r7, r8, r9) := by first | (rw [hji11] at H; exact H) | (simp only [hji11] at H ⊢; exact H)
  (try rw [hji11] at A2)
  (try rw [hji11] at A10)
  by_cases c12 : 0 ≤ (ji11)
  ·rw [if_pos c12] at H
   have c12b0 := eq_true c12
   have c12b1 : decide (0 ≤ (ji11)) = true := decide_eq_true c12
   clear c12
   obtain ⟨ji13, hji13⟩ : ∃ j_ : Int, (shl .i64 1 (ji11)) = j_ := ⟨_, rfl⟩
   replace H : ((some (([0, 1, 3, 0] : List Int) : List Int)).bind fun y105 => ((platformfwhelp_Mod.f a0_0 4).bind fun t108 => (if 0 ≤ t108 then (if t108 < (y105.length : Int) then ((platformfwhelp_Mod.f a0_3 400).bind fun t110 => ((platformfwhelp_Mod.f a0_4 100).bind fun t111 => ((platformfwhelp_Mod.f a0_6 3).bind fun t112 => ((platformfwhelp_Mod.f a0_4 9).bind fun t114 => (if t114 = 8 then ((platformfwhelp_Mod.f a0_3 3).bind fun t115 => (platformfwlaw11_spec.j0 k (rd y105 t108) a0_0 a0_1 a0_2 a0_3 a0_4 a0_5 a0_6 a0_7 a0_8 (rd y105 t108) (IntKind.u64.wrap ((Int.tmod a0_1 20) * 8)) (IntKind.u64.wrap (1 + (Int.tmod a0_2 60))) t110 (wrap64 (256 - t115)) ji13 t112 a0_7 a0_8)) else (platformfwlaw11_spec.j0 k (rd y105 t108) a0_0 a0_1 a0_2 a0_3 a0_4 a0_5 a0_6 a0_7 a0_8 (rd y105 t108) (IntKind.u64.wrap ((Int.tmod a0_1 20) * 8)) (IntKind.u64.wrap (1 + (Int.tmod a0_2 60))) t110 (wrap64 (1 + t111)) ji13 t112 a0_7 a0_8)))))) else (none)) else (none)))) = some (r1, r2, r3, r4, r5, r6, r7, r8, r9) := by first | (rw [hji13] at H; exact H) | (simp only [hji13] at H ⊢; exact H)
   (try rw [hji13] at A2)
   (try rw [hji13] at A10)
   have hji13_ : (IntKind.i64.wrap (1 * 2 ^ min (ji11).toNat 64)) = ji13 := hji13
   have hji13z : (ji11) ≤ 64 → (IntKind.i64.wrap (1 * 2 ^ (ji11).toNat)) = ji13 := shl_small hji13
   have hji13u : (IntKind.i64.wrap (2 ^ min (ji11).toNat 64)) = ji13 := by have h_ := hji13_; rw [Int.one_mul] at h_; exact h_
   have hji13v : (ji11) ≤ 64 → (IntKind.i64.wrap (2 ^ (ji11).toNat)) = ji13 := fun hle_ => by have h_ := hji13z hle_; rw [Int.one_mul] at h_; exact h_
   have hji13y : (wrap64 (1 * 2 ^ min (ji11).toNat 64)) = ji13 := (i64_w _).symm.trans hji13_
   have hji13x : (ji11) ≤ 64 → (wrap64 (1 * 2 ^ (ji11).toNat)) = ji13 := fun h_ => (i64_w _).symm.trans (hji13z h_)
   obtain ⟨y105, hy105⟩ : ∃ y_ : List Int, y_ = (([0, 1, 3, 0] : List Int)) := ⟨_, rfl⟩
   replace H : ((platformfwhelp_Mod.f a0_0 4).bind fun t108 => (if 0 ≤ t108 then (if t108 < (y105.length : Int) then ((platformfwhelp_Mod.f a0_3 400).bind fun t110 => ((platformfwhelp_Mod.f a0_4 100).bind fun t111 => ((platformfwhelp_Mod.f a0_6 3).bind fun t112 => ((platformfwhelp_Mod.f a0_4 9).bind fun t114 => (if t114 = 8 then ((platformfwhelp_Mod.f a0_3 3).bind fun t115 => (platformfwlaw11_spec.j0 k (rd y105 t108) a0_0 a0_1 a0_2 a0_3 a0_4 a0_5 a0_6 a0_7 a0_8 (rd y105 t108) (IntKind.u64.wrap ((Int.tmod a0_1 20) * 8)) (IntKind.u64.wrap (1 + (Int.tmod a0_2 60))) t110 (wrap64 (256 - t115)) ji13 t112 a0_7 a0_8)) else (platformfwlaw11_spec.j0 k (rd y105 t108) a0_0 a0_1 a0_2 a0_3 a0_4 a0_5 a0_6 a0_7 a0_8 (rd y105 t108) (IntKind.u64.wrap ((Int.tmod a0_1 20) * 8)) (IntKind.u64.wrap (1 + (Int.tmod a0_2 60))) t110 (wrap64 (1 + t111)) ji13 t112 a0_7 a0_8)))))) else (none)) else (none))) = some (r1, r2, r3, r4, r5, r6, r7, r8, r9) := by first | (rw [hy105]; with_reducible exact H) | (have H2_ := (Option.bind_some _ _).symm.trans H; rw [hy105]; with_reducible exact H2_) | (have H2_ := (Option.bind_some _ _).symm.trans H; with_reducible exact H2_) | with_reducible exact H | (rw [hy105]; exact H) | exact H
   have Ny105 := Aside0.mk hy105
   clear hy105
   replace H := Option.bind_eq_some_iff.mp H
   obtain ⟨t108, A140, H⟩ := H
   replace H : (if 0 ≤ t108 then (if t108 < (y105.length : Int) then ((platformfwhelp_Mod.f a0_3 400).bind fun t110 => ((platformfwhelp_Mod.f a0_4 100).bind fun t111 => ((platformfwhelp_Mod.f a0_6 3).bind fun t112 => ((platformfwhelp_Mod.f a0_4 9).bind fun t114 => (if t114 = 8 then ((platformfwhelp_Mod.f a0_3 3).bind fun t115 => (platformfwlaw11_spec.j0 k (rd y105 t108) a0_0 a0_1 a0_2 a0_3 a0_4 a0_5 a0_6 a0_7 a0_8 (rd y105 t108) (IntKind.u64.wrap ((Int.tmod a0_1 20) * 8)) (IntKind.u64.wrap (1 + (Int.tmod a0_2 60))) t110 (wrap64 (256 - t115)) ji13 t112 a0_7 a0_8)) else (platformfwlaw11_spec.j0 k (rd y105 t108) a0_0 a0_1 a0_2 a0_3 a0_4 a0_5 a0_6 a0_7 a0_8 (rd y105 t108) (IntKind.u64.wrap ((Int.tmod a0_1 20) * 8)) (IntKind.u64.wrap (1 + (Int.tmod a0_2 60))) t110 (wrap64 (1 + t111)) ji13 t112 a0_7 a0_8)))))) else (none)) else (none)) = some (r1, r2, r3, r4, r5, r6, r7, r8, r9) := H
   have A14 := Aside0.mk A140
   clear A140
   by_cases c15 : 0 ≤ t108
   ·rw [if_pos c15] at H
    have c15b0 : decide (0 ≤ t108) = true := decide_eq_true c15
    clear c15
    by_cases c16 : t108 < (y105.length : Int)
    ·rw [if_pos c16] at H
     have c16b0 : decide (t108 < (y105.length : Int)) = true := decide_eq_true c16
     clear c16
     replace H := Option.bind_eq_some_iff.mp H
     obtain ⟨t110, A170, H⟩ := H
     replace H : ((platformfwhelp_Mod.f a0_4 100).bind fun t111 => ((platformfwhelp_Mod.f a0_6 3).bind fun t112 => ((platformfwhelp_Mod.f a0_4 9).bind fun t114 => (if t114 = 8 then ((platformfwhelp_Mod.f a0_3 3).bind fun t115 => (platformfwlaw11_spec.j0 k (rd y105 t108) a0_0 a0_1 a0_2 a0_3 a0_4 a0_5 a0_6 a0_7 a0_8 (rd y105 t108) (IntKind.u64.wrap ((Int.tmod a0_1 20) * 8)) (IntKind.u64.wrap (1 + (Int.tmod a0_2 60))) t110 (wrap64 (256 - t115)) ji13 t112 a0_7 a0_8)) else (platformfwlaw11_spec.j0 k (rd y105 t108) a0_0 a0_1 a0_2 a0_3 a0_4 a0_5 a0_6 a0_7 a0_8 (rd y105 t108) (IntKind.u64.wrap ((Int.tmod a0_1 20) * 8)) (IntKind.u64.wrap (1 + (Int.tmod a0_2 60))) t110 (wrap64 (1 + t111)) ji13 t112 a0_7 a0_8))))) = some (r1, r2, r3, r4, r5, r6, r7, r8, r9) := H
     have A17 := Aside0.mk A170
     clear A170
     replace H := Option.bind_eq_some_iff.mp H
     obtain ⟨t111, A180, H⟩ := H
     replace H : ((platformfwhelp_Mod.f a0_6 3).bind fun t112 => ((platformfwhelp_Mod.f a0_4 9).bind fun t114 => (if t114 = 8 then ((platformfwhelp_Mod.f a0_3 3).bind fun t115 => (platformfwlaw11_spec.j0 k (rd y105 t108) a0_0 a0_1 a0_2 a0_3 a0_4 a0_5 a0_6 a0_7 a0_8 (rd y105 t108) (IntKind.u64.wrap ((Int.tmod a0_1 20) * 8)) (IntKind.u64.wrap (1 + (Int.tmod a0_2 60))) t110 (wrap64 (256 - t115)) ji13 t112 a0_7 a0_8)) else (platformfwlaw11_spec.j0 k (rd y105 t108) a0_0 a0_1 a0_2 a0_3 a0_4 a0_5 a0_6 a0_7 a0_8 (rd y105 t108) (IntKind.u64.wrap ((Int.tmod a0_1 20) * 8)) (IntKind.u64.wrap (1 + (Int.tmod a0_2 60))) t110 (wrap64 (1 + t111)) ji13 t112 a0_7 a0_8)))) = some (r1, r2, r3, r4, r5, r6, r7, r8, r9) := H
     have A18 := Aside0.mk A180
     clear A180
     replace H := Option.bind_eq_some_iff.mp H
     obtain ⟨t112, A190, H⟩ := H
     replace H : ((platformfwhelp_Mod.f a0_4 9).bind fun t114 => (if t114 = 8 then ((platformfwhelp_Mod.f a0_3 3).bind fun t115 => (platformfwlaw11_spec.j0 k (rd y105 t108) a0_0 a0_1 a0_2 a0_3 a0_4 a0_5 a0_6 a0_7 a0_8 (rd y105 t108) (IntKind.u64.wrap ((Int.tmod a0_1 20) * 8)) (IntKind.u64.wrap (1 + (Int.tmod a0_2 60))) t110 (wrap64 (256 - t115)) ji13 t112 a0_7 a0_8)) else (platformfwlaw11_spec.j0 k (rd y105 t108) a0_0 a0_1 a0_2 a0_3 a0_4 a0_5 a0_6 a0_7 a0_8 (rd y105 t108) (IntKind.u64.wrap ((Int.tmod a0_1 20) * 8)) (IntKind.u64.wrap (1 + (Int.tmod a0_2 60))) t110 (wrap64 (1 + t111)) ji13 t112 a0_7 a0_8))) = some (r1, r2, r3, r4, r5, r6, r7, r8, r9) := H
     have A19 := Aside0.mk A190
     clear A190
     replace H := Option.bind_eq_some_iff.mp H
     obtain ⟨t114, A200, H⟩ := H
     replace H : (if t114 = 8 then ((platformfwhelp_Mod.f a0_3 3).bind fun t115 => (platformfwlaw11_spec.j0 k (rd y105 t108) a0_0 a0_1 a0_2 a0_3 a0_4 a0_5 a0_6 a0_7 a0_8 (rd y105 t108) (IntKind.u64.wrap ((Int.tmod a0_1 20) * 8)) (IntKind.u64.wrap (1 + (Int.tmod a0_2 60))) t110 (wrap64 (256 - t115)) ji13 t112 a0_7 a0_8)) else (platformfwlaw11_spec.j0 k (rd y105 t108) a0_0 a0_1 a0_2 a0_3 a0_4 a0_5 a0_6 a0_7 a0_8 (rd y105 t108) (IntKind.u64.wrap ((Int.tmod a0_1 20) * 8)) (IntKind.u64.wrap (1 + (Int.tmod a0_2 60))) t110 (wrap64 (1 + t111)) ji13 t112 a0_7 a0_8)) = some (r1, r2, r3, r4, r5, r6, r7, r8, r9) := H
     have A20 := Aside0.mk A200
     clear A200
     have HC21 := Aside0.mk H
     clear H
     go_enter Try.func15, Try.ntmps15
     try go_wp2_with (first | ((with_reducible refine gate_dst (N := 1) rfl ?_); refine box_event ?hg (N := 1) ?hd (cs := #[.int .i64 a0_0, .int .u64 a0_1, .int .u64 a0_2, .int .i64 a0_3, .int .i64 a0_4, .int .i64 a0_5, .int .i64 a0_6, .int .i64 a0_7, .int .i64 a0_8]) (t := 26) ?hr ?_; (case hd => rfl); (case hg => rfl); (case hr => first | (go_simp; done) | (go_simp; rfl)); intro gb101 hg w22 hbox hb; have n0_ := Aside0.mk (below_step (by repeat (first | (with_reducible first | exact HB.out | apply bA_ | apply bN_ | apply bD_) | exact HB.out)) hb); have n1_ := Aside0.mk (hbox); have n2_ := Aside0.mk ((by rw [hg]; exact (below_size (by repeat (first | (with_reducible first | exact HB.out | apply bA_ | apply bN_ | apply bD_) | exact HB.out))) : w.heap.size ≤ gb101)); have n3_ := Aside0.mk ((by rw [hg]; exact (below_size (by repeat (first | (with_reducible first | exact HB.out | apply bA_ | apply bN_ | apply bD_) | exact HB.out))) : w.heap.size ≤ gb101)); clear HB; have HB := n0_; have BK101 := n1_; have GW101 := n2_; have GE101 := n3_; clear n0_ n1_ n2_ n3_; clear hb hbox hg) | ((with_reducible refine gate_dst (N := 2) rfl ?_); refine box_event ?hg (N := 2) ?hd (cs := #[.int .i64 0, .int .u64 0, .int .u64 0, .int .i64 0, .int .i64 0, .int .i64 0, .int .i64 0, .int .i64 0, .int .i64 0]) (t := 26) ?hr ?_; (case hd => rfl); (case hg => rfl); (case hr => first | (go_simp; done) | (go_simp; rfl)); intro gb102 hg w23 hbox hb; have n0_ := Aside0.mk (blk_below (g := gb101) (o := .cells #[.int .i64 a0_0, .int .u64 a0_1, .int .u64 a0_2, .int .i64 a0_3, .int .i64 a0_4, .int .i64 a0_5, .int .i64 a0_6, .int .i64 a0_7, .int .i64 a0_8] 26 (0, 0)) (by (with_reducible repeat (first | refine kN_ ?_ _ | refine kD_ ?_ | refine kA_ ?_ _)); exact BK101.out) hb); have n1_ := Aside0.mk (below_step (by repeat (first | (with_reducible first | exact HB.out | apply bA_ | apply bN_ | apply bD_ | refine bS_ ?_ GE101.out) | exact HB.out)) hb); have n2_ := Aside0.mk (hbox); have n3_ := Aside0.mk ((by rw [hg]; exact (below_size (by repeat (first | (with_reducible first | exact HB.out | apply bA_ | apply bN_ | apply bD_ | refine bS_ ?_ GE101.out) | exact HB.out))) : w.heap.size ≤ gb102)); have n4_ := Aside0.mk ((by rw [hg]; exact (below_size (by repeat (first | (with_reducible first | exact HB.out | apply bA_ | apply bN_ | apply bD_ | refine bS_ ?_ GE101.out) | exact HB.out))) : w.heap.size ≤ gb102)); have n5_ := Aside0.mk ((by rw [hg]; exact Nat.ne_of_lt (blk_lt (g := gb101) (o := .cells #[.int .i64 a0_0, .int .u64 a0_1, .int .u64 a0_2, .int .i64 a0_3, .int .i64 a0_4, .int .i64 a0_5, .int .i64 a0_6, .int .i64 a0_7, .int .i64 a0_8] 26 (0, 0)) (by (with_reducible repeat (first | refine kN_ ?_ _ | refine kD_ ?_ | refine kA_ ?_ _)); exact BK101.out)) : gb101 ≠ gb102)); have n6_ := Aside0.mk ((by rw [hg]; exact Nat.ne_of_gt (blk_lt (g := gb101) (o := .cells #[.int .i64 a0_0, .int .u64 a0_1, .int .u64 a0_2, .int .i64 a0_3, .int .i64 a0_4, .int .i64 a0_5, .int .i64 a0_6, .int .i64 a0_7, .int .i64 a0_8] 26 (0, 0)) (by (with_reducible repeat (first | refine kN_ ?_ _ | refine kD_ ?_ | refine kA_ ?_ _)); exact BK101.out)) : gb102 ≠ gb101)); clear BK101; clear HB; have BK101 := n0_; have HB := n1_; have BK102 := n2_; have GW102 := n3_; have GE102 := n4_; have NB101_102 := n5_; have NB102_101 := n6_; clear n0_ n1_ n2_ n3_ n4_ n5_ n6_; clear hb hbox hg; have hnb24 := NB101_102.out; have hnc24 := NB102_101.out; obtain ⟨hcz25_0, hcz25_1, hcz25_2, hcz25_3, hcz25_4, hcz25_5, hcz25_6, hcz25_7, hcz25_8⟩ := cells9_ BK101.out; obtain ⟨hfz25_0, hfz25_1, hfz25_2, hfz25_3, hfz25_4, hfz25_5, hfz25_6, hfz25_7, hfz25_8⟩ := froz9_ BK101.out) | ((with_reducible refine gate_callee (f := 28) rfl ?_); refine goesL_ (some 8) rfl rfl Try.func28 (by kernel_rfl) rfl #[.int .i64 a0_7, .int .i64 8] rfl (by (try simp only [List.map_toArray, List.map_cons, List.map_nil]); first | done | rfl | (simp only [List.length_drop, List.length_take]; rfl)) ?_; (with_reducible refine (platformfwhelp_Mod.calls a0_7 8 t103 _ A2.out).mono ?_); rintro e w' ⟨rfl, ⟨nd, rfl⟩⟩; refine ⟨_, rfl, ?_⟩; (try (rw [drewN_self w23]; generalize hq_ : World.drewN w23 _ = w23; have n0_ : Aside0 (w23.heap[gb101]? = some (.cells #[.int .i64 a0_0, .int .u64 a0_1, .int .u64 a0_2, .int .i64 a0_3, .int .i64 a0_4, .int .i64 a0_5, .int .i64 a0_6, .int .i64 a0_7, .int .i64 a0_8] 26 (0, 0))) := ⟨by rw [← hq_]; exact (by (with_reducible repeat (first | refine kN_ ?_ _ | refine kD_ ?_ | refine kA_ ?_ _)); exact BK101.out)⟩; have n1_ : Aside0 (w23.heap[gb102]? = some (.cells #[.int .i64 0, .int .u64 0, .int .u64 0, .int .i64 0, .int .i64 0, .int .i64 0, .int .i64 0, .int .i64 0, .int .i64 0] 26 (0, 0))) := ⟨by rw [← hq_]; exact (by (with_reducible repeat (first | refine kN_ ?_ _ | refine kD_ ?_ | refine kA_ ?_ _)); exact BK102.out)⟩; have n2_ : Aside0 (Below w.heap.size w w23) := ⟨by rw [← hq_]; exact (by repeat (first | (with_reducible first | exact HB.out | apply bA_ | apply bN_ | apply bD_ | refine bS_ ?_ GE101.out | refine bS_ ?_ GE102.out) | exact HB.out))⟩; clear BK101 BK102 HB hq_; have BK101 := n0_; have BK102 := n1_; have HB := n2_; clear n0_ n1_ n2_)); obtain ⟨hcz26_0, hcz26_1, hcz26_2, hcz26_3, hcz26_4, hcz26_5, hcz26_6, hcz26_7, hcz26_8⟩ := cells9_ BK101.out; obtain ⟨hfz26_0, hfz26_1, hfz26_2, hfz26_3, hfz26_4, hfz26_5, hfz26_6, hfz26_7, hfz26_8⟩ := froz9_ BK101.out) | ((with_reducible refine gate_callee (f := 28) rfl ?_); refine goesL_ (some 13) rfl rfl Try.func28 (by kernel_rfl) rfl #[.int .i64 a0_5, .int .i64 4] rfl (by (try simp only [List.map_toArray, List.map_cons, List.map_nil]); first | done | rfl | (simp only [List.length_drop, List.length_take]; rfl)) ?_; (with_reducible refine (platformfwhelp_Mod.calls a0_5 4 t104 _ A10.out).mono ?_); rintro e w' ⟨rfl, ⟨nd, rfl⟩⟩; refine ⟨_, rfl, ?_⟩; (try (rw [drewN_self w23]; generalize hq_ : World.drewN w23 _ = w23; have n0_ : Aside0 (w23.heap[gb101]? = some (.cells #[.int .i64 a0_0, .int .u64 a0_1, .int .u64 a0_2, .int .i64 a0_3, .int .i64 a0_4, .int .i64 a0_5, .int .i64 a0_6, .int .i64 a0_7, .int .i64 a0_8] 26 (0, 0))) := ⟨by rw [← hq_]; exact (by (with_reducible repeat (first | refine kN_ ?_ _ | refine kD_ ?_ | refine kA_ ?_ _)); exact BK101.out)⟩; have n1_ : Aside0 (w23.heap[gb102]? = some (.cells #[.int .i64 0, .int .u64 0, .int .u64 0, .int .i64 0, .int .i64 0, .int .i64 0, .int .i64 0, .int .i64 0, .int .i64 0] 26 (0, 0))) := ⟨by rw [← hq_]; exact (by (with_reducible repeat (first | refine kN_ ?_ _ | refine kD_ ?_ | refine kA_ ?_ _)); exact BK102.out)⟩; have n2_ : Aside0 (Below w.heap.size w w23) := ⟨by rw [← hq_]; exact (by repeat (first | (with_reducible first | exact HB.out | apply bA_ | apply bN_ | apply bD_ | refine bS_ ?_ GE101.out | refine bS_ ?_ GE102.out) | exact HB.out))⟩; clear BK101 BK102 HB hq_; have BK101 := n0_; have BK102 := n1_; have HB := n2_; clear n0_ n1_ n2_))) | ((with_reducible refine gate_dst (N := 16) rfl ?_); refine Kd.R_lit (Kd.int .i64) _ 3 ?hg (N := 16) ?hd (xs := ([0, 1, 3, 0] : List Int)) (inner := [.int .i64 0, .int .i64 1, .int .i64 3, .int .i64 0]) (ok := fun _ => True) (okp := fun _ => True) ?hr ?hp (fun _ hk => hk) trivial (Below.refl _ _) (Nat.le_refl _) (by simp) ?_; (case hd => rfl); (case hg => rfl); (case hr => first | (go_simp; done) | (go_simp; rfl)); (case hp => exact (Reps.one (show Kd.M (Kd.int .i64) _ _ _ 0 [.int .i64 0] from rfl) (Reps.one (show Kd.M (Kd.int .i64) _ _ _ 1 [.int .i64 1] from rfl) (Reps.one (show Kd.M (Kd.int .i64) _ _ _ 3 [.int .i64 3] from rfl) (Reps.one (show Kd.M (Kd.int .i64) _ _ _ 0 [.int .i64 0] from rfl) (Reps.none _ _)))))); intro v106 w27 ho28 hb hg_ hnew_; clear hg_ hnew_; (first | rw [← Ny105.out] at ho28 | (simp only [Int.reduceToNat] at ho28; rw [← Ny105.out] at ho28)); have n0_ := Aside0.mk (Kd.R_lower ho28 (below_size (by repeat (first | (with_reducible first | exact HB.out | apply bA_ | apply bN_ | apply bD_ | refine bS_ ?_ GE101.out | refine bS_ ?_ GE102.out) | exact HB.out)))); have n1_ := Aside0.mk (blk_below (g := gb101) (o := .cells #[.int .i64 a0_0, .int .u64 a0_1, .int .u64 a0_2, .int .i64 a0_3, .int .i64 a0_4, .int .i64 a0_5, .int .i64 a0_6, .int .i64 a0_7, .int .i64 a0_8] 26 (0, 0)) (by (with_reducible repeat (first | refine kN_ ?_ _ | refine kD_ ?_ | refine kA_ ?_ _)); exact BK101.out) hb); have n2_ := Aside0.mk (blk_below (g := gb102) (o := .cells #[.int .i64 0, .int .u64 0, .int .u64 0, .int .i64 0, .int .i64 0, .int .i64 0, .int .i64 0, .int .i64 0, .int .i64 0] 26 (0, 0)) (by (with_reducible repeat (first | refine kN_ ?_ _ | refine kD_ ?_ | refine kA_ ?_ _)); exact BK102.out) hb); have n3_ := Aside0.mk (below_step (by repeat (first | (with_reducible first | exact HB.out | apply bA_ | apply bN_ | apply bD_ | refine bS_ ?_ GE101.out | refine bS_ ?_ GE102.out) | exact HB.out)) hb); clear BK101; clear BK102; clear HB; have HO107 := n0_; have BK101 := n1_; have BK102 := n2_; have HB := n3_; clear n0_ n1_ n2_ n3_; clear hb ho28; obtain ⟨hcz29_0, hcz29_1, hcz29_2, hcz29_3, hcz29_4, hcz29_5, hcz29_6, hcz29_7, hcz29_8⟩ := cells9_ BK101.out; obtain ⟨hfz29_0, hfz29_1, hfz29_2, hfz29_3, hfz29_4, hfz29_5, hfz29_6, hfz29_7, hfz29_8⟩ := froz9_ BK101.out) | ((with_reducible refine gate_callee (f := 28) rfl ?_); refine goesL_ (some 20) rfl rfl Try.func28 (by kernel_rfl) rfl #[.int .i64 a0_0, .int .i64 4] rfl (by (try simp only [List.map_toArray, List.map_cons, List.map_nil]); first | done | rfl | (simp only [List.length_drop, List.length_take]; rfl)) ?_; (with_reducible refine (platformfwhelp_Mod.calls a0_0 4 t108 _ A14.out).mono ?_); rintro e w' ⟨rfl, ⟨nd, rfl⟩⟩; refine ⟨_, rfl, ?_⟩; (try (rw [drewN_self w27]; generalize hq_ : World.drewN w27 _ = w27; have n0_ : Aside0 (Kd.R (Kd.int .i64) 3 w27 w.heap.size (fun _ => True) v106 y105) := ⟨by rw [← hq_]; exact (by (with_reducible repeat (first | apply Kd.R_alloc | apply Kd.R_drewN | apply Kd.R_drew)); exact HO107.out)⟩; have n1_ : Aside0 (w27.heap[gb101]? = some (.cells #[.int .i64 a0_0, .int .u64 a0_1, .int .u64 a0_2, .int .i64 a0_3, .int .i64 a0_4, .int .i64 a0_5, .int .i64 a0_6, .int .i64 a0_7, .int .i64 a0_8] 26 (0, 0))) := ⟨by rw [← hq_]; exact (by (with_reducible repeat (first | refine kN_ ?_ _ | refine kD_ ?_ | refine kA_ ?_ _)); exact BK101.out)⟩; have n2_ : Aside0 (w27.heap[gb102]? = some (.cells #[.int .i64 0, .int .u64 0, .int .u64 0, .int .i64 0, .int .i64 0, .int .i64 0, .int .i64 0, .int .i64 0, .int .i64 0] 26 (0, 0))) := ⟨by rw [← hq_]; exact (by (with_reducible repeat (first | refine kN_ ?_ _ | refine kD_ ?_ | refine kA_ ?_ _)); exact BK102.out)⟩; have n3_ : Aside0 (Below w.heap.size w w27) := ⟨by rw [← hq_]; exact (by repeat (first | (with_reducible first | exact HB.out | apply bA_ | apply bN_ | apply bD_ | refine bS_ ?_ GE101.out | refine bS_ ?_ GE102.out) | exact HB.out))⟩; clear HO107 BK101 BK102 HB hq_; have HO107 := n0_; have BK101 := n1_; have BK102 := n2_; have HB := n3_; clear n0_ n1_ n2_ n3_)); obtain ⟨Ao30, co30, eo30⟩ := Kd.R_slice HO107.out; subst eo30; have p109 : 0 ≤ (t108 : Int) := of_decide_eq_true (by first | (with_reducible assumption) | assumption); have q109 : t108 < (y105.length : Int) := of_decide_eq_true (by first | (with_reducible assumption) | assumption); obtain ⟨ad109, e109, hx109_0⟩ := Kd.at_int (Kd.R_reads' HO107.out).2.2 t108 p109 q109; cases e109; replace p109 := eq_true p109; replace q109 := eq_true q109))
     have n0_ := Aside0.mk (Kd.R_drew HO107.out)
     have n1_ := Aside0.mk (kD_ BK101.out)
     have n2_ := Aside0.mk (kD_ BK102.out)
     have n3_ := Aside0.mk (bD_ HB.out)
     clear HO107
     clear BK101
     clear BK102
     clear HB
     have HO107 := n0_
     have BK101 := n1_
     have BK102 := n2_
     have HB := n3_
     clear n0_ n1_ n2_ n3_
     refine start_ (n := 30) (S := fun w' => w'.cell? ⟨gb101, 0, none⟩ = some (.int .i64 a0_0) ∧ w'.cell? ⟨gb101, 1, none⟩ = some (.int .u64 a0_1) ∧ w'.cell? ⟨gb101, 2, none⟩ = some (.int .u64 a0_2) ∧ w'.cell? ⟨gb101, 3, none⟩ = some (.int .i64 a0_3) ∧ w'.cell? ⟨gb101, 4, none⟩ = some (.int .i64 a0_4) ∧ w'.cell? ⟨gb101, 5, none⟩ = some (.int .i64 a0_5) ∧ w'.cell? ⟨gb101, 6, none⟩ = some (.int .i64 a0_6) ∧ w'.cell? ⟨gb101, 7, none⟩ = some (.int .i64 a0_7) ∧ w'.cell? ⟨gb101, 8, none⟩ = some (.int .i64 a0_8)) (ds := []) #[false, false, false, false, false, false, false, false, false, false, false, false, false, false, false, false, false, false, false, false, false, false, false, false, false, false, false, false, false, false] (by kernel_rfl) rfl rfl (cells9_ BK101.out) (fun hHeld => ?_); refine with_tabW platformfwlaw11_spec.tab5 platformfwlaw11_spec.bits5 (fun HT_ HW_ => ?_)
     generalize w27.drew = w31 at HO107 BK101 BK102 HB hHeld ⊢
     refine pure_ (i := 0) (N := some 23) (v := ?_) (a' := ?_) (tf 30 1) rfl rfl (any_of HT_.out (by kernel_rfl)) (fun _ _ _ h => h) (Or.inl ⟨by rfl, ?_⟩) ?_ ?_
     rotate_left
     ·intro w'
      go_simp
      with_reducible rfl
     rotate_left
     ·simp only [Act.put, sA_, sB_, sC_, i64_w, i32_w]
      rfl
     refine pure_ (i := 1) (N := some 24) (v := ?_) (a' := ?_) (tf 30 3) rfl rfl (any_of HT_.out (by kernel_rfl)) (fun _ _ _ h => h) (Or.inl ⟨by rfl, ?_⟩) ?_ ?_
     rotate_left
     ·intro w'
      go_simp
      with_reducible rfl
     rotate_left
     ·simp only [Act.put, sA_, sB_, sC_, i64_w, i32_w]
      rfl
     refine pure_ (i := 2) (N := some 25) (v := ?_) (a' := ?_) (tf 30 7) rfl rfl (any_of HT_.out (by kernel_rfl)) (fun _ _ _ h => h) (Or.inl ⟨by rfl, ?_⟩) ?_ ?_
     rotate_left
     ·intro w'
      go_simp
      with_reducible rfl
     rotate_left
     ·simp only [Act.put, sA_, sB_, sC_, i64_w, i32_w]
      rfl
     refine pure_ (i := 6) (N := some 29) (v := ?_) (a' := ?_) (tf 30 71) rfl rfl (any_of HT_.out (by kernel_rfl)) (fun _ _ _ h => h) (Or.inl ⟨by rfl, ?_⟩) ?_ ?_
     rotate_left
     ·intro w'
      go_simp
      with_reducible rfl
     rotate_left
     ·simp only [Act.put, sA_, sB_, sC_, i64_w, i32_w]
      rfl
     refine pure_ (i := 7) (N := some 30) (v := ?_) (a' := ?_) (tf 30 199) rfl rfl (any_of HT_.out (by kernel_rfl)) (fun _ _ _ h => h) (Or.inl ⟨by rfl, ?_⟩) ?_ ?_
     rotate_left
     ·intro w'
      go_simp
      with_reducible rfl
     rotate_left
     ·simp only [Act.put, sA_, sB_, sC_, i64_w, i32_w]
      rfl
     refine pure_ (i := 12) (N := some 35) (v := ?_) (a' := ?_) (tf 30 4295) rfl rfl (any_of HT_.out (by kernel_rfl)) (fun _ _ _ h => h) (Or.inl ⟨by rfl, ?_⟩) ?_ ?_
     rotate_left
     ·intro w'
      go_simp
      with_reducible rfl
     rotate_left
     ·simp only [Act.put, sA_, sB_, sC_, i64_w, i32_w]
      rfl
     refine pure_ (i := 15) (N := some 38) (v := ?_) (a' := ?_) (tf 30 37063) rfl rfl (any_of HT_.out (by kernel_rfl)) (fun _ _ _ h => h) (Or.inl ⟨by rfl, ?_⟩) ?_ ?_
     rotate_left
     ·intro w'
      go_simp
      with_reducible rfl
     rotate_left
     ·simp only [Act.put, sA_, sB_, sC_, i64_w, i32_w]
      rfl
     refine pure_ (i := 19) (N := some 42) (v := ?_) (a' := ?_) (tf 30 561351) rfl rfl (any_of HT_.out (by kernel_rfl)) (fun _ _ _ h => h) (Or.inl ⟨by rfl, ?_⟩) ?_ ?_
     rotate_left
     ·intro w'
      go_simp
      with_reducible rfl
     rotate_left
     ·simp only [Act.put, sA_, sB_, sC_, i64_w, i32_w]
      rfl
     refine pure_ (i := 20) (N := some 43) (v := ?_) (a' := ?_) (tf 30 1609927) rfl rfl (any_of HT_.out (by kernel_rfl)) (fun _ _ _ h => h) (Or.inl ⟨by rfl, ?_⟩) ?_ ?_
     rotate_left
     ·intro w'
      go_simp
      with_reducible rfl
     rotate_left
     ·simp only [Act.put, sA_, sB_, sC_, i64_w, i32_w]
      rfl
     refine pure_ (i := 23) (N := some 46) (v := ?_) (a' := ?_) (tf 30 9998535) rfl rfl (any_of HT_.out (by kernel_rfl)) (fun _ _ _ h => h) (Or.inl ⟨by rfl, ?_⟩) ?_ ?_
     rotate_left
     ·intro w'
      go_simp
      with_reducible rfl
     rotate_left
     ·simp only [Act.put, sA_, sB_, sC_, i64_w, i32_w]
      rfl
     refine pure_ (i := 25) (N := some 48) (v := ?_) (a' := ?_) (tf 30 43552967) rfl rfl (any_of HT_.out (by kernel_rfl)) (fun _ _ _ h => h) (Or.inl ⟨by rfl, ?_⟩) ?_ ?_
     rotate_left
     ·intro w'
      go_simp
      with_reducible rfl
     rotate_left
     ·simp only [Act.put, sA_, sB_, sC_, i64_w, i32_w]
      rfl
     refine take_ (i := 3) (N := some 26) (v := ?_) (a' := ?_) (tf 30 43552975) rfl rfl (take_ofW HT_.out HW_.out (by kernel_rfl)) (fun _ _ _ h => h) (Or.inl ⟨by rfl, ?_⟩) hHeld ?_ ?_
     rotate_left
     ·rintro w' ⟨s0, s1, s2, s3, s4, s5, s6, s7, s8⟩
      go_simp
      with_reducible rfl
     rotate_left
     ·simp only [Act.put, sA_, sB_, sC_, i64_w, i32_w]
      rfl
     refine pure_ (i := 4) (N := some 27) (v := ?_) (a' := ?_) (tf 30 43552991) rfl rfl (any_of HT_.out (by kernel_rfl)) (fun _ _ _ h => h) (Or.inl ⟨by rfl, ?_⟩) ?_ ?_
     rotate_left
     ·intro w'
      go_simp
      with_reducible rfl
     rotate_left
     ·simp only [Act.put, sA_, sB_, sC_, i64_w, i32_w]
      rfl
     refine pure_ (i := 5) (N := some 28) (v := ?_) (a' := ?_) (tf 30 43553023) rfl rfl (any_of HT_.out (by kernel_rfl)) (fun _ _ _ h => h) (Or.inl ⟨by rfl, ?_⟩) ?_ ?_
     rotate_left
     ·intro w'
      go_simp
      with_reducible rfl
     rotate_left
     ·simp only [Act.put, sA_, sB_, sC_, i64_w, i32_w]
      rfl
     refine take_ (i := 8) (N := some 31) (v := ?_) (a' := ?_) (tf 30 43553279) rfl rfl (take_ofW HT_.out HW_.out (by kernel_rfl)) (fun _ _ _ h => h) (Or.inl ⟨by rfl, ?_⟩) hHeld ?_ ?_
     rotate_left
     ·rintro w' ⟨s0, s1, s2, s3, s4, s5, s6, s7, s8⟩
      go_simp
      with_reducible rfl
     rotate_left
     ·simp only [Act.put, sA_, sB_, sC_, i64_w, i32_w]
      rfl
     refine pure_ (i := 9) (N := some 32) (v := ?_) (a' := ?_) (tf 30 43553791) rfl rfl (any_of HT_.out (by kernel_rfl)) (fun _ _ _ h => h) (Or.inl ⟨by rfl, ?_⟩) ?_ ?_
     rotate_left
     ·intro w'
      go_simp
      with_reducible rfl
     rotate_left
     ·simp only [Act.put, sA_, sB_, sC_, i64_w, i32_w]
      rfl
     refine pure_ (i := 10) (N := some 33) (v := ?_) (a' := ?_) (tf 30 43554815) rfl rfl (any_of HT_.out (by kernel_rfl)) (fun _ _ _ h => h) (Or.inl ⟨by rfl, ?_⟩) ?_ ?_
     rotate_left
     ·intro w'
      go_simp
      with_reducible rfl
     rotate_left
     ·simp only [Act.put, sA_, sB_, sC_, i64_w, i32_w]
      rfl
     refine pure_ (i := 11) (N := some 34) (v := ?_) (a' := ?_) (tf 30 43556863) rfl rfl (any_of HT_.out (by kernel_rfl)) (fun _ _ _ h => h) (Or.inl ⟨by rfl, ?_⟩) ?_ ?_
     rotate_left
     ·intro w'
      go_simp
      with_reducible rfl
     rotate_left
     ·simp only [Act.put, sA_, sB_, sC_, i64_w, i32_w]
      rfl
     refine take_ (i := 13) (N := some 36) (v := ?_) (a' := ?_) (tf 30 43565055) rfl rfl (take_ofW HT_.out HW_.out (by kernel_rfl)) (fun _ _ _ h => h) (Or.inl ⟨by rfl, ?_⟩) hHeld ?_ ?_
     rotate_left
     ·rintro w' ⟨s0, s1, s2, s3, s4, s5, s6, s7, s8⟩
      go_simp
      with_reducible rfl
     rotate_left
     ·simp only [Act.put, sA_, sB_, sC_, i64_w, i32_w]
      rfl
     refine take_ (i := 16) (N := some 39) (v := ?_) (a' := ?_) (tf 30 43630591) rfl rfl (take_ofW HT_.out HW_.out (by kernel_rfl)) (fun _ _ _ h => h) (Or.inl ⟨by rfl, ?_⟩) hHeld ?_ ?_
     rotate_left
     ·rintro w' ⟨s0, s1, s2, s3, s4, s5, s6, s7, s8⟩
      go_simp
      with_reducible rfl
     rotate_left
     ·simp only [Act.put, sA_, sB_, sC_, i64_w, i32_w]
      rfl
     refine take_ (i := 21) (N := some 44) (v := ?_) (a' := ?_) (tf 30 45727743) rfl rfl (take_ofW HT_.out HW_.out (by kernel_rfl)) (fun _ _ _ h => h) (Or.inl ⟨by rfl, ?_⟩) hHeld ?_ ?_
     rotate_left
     ·rintro w' ⟨s0, s1, s2, s3, s4, s5, s6, s7, s8⟩
      go_simp
      with_reducible rfl
     rotate_left
     ·simp only [Act.put, sA_, sB_, sC_, i64_w, i32_w]
      rfl
     refine take_ (i := 24) (N := some 47) (v := ?_) (a' := ?_) (tf 30 62504959) rfl rfl (take_ofW HT_.out HW_.out (by kernel_rfl)) (fun _ _ _ h => h) (Or.inl ⟨by rfl, ?_⟩) hHeld ?_ ?_
     rotate_left
     ·rintro w' ⟨s0, s1, s2, s3, s4, s5, s6, s7, s8⟩
      go_simp
      with_reducible rfl
     rotate_left
     ·simp only [Act.put, sA_, sB_, sC_, i64_w, i32_w]
      rfl
     refine take_ (i := 26) (N := some 49) (v := ?_) (a' := ?_) (tf 30 129613823) rfl rfl (take_ofW HT_.out HW_.out (by kernel_rfl)) (fun _ _ _ h => h) (Or.inl ⟨by rfl, ?_⟩) hHeld ?_ ?_
     rotate_left
     ·rintro w' ⟨s0, s1, s2, s3, s4, s5, s6, s7, s8⟩
      go_simp
      with_reducible rfl
     rotate_left
     ·simp only [Act.put, sA_, sB_, sC_, i64_w, i32_w]
      rfl
     refine join_ (σ := Nat) 1 #[true, true, true, true, true, true, true, true, true, true, true, true, true, true, true, true, true, true, true, true, true, true, true, true, true, true, true, true, true, false] (fun s_ => [(37, .int .i64 t110), (40, .int .i64 t111), (45, .int .i64 t112), (5, .pointer (some ⟨s_, 0, none⟩)), (41, .int .i64 (wrap64 (1 + t111))), (50, .agg #[.int .i64 (rd y105 t108), .int .u64 (IntKind.u64.wrap ((Int.tmod a0_1 20) * 8)), .int .u64 (IntKind.u64.wrap (1 + (Int.tmod a0_2 60))), .int .i64 t110, .int .i64 (wrap64 (1 + t111)), .int .i64 ji13, .int .i64 t112, .int .i64 a0_7, .int .i64 a0_8])]) (fun s_ w' => (w'.cell? ⟨gb101, 0, none⟩ = some (.int .i64 a0_0) ∧ w'.cell? ⟨gb101, 1, none⟩ = some (.int .u64 a0_1) ∧ w'.cell? ⟨gb101, 2, none⟩ = some (.int .u64 a0_2) ∧ w'.cell? ⟨gb101, 3, none⟩ = some (.int .i64 a0_3) ∧ w'.cell? ⟨gb101, 4, none⟩ = some (.int .i64 a0_4) ∧ w'.cell? ⟨gb101, 5, none⟩ = some (.int .i64 a0_5) ∧ w'.cell? ⟨gb101, 6, none⟩ = some (.int .i64 a0_6) ∧ w'.cell? ⟨gb101, 7, none⟩ = some (.int .i64 a0_7) ∧ w'.cell? ⟨gb101, 8, none⟩ = some (.int .i64 a0_8)) ∧ (Kd.R (Kd.int .i64) 3 w' w.heap.size (fun _ => True) (.slice (some ad109) y105.length co30) y105) ∧ (w'.heap[gb101]? = some (.cells #[.int .i64 a0_0, .int .u64 a0_1, .int .u64 a0_2, .int .i64 a0_3, .int .i64 a0_4, .int .i64 a0_5, .int .i64 a0_6, .int .i64 a0_7, .int .i64 a0_8] 26 (0, 0))) ∧ (w'.heap[gb102]? = some (.cells #[.int .i64 0, .int .u64 0, .int .u64 0, .int .i64 0, .int .i64 0, .int .i64 0, .int .i64 0, .int .i64 0, .int .i64 0] 26 (0, 0))) ∧ (w'.heap[s_]? = some (.cells #[.int .i64 0, .int .u64 0, .int .u64 0, .int .i64 0, .int .i64 0, .int .i64 0, .int .i64 0, .int .i64 0, .int .i64 0] 26 (0, 0))) ∧ (w.heap.size ≤ s_) ∧ (w.heap.size ≤ s_) ∧ (gb101 ≠ s_) ∧ (s_ ≠ gb101) ∧ (gb102 ≠ s_) ∧ (s_ ≠ gb102) ∧ (Below w.heap.size w w')) ?_ ?_
     rotate_left
     ·intro hCont
      refine two_ (i := 14) (j := 28) (Ni := some 37) (Nj := some 5) #[true, true, true, true, true, true, true, true, true, true, true, true, true, true, true, true, true, false, false, true, true, true, false, true, true, true, true, false, false, false] #[true, true, true, true, true, true, true, true, true, true, true, true, true, true, false, true, true, false, false, true, true, true, false, true, true, true, true, false, true, false] rfl rfl rfl rfl (two_of HT_.out (by kernel_rfl)) (by decide) (by decide) (fun K hK => ?_) (fun K hK => ?_)
      ·skip
       refine goes_ Try.func28 (by kernel_rfl) rfl #[.int .i64 a0_3, .int .i64 400] (by rfl) rfl rfl (by (try simp only [List.map_toArray, List.map_cons, List.map_nil]); first | done | rfl | (simp only [List.length_drop, List.length_take]; rfl)) ?_
       with_reducible refine (platformfwhelp_Mod.calls a0_3 400 t110 _ A17.out).mono ?_
       rintro e w' ⟨rfl, ⟨nd, rfl⟩⟩
       refine ⟨_, rfl, ?_⟩
       refine hK.out _ _ (cells9_ BK101.out) (fun hHeld => ?_)
       clear hK K
       refine norm_ (a' := ?_) ?_ ?_
       rotate_left
       ·show Act.put _ (some 37) _ = _
        simp only [Act.put, sA_, sB_, sC_, i64_w, i32_w]
        rfl
       refine two_ (i := 17) (j := 28) (Ni := some 40) (Nj := some 5) #[true, true, true, true, true, true, true, true, true, true, true, true, true, true, true, true, true, true, false, true, true, true, false, true, true, true, true, false, false, false] #[true, true, true, true, true, true, true, true, true, true, true, true, true, true, true, true, true, false, false, true, true, true, false, true, true, true, true, false, true, false] rfl rfl rfl rfl (two_of HT_.out (by kernel_rfl)) (by decide) (by decide) (fun K hK => ?_) (fun K hK => ?_)
       ·skip
        refine goes_ Try.func28 (by kernel_rfl) rfl #[.int .i64 a0_4, .int .i64 100] (by rfl) rfl rfl (by (try simp only [List.map_toArray, List.map_cons, List.map_nil]); first | done | rfl | (simp only [List.length_drop, List.length_take]; rfl)) ?_
        with_reducible refine (platformfwhelp_Mod.calls a0_4 100 t111 _ A18.out).mono ?_
        rintro e w' ⟨rfl, ⟨nd, rfl⟩⟩
        refine ⟨_, rfl, ?_⟩
        refine hK.out _ _ (cells9_ BK101.out) (fun hHeld => ?_)
        clear hK K
        refine norm_ (a' := ?_) ?_ ?_
        rotate_left
        ·show Act.put _ (some 40) _ = _
         simp only [Act.put, sA_, sB_, sC_, i64_w, i32_w]
         rfl
        refine pure_ (i := 18) (N := some 41) (v := ?_) (a' := ?_) (tf 30 130023423) rfl rfl (any_of HT_.out (by kernel_rfl)) (fun _ _ _ h => h) (Or.inl ⟨by rfl, ?_⟩) ?_ ?_
        rotate_left
        ·intro w'
         go_simp
         with_reducible rfl
        rotate_left
        ·simp only [Act.put, sA_, sB_, sC_, i64_w, i32_w]
         rfl
        refine two_ (i := 22) (j := 28) (Ni := some 45) (Nj := some 5) #[true, true, true, true, true, true, true, true, true, true, true, true, true, true, true, true, true, true, true, true, true, true, true, true, true, true, true, false, false, false] #[true, true, true, true, true, true, true, true, true, true, true, true, true, true, true, true, true, true, true, true, true, true, false, true, true, true, true, false, true, false] rfl rfl rfl rfl (two_of HT_.out (by kernel_rfl)) (by decide) (by decide) (fun K hK => ?_) (fun K hK => ?_)
        ·skip
         refine goes_ Try.func28 (by kernel_rfl) rfl #[.int .i64 a0_6, .int .i64 3] (by rfl) rfl rfl (by (try simp only [List.map_toArray, List.map_cons, List.map_nil]); first | done | rfl | (simp only [List.length_drop, List.length_take]; rfl)) ?_
         with_reducible refine (platformfwhelp_Mod.calls a0_6 3 t112 _ A19.out).mono ?_
         rintro e w' ⟨rfl, ⟨nd, rfl⟩⟩
         refine ⟨_, rfl, ?_⟩
         refine hK.out _ _ (cells9_ BK101.out) (fun hHeld => ?_)
         clear hK K
         refine norm_ (a' := ?_) ?_ ?_
         rotate_left
         ·show Act.put _ (some 45) _ = _
          simp only [Act.put, sA_, sB_, sC_, i64_w, i32_w]
          rfl
         refine pure_ (i := 27) (N := some 50) (v := ?_) (a' := ?_) (tf 30 268435455) rfl rfl (any_of HT_.out (by kernel_rfl)) (fun _ _ _ h => h) (Or.inl ⟨by rfl, ?_⟩) ?_ ?_
         rotate_left
         ·intro w'
          go_simp
          with_reducible rfl
         rotate_left
         ·simp only [Act.put, sA_, sB_, sC_, i64_w, i32_w]
          rfl
         refine one_ (i := 28) (N := some 5) (tf 30 536870911) rfl rfl (one_of HT_.out (by kernel_rfl)) (by decide) (fun K hK => ?_)
         refine box_step ?hg (N := 5) ?hd (cs := #[.int .i64 0, .int .u64 0, .int .u64 0, .int .i64 0, .int .i64 0, .int .i64 0, .int .i64 0, .int .i64 0, .int .i64 0]) (t := 26) ?hr ?_; (case hd => rfl); (case hg => rfl); (case hr => first | (go_simp; done) | (go_simp; rfl))
         intro gb113 hg w32 hbox hb
         have n0_ := Aside0.mk (Kd.R_below (by (with_reducible repeat (first | apply Kd.R_alloc | apply Kd.R_drewN | apply Kd.R_drew)); exact HO107.out) hb)
         have n1_ := Aside0.mk (blk_below (g := gb101) (o := .cells #[.int .i64 a0_0, .int .u64 a0_1, .int .u64 a0_2, .int .i64 a0_3, .int .i64 a0_4, .int .i64 a0_5, .int .i64 a0_6, .int .i64 a0_7, .int .i64 a0_8] 26 (0, 0)) (by (with_reducible repeat (first | refine kN_ ?_ _ | refine kD_ ?_ | refine kA_ ?_ _)); exact BK101.out) hb)
         have n2_ := Aside0.mk (blk_below (g := gb102) (o := .cells #[.int .i64 0, .int .u64 0, .int .u64 0, .int .i64 0, .int .i64 0, .int .i64 0, .int .i64 0, .int .i64 0, .int .i64 0] 26 (0, 0)) (by (with_reducible repeat (first | refine kN_ ?_ _ | refine kD_ ?_ | refine kA_ ?_ _)); exact BK102.out) hb)
         have n3_ := Aside0.mk (below_step (by repeat (first | (with_reducible first | exact HB.out | apply bA_ | apply bN_ | apply bD_ | refine bS_ ?_ GE101.out | refine bS_ ?_ GE102.out) | exact HB.out)) hb)
         have n4_ := Aside0.mk (hbox)
         have n5_ := Aside0.mk ((by rw [hg]; exact (below_size (by repeat (first | (with_reducible first | exact HB.out | apply bA_ | apply bN_ | apply bD_ | refine bS_ ?_ GE101.out | refine bS_ ?_ GE102.out) | exact HB.out))) : w.heap.size ≤ gb113))
         have n6_ := Aside0.mk ((by rw [hg]; exact (below_size (by repeat (first | (with_reducible first | exact HB.out | apply bA_ | apply bN_ | apply bD_ | refine bS_ ?_ GE101.out | refine bS_ ?_ GE102.out) | exact HB.out))) : w.heap.size ≤ gb113))
         have n7_ := Aside0.mk ((by rw [hg]; exact Nat.ne_of_lt (blk_lt (g := gb101) (o := .cells #[.int .i64 a0_0, .int .u64 a0_1, .int .u64 a0_2, .int .i64 a0_3, .int .i64 a0_4, .int .i64 a0_5, .int .i64 a0_6, .int .i64 a0_7, .int .i64 a0_8] 26 (0, 0)) (by (with_reducible repeat (first | refine kN_ ?_ _ | refine kD_ ?_ | refine kA_ ?_ _)); exact BK101.out)) : gb101 ≠ gb113))
         have n8_ := Aside0.mk ((by rw [hg]; exact Nat.ne_of_gt (blk_lt (g := gb101) (o := .cells #[.int .i64 a0_0, .int .u64 a0_1, .int .u64 a0_2, .int .i64 a0_3, .int .i64 a0_4, .int .i64 a0_5, .int .i64 a0_6, .int .i64 a0_7, .int .i64 a0_8] 26 (0, 0)) (by (with_reducible repeat (first | refine kN_ ?_ _ | refine kD_ ?_ | refine kA_ ?_ _)); exact BK101.out)) : gb113 ≠ gb101))
         have n9_ := Aside0.mk ((by rw [hg]; exact Nat.ne_of_lt (blk_lt (g := gb102) (o := .cells #[.int .i64 0, .int .u64 0, .int .u64 0, .int .i64 0, .int .i64 0, .int .i64 0, .int .i64 0, .int .i64 0, .int .i64 0] 26 (0, 0)) (by (with_reducible repeat (first | refine kN_ ?_ _ | refine kD_ ?_ | refine kA_ ?_ _)); exact BK102.out)) : gb102 ≠ gb113))
         have n10_ := Aside0.mk ((by rw [hg]; exact Nat.ne_of_gt (blk_lt (g := gb102) (o := .cells #[.int .i64 0, .int .u64 0, .int .u64 0, .int .i64 0, .int .i64 0, .int .i64 0, .int .i64 0, .int .i64 0, .int .i64 0] 26 (0, 0)) (by (with_reducible repeat (first | refine kN_ ?_ _ | refine kD_ ?_ | refine kA_ ?_ _)); exact BK102.out)) : gb113 ≠ gb102))
         clear HO107
         clear BK101
         clear BK102
         clear HB
         have HO107 := n0_
         have BK101 := n1_
         have BK102 := n2_
         have HB := n3_
         have BK113 := n4_
         have GW113 := n5_
         have GE113 := n6_
         have NB101_113 := n7_
         have NB113_101 := n8_
         have NB102_113 := n9_
         have NB113_102 := n10_
         clear n0_ n1_ n2_ n3_ n4_ n5_ n6_ n7_ n8_ n9_ n10_
         clear hb hbox hg
         refine hK.out _ _ (cells9_ BK101.out) (fun hHeld => ?_)
         clear hK K
         refine norm_ (a' := ?_) ?_ ?_
         rotate_left
         ·show Act.put _ (some 5) _ = _
          simp only [Act.put, sA_, sB_, sC_, i64_w, i32_w]
          rfl
         exact norm_ (by simp only [putAll, Act.put, sA_, sB_, sC_]) (hCont (gb113) _ ⟨hHeld, (by (with_reducible repeat (first | apply Kd.R_alloc | apply Kd.R_drewN | apply Kd.R_drew)); exact HO107.out), (by (with_reducible repeat (first | refine kN_ ?_ _ | refine kD_ ?_ | refine kA_ ?_ _)); exact BK101.out), (by (with_reducible repeat (first | refine kN_ ?_ _ | refine kD_ ?_ | refine kA_ ?_ _)); exact BK102.out), (by (with_reducible repeat (first | refine kN_ ?_ _ | refine kD_ ?_ | refine kA_ ?_ _)); exact BK113.out), GW113.out, GE113.out, NB101_113.out, NB113_101.out, NB102_113.out, NB113_102.out, (by repeat (first | (with_reducible first | exact HB.out | apply bA_ | apply bN_ | apply bD_ | refine bS_ ?_ GE101.out | refine bS_ ?_ GE102.out | refine bS_ ?_ GE113.out) | exact HB.out))⟩)
        ·skip
         refine box_step ?hg (N := 5) ?hd (cs := #[.int .i64 0, .int .u64 0, .int .u64 0, .int .i64 0, .int .i64 0, .int .i64 0, .int .i64 0, .int .i64 0, .int .i64 0]) (t := 26) ?hr ?_; (case hd => rfl); (case hg => rfl); (case hr => first | (go_simp; done) | (go_simp; rfl))
         intro gb113 hg w32 hbox hb
         have n0_ := Aside0.mk (Kd.R_below (by (with_reducible repeat (first | apply Kd.R_alloc | apply Kd.R_drewN | apply Kd.R_drew)); exact HO107.out) hb)
         have n1_ := Aside0.mk (blk_below (g := gb101) (o := .cells #[.int .i64 a0_0, .int .u64 a0_1, .int .u64 a0_2, .int .i64 a0_3, .int .i64 a0_4, .int .i64 a0_5, .int .i64 a0_6, .int .i64 a0_7, .int .i64 a0_8] 26 (0, 0)) (by (with_reducible repeat (first | refine kN_ ?_ _ | refine kD_ ?_ | refine kA_ ?_ _)); exact BK101.out) hb)
         have n2_ := Aside0.mk (blk_below (g := gb102) (o := .cells #[.int .i64 0, .int .u64 0, .int .u64 0, .int .i64 0, .int .i64 0, .int .i64 0, .int .i64 0, .int .i64 0, .int .i64 0] 26 (0, 0)) (by (with_reducible repeat (first | refine kN_ ?_ _ | refine kD_ ?_ | refine kA_ ?_ _)); exact BK102.out) hb)
         have n3_ := Aside0.mk (below_step (by repeat (first | (with_reducible first | exact HB.out | apply bA_ | apply bN_ | apply bD_ | refine bS_ ?_ GE101.out | refine bS_ ?_ GE102.out) | exact HB.out)) hb)
         have n4_ := Aside0.mk (hbox)
         have n5_ := Aside0.mk ((by rw [hg]; exact (below_size (by repeat (first | (with_reducible first | exact HB.out | apply bA_ | apply bN_ | apply bD_ | refine bS_ ?_ GE101.out | refine bS_ ?_ GE102.out) | exact HB.out))) : w.heap.size ≤ gb113))
         have n6_ := Aside0.mk ((by rw [hg]; exact (below_size (by repeat (first | (with_reducible first | exact HB.out | apply bA_ | apply bN_ | apply bD_ | refine bS_ ?_ GE101.out | refine bS_ ?_ GE102.out) | exact HB.out))) : w.heap.size ≤ gb113))
         have n7_ := Aside0.mk ((by rw [hg]; exact Nat.ne_of_lt (blk_lt (g := gb101) (o := .cells #[.int .i64 a0_0, .int .u64 a0_1, .int .u64 a0_2, .int .i64 a0_3, .int .i64 a0_4, .int .i64 a0_5, .int .i64 a0_6, .int .i64 a0_7, .int .i64 a0_8] 26 (0, 0)) (by (with_reducible repeat (first | refine kN_ ?_ _ | refine kD_ ?_ | refine kA_ ?_ _)); exact BK101.out)) : gb101 ≠ gb113))
         have n8_ := Aside0.mk ((by rw [hg]; exact Nat.ne_of_gt (blk_lt (g := gb101) (o := .cells #[.int .i64 a0_0, .int .u64 a0_1, .int .u64 a0_2, .int .i64 a0_3, .int .i64 a0_4, .int .i64 a0_5, .int .i64 a0_6, .int .i64 a0_7, .int .i64 a0_8] 26 (0, 0)) (by (with_reducible repeat (first | refine kN_ ?_ _ | refine kD_ ?_ | refine kA_ ?_ _)); exact BK101.out)) : gb113 ≠ gb101))
         have n9_ := Aside0.mk ((by rw [hg]; exact Nat.ne_of_lt (blk_lt (g := gb102) (o := .cells #[.int .i64 0, .int .u64 0, .int .u64 0, .int .i64 0, .int .i64 0, .int .i64 0, .int .i64 0, .int .i64 0, .int .i64 0] 26 (0, 0)) (by (with_reducible repeat (first | refine kN_ ?_ _ | refine kD_ ?_ | refine kA_ ?_ _)); exact BK102.out)) : gb102 ≠ gb113))
         have n10_ := Aside0.mk ((by rw [hg]; exact Nat.ne_of_gt (blk_lt (g := gb102) (o := .cells #[.int .i64 0, .int .u64 0, .int .u64 0, .int .i64 0, .int .i64 0, .int .i64 0, .int .i64 0, .int .i64 0, .int .i64 0] 26 (0, 0)) (by (with_reducible repeat (first | refine kN_ ?_ _ | refine kD_ ?_ | refine kA_ ?_ _)); exact BK102.out)) : gb113 ≠ gb102))
         clear HO107
         clear BK101
         clear BK102
         clear HB
         have HO107 := n0_
         have BK101 := n1_
         have BK102 := n2_
         have HB := n3_
         have BK113 := n4_
         have GW113 := n5_
         have GE113 := n6_
         have NB101_113 := n7_
         have NB113_101 := n8_
         have NB102_113 := n9_
         have NB113_102 := n10_
         clear n0_ n1_ n2_ n3_ n4_ n5_ n6_ n7_ n8_ n9_ n10_
         clear hb hbox hg
         refine hK.out _ _ (cells9_ BK101.out) (fun hHeld => ?_)
         clear hK K
         refine norm_ (a' := ?_) ?_ ?_
         rotate_left
         ·show Act.put _ (some 5) _ = _
          simp only [Act.put, sA_, sB_, sC_, i64_w, i32_w]
          rfl
         refine one_ (i := 22) (N := some 45) (tf 30 402653183) rfl rfl (one_of HT_.out (by kernel_rfl)) (by decide) (fun K hK => ?_)
         refine goes_ Try.func28 (by kernel_rfl) rfl #[.int .i64 a0_6, .int .i64 3] (by rfl) rfl rfl (by (try simp only [List.map_toArray, List.map_cons, List.map_nil]); first | done | rfl | (simp only [List.length_drop, List.length_take]; rfl)) ?_
         with_reducible refine (platformfwhelp_Mod.calls a0_6 3 t112 _ A19.out).mono ?_
         rintro e w' ⟨rfl, ⟨nd, rfl⟩⟩
         refine ⟨_, rfl, ?_⟩
         refine hK.out _ _ (cells9_ BK101.out) (fun hHeld => ?_)
         clear hK K
         refine norm_ (a' := ?_) ?_ ?_
         rotate_left
         ·show Act.put _ (some 45) _ = _
          simp only [Act.put, sA_, sB_, sC_, i64_w, i32_w]
          rfl
         refine pure_ (i := 27) (N := some 50) (v := ?_) (a' := ?_) (tf 30 536870911) rfl rfl (any_of HT_.out (by kernel_rfl)) (fun _ _ _ h => h) (Or.inl ⟨by rfl, ?_⟩) ?_ ?_
         rotate_left
         ·intro w'
          go_simp
          with_reducible rfl
         rotate_left
         ·simp only [Act.put, sA_, sB_, sC_, i64_w, i32_w]
          rfl
         exact norm_ (by simp only [putAll, Act.put, sA_, sB_, sC_]) (hCont (gb113) _ ⟨hHeld, (by (with_reducible repeat (first | apply Kd.R_alloc | apply Kd.R_drewN | apply Kd.R_drew)); exact HO107.out), (by (with_reducible repeat (first | refine kN_ ?_ _ | refine kD_ ?_ | refine kA_ ?_ _)); exact BK101.out), (by (with_reducible repeat (first | refine kN_ ?_ _ | refine kD_ ?_ | refine kA_ ?_ _)); exact BK102.out), (by (with_reducible repeat (first | refine kN_ ?_ _ | refine kD_ ?_ | refine kA_ ?_ _)); exact BK113.out), GW113.out, GE113.out, NB101_113.out, NB113_101.out, NB102_113.out, NB113_102.out, (by repeat (first | (with_reducible first | exact HB.out | apply bA_ | apply bN_ | apply bD_ | refine bS_ ?_ GE101.out | refine bS_ ?_ GE102.out | refine bS_ ?_ GE113.out) | exact HB.out))⟩)
       ·skip
        refine box_step ?hg (N := 5) ?hd (cs := #[.int .i64 0, .int .u64 0, .int .u64 0, .int .i64 0, .int .i64 0, .int .i64 0, .int .i64 0, .int .i64 0, .int .i64 0]) (t := 26) ?hr ?_; (case hd => rfl); (case hg => rfl); (case hr => first | (go_simp; done) | (go_simp; rfl))
        intro gb113 hg w32 hbox hb
        have n0_ := Aside0.mk (Kd.R_below (by (with_reducible repeat (first | apply Kd.R_alloc | apply Kd.R_drewN | apply Kd.R_drew)); exact HO107.out) hb)
        have n1_ := Aside0.mk (blk_below (g := gb101) (o := .cells #[.int .i64 a0_0, .int .u64 a0_1, .int .u64 a0_2, .int .i64 a0_3, .int .i64 a0_4, .int .i64 a0_5, .int .i64 a0_6, .int .i64 a0_7, .int .i64 a0_8] 26 (0, 0)) (by (with_reducible repeat (first | refine kN_ ?_ _ | refine kD_ ?_ | refine kA_ ?_ _)); exact BK101.out) hb)
        have n2_ := Aside0.mk (blk_below (g := gb102) (o := .cells #[.int .i64 0, .int .u64 0, .int .u64 0, .int .i64 0, .int .i64 0, .int .i64 0, .int .i64 0, .int .i64 0, .int .i64 0] 26 (0, 0)) (by (with_reducible repeat (first | refine kN_ ?_ _ | refine kD_ ?_ | refine kA_ ?_ _)); exact BK102.out) hb)
        have n3_ := Aside0.mk (below_step (by repeat (first | (with_reducible first | exact HB.out | apply bA_ | apply bN_ | apply bD_ | refine bS_ ?_ GE101.out | refine bS_ ?_ GE102.out) | exact HB.out)) hb)
        have n4_ := Aside0.mk (hbox)
        have n5_ := Aside0.mk ((by rw [hg]; exact (below_size (by repeat (first | (with_reducible first | exact HB.out | apply bA_ | apply bN_ | apply bD_ | refine bS_ ?_ GE101.out | refine bS_ ?_ GE102.out) | exact HB.out))) : w.heap.size ≤ gb113))
        have n6_ := Aside0.mk ((by rw [hg]; exact (below_size (by repeat (first | (with_reducible first | exact HB.out | apply bA_ | apply bN_ | apply bD_ | refine bS_ ?_ GE101.out | refine bS_ ?_ GE102.out) | exact HB.out))) : w.heap.size ≤ gb113))
        have n7_ := Aside0.mk ((by rw [hg]; exact Nat.ne_of_lt (blk_lt (g := gb101) (o := .cells #[.int .i64 a0_0, .int .u64 a0_1, .int .u64 a0_2, .int .i64 a0_3, .int .i64 a0_4, .int .i64 a0_5, .int .i64 a0_6, .int .i64 a0_7, .int .i64 a0_8] 26 (0, 0)) (by (with_reducible repeat (first | refine kN_ ?_ _ | refine kD_ ?_ | refine kA_ ?_ _)); exact BK101.out)) : gb101 ≠ gb113))
        have n8_ := Aside0.mk ((by rw [hg]; exact Nat.ne_of_gt (blk_lt (g := gb101) (o := .cells #[.int .i64 a0_0, .int .u64 a0_1, .int .u64 a0_2, .int .i64 a0_3, .int .i64 a0_4, .int .i64 a0_5, .int .i64 a0_6, .int .i64 a0_7, .int .i64 a0_8] 26 (0, 0)) (by (with_reducible repeat (first | refine kN_ ?_ _ | refine kD_ ?_ | refine kA_ ?_ _)); exact BK101.out)) : gb113 ≠ gb101))
        have n9_ := Aside0.mk ((by rw [hg]; exact Nat.ne_of_lt (blk_lt (g := gb102) (o := .cells #[.int .i64 0, .int .u64 0, .int .u64 0, .int .i64 0, .int .i64 0, .int .i64 0, .int .i64 0, .int .i64 0, .int .i64 0] 26 (0, 0)) (by (with_reducible repeat (first | refine kN_ ?_ _ | refine kD_ ?_ | refine kA_ ?_ _)); exact BK102.out)) : gb102 ≠ gb113))
        have n10_ := Aside0.mk ((by rw [hg]; exact Nat.ne_of_gt (blk_lt (g := gb102) (o := .cells #[.int .i64 0, .int .u64 0, .int .u64 0, .int .i64 0, .int .i64 0, .int .i64 0, .int .i64 0, .int .i64 0, .int .i64 0] 26 (0, 0)) (by (with_reducible repeat (first | refine kN_ ?_ _ | refine kD_ ?_ | refine kA_ ?_ _)); exact BK102.out)) : gb113 ≠ gb102))
        clear HO107
        clear BK101
        clear BK102
        clear HB
        have HO107 := n0_
        have BK101 := n1_
        have BK102 := n2_
        have HB := n3_
        have BK113 := n4_
        have GW113 := n5_
        have GE113 := n6_
        have NB101_113 := n7_
        have NB113_101 := n8_
        have NB102_113 := n9_
        have NB113_102 := n10_
        clear n0_ n1_ n2_ n3_ n4_ n5_ n6_ n7_ n8_ n9_ n10_
        clear hb hbox hg
        refine hK.out _ _ (cells9_ BK101.out) (fun hHeld => ?_)
        clear hK K
        refine norm_ (a' := ?_) ?_ ?_
        rotate_left
        ·show Act.put _ (some 5) _ = _
         simp only [Act.put, sA_, sB_, sC_, i64_w, i32_w]
         rfl
        refine one_ (i := 17) (N := some 40) (tf 30 398196735) rfl rfl (one_of HT_.out (by kernel_rfl)) (by decide) (fun K hK => ?_)
        refine goes_ Try.func28 (by kernel_rfl) rfl #[.int .i64 a0_4, .int .i64 100] (by rfl) rfl rfl (by (try simp only [List.map_toArray, List.map_cons, List.map_nil]); first | done | rfl | (simp only [List.length_drop, List.length_take]; rfl)) ?_
        with_reducible refine (platformfwhelp_Mod.calls a0_4 100 t111 _ A18.out).mono ?_
        rintro e w' ⟨rfl, ⟨nd, rfl⟩⟩
        refine ⟨_, rfl, ?_⟩
        refine hK.out _ _ (cells9_ BK101.out) (fun hHeld => ?_)
        clear hK K
        refine norm_ (a' := ?_) ?_ ?_
        rotate_left
        ·show Act.put _ (some 40) _ = _
         simp only [Act.put, sA_, sB_, sC_, i64_w, i32_w]
         rfl
        refine pure_ (i := 18) (N := some 41) (v := ?_) (a' := ?_) (tf 30 398458879) rfl rfl (any_of HT_.out (by kernel_rfl)) (fun _ _ _ h => h) (Or.inl ⟨by rfl, ?_⟩) ?_ ?_
        rotate_left
        ·intro w'
         go_simp
         with_reducible rfl
        rotate_left
        ·simp only [Act.put, sA_, sB_, sC_, i64_w, i32_w]
         rfl
        refine one_ (i := 22) (N := some 45) (tf 30 402653183) rfl rfl (one_of HT_.out (by kernel_rfl)) (by decide) (fun K hK => ?_)
        refine goes_ Try.func28 (by kernel_rfl) rfl #[.int .i64 a0_6, .int .i64 3] (by rfl) rfl rfl (by (try simp only [List.map_toArray, List.map_cons, List.map_nil]); first | done | rfl | (simp only [List.length_drop, List.length_take]; rfl)) ?_
        with_reducible refine (platformfwhelp_Mod.calls a0_6 3 t112 _ A19.out).mono ?_
        rintro e w' ⟨rfl, ⟨nd, rfl⟩⟩
        refine ⟨_, rfl, ?_⟩
        refine hK.out _ _ (cells9_ BK101.out) (fun hHeld => ?_)
        clear hK K
        refine norm_ (a' := ?_) ?_ ?_
        rotate_left
        ·show Act.put _ (some 45) _ = _
         simp only [Act.put, sA_, sB_, sC_, i64_w, i32_w]
         rfl
        refine pure_ (i := 27) (N := some 50) (v := ?_) (a' := ?_) (tf 30 536870911) rfl rfl (any_of HT_.out (by kernel_rfl)) (fun _ _ _ h => h) (Or.inl ⟨by rfl, ?_⟩) ?_ ?_
        rotate_left
        ·intro w'
         go_simp
         with_reducible rfl
        rotate_left
        ·simp only [Act.put, sA_, sB_, sC_, i64_w, i32_w]
         rfl
        exact norm_ (by simp only [putAll, Act.put, sA_, sB_, sC_]) (hCont (gb113) _ ⟨hHeld, (by (with_reducible repeat (first | apply Kd.R_alloc | apply Kd.R_drewN | apply Kd.R_drew)); exact HO107.out), (by (with_reducible repeat (first | refine kN_ ?_ _ | refine kD_ ?_ | refine kA_ ?_ _)); exact BK101.out), (by (with_reducible repeat (first | refine kN_ ?_ _ | refine kD_ ?_ | refine kA_ ?_ _)); exact BK102.out), (by (with_reducible repeat (first | refine kN_ ?_ _ | refine kD_ ?_ | refine kA_ ?_ _)); exact BK113.out), GW113.out, GE113.out, NB101_113.out, NB113_101.out, NB102_113.out, NB113_102.out, (by repeat (first | (with_reducible first | exact HB.out | apply bA_ | apply bN_ | apply bD_ | refine bS_ ?_ GE101.out | refine bS_ ?_ GE102.out | refine bS_ ?_ GE113.out) | exact HB.out))⟩)
      ·skip
       refine box_step ?hg (N := 5) ?hd (cs := #[.int .i64 0, .int .u64 0, .int .u64 0, .int .i64 0, .int .i64 0, .int .i64 0, .int .i64 0, .int .i64 0, .int .i64 0]) (t := 26) ?hr ?_; (case hd => rfl); (case hg => rfl); (case hr => first | (go_simp; done) | (go_simp; rfl))
       intro gb113 hg w32 hbox hb
       have n0_ := Aside0.mk (Kd.R_below (by (with_reducible repeat (first | apply Kd.R_alloc | apply Kd.R_drewN | apply Kd.R_drew)); exact HO107.out) hb)
       have n1_ := Aside0.mk (blk_below (g := gb101) (o := .cells #[.int .i64 a0_0, .int .u64 a0_1, .int .u64 a0_2, .int .i64 a0_3, .int .i64 a0_4, .int .i64 a0_5, .int .i64 a0_6, .int .i64 a0_7, .int .i64 a0_8] 26 (0, 0)) (by (with_reducible repeat (first | refine kN_ ?_ _ | refine kD_ ?_ | refine kA_ ?_ _)); exact BK101.out) hb)
       have n2_ := Aside0.mk (blk_below (g := gb102) (o := .cells #[.int .i64 0, .int .u64 0, .int .u64 0, .int .i64 0, .int .i64 0, .int .i64 0, .int .i64 0, .int .i64 0, .int .i64 0] 26 (0, 0)) (by (with_reducible repeat (first | refine kN_ ?_ _ | refine kD_ ?_ | refine kA_ ?_ _)); exact BK102.out) hb)
       have n3_ := Aside0.mk (below_step (by repeat (first | (with_reducible first | exact HB.out | apply bA_ | apply bN_ | apply bD_ | refine bS_ ?_ GE101.out | refine bS_ ?_ GE102.out) | exact HB.out)) hb)
       have n4_ := Aside0.mk (hbox)
       have n5_ := Aside0.mk ((by rw [hg]; exact (below_size (by repeat (first | (with_reducible first | exact HB.out | apply bA_ | apply bN_ | apply bD_ | refine bS_ ?_ GE101.out | refine bS_ ?_ GE102.out) | exact HB.out))) : w.heap.size ≤ gb113))
       have n6_ := Aside0.mk ((by rw [hg]; exact (below_size (by repeat (first | (with_reducible first | exact HB.out | apply bA_ | apply bN_ | apply bD_ | refine bS_ ?_ GE101.out | refine bS_ ?_ GE102.out) | exact HB.out))) : w.heap.size ≤ gb113))
       have n7_ := Aside0.mk ((by rw [hg]; exact Nat.ne_of_lt (blk_lt (g := gb101) (o := .cells #[.int .i64 a0_0, .int .u64 a0_1, .int .u64 a0_2, .int .i64 a0_3, .int .i64 a0_4, .int .i64 a0_5, .int .i64 a0_6, .int .i64 a0_7, .int .i64 a0_8] 26 (0, 0)) (by (with_reducible repeat (first | refine kN_ ?_ _ | refine kD_ ?_ | refine kA_ ?_ _)); exact BK101.out)) : gb101 ≠ gb113))
       have n8_ := Aside0.mk ((by rw [hg]; exact Nat.ne_of_gt (blk_lt (g := gb101) (o := .cells #[.int .i64 a0_0, .int .u64 a0_1, .int .u64 a0_2, .int .i64 a0_3, .int .i64 a0_4, .int .i64 a0_5, .int .i64 a0_6, .int .i64 a0_7, .int .i64 a0_8] 26 (0, 0)) (by (with_reducible repeat (first | refine kN_ ?_ _ | refine kD_ ?_ | refine kA_ ?_ _)); exact BK101.out)) : gb113 ≠ gb101))
       have n9_ := Aside0.mk ((by rw [hg]; exact Nat.ne_of_lt (blk_lt (g := gb102) (o := .cells #[.int .i64 0, .int .u64 0, .int .u64 0, .int .i64 0, .int .i64 0, .int .i64 0, .int .i64 0, .int .i64 0, .int .i64 0] 26 (0, 0)) (by (with_reducible repeat (first | refine kN_ ?_ _ | refine kD_ ?_ | refine kA_ ?_ _)); exact BK102.out)) : gb102 ≠ gb113))
       have n10_ := Aside0.mk ((by rw [hg]; exact Nat.ne_of_gt (blk_lt (g := gb102) (o := .cells #[.int .i64 0, .int .u64 0, .int .u64 0, .int .i64 0, .int .i64 0, .int .i64 0, .int .i64 0, .int .i64 0, .int .i64 0] 26 (0, 0)) (by (with_reducible repeat (first | refine kN_ ?_ _ | refine kD_ ?_ | refine kA_ ?_ _)); exact BK102.out)) : gb113 ≠ gb102))
       clear HO107
       clear BK101
       clear BK102
       clear HB
       have HO107 := n0_
       have BK101 := n1_
       have BK102 := n2_
       have HB := n3_
       have BK113 := n4_
       have GW113 := n5_
       have GE113 := n6_
       have NB101_113 := n7_
       have NB113_101 := n8_
       have NB102_113 := n9_
       have NB113_102 := n10_
       clear n0_ n1_ n2_ n3_ n4_ n5_ n6_ n7_ n8_ n9_ n10_
       clear hb hbox hg
       refine hK.out _ _ (cells9_ BK101.out) (fun hHeld => ?_)
       clear hK K
       refine norm_ (a' := ?_) ?_ ?_
       rotate_left
       ·show Act.put _ (some 5) _ = _
        simp only [Act.put, sA_, sB_, sC_, i64_w, i32_w]
        rfl
       refine one_ (i := 14) (N := some 37) (tf 30 398065663) rfl rfl (one_of HT_.out (by kernel_rfl)) (by decide) (fun K hK => ?_)
       refine goes_ Try.func28 (by kernel_rfl) rfl #[.int .i64 a0_3, .int .i64 400] (by rfl) rfl rfl (by (try simp only [List.map_toArray, List.map_cons, List.map_nil]); first | done | rfl | (simp only [List.length_drop, List.length_take]; rfl)) ?_
       with_reducible refine (platformfwhelp_Mod.calls a0_3 400 t110 _ A17.out).mono ?_
       rintro e w' ⟨rfl, ⟨nd, rfl⟩⟩
       refine ⟨_, rfl, ?_⟩
       refine hK.out _ _ (cells9_ BK101.out) (fun hHeld => ?_)
       clear hK K
       refine norm_ (a' := ?_) ?_ ?_
       rotate_left
       ·show Act.put _ (some 37) _ = _
        simp only [Act.put, sA_, sB_, sC_, i64_w, i32_w]
        rfl
       refine one_ (i := 17) (N := some 40) (tf 30 398196735) rfl rfl (one_of HT_.out (by kernel_rfl)) (by decide) (fun K hK => ?_)
       refine goes_ Try.func28 (by kernel_rfl) rfl #[.int .i64 a0_4, .int .i64 100] (by rfl) rfl rfl (by (try simp only [List.map_toArray, List.map_cons, List.map_nil]); first | done | rfl | (simp only [List.length_drop, List.length_take]; rfl)) ?_
       with_reducible refine (platformfwhelp_Mod.calls a0_4 100 t111 _ A18.out).mono ?_
       rintro e w' ⟨rfl, ⟨nd, rfl⟩⟩
       refine ⟨_, rfl, ?_⟩
       refine hK.out _ _ (cells9_ BK101.out) (fun hHeld => ?_)
       clear hK K
       refine norm_ (a' := ?_) ?_ ?_
       rotate_left
       ·show Act.put _ (some 40) _ = _
        simp only [Act.put, sA_, sB_, sC_, i64_w, i32_w]
        rfl
       refine pure_ (i := 18) (N := some 41) (v := ?_) (a' := ?_) (tf 30 398458879) rfl rfl (any_of HT_.out (by kernel_rfl)) (fun _ _ _ h => h) (Or.inl ⟨by rfl, ?_⟩) ?_ ?_
       rotate_left
       ·intro w'
        go_simp
        with_reducible rfl
       rotate_left
       ·simp only [Act.put, sA_, sB_, sC_, i64_w, i32_w]
        rfl
       refine one_ (i := 22) (N := some 45) (tf 30 402653183) rfl rfl (one_of HT_.out (by kernel_rfl)) (by decide) (fun K hK => ?_)
       refine goes_ Try.func28 (by kernel_rfl) rfl #[.int .i64 a0_6, .int .i64 3] (by rfl) rfl rfl (by (try simp only [List.map_toArray, List.map_cons, List.map_nil]); first | done | rfl | (simp only [List.length_drop, List.length_take]; rfl)) ?_
       with_reducible refine (platformfwhelp_Mod.calls a0_6 3 t112 _ A19.out).mono ?_
       rintro e w' ⟨rfl, ⟨nd, rfl⟩⟩
       refine ⟨_, rfl, ?_⟩
       refine hK.out _ _ (cells9_ BK101.out) (fun hHeld => ?_)
       clear hK K
       refine norm_ (a' := ?_) ?_ ?_
       rotate_left
       ·show Act.put _ (some 45) _ = _
        simp only [Act.put, sA_, sB_, sC_, i64_w, i32_w]
        rfl
       refine pure_ (i := 27) (N := some 50) (v := ?_) (a' := ?_) (tf 30 536870911) rfl rfl (any_of HT_.out (by kernel_rfl)) (fun _ _ _ h => h) (Or.inl ⟨by rfl, ?_⟩) ?_ ?_
       rotate_left
       ·intro w'
        go_simp
        with_reducible rfl
       rotate_left
       ·simp only [Act.put, sA_, sB_, sC_, i64_w, i32_w]
        rfl
       exact norm_ (by simp only [putAll, Act.put, sA_, sB_, sC_]) (hCont (gb113) _ ⟨hHeld, (by (with_reducible repeat (first | apply Kd.R_alloc | apply Kd.R_drewN | apply Kd.R_drew)); exact HO107.out), (by (with_reducible repeat (first | refine kN_ ?_ _ | refine kD_ ?_ | refine kA_ ?_ _)); exact BK101.out), (by (with_reducible repeat (first | refine kN_ ?_ _ | refine kD_ ?_ | refine kA_ ?_ _)); exact BK102.out), (by (with_reducible repeat (first | refine kN_ ?_ _ | refine kD_ ?_ | refine kA_ ?_ _)); exact BK113.out), GW113.out, GE113.out, NB101_113.out, NB113_101.out, NB102_113.out, NB113_102.out, (by repeat (first | (with_reducible first | exact HB.out | apply bA_ | apply bN_ | apply bD_ | refine bS_ ?_ GE101.out | refine bS_ ?_ GE102.out | refine bS_ ?_ GE113.out) | exact HB.out))⟩)
     rintro gb113 w33 ⟨hS_, h0_, h1_, h2_, h3_, h4_, h5_, h6_, h7_, h8_, h9_, h10_⟩
     have n0_ : Aside0 (Kd.R (Kd.int .i64) 3 w33 w.heap.size (fun _ => True) (.slice (some ad109) y105.length co30) y105) := ⟨h0_⟩
     have n1_ : Aside0 (w33.heap[gb101]? = some (.cells #[.int .i64 a0_0, .int .u64 a0_1, .int .u64 a0_2, .int .i64 a0_3, .int .i64 a0_4, .int .i64 a0_5, .int .i64 a0_6, .int .i64 a0_7, .int .i64 a0_8] 26 (0, 0))) := ⟨h1_⟩
     have n2_ : Aside0 (w33.heap[gb102]? = some (.cells #[.int .i64 0, .int .u64 0, .int .u64 0, .int .i64 0, .int .i64 0, .int .i64 0, .int .i64 0, .int .i64 0, .int .i64 0] 26 (0, 0))) := ⟨h2_⟩
     have n3_ : Aside0 (w33.heap[gb113]? = some (.cells #[.int .i64 0, .int .u64 0, .int .u64 0, .int .i64 0, .int .i64 0, .int .i64 0, .int .i64 0, .int .i64 0, .int .i64 0] 26 (0, 0))) := ⟨h3_⟩
     have n4_ : Aside0 (w.heap.size ≤ gb113) := ⟨h4_⟩
     have n5_ : Aside0 (w.heap.size ≤ gb113) := ⟨h5_⟩
     have n6_ : Aside0 (gb101 ≠ gb113) := ⟨h6_⟩
     have n7_ : Aside0 (gb113 ≠ gb101) := ⟨h7_⟩
     have n8_ : Aside0 (gb102 ≠ gb113) := ⟨h8_⟩
     have n9_ : Aside0 (gb113 ≠ gb102) := ⟨h9_⟩
     have n10_ : Aside0 (Below w.heap.size w w33) := ⟨h10_⟩
     clear HO107
     clear BK101
     clear BK102
     clear HB
     clear h0_ h1_ h2_ h3_ h4_ h5_ h6_ h7_ h8_ h9_ h10_
     have HO107 := n0_
     have BK101 := n1_
     have BK102 := n2_
     have BK113 := n3_
     have GW113 := n4_
     have GE113 := n5_
     have NB101_113 := n6_
     have NB113_101 := n7_
     have NB102_113 := n8_
     have NB113_102 := n9_
     have HB := n10_
     clear n0_ n1_ n2_ n3_ n4_ n5_ n6_ n7_ n8_ n9_ n10_
     have hHeld : w33.cell? ⟨gb101, 0, none⟩ = some (.int .i64 a0_0) ∧ w33.cell? ⟨gb101, 1, none⟩ = some (.int .u64 a0_1) ∧ w33.cell? ⟨gb101, 2, none⟩ = some (.int .u64 a0_2) ∧ w33.cell? ⟨gb101, 3, none⟩ = some (.int .i64 a0_3) ∧ w33.cell? ⟨gb101, 4, none⟩ = some (.int .i64 a0_4) ∧ w33.cell? ⟨gb101, 5, none⟩ = some (.int .i64 a0_5) ∧ w33.cell? ⟨gb101, 6, none⟩ = some (.int .i64 a0_6) ∧ w33.cell? ⟨gb101, 7, none⟩ = some (.int .i64 a0_7) ∧ w33.cell? ⟨gb101, 8, none⟩ = some (.int .i64 a0_8) := hS_
     refine norm_ (a' := ?_) ?_ ?_
     rotate_left
     ·simp only [putAll, Act.put, sA_, sB_, sC_]
      rfl
     refine one_ (i := 29) (N := none) (tf 30 1073741823) rfl rfl (one_of HT_.out (by kernel_rfl)) (by decide) (fun K hK => ?_)
     have hs34 : w33.cell? ⟨gb113, 0, none⟩ = some (.int .i64 0) := (blk_cell BK113.out 0).trans rfl
     have hfs34 := blk_frozen BK113.out 0
     have hns34_0 := NB101_113.out
     have hns34_1 := NB102_113.out
     have hms34_0 := NB113_101.out
     have hms34_1 := NB113_102.out
     have hs35 : w33.cell? ⟨gb113, 1, none⟩ = some (.int .u64 0) := (blk_cell BK113.out 1).trans rfl
     have hfs35 := blk_frozen BK113.out 1
     have hns35_0 := NB101_113.out
     have hns35_1 := NB102_113.out
     have hms35_0 := NB113_101.out
     have hms35_1 := NB113_102.out
     have hs36 : w33.cell? ⟨gb113, 2, none⟩ = some (.int .u64 0) := (blk_cell BK113.out 2).trans rfl
     have hfs36 := blk_frozen BK113.out 2
     have hns36_0 := NB101_113.out
     have hns36_1 := NB102_113.out
     have hms36_0 := NB113_101.out
     have hms36_1 := NB113_102.out
     have hs37 : w33.cell? ⟨gb113, 3, none⟩ = some (.int .i64 0) := (blk_cell BK113.out 3).trans rfl
     have hfs37 := blk_frozen BK113.out 3
     have hns37_0 := NB101_113.out
     have hns37_1 := NB102_113.out
     have hms37_0 := NB113_101.out
     have hms37_1 := NB113_102.out
     have hs38 : w33.cell? ⟨gb113, 4, none⟩ = some (.int .i64 0) := (blk_cell BK113.out 4).trans rfl
     have hfs38 := blk_frozen BK113.out 4
     have hns38_0 := NB101_113.out
     have hns38_1 := NB102_113.out
     have hms38_0 := NB113_101.out
     have hms38_1 := NB113_102.out
     have hs39 : w33.cell? ⟨gb113, 5, none⟩ = some (.int .i64 0) := (blk_cell BK113.out 5).trans rfl
     have hfs39 := blk_frozen BK113.out 5
     have hns39_0 := NB101_113.out
     have hns39_1 := NB102_113.out
     have hms39_0 := NB113_101.out
     have hms39_1 := NB113_102.out
     have hs40 : w33.cell? ⟨gb113, 6, none⟩ = some (.int .i64 0) := (blk_cell BK113.out 6).trans rfl
     have hfs40 := blk_frozen BK113.out 6
     have hns40_0 := NB101_113.out
     have hns40_1 := NB102_113.out
     have hms40_0 := NB113_101.out
     have hms40_1 := NB113_102.out
     have hs41 : w33.cell? ⟨gb113, 7, none⟩ = some (.int .i64 0) := (blk_cell BK113.out 7).trans rfl
     have hfs41 := blk_frozen BK113.out 7
     have hns41_0 := NB101_113.out
     have hns41_1 := NB102_113.out
     have hms41_0 := NB113_101.out
     have hms41_1 := NB113_102.out
     have hs42 : w33.cell? ⟨gb113, 8, none⟩ = some (.int .i64 0) := (blk_cell BK113.out 8).trans rfl
     have hfs42 := blk_frozen BK113.out 8
     have hns42_0 := NB101_113.out
     have hns42_1 := NB102_113.out
     have hms42_0 := NB113_101.out
     have hms42_1 := NB113_102.out
     refine skip_ (w1 := ?_) (by rfl) rfl ?_ ?_
     rotate_left
     ·go_simp
      rfl
     refine hK.out _ _ ⟨((cell_far (p := ⟨gb113, _, none⟩) NB101_113.out _).trans (((cell_far (p := ⟨gb113, _, none⟩) NB101_113.out _).trans (((cell_far (p := ⟨gb113, _, none⟩) NB101_113.out _).trans (((cell_far (p := ⟨gb113, _, none⟩) NB101_113.out _).trans (((cell_far (p := ⟨gb113, _, none⟩) NB101_113.out _).trans (((cell_far (p := ⟨gb113, _, none⟩) NB101_113.out _).trans (((cell_far (p := ⟨gb113, _, none⟩) NB101_113.out _).trans (((cell_far (p := ⟨gb113, _, none⟩) NB101_113.out _).trans (((cell_far (p := ⟨gb113, _, none⟩) NB101_113.out _).trans (hHeld.1)))))))))))))))))), ((cell_far (p := ⟨gb113, _, none⟩) NB101_113.out _).trans (((cell_far (p := ⟨gb113, _, none⟩) NB101_113.out _).trans (((cell_far (p := ⟨gb113, _, none⟩) NB101_113.out _).trans (((cell_far (p := ⟨gb113, _, none⟩) NB101_113.out _).trans (((cell_far (p := ⟨gb113, _, none⟩) NB101_113.out _).trans (((cell_far (p := ⟨gb113, _, none⟩) NB101_113.out _).trans (((cell_far (p := ⟨gb113, _, none⟩) NB101_113.out _).trans (((cell_far (p := ⟨gb113, _, none⟩) NB101_113.out _).trans (((cell_far (p := ⟨gb113, _, none⟩) NB101_113.out _).trans (hHeld.2.1)))))))))))))))))), ((cell_far (p := ⟨gb113, _, none⟩) NB101_113.out _).trans (((cell_far (p := ⟨gb113, _, none⟩) NB101_113.out _).trans (((cell_far (p := ⟨gb113, _, none⟩) NB101_113.out _).trans (((cell_far (p := ⟨gb113, _, none⟩) NB101_113.out _).trans (((cell_far (p := ⟨gb113, _, none⟩) NB101_113.out _).trans (((cell_far (p := ⟨gb113, _, none⟩) NB101_113.out _).trans (((cell_far (p := ⟨gb113, _, none⟩) NB101_113.out _).trans (((cell_far (p := ⟨gb113, _, none⟩) NB101_113.out _).trans (((cell_far (p := ⟨gb113, _, none⟩) NB101_113.out _).trans (hHeld.2.2.1)))))))))))))))))), ((cell_far (p := ⟨gb113, _, none⟩) NB101_113.out _).trans (((cell_far (p := ⟨gb113, _, none⟩) NB101_113.out _).trans (((cell_far (p := ⟨gb113, _, none⟩) NB101_113.out _).trans (((cell_far (p := ⟨gb113, _, none⟩) NB101_113.out _).trans (((cell_far (p := ⟨gb113, _, none⟩) NB101_113.out _).trans (((cell_far (p := ⟨gb113, _, none⟩) NB101_113.out _).trans (((cell_far (p := ⟨gb113, _, none⟩) NB101_113.out _).trans (((cell_far (p := ⟨gb113, _, none⟩) NB101_113.out _).trans (((cell_far (p := ⟨gb113, _, none⟩) NB101_113.out _).trans (hHeld.2.2.2.1)))))))))))))))))), ((cell_far (p := ⟨gb113, _, none⟩) NB101_113.out _).trans (((cell_far (p := ⟨gb113, _, none⟩) NB101_113.out _).trans (((cell_far (p := ⟨gb113, _, none⟩) NB101_113.out _).trans (((cell_far (p := ⟨gb113, _, none⟩) NB101_113.out _).trans (((cell_far (p := ⟨gb113, _, none⟩) NB101_113.out _).trans (((cell_far (p := ⟨gb113, _, none⟩) NB101_113.out _).trans (((cell_far (p := ⟨gb113, _, none⟩) NB101_113.out _).trans (((cell_far (p := ⟨gb113, _, none⟩) NB101_113.out _).trans (((cell_far (p := ⟨gb113, _, none⟩) NB101_113.out _).trans (hHeld.2.2.2.2.1)))))))))))))))))), ((cell_far (p := ⟨gb113, _, none⟩) NB101_113.out _).trans (((cell_far (p := ⟨gb113, _, none⟩) NB101_113.out _).trans (((cell_far (p := ⟨gb113, _, none⟩) NB101_113.out _).trans (((cell_far (p := ⟨gb113, _, none⟩) NB101_113.out _).trans (((cell_far (p := ⟨gb113, _, none⟩) NB101_113.out _).trans (((cell_far (p := ⟨gb113, _, none⟩) NB101_113.out _).trans (((cell_far (p := ⟨gb113, _, none⟩) NB101_113.out _).trans (((cell_far (p := ⟨gb113, _, none⟩) NB101_113.out _).trans (((cell_far (p := ⟨gb113, _, none⟩) NB101_113.out _).trans (hHeld.2.2.2.2.2.1)))))))))))))))))), ((cell_far (p := ⟨gb113, _, none⟩) NB101_113.out _).trans (((cell_far (p := ⟨gb113, _, none⟩) NB101_113.out _).trans (((cell_far (p := ⟨gb113, _, none⟩) NB101_113.out _).trans (((cell_far (p := ⟨gb113, _, none⟩) NB101_113.out _).trans (((cell_far (p := ⟨gb113, _, none⟩) NB101_113.out _).trans (((cell_far (p := ⟨gb113, _, none⟩) NB101_113.out _).trans (((cell_far (p := ⟨gb113, _, none⟩) NB101_113.out _).trans (((cell_far (p := ⟨gb113, _, none⟩) NB101_113.out _).trans (((cell_far (p := ⟨gb113, _, none⟩) NB101_113.out _).trans (hHeld.2.2.2.2.2.2.1)))))))))))))))))), ((cell_far (p := ⟨gb113, _, none⟩) NB101_113.out _).trans (((cell_far (p := ⟨gb113, _, none⟩) NB101_113.out _).trans (((cell_far (p := ⟨gb113, _, none⟩) NB101_113.out _).trans (((cell_far (p := ⟨gb113, _, none⟩) NB101_113.out _).trans (((cell_far (p := ⟨gb113, _, none⟩) NB101_113.out _).trans (((cell_far (p := ⟨gb113, _, none⟩) NB101_113.out _).trans (((cell_far (p := ⟨gb113, _, none⟩) NB101_113.out _).trans (((cell_far (p := ⟨gb113, _, none⟩) NB101_113.out _).trans (((cell_far (p := ⟨gb113, _, none⟩) NB101_113.out _).trans (hHeld.2.2.2.2.2.2.2.1)))))))))))))))))), ((cell_far (p := ⟨gb113, _, none⟩) NB101_113.out _).trans (((cell_far (p := ⟨gb113, _, none⟩) NB101_113.out _).trans (((cell_far (p := ⟨gb113, _, none⟩) NB101_113.out _).trans (((cell_far (p := ⟨gb113, _, none⟩) NB101_113.out _).trans (((cell_far (p := ⟨gb113, _, none⟩) NB101_113.out _).trans (((cell_far (p := ⟨gb113, _, none⟩) NB101_113.out _).trans (((cell_far (p := ⟨gb113, _, none⟩) NB101_113.out _).trans (((cell_far (p := ⟨gb113, _, none⟩) NB101_113.out _).trans (((cell_far (p := ⟨gb113, _, none⟩) NB101_113.out _).trans (hHeld.2.2.2.2.2.2.2.2))))))))))))))))))⟩ (fun hHeld => ?_)
     clear hK K
     refine done_ (done_of HT_.out (by kernel_rfl)) ?_
     have hnb43 := NB101_113.out
     have hnc43 := NB113_101.out
     obtain ⟨hcz44_0, hcz44_1, hcz44_2, hcz44_3, hcz44_4, hcz44_5, hcz44_6, hcz44_7, hcz44_8⟩ := cells9_ BK101.out
     obtain ⟨hfz44_0, hfz44_1, hfz44_2, hfz44_3, hfz44_4, hfz44_5, hfz44_6, hfz44_7, hfz44_8⟩ := froz9_ BK101.out
     go_upto_if 54 with (first | ((with_reducible refine gate_callee (f := 28) rfl ?_); refine goesL_ (some 53) rfl rfl Try.func28 (by kernel_rfl) rfl #[.int .i64 a0_4, .int .i64 9] rfl (by (try simp only [List.map_toArray, List.map_cons, List.map_nil]); first | done | rfl | (simp only [List.length_drop, List.length_take]; rfl)) ?_; (with_reducible refine (platformfwhelp_Mod.calls a0_4 9 t114 _ A20.out).mono ?_); rintro e w' ⟨rfl, ⟨nd, rfl⟩⟩; refine ⟨_, rfl, ?_⟩))
     (try simp only [Act.put, sA_, sB_, sC_])
     go_cut [] (fun wc => ∃ (kq : Nat) (x114004_20 : Int), Aside0 (platformfwlaw11_spec.j0 kq (rd y105 t108) a0_0 a0_1 a0_2 a0_3 a0_4 a0_5 a0_6 a0_7 a0_8 (rd y105 t108) (IntKind.u64.wrap ((Int.tmod a0_1 20) * 8)) (IntKind.u64.wrap (1 + (Int.tmod a0_2 60))) t110 x114004_20 ji13 t112 a0_7 a0_8 = some (r1, r2, r3, r4, r5, r6, r7, r8, r9)) ∧ Aside0 (kq ≤ k) ∧ Aside0 (wc.heap[gb101]? = some (.cells #[.int .i64 a0_0, .int .u64 a0_1, .int .u64 a0_2, .int .i64 a0_3, .int .i64 a0_4, .int .i64 a0_5, .int .i64 a0_6, .int .i64 a0_7, .int .i64 a0_8] 26 (0, 0))) ∧ Aside0 (wc.heap[gb102]? = some (.cells #[.int .i64 0, .int .u64 0, .int .u64 0, .int .i64 0, .int .i64 0, .int .i64 0, .int .i64 0, .int .i64 0, .int .i64 0] 26 (0, 0))) ∧ Aside0 (wc.heap[gb113]? = some (.cells #[.int .i64 (rd y105 t108), .int .u64 (IntKind.u64.wrap ((Int.tmod a0_1 20) * 8)), .int .u64 (IntKind.u64.wrap (1 + (Int.tmod a0_2 60))), .int .i64 t110, .int .i64 x114004_20, .int .i64 ji13, .int .i64 t112, .int .i64 a0_7, .int .i64 a0_8] 26 (0, 0))) ∧ Aside0 (Below w.heap.size w wc))
     case first =>
      have H := HC21.out
      clear HC21
      by_cases c45 : t114 = 8
      ·rw [if_pos c45] at H
       have c45b0 : (t114 == 8) = true := beq_iff_eq.mpr c45
       have c45b1 : (t114 != 8) = false := bne_eq_false_iff_eq.mpr c45
       clear c45
       (first | rw [c45b0] | (simp only [i64_w, i32_w]; rw [c45b0]) | skip)
       replace H := Option.bind_eq_some_iff.mp H
       obtain ⟨t115, A460, H⟩ := H
       replace H : (platformfwlaw11_spec.j0 k (rd y105 t108) a0_0 a0_1 a0_2 a0_3 a0_4 a0_5 a0_6 a0_7 a0_8 (rd y105 t108) (IntKind.u64.wrap ((Int.tmod a0_1 20) * 8)) (IntKind.u64.wrap (1 + (Int.tmod a0_2 60))) t110 (wrap64 (256 - t115)) ji13 t112 a0_7 a0_8) = some (r1, r2, r3, r4, r5, r6, r7, r8, r9) := H
       have A46 := Aside0.mk A460
       clear A460
       have H' := Aside0.mk H
       clear H
       have hnb47 := NB101_102.out
       have hnc47 := NB102_101.out
       have hnb48 := NB101_113.out
       have hnc48 := NB113_101.out
       obtain ⟨hcz49_0, hcz49_1, hcz49_2, hcz49_3, hcz49_4, hcz49_5, hcz49_6, hcz49_7, hcz49_8⟩ := cells9_ BK101.out
       obtain ⟨hfz49_0, hfz49_1, hfz49_2, hfz49_3, hfz49_4, hfz49_5, hfz49_6, hfz49_7, hfz49_8⟩ := froz9_ BK101.out
       go_wp2_with (first | ((with_reducible refine gate_callee (f := 28) rfl ?_); refine goesL_ (some 57) rfl rfl Try.func28 (by kernel_rfl) rfl #[.int .i64 a0_3, .int .i64 3] rfl (by (try simp only [List.map_toArray, List.map_cons, List.map_nil]); first | done | rfl | (simp only [List.length_drop, List.length_take]; rfl)) ?_; (with_reducible refine (platformfwhelp_Mod.calls a0_3 3 t115 _ A46.out).mono ?_); rintro e w' ⟨rfl, ⟨nd, rfl⟩⟩; refine ⟨_, rfl, ?_⟩; have hnb50 := NB113_102.out; have hnc50 := NB102_113.out; have hcz51_0 : w33.cell? ⟨gb113, 0, none⟩ = some (.int .i64 0) := (blk_cell BK113.out 0).trans rfl; have hcz51_1 : w33.cell? ⟨gb113, 1, none⟩ = some (.int .u64 0) := (blk_cell BK113.out 1).trans rfl; have hcz51_2 : w33.cell? ⟨gb113, 2, none⟩ = some (.int .u64 0) := (blk_cell BK113.out 2).trans rfl; have hcz51_3 : w33.cell? ⟨gb113, 3, none⟩ = some (.int .i64 0) := (blk_cell BK113.out 3).trans rfl; have hcz51_4 : w33.cell? ⟨gb113, 4, none⟩ = some (.int .i64 0) := (blk_cell BK113.out 4).trans rfl; have hcz51_5 : w33.cell? ⟨gb113, 5, none⟩ = some (.int .i64 0) := (blk_cell BK113.out 5).trans rfl; have hcz51_6 : w33.cell? ⟨gb113, 6, none⟩ = some (.int .i64 0) := (blk_cell BK113.out 6).trans rfl; have hcz51_7 : w33.cell? ⟨gb113, 7, none⟩ = some (.int .i64 0) := (blk_cell BK113.out 7).trans rfl; have hcz51_8 : w33.cell? ⟨gb113, 8, none⟩ = some (.int .i64 0) := (blk_cell BK113.out 8).trans rfl; have hfz51_0 := blk_frozen BK113.out 0; have hfz51_1 := blk_frozen BK113.out 1; have hfz51_2 := blk_frozen BK113.out 2; have hfz51_3 := blk_frozen BK113.out 3; have hfz51_4 := blk_frozen BK113.out 4; have hfz51_5 := blk_frozen BK113.out 5; have hfz51_6 := blk_frozen BK113.out 6; have hfz51_7 := blk_frozen BK113.out 7; have hfz51_8 := blk_frozen BK113.out 8))
       go_meet
       case rel => exact ⟨_, (wrap64 (256 - t115)), H', ⟨by first | omega | exact Nat.le_refl _⟩, ⟨by (with_reducible repeat (first | refine kN_ ?_ _ | refine kD_ ?_ | refine kA_ ?_ _)); refine blk_far ?_ NB101_113.out _; (with_reducible repeat (first | refine kN_ ?_ _ | refine kD_ ?_ | refine kA_ ?_ _)); refine blk_far ?_ NB101_113.out _; (with_reducible repeat (first | refine kN_ ?_ _ | refine kD_ ?_ | refine kA_ ?_ _)); refine blk_far ?_ NB101_113.out _; (with_reducible repeat (first | refine kN_ ?_ _ | refine kD_ ?_ | refine kA_ ?_ _)); refine blk_far ?_ NB101_113.out _; (with_reducible repeat (first | refine kN_ ?_ _ | refine kD_ ?_ | refine kA_ ?_ _)); refine blk_far ?_ NB101_113.out _; (with_reducible repeat (first | refine kN_ ?_ _ | refine kD_ ?_ | refine kA_ ?_ _)); refine blk_far ?_ NB101_113.out _; (with_reducible repeat (first | refine kN_ ?_ _ | refine kD_ ?_ | refine kA_ ?_ _)); refine blk_far ?_ NB101_113.out _; (with_reducible repeat (first | refine kN_ ?_ _ | refine kD_ ?_ | refine kA_ ?_ _)); refine blk_far ?_ NB101_113.out _; (with_reducible repeat (first | refine kN_ ?_ _ | refine kD_ ?_ | refine kA_ ?_ _)); refine blk_far ?_ NB101_113.out _; (with_reducible repeat (first | refine kN_ ?_ _ | refine kD_ ?_ | refine kA_ ?_ _)); refine blk_far ?_ NB101_113.out _; (with_reducible repeat (first | refine kN_ ?_ _ | refine kD_ ?_ | refine kA_ ?_ _)); exact BK101.out⟩, ⟨by (with_reducible repeat (first | refine kN_ ?_ _ | refine kD_ ?_ | refine kA_ ?_ _)); refine blk_far ?_ NB102_113.out _; (with_reducible repeat (first | refine kN_ ?_ _ | refine kD_ ?_ | refine kA_ ?_ _)); refine blk_far ?_ NB102_113.out _; (with_reducible repeat (first | refine kN_ ?_ _ | refine kD_ ?_ | refine kA_ ?_ _)); refine blk_far ?_ NB102_113.out _; (with_reducible repeat (first | refine kN_ ?_ _ | refine kD_ ?_ | refine kA_ ?_ _)); refine blk_far ?_ NB102_113.out _; (with_reducible repeat (first | refine kN_ ?_ _ | refine kD_ ?_ | refine kA_ ?_ _)); refine blk_far ?_ NB102_113.out _; (with_reducible repeat (first | refine kN_ ?_ _ | refine kD_ ?_ | refine kA_ ?_ _)); refine blk_far ?_ NB102_113.out _; (with_reducible repeat (first | refine kN_ ?_ _ | refine kD_ ?_ | refine kA_ ?_ _)); refine blk_far ?_ NB102_113.out _; (with_reducible repeat (first | refine kN_ ?_ _ | refine kD_ ?_ | refine kA_ ?_ _)); refine blk_far ?_ NB102_113.out _; (with_reducible repeat (first | refine kN_ ?_ _ | refine kD_ ?_ | refine kA_ ?_ _)); refine blk_far ?_ NB102_113.out _; (with_reducible repeat (first | refine kN_ ?_ _ | refine kD_ ?_ | refine kA_ ?_ _)); refine blk_far ?_ NB102_113.out _; (with_reducible repeat (first | refine kN_ ?_ _ | refine kD_ ?_ | refine kA_ ?_ _)); exact BK102.out⟩, ⟨by (with_reducible repeat (first | refine kN_ ?_ _ | refine kD_ ?_ | refine kA_ ?_ _)); refine blk_put (cs := #[.int .i64 (rd y105 t108), .int .u64 (IntKind.u64.wrap ((Int.tmod a0_1 20) * 8)), .int .u64 (IntKind.u64.wrap (1 + (Int.tmod a0_2 60))), .int .i64 t110, .int .i64 (wrap64 (1 + t111)), .int .i64 ji13, .int .i64 t112, .int .i64 a0_7, .int .i64 a0_8]) ?_ 4 _ rfl; (with_reducible repeat (first | refine kN_ ?_ _ | refine kD_ ?_ | refine kA_ ?_ _)); refine blk_put (cs := #[.int .i64 (rd y105 t108), .int .u64 (IntKind.u64.wrap ((Int.tmod a0_1 20) * 8)), .int .u64 (IntKind.u64.wrap (1 + (Int.tmod a0_2 60))), .int .i64 t110, .int .i64 (wrap64 (1 + t111)), .int .i64 ji13, .int .i64 t112, .int .i64 a0_7, .int .i64 0]) ?_ 8 _ rfl; (with_reducible repeat (first | refine kN_ ?_ _ | refine kD_ ?_ | refine kA_ ?_ _)); refine blk_put (cs := #[.int .i64 (rd y105 t108), .int .u64 (IntKind.u64.wrap ((Int.tmod a0_1 20) * 8)), .int .u64 (IntKind.u64.wrap (1 + (Int.tmod a0_2 60))), .int .i64 t110, .int .i64 (wrap64 (1 + t111)), .int .i64 ji13, .int .i64 t112, .int .i64 0, .int .i64 0]) ?_ 7 _ rfl; (with_reducible repeat (first | refine kN_ ?_ _ | refine kD_ ?_ | refine kA_ ?_ _)); refine blk_put (cs := #[.int .i64 (rd y105 t108), .int .u64 (IntKind.u64.wrap ((Int.tmod a0_1 20) * 8)), .int .u64 (IntKind.u64.wrap (1 + (Int.tmod a0_2 60))), .int .i64 t110, .int .i64 (wrap64 (1 + t111)), .int .i64 ji13, .int .i64 0, .int .i64 0, .int .i64 0]) ?_ 6 _ rfl; (with_reducible repeat (first | refine kN_ ?_ _ | refine kD_ ?_ | refine kA_ ?_ _)); refine blk_put (cs := #[.int .i64 (rd y105 t108), .int .u64 (IntKind.u64.wrap ((Int.tmod a0_1 20) * 8)), .int .u64 (IntKind.u64.wrap (1 + (Int.tmod a0_2 60))), .int .i64 t110, .int .i64 (wrap64 (1 + t111)), .int .i64 0, .int .i64 0, .int .i64 0, .int .i64 0]) ?_ 5 _ rfl; (with_reducible repeat (first | refine kN_ ?_ _ | refine kD_ ?_ | refine kA_ ?_ _)); refine blk_put (cs := #[.int .i64 (rd y105 t108), .int .u64 (IntKind.u64.wrap ((Int.tmod a0_1 20) * 8)), .int .u64 (IntKind.u64.wrap (1 + (Int.tmod a0_2 60))), .int .i64 t110, .int .i64 0, .int .i64 0, .int .i64 0, .int .i64 0, .int .i64 0]) ?_ 4 _ rfl; (with_reducible repeat (first | refine kN_ ?_ _ | refine kD_ ?_ | refine kA_ ?_ _)); refine blk_put (cs := #[.int .i64 (rd y105 t108), .int .u64 (IntKind.u64.wrap ((Int.tmod a0_1 20) * 8)), .int .u64 (IntKind.u64.wrap (1 + (Int.tmod a0_2 60))), .int .i64 0, .int .i64 0, .int .i64 0, .int .i64 0, .int .i64 0, .int .i64 0]) ?_ 3 _ rfl; (with_reducible repeat (first | refine kN_ ?_ _ | refine kD_ ?_ | refine kA_ ?_ _)); refine blk_put (cs := #[.int .i64 (rd y105 t108), .int .u64 (IntKind.u64.wrap ((Int.tmod a0_1 20) * 8)), .int .u64 0, .int .i64 0, .int .i64 0, .int .i64 0, .int .i64 0, .int .i64 0, .int .i64 0]) ?_ 2 _ rfl; (with_reducible repeat (first | refine kN_ ?_ _ | refine kD_ ?_ | refine kA_ ?_ _)); refine blk_put (cs := #[.int .i64 (rd y105 t108), .int .u64 0, .int .u64 0, .int .i64 0, .int .i64 0, .int .i64 0, .int .i64 0, .int .i64 0, .int .i64 0]) ?_ 1 _ rfl; (with_reducible repeat (first | refine kN_ ?_ _ | refine kD_ ?_ | refine kA_ ?_ _)); refine blk_put (cs := #[.int .i64 0, .int .u64 0, .int .u64 0, .int .i64 0, .int .i64 0, .int .i64 0, .int .i64 0, .int .i64 0, .int .i64 0]) ?_ 0 _ rfl; (with_reducible repeat (first | refine kN_ ?_ _ | refine kD_ ?_ | refine kA_ ?_ _)); exact BK113.out⟩, ⟨by repeat (first | (with_reducible first | exact HB.out | apply bA_ | apply bN_ | apply bD_ | refine bS_ ?_ GE101.out | refine bS_ ?_ GE102.out | refine bS_ ?_ GE113.out) | exact HB.out)⟩⟩
      ·rw [if_neg c45] at H
       have c45b0 : (t114 == 8) = false := beq_eq_false_iff_ne.mpr c45
       have c45b1 : (t114 != 8) = true := bne_iff_ne.mpr c45
       (first | rw [c45b0] | (simp only [i64_w, i32_w]; rw [c45b0]) | skip)
       have H' := Aside0.mk H
       clear H
       go_wp2
       go_meet
       case rel => exact ⟨_, (wrap64 (1 + t111)), H', ⟨by first | omega | exact Nat.le_refl _⟩, ⟨by (with_reducible repeat (first | refine kN_ ?_ _ | refine kD_ ?_ | refine kA_ ?_ _)); refine blk_far ?_ NB101_113.out _; (with_reducible repeat (first | refine kN_ ?_ _ | refine kD_ ?_ | refine kA_ ?_ _)); refine blk_far ?_ NB101_113.out _; (with_reducible repeat (first | refine kN_ ?_ _ | refine kD_ ?_ | refine kA_ ?_ _)); refine blk_far ?_ NB101_113.out _; (with_reducible repeat (first | refine kN_ ?_ _ | refine kD_ ?_ | refine kA_ ?_ _)); refine blk_far ?_ NB101_113.out _; (with_reducible repeat (first | refine kN_ ?_ _ | refine kD_ ?_ | refine kA_ ?_ _)); refine blk_far ?_ NB101_113.out _; (with_reducible repeat (first | refine kN_ ?_ _ | refine kD_ ?_ | refine kA_ ?_ _)); refine blk_far ?_ NB101_113.out _; (with_reducible repeat (first | refine kN_ ?_ _ | refine kD_ ?_ | refine kA_ ?_ _)); refine blk_far ?_ NB101_113.out _; (with_reducible repeat (first | refine kN_ ?_ _ | refine kD_ ?_ | refine kA_ ?_ _)); refine blk_far ?_ NB101_113.out _; (with_reducible repeat (first | refine kN_ ?_ _ | refine kD_ ?_ | refine kA_ ?_ _)); refine blk_far ?_ NB101_113.out _; (with_reducible repeat (first | refine kN_ ?_ _ | refine kD_ ?_ | refine kA_ ?_ _)); exact BK101.out⟩, ⟨by (with_reducible repeat (first | refine kN_ ?_ _ | refine kD_ ?_ | refine kA_ ?_ _)); refine blk_far ?_ NB102_113.out _; (with_reducible repeat (first | refine kN_ ?_ _ | refine kD_ ?_ | refine kA_ ?_ _)); refine blk_far ?_ NB102_113.out _; (with_reducible repeat (first | refine kN_ ?_ _ | refine kD_ ?_ | refine kA_ ?_ _)); refine blk_far ?_ NB102_113.out _; (with_reducible repeat (first | refine kN_ ?_ _ | refine kD_ ?_ | refine kA_ ?_ _)); refine blk_far ?_ NB102_113.out _; (with_reducible repeat (first | refine kN_ ?_ _ | refine kD_ ?_ | refine kA_ ?_ _)); refine blk_far ?_ NB102_113.out _; (with_reducible repeat (first | refine kN_ ?_ _ | refine kD_ ?_ | refine kA_ ?_ _)); refine blk_far ?_ NB102_113.out _; (with_reducible repeat (first | refine kN_ ?_ _ | refine kD_ ?_ | refine kA_ ?_ _)); refine blk_far ?_ NB102_113.out _; (with_reducible repeat (first | refine kN_ ?_ _ | refine kD_ ?_ | refine kA_ ?_ _)); refine blk_far ?_ NB102_113.out _; (with_reducible repeat (first | refine kN_ ?_ _ | refine kD_ ?_ | refine kA_ ?_ _)); refine blk_far ?_ NB102_113.out _; (with_reducible repeat (first | refine kN_ ?_ _ | refine kD_ ?_ | refine kA_ ?_ _)); exact BK102.out⟩, ⟨by (with_reducible repeat (first | refine kN_ ?_ _ | refine kD_ ?_ | refine kA_ ?_ _)); refine blk_put (cs := #[.int .i64 (rd y105 t108), .int .u64 (IntKind.u64.wrap ((Int.tmod a0_1 20) * 8)), .int .u64 (IntKind.u64.wrap (1 + (Int.tmod a0_2 60))), .int .i64 t110, .int .i64 (wrap64 (1 + t111)), .int .i64 ji13, .int .i64 t112, .int .i64 a0_7, .int .i64 0]) ?_ 8 _ rfl; (with_reducible repeat (first | refine kN_ ?_ _ | refine kD_ ?_ | refine kA_ ?_ _)); refine blk_put (cs := #[.int .i64 (rd y105 t108), .int .u64 (IntKind.u64.wrap ((Int.tmod a0_1 20) * 8)), .int .u64 (IntKind.u64.wrap (1 + (Int.tmod a0_2 60))), .int .i64 t110, .int .i64 (wrap64 (1 + t111)), .int .i64 ji13, .int .i64 t112, .int .i64 0, .int .i64 0]) ?_ 7 _ rfl; (with_reducible repeat (first | refine kN_ ?_ _ | refine kD_ ?_ | refine kA_ ?_ _)); refine blk_put (cs := #[.int .i64 (rd y105 t108), .int .u64 (IntKind.u64.wrap ((Int.tmod a0_1 20) * 8)), .int .u64 (IntKind.u64.wrap (1 + (Int.tmod a0_2 60))), .int .i64 t110, .int .i64 (wrap64 (1 + t111)), .int .i64 ji13, .int .i64 0, .int .i64 0, .int .i64 0]) ?_ 6 _ rfl; (with_reducible repeat (first | refine kN_ ?_ _ | refine kD_ ?_ | refine kA_ ?_ _)); refine blk_put (cs := #[.int .i64 (rd y105 t108), .int .u64 (IntKind.u64.wrap ((Int.tmod a0_1 20) * 8)), .int .u64 (IntKind.u64.wrap (1 + (Int.tmod a0_2 60))), .int .i64 t110, .int .i64 (wrap64 (1 + t111)), .int .i64 0, .int .i64 0, .int .i64 0, .int .i64 0]) ?_ 5 _ rfl; (with_reducible repeat (first | refine kN_ ?_ _ | refine kD_ ?_ | refine kA_ ?_ _)); refine blk_put (cs := #[.int .i64 (rd y105 t108), .int .u64 (IntKind.u64.wrap ((Int.tmod a0_1 20) * 8)), .int .u64 (IntKind.u64.wrap (1 + (Int.tmod a0_2 60))), .int .i64 t110, .int .i64 0, .int .i64 0, .int .i64 0, .int .i64 0, .int .i64 0]) ?_ 4 _ rfl; (with_reducible repeat (first | refine kN_ ?_ _ | refine kD_ ?_ | refine kA_ ?_ _)); refine blk_put (cs := #[.int .i64 (rd y105 t108), .int .u64 (IntKind.u64.wrap ((Int.tmod a0_1 20) * 8)), .int .u64 (IntKind.u64.wrap (1 + (Int.tmod a0_2 60))), .int .i64 0, .int .i64 0, .int .i64 0, .int .i64 0, .int .i64 0, .int .i64 0]) ?_ 3 _ rfl; (with_reducible repeat (first | refine kN_ ?_ _ | refine kD_ ?_ | refine kA_ ?_ _)); refine blk_put (cs := #[.int .i64 (rd y105 t108), .int .u64 (IntKind.u64.wrap ((Int.tmod a0_1 20) * 8)), .int .u64 0, .int .i64 0, .int .i64 0, .int .i64 0, .int .i64 0, .int .i64 0, .int .i64 0]) ?_ 2 _ rfl; (with_reducible repeat (first | refine kN_ ?_ _ | refine kD_ ?_ | refine kA_ ?_ _)); refine blk_put (cs := #[.int .i64 (rd y105 t108), .int .u64 0, .int .u64 0, .int .i64 0, .int .i64 0, .int .i64 0, .int .i64 0, .int .i64 0, .int .i64 0]) ?_ 1 _ rfl; (with_reducible repeat (first | refine kN_ ?_ _ | refine kD_ ?_ | refine kA_ ?_ _)); refine blk_put (cs := #[.int .i64 0, .int .u64 0, .int .u64 0, .int .i64 0, .int .i64 0, .int .i64 0, .int .i64 0, .int .i64 0, .int .i64 0]) ?_ 0 _ rfl; (with_reducible repeat (first | refine kN_ ?_ _ | refine kD_ ?_ | refine kA_ ?_ _)); exact BK113.out⟩, ⟨by repeat (first | (with_reducible first | exact HB.out | apply bA_ | apply bN_ | apply bD_ | refine bS_ ?_ GE101.out | refine bS_ ?_ GE102.out | refine bS_ ?_ GE113.out) | exact HB.out)⟩⟩
     case rest =>
      clear HC21
      try clear c2
      try clear p2
      try clear c4
      try clear c5
      try clear p6
      try clear c28
      try clear c43
      try clear c45
      try clear c45b0
      try clear c45b1
      try clear c47
      try clear c48
      try clear c50
      try clear hcz44_0 hcz44_1 hcz44_2 hcz44_3 hcz44_4 hcz44_5 hcz44_6 hcz44_7 hcz44_8
      try clear hcz49_0 hcz49_1 hcz49_2 hcz49_3 hcz49_4 hcz49_5 hcz49_6 hcz49_7 hcz49_8
      try clear hcz51_0 hcz51_1 hcz51_2 hcz51_3 hcz51_4 hcz51_5 hcz51_6 hcz51_7 hcz51_8
      try clear hfz44_0 hfz44_1 hfz44_2 hfz44_3 hfz44_4 hfz44_5 hfz44_6 hfz44_7 hfz44_8
      try clear hfz49_0 hfz49_1 hfz49_2 hfz49_3 hfz49_4 hfz49_5 hfz49_6 hfz49_7 hfz49_8
      try clear hfz51_0 hfz51_1 hfz51_2 hfz51_3 hfz51_4 hfz51_5 hfz51_6 hfz51_7 hfz51_8
      obtain ⟨kq, x114004_20, HA, HJ20, BK101, BK102, BK113, HB⟩ := hcut
      cases kq with
      | zero => exact absurd HA.out (by simp [platformfwlaw11_spec.j0])
      | succ kj20 =>
       have H := HA.out
       clear HA
       simp only [platformfwlaw11_spec.j0] at H
       by_cases c52 : (rd y105 t108) = 3
       ·rw [if_pos c52] at H
        have c52b0 : ((rd y105 t108) == 3) = true := beq_iff_eq.mpr c52
        have c52b1 : ((rd y105 t108) != 3) = false := bne_eq_false_iff_eq.mpr c52
        clear c52
        replace H := Option.bind_eq_some_iff.mp H
        obtain ⟨t116, A530, H⟩ := H
        replace H : (if t116 = 6 then (some ((rd y105 t108), 18446744073709551552, (IntKind.u64.wrap (1 + (Int.tmod a0_2 60))), t110, x114004_20, 1, t112, a0_7, a0_8)) else (some ((rd y105 t108), (IntKind.u64.wrap ((Int.tmod a0_1 20) * 8)), (IntKind.u64.wrap (1 + (Int.tmod a0_2 60))), t110, x114004_20, 1, t112, a0_7, a0_8))) = some (r1, r2, r3, r4, r5, r6, r7, r8, r9) := H
        have A53 := Aside0.mk A530
        clear A530
        by_cases c54 : t116 = 6
        ·rw [if_pos c54] at H
         have c54b0 : (t116 == 6) = true := beq_iff_eq.mpr c54
         have c54b1 : (t116 != 6) = false := bne_eq_false_iff_eq.mpr c54
         clear c54
         simp only [Option.some.injEq, Prod.mk.injEq] at H
         obtain ⟨rfl, rfl, rfl, rfl, rfl, rfl, rfl, rfl, rfl⟩ := H
         have hnb55 := NB113_101.out
         have hnc55 := NB101_113.out
         have hnb56 := NB113_102.out
         have hnc56 := NB102_113.out
         obtain ⟨hcz57_0, hcz57_1, hcz57_2, hcz57_3, hcz57_4, hcz57_5, hcz57_6, hcz57_7, hcz57_8⟩ := cells9_ BK113.out
         obtain ⟨hfz57_0, hfz57_1, hfz57_2, hfz57_3, hfz57_4, hfz57_5, hfz57_6, hfz57_7, hfz57_8⟩ := froz9_ BK113.out
         have hnb58 := NB101_102.out
         have hnc58 := NB102_101.out
         obtain ⟨hcz59_0, hcz59_1, hcz59_2, hcz59_3, hcz59_4, hcz59_5, hcz59_6, hcz59_7, hcz59_8⟩ := cells9_ BK101.out
         obtain ⟨hfz59_0, hfz59_1, hfz59_2, hfz59_3, hfz59_4, hfz59_5, hfz59_6, hfz59_7, hfz59_8⟩ := froz9_ BK101.out
         go_wp2_with (first | ((with_reducible refine gate_callee (f := 28) rfl ?_); refine goesL_ (some 65) rfl rfl Try.func28 (by kernel_rfl) rfl #[.int .i64 a0_7, .int .i64 8] rfl (by (try simp only [List.map_toArray, List.map_cons, List.map_nil]); first | done | rfl | (simp only [List.length_drop, List.length_take]; rfl)) ?_; (with_reducible refine (platformfwhelp_Mod.calls a0_7 8 t116 _ A53.out).mono ?_); rintro e w' ⟨rfl, ⟨nd, rfl⟩⟩; refine ⟨_, rfl, ?_⟩; obtain ⟨hcz60_0, hcz60_1, hcz60_2, hcz60_3, hcz60_4, hcz60_5, hcz60_6, hcz60_7, hcz60_8⟩ := cells9_ BK102.out; obtain ⟨hfz60_0, hfz60_1, hfz60_2, hfz60_3, hfz60_4, hfz60_5, hfz60_6, hfz60_7, hfz60_8⟩ := froz9_ BK102.out))
         refine bodyPost_ret (results_cell_row rfl _ _ gb102 26 #[.int .i64 (rd y105 t108), .int .u64 18446744073709551552, .int .u64 (IntKind.u64.wrap (1 + (Int.tmod a0_2 60))), .int .i64 t110, .int .i64 x114004_20, .int .i64 1, .int .i64 t112, .int .i64 a0_7, .int .i64 a0_8] (0, 0) _ rfl (by (with_reducible repeat (first | refine kN_ ?_ _ | refine kD_ ?_ | refine kA_ ?_ _)); refine blk_put (cs := #[.int .i64 (rd y105 t108), .int .u64 18446744073709551552, .int .u64 (IntKind.u64.wrap (1 + (Int.tmod a0_2 60))), .int .i64 t110, .int .i64 x114004_20, .int .i64 1, .int .i64 t112, .int .i64 a0_7, .int .i64 0]) ?_ 8 _ rfl; (with_reducible repeat (first | refine kN_ ?_ _ | refine kD_ ?_ | refine kA_ ?_ _)); refine blk_put (cs := #[.int .i64 (rd y105 t108), .int .u64 18446744073709551552, .int .u64 (IntKind.u64.wrap (1 + (Int.tmod a0_2 60))), .int .i64 t110, .int .i64 x114004_20, .int .i64 1, .int .i64 t112, .int .i64 0, .int .i64 0]) ?_ 7 _ rfl; (with_reducible repeat (first | refine kN_ ?_ _ | refine kD_ ?_ | refine kA_ ?_ _)); refine blk_put (cs := #[.int .i64 (rd y105 t108), .int .u64 18446744073709551552, .int .u64 (IntKind.u64.wrap (1 + (Int.tmod a0_2 60))), .int .i64 t110, .int .i64 x114004_20, .int .i64 1, .int .i64 0, .int .i64 0, .int .i64 0]) ?_ 6 _ rfl; (with_reducible repeat (first | refine kN_ ?_ _ | refine kD_ ?_ | refine kA_ ?_ _)); refine blk_put (cs := #[.int .i64 (rd y105 t108), .int .u64 18446744073709551552, .int .u64 (IntKind.u64.wrap (1 + (Int.tmod a0_2 60))), .int .i64 t110, .int .i64 x114004_20, .int .i64 0, .int .i64 0, .int .i64 0, .int .i64 0]) ?_ 5 _ rfl; (with_reducible repeat (first | refine kN_ ?_ _ | refine kD_ ?_ | refine kA_ ?_ _)); refine blk_put (cs := #[.int .i64 (rd y105 t108), .int .u64 18446744073709551552, .int .u64 (IntKind.u64.wrap (1 + (Int.tmod a0_2 60))), .int .i64 t110, .int .i64 0, .int .i64 0, .int .i64 0, .int .i64 0, .int .i64 0]) ?_ 4 _ rfl; (with_reducible repeat (first | refine kN_ ?_ _ | refine kD_ ?_ | refine kA_ ?_ _)); refine blk_put (cs := #[.int .i64 (rd y105 t108), .int .u64 18446744073709551552, .int .u64 (IntKind.u64.wrap (1 + (Int.tmod a0_2 60))), .int .i64 0, .int .i64 0, .int .i64 0, .int .i64 0, .int .i64 0, .int .i64 0]) ?_ 3 _ rfl; (with_reducible repeat (first | refine kN_ ?_ _ | refine kD_ ?_ | refine kA_ ?_ _)); refine blk_put (cs := #[.int .i64 (rd y105 t108), .int .u64 18446744073709551552, .int .u64 0, .int .i64 0, .int .i64 0, .int .i64 0, .int .i64 0, .int .i64 0, .int .i64 0]) ?_ 2 _ rfl; (with_reducible repeat (first | refine kN_ ?_ _ | refine kD_ ?_ | refine kA_ ?_ _)); refine blk_put (cs := #[.int .i64 (rd y105 t108), .int .u64 0, .int .u64 0, .int .i64 0, .int .i64 0, .int .i64 0, .int .i64 0, .int .i64 0, .int .i64 0]) ?_ 1 _ rfl; (with_reducible repeat (first | refine kN_ ?_ _ | refine kD_ ?_ | refine kA_ ?_ _)); refine blk_put (cs := #[.int .i64 0, .int .u64 0, .int .u64 0, .int .i64 0, .int .i64 0, .int .i64 0, .int .i64 0, .int .i64 0, .int .i64 0]) ?_ 0 _ rfl; (with_reducible repeat (first | refine kN_ ?_ _ | refine kD_ ?_ | refine kA_ ?_ _)); refine blk_far ?_ NB102_113.out _; (with_reducible repeat (first | refine kN_ ?_ _ | refine kD_ ?_ | refine kA_ ?_ _)); refine blk_far ?_ NB102_113.out _; (with_reducible repeat (first | refine kN_ ?_ _ | refine kD_ ?_ | refine kA_ ?_ _)); exact BK102.out) Try.underlying26 rfl (by kernel_rfl)) rfl ?_
         exact ⟨by first | rfl | (simp [errW_none, errW_some] <;> rfl) | (simp only [← hji11, ← hji13]; first | rfl | (simp [errW_none, errW_some] <;> rfl)) | (simp [*, errW_none, errW_some] <;> rfl), by repeat (first | (with_reducible first | exact HB.out | apply bA_ | apply bN_ | apply bD_ | refine bS_ ?_ GE101.out | refine bS_ ?_ GE102.out | refine bS_ ?_ GE113.out) | exact HB.out)⟩
        ·rw [if_neg c54] at H
         have c54b0 : (t116 == 6) = false := beq_eq_false_iff_ne.mpr c54
         have c54b1 : (t116 != 6) = true := bne_iff_ne.mpr c54
         simp only [Option.some.injEq, Prod.mk.injEq] at H
         obtain ⟨rfl, rfl, rfl, rfl, rfl, rfl, rfl, rfl, rfl⟩ := H
         have hnb61 := NB113_101.out
         have hnc61 := NB101_113.out
         have hnb62 := NB113_102.out
         have hnc62 := NB102_113.out
         obtain ⟨hcz63_0, hcz63_1, hcz63_2, hcz63_3, hcz63_4, hcz63_5, hcz63_6, hcz63_7, hcz63_8⟩ := cells9_ BK113.out
         obtain ⟨hfz63_0, hfz63_1, hfz63_2, hfz63_3, hfz63_4, hfz63_5, hfz63_6, hfz63_7, hfz63_8⟩ := froz9_ BK113.out
         have hnb64 := NB101_102.out
         have hnc64 := NB102_101.out
         obtain ⟨hcz65_0, hcz65_1, hcz65_2, hcz65_3, hcz65_4, hcz65_5, hcz65_6, hcz65_7, hcz65_8⟩ := cells9_ BK101.out
         obtain ⟨hfz65_0, hfz65_1, hfz65_2, hfz65_3, hfz65_4, hfz65_5, hfz65_6, hfz65_7, hfz65_8⟩ := froz9_ BK101.out
         go_wp2_with (first | ((with_reducible refine gate_callee (f := 28) rfl ?_); refine goesL_ (some 65) rfl rfl Try.func28 (by kernel_rfl) rfl #[.int .i64 a0_7, .int .i64 8] rfl (by (try simp only [List.map_toArray, List.map_cons, List.map_nil]); first | done | rfl | (simp only [List.length_drop, List.length_take]; rfl)) ?_; (with_reducible refine (platformfwhelp_Mod.calls a0_7 8 t116 _ A53.out).mono ?_); rintro e w' ⟨rfl, ⟨nd, rfl⟩⟩; refine ⟨_, rfl, ?_⟩; obtain ⟨hcz66_0, hcz66_1, hcz66_2, hcz66_3, hcz66_4, hcz66_5, hcz66_6, hcz66_7, hcz66_8⟩ := cells9_ BK102.out; obtain ⟨hfz66_0, hfz66_1, hfz66_2, hfz66_3, hfz66_4, hfz66_5, hfz66_6, hfz66_7, hfz66_8⟩ := froz9_ BK102.out))
         refine bodyPost_ret (results_cell_row rfl _ _ gb102 26 #[.int .i64 (rd y105 t108), .int .u64 (IntKind.u64.wrap ((Int.tmod a0_1 20) * 8)), .int .u64 (IntKind.u64.wrap (1 + (Int.tmod a0_2 60))), .int .i64 t110, .int .i64 x114004_20, .int .i64 1, .int .i64 t112, .int .i64 a0_7, .int .i64 a0_8] (0, 0) _ rfl (by (with_reducible repeat (first | refine kN_ ?_ _ | refine kD_ ?_ | refine kA_ ?_ _)); refine blk_put (cs := #[.int .i64 (rd y105 t108), .int .u64 (IntKind.u64.wrap ((Int.tmod a0_1 20) * 8)), .int .u64 (IntKind.u64.wrap (1 + (Int.tmod a0_2 60))), .int .i64 t110, .int .i64 x114004_20, .int .i64 1, .int .i64 t112, .int .i64 a0_7, .int .i64 0]) ?_ 8 _ rfl; (with_reducible repeat (first | refine kN_ ?_ _ | refine kD_ ?_ | refine kA_ ?_ _)); refine blk_put (cs := #[.int .i64 (rd y105 t108), .int .u64 (IntKind.u64.wrap ((Int.tmod a0_1 20) * 8)), .int .u64 (IntKind.u64.wrap (1 + (Int.tmod a0_2 60))), .int .i64 t110, .int .i64 x114004_20, .int .i64 1, .int .i64 t112, .int .i64 0, .int .i64 0]) ?_ 7 _ rfl; (with_reducible repeat (first | refine kN_ ?_ _ | refine kD_ ?_ | refine kA_ ?_ _)); refine blk_put (cs := #[.int .i64 (rd y105 t108), .int .u64 (IntKind.u64.wrap ((Int.tmod a0_1 20) * 8)), .int .u64 (IntKind.u64.wrap (1 + (Int.tmod a0_2 60))), .int .i64 t110, .int .i64 x114004_20, .int .i64 1, .int .i64 0, .int .i64 0, .int .i64 0]) ?_ 6 _ rfl; (with_reducible repeat (first | refine kN_ ?_ _ | refine kD_ ?_ | refine kA_ ?_ _)); refine blk_put (cs := #[.int .i64 (rd y105 t108), .int .u64 (IntKind.u64.wrap ((Int.tmod a0_1 20) * 8)), .int .u64 (IntKind.u64.wrap (1 + (Int.tmod a0_2 60))), .int .i64 t110, .int .i64 x114004_20, .int .i64 0, .int .i64 0, .int .i64 0, .int .i64 0]) ?_ 5 _ rfl; (with_reducible repeat (first | refine kN_ ?_ _ | refine kD_ ?_ | refine kA_ ?_ _)); refine blk_put (cs := #[.int .i64 (rd y105 t108), .int .u64 (IntKind.u64.wrap ((Int.tmod a0_1 20) * 8)), .int .u64 (IntKind.u64.wrap (1 + (Int.tmod a0_2 60))), .int .i64 t110, .int .i64 0, .int .i64 0, .int .i64 0, .int .i64 0, .int .i64 0]) ?_ 4 _ rfl; (with_reducible repeat (first | refine kN_ ?_ _ | refine kD_ ?_ | refine kA_ ?_ _)); refine blk_put (cs := #[.int .i64 (rd y105 t108), .int .u64 (IntKind.u64.wrap ((Int.tmod a0_1 20) * 8)), .int .u64 (IntKind.u64.wrap (1 + (Int.tmod a0_2 60))), .int .i64 0, .int .i64 0, .int .i64 0, .int .i64 0, .int .i64 0, .int .i64 0]) ?_ 3 _ rfl; (with_reducible repeat (first | refine kN_ ?_ _ | refine kD_ ?_ | refine kA_ ?_ _)); refine blk_put (cs := #[.int .i64 (rd y105 t108), .int .u64 (IntKind.u64.wrap ((Int.tmod a0_1 20) * 8)), .int .u64 0, .int .i64 0, .int .i64 0, .int .i64 0, .int .i64 0, .int .i64 0, .int .i64 0]) ?_ 2 _ rfl; (with_reducible repeat (first | refine kN_ ?_ _ | refine kD_ ?_ | refine kA_ ?_ _)); refine blk_put (cs := #[.int .i64 (rd y105 t108), .int .u64 0, .int .u64 0, .int .i64 0, .int .i64 0, .int .i64 0, .int .i64 0, .int .i64 0, .int .i64 0]) ?_ 1 _ rfl; (with_reducible repeat (first | refine kN_ ?_ _ | refine kD_ ?_ | refine kA_ ?_ _)); refine blk_put (cs := #[.int .i64 0, .int .u64 0, .int .u64 0, .int .i64 0, .int .i64 0, .int .i64 0, .int .i64 0, .int .i64 0, .int .i64 0]) ?_ 0 _ rfl; (with_reducible repeat (first | refine kN_ ?_ _ | refine kD_ ?_ | refine kA_ ?_ _)); refine blk_far ?_ NB102_113.out _; (with_reducible repeat (first | refine kN_ ?_ _ | refine kD_ ?_ | refine kA_ ?_ _)); exact BK102.out) Try.underlying26 rfl (by kernel_rfl)) rfl ?_
         exact ⟨by first | rfl | (simp [errW_none, errW_some] <;> rfl) | (simp only [← hji11, ← hji13]; first | rfl | (simp [errW_none, errW_some] <;> rfl)) | (simp [*, errW_none, errW_some] <;> rfl), by repeat (first | (with_reducible first | exact HB.out | apply bA_ | apply bN_ | apply bD_ | refine bS_ ?_ GE101.out | refine bS_ ?_ GE102.out | refine bS_ ?_ GE113.out) | exact HB.out)⟩
       ·rw [if_neg c52] at H
        have c52b0 : ((rd y105 t108) == 3) = false := beq_eq_false_iff_ne.mpr c52
        have c52b1 : ((rd y105 t108) != 3) = true := bne_iff_ne.mpr c52
        replace H := Option.bind_eq_some_iff.mp H
        obtain ⟨t117, A670, H⟩ := H
        replace H : (if t117 = 6 then (some ((rd y105 t108), 18446744073709551552, (IntKind.u64.wrap (1 + (Int.tmod a0_2 60))), t110, x114004_20, ji13, t112, a0_7, a0_8)) else (some ((rd y105 t108), (IntKind.u64.wrap ((Int.tmod a0_1 20) * 8)), (IntKind.u64.wrap (1 + (Int.tmod a0_2 60))), t110, x114004_20, ji13, t112, a0_7, a0_8))) = some (r1, r2, r3, r4, r5, r6, r7, r8, r9) := H
        have A67 := Aside0.mk A670
        clear A670
        by_cases c68 : t117 = 6
        ·rw [if_pos c68] at H
         have c68b0 : (t117 == 6) = true := beq_iff_eq.mpr c68
         have c68b1 : (t117 != 6) = false := bne_eq_false_iff_eq.mpr c68
         clear c68
         simp only [Option.some.injEq, Prod.mk.injEq] at H
         obtain ⟨rfl, rfl, rfl, rfl, rfl, rfl, rfl, rfl, rfl⟩ := H
         have hnb69 := NB101_102.out
         have hnc69 := NB102_101.out
         have hnb70 := NB101_113.out
         have hnc70 := NB113_101.out
         obtain ⟨hcz71_0, hcz71_1, hcz71_2, hcz71_3, hcz71_4, hcz71_5, hcz71_6, hcz71_7, hcz71_8⟩ := cells9_ BK101.out
         obtain ⟨hfz71_0, hfz71_1, hfz71_2, hfz71_3, hfz71_4, hfz71_5, hfz71_6, hfz71_7, hfz71_8⟩ := froz9_ BK101.out
         go_wp2_with (first | ((with_reducible refine gate_callee (f := 28) rfl ?_); refine goesL_ (some 65) rfl rfl Try.func28 (by kernel_rfl) rfl #[.int .i64 a0_7, .int .i64 8] rfl (by (try simp only [List.map_toArray, List.map_cons, List.map_nil]); first | done | rfl | (simp only [List.length_drop, List.length_take]; rfl)) ?_; (with_reducible refine (platformfwhelp_Mod.calls a0_7 8 t117 _ A67.out).mono ?_); rintro e w' ⟨rfl, ⟨nd, rfl⟩⟩; refine ⟨_, rfl, ?_⟩; (try (rw [drewN_self wc]; generalize hq_ : World.drewN wc _ = wc; have n0_ : Aside0 (wc.heap[gb101]? = some (.cells #[.int .i64 a0_0, .int .u64 a0_1, .int .u64 a0_2, .int .i64 a0_3, .int .i64 a0_4, .int .i64 a0_5, .int .i64 a0_6, .int .i64 a0_7, .int .i64 a0_8] 26 (0, 0))) := ⟨by rw [← hq_]; exact (by (with_reducible repeat (first | refine kN_ ?_ _ | refine kD_ ?_ | refine kA_ ?_ _)); exact BK101.out)⟩; have n1_ : Aside0 (wc.heap[gb102]? = some (.cells #[.int .i64 0, .int .u64 0, .int .u64 0, .int .i64 0, .int .i64 0, .int .i64 0, .int .i64 0, .int .i64 0, .int .i64 0] 26 (0, 0))) := ⟨by rw [← hq_]; exact (by (with_reducible repeat (first | refine kN_ ?_ _ | refine kD_ ?_ | refine kA_ ?_ _)); exact BK102.out)⟩; have n2_ : Aside0 (wc.heap[gb113]? = some (.cells #[.int .i64 (rd y105 t108), .int .u64 (IntKind.u64.wrap ((Int.tmod a0_1 20) * 8)), .int .u64 (IntKind.u64.wrap (1 + (Int.tmod a0_2 60))), .int .i64 t110, .int .i64 x114004_20, .int .i64 ji13, .int .i64 t112, .int .i64 a0_7, .int .i64 a0_8] 26 (0, 0))) := ⟨by rw [← hq_]; exact (by (with_reducible repeat (first | refine kN_ ?_ _ | refine kD_ ?_ | refine kA_ ?_ _)); exact BK113.out)⟩; have n3_ : Aside0 (Below w.heap.size w wc) := ⟨by rw [← hq_]; exact (by repeat (first | (with_reducible first | exact HB.out | apply bA_ | apply bN_ | apply bD_ | refine bS_ ?_ GE101.out | refine bS_ ?_ GE102.out | refine bS_ ?_ GE113.out) | exact HB.out))⟩; clear BK101 BK102 BK113 HB hq_; have BK101 := n0_; have BK102 := n1_; have BK113 := n2_; have HB := n3_; clear n0_ n1_ n2_ n3_)); have hnb72 := NB113_102.out; have hnc72 := NB102_113.out; obtain ⟨hcz73_0, hcz73_1, hcz73_2, hcz73_3, hcz73_4, hcz73_5, hcz73_6, hcz73_7, hcz73_8⟩ := cells9_ BK113.out; obtain ⟨hfz73_0, hfz73_1, hfz73_2, hfz73_3, hfz73_4, hfz73_5, hfz73_6, hfz73_7, hfz73_8⟩ := froz9_ BK113.out; obtain ⟨hcz74_0, hcz74_1, hcz74_2, hcz74_3, hcz74_4, hcz74_5, hcz74_6, hcz74_7, hcz74_8⟩ := cells9_ BK102.out; obtain ⟨hfz74_0, hfz74_1, hfz74_2, hfz74_3, hfz74_4, hfz74_5, hfz74_6, hfz74_7, hfz74_8⟩ := froz9_ BK102.out))
         refine bodyPost_ret (results_cell_row rfl _ _ gb102 26 #[.int .i64 (rd y105 t108), .int .u64 18446744073709551552, .int .u64 (IntKind.u64.wrap (1 + (Int.tmod a0_2 60))), .int .i64 t110, .int .i64 x114004_20, .int .i64 ji13, .int .i64 t112, .int .i64 a0_7, .int .i64 a0_8] (0, 0) _ rfl (by (with_reducible repeat (first | refine kN_ ?_ _ | refine kD_ ?_ | refine kA_ ?_ _)); refine blk_put (cs := #[.int .i64 (rd y105 t108), .int .u64 18446744073709551552, .int .u64 (IntKind.u64.wrap (1 + (Int.tmod a0_2 60))), .int .i64 t110, .int .i64 x114004_20, .int .i64 ji13, .int .i64 t112, .int .i64 a0_7, .int .i64 0]) ?_ 8 _ rfl; (with_reducible repeat (first | refine kN_ ?_ _ | refine kD_ ?_ | refine kA_ ?_ _)); refine blk_put (cs := #[.int .i64 (rd y105 t108), .int .u64 18446744073709551552, .int .u64 (IntKind.u64.wrap (1 + (Int.tmod a0_2 60))), .int .i64 t110, .int .i64 x114004_20, .int .i64 ji13, .int .i64 t112, .int .i64 0, .int .i64 0]) ?_ 7 _ rfl; (with_reducible repeat (first | refine kN_ ?_ _ | refine kD_ ?_ | refine kA_ ?_ _)); refine blk_put (cs := #[.int .i64 (rd y105 t108), .int .u64 18446744073709551552, .int .u64 (IntKind.u64.wrap (1 + (Int.tmod a0_2 60))), .int .i64 t110, .int .i64 x114004_20, .int .i64 ji13, .int .i64 0, .int .i64 0, .int .i64 0]) ?_ 6 _ rfl; (with_reducible repeat (first | refine kN_ ?_ _ | refine kD_ ?_ | refine kA_ ?_ _)); refine blk_put (cs := #[.int .i64 (rd y105 t108), .int .u64 18446744073709551552, .int .u64 (IntKind.u64.wrap (1 + (Int.tmod a0_2 60))), .int .i64 t110, .int .i64 x114004_20, .int .i64 0, .int .i64 0, .int .i64 0, .int .i64 0]) ?_ 5 _ rfl; (with_reducible repeat (first | refine kN_ ?_ _ | refine kD_ ?_ | refine kA_ ?_ _)); refine blk_put (cs := #[.int .i64 (rd y105 t108), .int .u64 18446744073709551552, .int .u64 (IntKind.u64.wrap (1 + (Int.tmod a0_2 60))), .int .i64 t110, .int .i64 0, .int .i64 0, .int .i64 0, .int .i64 0, .int .i64 0]) ?_ 4 _ rfl; (with_reducible repeat (first | refine kN_ ?_ _ | refine kD_ ?_ | refine kA_ ?_ _)); refine blk_put (cs := #[.int .i64 (rd y105 t108), .int .u64 18446744073709551552, .int .u64 (IntKind.u64.wrap (1 + (Int.tmod a0_2 60))), .int .i64 0, .int .i64 0, .int .i64 0, .int .i64 0, .int .i64 0, .int .i64 0]) ?_ 3 _ rfl; (with_reducible repeat (first | refine kN_ ?_ _ | refine kD_ ?_ | refine kA_ ?_ _)); refine blk_put (cs := #[.int .i64 (rd y105 t108), .int .u64 18446744073709551552, .int .u64 0, .int .i64 0, .int .i64 0, .int .i64 0, .int .i64 0, .int .i64 0, .int .i64 0]) ?_ 2 _ rfl; (with_reducible repeat (first | refine kN_ ?_ _ | refine kD_ ?_ | refine kA_ ?_ _)); refine blk_put (cs := #[.int .i64 (rd y105 t108), .int .u64 0, .int .u64 0, .int .i64 0, .int .i64 0, .int .i64 0, .int .i64 0, .int .i64 0, .int .i64 0]) ?_ 1 _ rfl; (with_reducible repeat (first | refine kN_ ?_ _ | refine kD_ ?_ | refine kA_ ?_ _)); refine blk_put (cs := #[.int .i64 0, .int .u64 0, .int .u64 0, .int .i64 0, .int .i64 0, .int .i64 0, .int .i64 0, .int .i64 0, .int .i64 0]) ?_ 0 _ rfl; (with_reducible repeat (first | refine kN_ ?_ _ | refine kD_ ?_ | refine kA_ ?_ _)); refine blk_far ?_ NB102_113.out _; (with_reducible repeat (first | refine kN_ ?_ _ | refine kD_ ?_ | refine kA_ ?_ _)); exact BK102.out) Try.underlying26 rfl (by kernel_rfl)) rfl ?_
         exact ⟨by first | rfl | (simp [errW_none, errW_some] <;> rfl) | (simp only [← hji11, ← hji13]; first | rfl | (simp [errW_none, errW_some] <;> rfl)) | (simp [*, errW_none, errW_some] <;> rfl), by repeat (first | (with_reducible first | exact HB.out | apply bA_ | apply bN_ | apply bD_ | refine bS_ ?_ GE101.out | refine bS_ ?_ GE102.out | refine bS_ ?_ GE113.out) | exact HB.out)⟩
        ·rw [if_neg c68] at H
         have c68b0 : (t117 == 6) = false := beq_eq_false_iff_ne.mpr c68
         have c68b1 : (t117 != 6) = true := bne_iff_ne.mpr c68
         simp only [Option.some.injEq, Prod.mk.injEq] at H
         obtain ⟨rfl, rfl, rfl, rfl, rfl, rfl, rfl, rfl, rfl⟩ := H
         have hnb75 := NB101_102.out
         have hnc75 := NB102_101.out
         have hnb76 := NB101_113.out
         have hnc76 := NB113_101.out
         obtain ⟨hcz77_0, hcz77_1, hcz77_2, hcz77_3, hcz77_4, hcz77_5, hcz77_6, hcz77_7, hcz77_8⟩ := cells9_ BK101.out
         obtain ⟨hfz77_0, hfz77_1, hfz77_2, hfz77_3, hfz77_4, hfz77_5, hfz77_6, hfz77_7, hfz77_8⟩ := froz9_ BK101.out
         go_wp2_with (first | ((with_reducible refine gate_callee (f := 28) rfl ?_); refine goesL_ (some 65) rfl rfl Try.func28 (by kernel_rfl) rfl #[.int .i64 a0_7, .int .i64 8] rfl (by (try simp only [List.map_toArray, List.map_cons, List.map_nil]); first | done | rfl | (simp only [List.length_drop, List.length_take]; rfl)) ?_; (with_reducible refine (platformfwhelp_Mod.calls a0_7 8 t117 _ A67.out).mono ?_); rintro e w' ⟨rfl, ⟨nd, rfl⟩⟩; refine ⟨_, rfl, ?_⟩; (try (rw [drewN_self wc]; generalize hq_ : World.drewN wc _ = wc; have n0_ : Aside0 (wc.heap[gb101]? = some (.cells #[.int .i64 a0_0, .int .u64 a0_1, .int .u64 a0_2, .int .i64 a0_3, .int .i64 a0_4, .int .i64 a0_5, .int .i64 a0_6, .int .i64 a0_7, .int .i64 a0_8] 26 (0, 0))) := ⟨by rw [← hq_]; exact (by (with_reducible repeat (first | refine kN_ ?_ _ | refine kD_ ?_ | refine kA_ ?_ _)); exact BK101.out)⟩; have n1_ : Aside0 (wc.heap[gb102]? = some (.cells #[.int .i64 0, .int .u64 0, .int .u64 0, .int .i64 0, .int .i64 0, .int .i64 0, .int .i64 0, .int .i64 0, .int .i64 0] 26 (0, 0))) := ⟨by rw [← hq_]; exact (by (with_reducible repeat (first | refine kN_ ?_ _ | refine kD_ ?_ | refine kA_ ?_ _)); exact BK102.out)⟩; have n2_ : Aside0 (wc.heap[gb113]? = some (.cells #[.int .i64 (rd y105 t108), .int .u64 (IntKind.u64.wrap ((Int.tmod a0_1 20) * 8)), .int .u64 (IntKind.u64.wrap (1 + (Int.tmod a0_2 60))), .int .i64 t110, .int .i64 x114004_20, .int .i64 ji13, .int .i64 t112, .int .i64 a0_7, .int .i64 a0_8] 26 (0, 0))) := ⟨by rw [← hq_]; exact (by (with_reducible repeat (first | refine kN_ ?_ _ | refine kD_ ?_ | refine kA_ ?_ _)); exact BK113.out)⟩; have n3_ : Aside0 (Below w.heap.size w wc) := ⟨by rw [← hq_]; exact (by repeat (first | (with_reducible first | exact HB.out | apply bA_ | apply bN_ | apply bD_ | refine bS_ ?_ GE101.out | refine bS_ ?_ GE102.out | refine bS_ ?_ GE113.out) | exact HB.out))⟩; clear BK101 BK102 BK113 HB hq_; have BK101 := n0_; have BK102 := n1_; have BK113 := n2_; have HB := n3_; clear n0_ n1_ n2_ n3_)); have hnb78 := NB113_102.out; have hnc78 := NB102_113.out; obtain ⟨hcz79_0, hcz79_1, hcz79_2, hcz79_3, hcz79_4, hcz79_5, hcz79_6, hcz79_7, hcz79_8⟩ := cells9_ BK113.out; obtain ⟨hfz79_0, hfz79_1, hfz79_2, hfz79_3, hfz79_4, hfz79_5, hfz79_6, hfz79_7, hfz79_8⟩ := froz9_ BK113.out; obtain ⟨hcz80_0, hcz80_1, hcz80_2, hcz80_3, hcz80_4, hcz80_5, hcz80_6, hcz80_7, hcz80_8⟩ := cells9_ BK102.out; obtain ⟨hfz80_0, hfz80_1, hfz80_2, hfz80_3, hfz80_4, hfz80_5, hfz80_6, hfz80_7, hfz80_8⟩ := froz9_ BK102.out))
         refine bodyPost_ret (results_cell_row rfl _ _ gb102 26 #[.int .i64 (rd y105 t108), .int .u64 (IntKind.u64.wrap ((Int.tmod a0_1 20) * 8)), .int .u64 (IntKind.u64.wrap (1 + (Int.tmod a0_2 60))), .int .i64 t110, .int .i64 x114004_20, .int .i64 ji13, .int .i64 t112, .int .i64 a0_7, .int .i64 a0_8] (0, 0) _ rfl (by (with_reducible repeat (first | refine kN_ ?_ _ | refine kD_ ?_ | refine kA_ ?_ _)); refine blk_put (cs := #[.int .i64 (rd y105 t108), .int .u64 (IntKind.u64.wrap ((Int.tmod a0_1 20) * 8)), .int .u64 (IntKind.u64.wrap (1 + (Int.tmod a0_2 60))), .int .i64 t110, .int .i64 x114004_20, .int .i64 ji13, .int .i64 t112, .int .i64 a0_7, .int .i64 0]) ?_ 8 _ rfl; (with_reducible repeat (first | refine kN_ ?_ _ | refine kD_ ?_ | refine kA_ ?_ _)); refine blk_put (cs := #[.int .i64 (rd y105 t108), .int .u64 (IntKind.u64.wrap ((Int.tmod a0_1 20) * 8)), .int .u64 (IntKind.u64.wrap (1 + (Int.tmod a0_2 60))), .int .i64 t110, .int .i64 x114004_20, .int .i64 ji13, .int .i64 t112, .int .i64 0, .int .i64 0]) ?_ 7 _ rfl; (with_reducible repeat (first | refine kN_ ?_ _ | refine kD_ ?_ | refine kA_ ?_ _)); refine blk_put (cs := #[.int .i64 (rd y105 t108), .int .u64 (IntKind.u64.wrap ((Int.tmod a0_1 20) * 8)), .int .u64 (IntKind.u64.wrap (1 + (Int.tmod a0_2 60))), .int .i64 t110, .int .i64 x114004_20, .int .i64 ji13, .int .i64 0, .int .i64 0, .int .i64 0]) ?_ 6 _ rfl; (with_reducible repeat (first | refine kN_ ?_ _ | refine kD_ ?_ | refine kA_ ?_ _)); refine blk_put (cs := #[.int .i64 (rd y105 t108), .int .u64 (IntKind.u64.wrap ((Int.tmod a0_1 20) * 8)), .int .u64 (IntKind.u64.wrap (1 + (Int.tmod a0_2 60))), .int .i64 t110, .int .i64 x114004_20, .int .i64 0, .int .i64 0, .int .i64 0, .int .i64 0]) ?_ 5 _ rfl; (with_reducible repeat (first | refine kN_ ?_ _ | refine kD_ ?_ | refine kA_ ?_ _)); refine blk_put (cs := #[.int .i64 (rd y105 t108), .int .u64 (IntKind.u64.wrap ((Int.tmod a0_1 20) * 8)), .int .u64 (IntKind.u64.wrap (1 + (Int.tmod a0_2 60))), .int .i64 t110, .int .i64 0, .int .i64 0, .int .i64 0, .int .i64 0, .int .i64 0]) ?_ 4 _ rfl; (with_reducible repeat (first | refine kN_ ?_ _ | refine kD_ ?_ | refine kA_ ?_ _)); refine blk_put (cs := #[.int .i64 (rd y105 t108), .int .u64 (IntKind.u64.wrap ((Int.tmod a0_1 20) * 8)), .int .u64 (IntKind.u64.wrap (1 + (Int.tmod a0_2 60))), .int .i64 0, .int .i64 0, .int .i64 0, .int .i64 0, .int .i64 0, .int .i64 0]) ?_ 3 _ rfl; (with_reducible repeat (first | refine kN_ ?_ _ | refine kD_ ?_ | refine kA_ ?_ _)); refine blk_put (cs := #[.int .i64 (rd y105 t108), .int .u64 (IntKind.u64.wrap ((Int.tmod a0_1 20) * 8)), .int .u64 0, .int .i64 0, .int .i64 0, .int .i64 0, .int .i64 0, .int .i64 0, .int .i64 0]) ?_ 2 _ rfl; (with_reducible repeat (first | refine kN_ ?_ _ | refine kD_ ?_ | refine kA_ ?_ _)); refine blk_put (cs := #[.int .i64 (rd y105 t108), .int .u64 0, .int .u64 0, .int .i64 0, .int .i64 0, .int .i64 0, .int .i64 0, .int .i64 0, .int .i64 0]) ?_ 1 _ rfl; (with_reducible repeat (first | refine kN_ ?_ _ | refine kD_ ?_ | refine kA_ ?_ _)); refine blk_put (cs := #[.int .i64 0, .int .u64 0, .int .u64 0, .int .i64 0, .int .i64 0, .int .i64 0, .int .i64 0, .int .i64 0, .int .i64 0]) ?_ 0 _ rfl; (with_reducible repeat (first | refine kN_ ?_ _ | refine kD_ ?_ | refine kA_ ?_ _)); exact BK102.out) Try.underlying26 rfl (by kernel_rfl)) rfl ?_
         exact ⟨by first | rfl | (simp [errW_none, errW_some] <;> rfl) | (simp only [← hji11, ← hji13]; first | rfl | (simp [errW_none, errW_some] <;> rfl)) | (simp [*, errW_none, errW_some] <;> rfl), by repeat (first | (with_reducible first | exact HB.out | apply bA_ | apply bN_ | apply bD_ | refine bS_ ?_ GE101.out | refine bS_ ?_ GE102.out | refine bS_ ?_ GE113.out) | exact HB.out)⟩
    ·rw [if_neg c16] at H
     exact absurd H (by simp)
   ·rw [if_neg c15] at H
    exact absurd H (by simp)
  ·rw [if_neg c12] at H
   exact absurd H (by simp)

end Go.Proofs.Ytmnmidclaaiffaa.PFieldConverts
