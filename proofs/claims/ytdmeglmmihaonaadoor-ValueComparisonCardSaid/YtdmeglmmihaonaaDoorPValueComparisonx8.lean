-- Written by a program of this session's (wip/print_patch.py over the kit's print) out of the translation; Lean checks it.
import Derived.Test.YtdmeglmmihaonaaDoorPValueComparisonx0
import Derived.Test.YtdmeglmmihaonaaDoorPValueComparisonx1
import Derived.Test.YtdmeglmmihaonaaDoorPValueComparisonx5
import Derived.Test.YtdmeglmmihaonaaDoorPValueComparisonx6
import Derived.Test.YtdmeglmmihaonaaDoorPValueComparisonx7
import Derived.Test.YtdmeglmmihaonaaDoorExtP
namespace Go.Proofs.YtdmeglmmihaonaaDoor.PValueComparison
open Go.RowKit Go.Proofs.YtdmeglmmihaonaaDoor.Ext Go.Proofs.YtdmeglmmihaonaaDoorW.PrintWords Go.Proofs.YtdmeglmmihaonaaDoorW.PrintLast Go.Proofs.YtdmeglmmihaonaaDoorW.PrintMore
attribute [local go_sem] max2_int min2_int max_two min_two max_three min_three max_four min_four   -- for this text's walks alone
set_option linter.unusedVariables false
set_option linter.unusedSimpArgs false

attribute [local go_sem high] eqA24
/-! ### platformfwlaw08_ValueComparison: function 4 -/
mutual
def platformfwlaw08_ValueComparison.j0 : Nat → Bool → Int → Int → ByteArray → Int → Int → Int → ByteArray → Int → Option (Bool)
 | 0, _, _, _, _, _, _, _, _, _ => none
 | k + 1, x37, x340000, x340001, x340002, x340003, x341000, x341001, x341002, x341003 => if x37 = true then ((platformfwlaw08_awake.f k).bind fun t351 => (some t351)) else ((value_Binary.f k 72 x340000 x340001 x340002 x340003 x341000 x341001 x341002 x341003).bind fun bt352 => ((value_Binary.f k 73 x340000 x340001 x340002 x340003 x341000 x341001 x341002 x341003).bind fun bt358 => ((value_Binary.f k 74 x340000 x340001 x340002 x340003 x341000 x341001 x341002 x341003).bind fun bt364 => ((value_Binary.f k 73 x341000 x341001 x341002 x341003 x340000 x340001 x340002 x340003).bind fun bt370 => ((some (([(⟨bt352.1, bt352.2.1, bt352.2.2.1, bt352.2.2.2.1⟩ : S24), (⟨bt358.1, bt358.2.1, bt358.2.2.1, bt358.2.2.2.1⟩ : S24), (⟨bt364.1, bt364.2.1, bt364.2.2.1, bt364.2.2.2.1⟩ : S24)] : List (S24)) : List (S24))).bind fun y376 => (platformfwlaw08_ValueComparison.l0 k bt352.2.2.2.2 bt358.2.2.2.2 bt364.2.2.2.2 0 y376 (y376.length : Int) 0 bt364.1 bt364.2.1 bt364.2.2.1 bt364.2.2.2.1 bt370.1 bt370.2.1 bt370.2.2.1 bt370.2.2.2.1))))))
def platformfwlaw08_ValueComparison.l0 : Nat → Int → Int → Int → Int → List (S24) → Int → Int → Int → Int → ByteArray → Int → Int → Int → ByteArray → Int → Option (Bool)
 | 0, _, _, _, _, _, _, _, _, _, _, _, _, _, _, _ => none
 | k + 1, x8, x10, x12, x15, x66, x67, x68, x370000, x370001, x370002, x370003, x376000, x376001, x376002, x376003 => if x68 < x67 then (if 0 ≤ x68 then (if x68 < (x66.length : Int) then ((platformfwref08_Bool.f true).bind fun bt382 => (if (((rd_T24 x66 x68).f0) == bt382.1 && (((rd_T24 x66 x68).f1) == bt382.2.1 && ((((rd_T24 x66 x68).f2).toList) == bt382.2.2.1.toList && (((rd_T24 x66 x68).f3) == bt382.2.2.2)))) = true then (platformfwlaw08_ValueComparison.l0 k x8 x10 x12 (wrap64 (x15 + 1)) x66 x67 (wrap64 (x68 + 1)) x370000 x370001 x370002 x370003 x376000 x376001 x376002 x376003) else ((platformfwref08_Bool.f false).bind fun bt386 => (if (!(((rd_T24 x66 x68).f0) == bt386.1) || (!(((rd_T24 x66 x68).f1) == bt386.2.1) || (!((((rd_T24 x66 x68).f2).toList) == bt386.2.2.1.toList) || (!(((rd_T24 x66 x68).f3) == bt386.2.2.2))))) = true then (some false) else (platformfwlaw08_ValueComparison.l0 k x8 x10 x12 x15 x66 x67 (wrap64 (x68 + 1)) x370000 x370001 x370002 x370003 x376000 x376001 x376002 x376003))))) else (none)) else (none)) else ((platformfwlaw08_awake.f k).bind fun t379 => (if t379 = true then (if x8 = 0 then (if x10 = 0 then (if x12 = 0 then (if x15 = 1 then (some (x376000 == x370000 && (x376001 == x370001 && (x376002.toList == x370002.toList && (x376003 == x370003))))) else (some false)) else (some false)) else (some false)) else (some false)) else (some false)))
end
def platformfwlaw08_ValueComparison.f (k : Nat) (a0_0 : Int) (a0_1 : Int) (a0_2 : ByteArray) (a0_3 : Int) (a1_0 : Int) (a1_1 : Int) (a1_2 : ByteArray) (a1_3 : Int) (a2 : Int) : Option (Bool) := (platformfwlaw08_some.f k a0_0 a0_1 a0_2 a0_3).bind fun bt341 => ((platformfwlaw08_some.f k a1_0 a1_1 a1_2 a1_3).bind fun bt345 => ((platformfwref08_Valid.f (wrap64 (1 + (wrap64 (Int.tmod a2 3)))) bt341.2.1 bt341.2.2.1 bt341.2.2.2).bind fun t349 => (if t349 = true then ((platformfwref08_Valid.f (wrap64 (1 + (wrap64 (Int.tmod a2 3)))) bt345.2.1 bt345.2.2.1 bt345.2.2.2).bind fun t350 => (platformfwlaw08_ValueComparison.j0 k (!t350) (wrap64 (1 + (wrap64 (Int.tmod a2 3)))) bt341.2.1 bt341.2.2.1 bt341.2.2.2 (wrap64 (1 + (wrap64 (Int.tmod a2 3)))) bt345.2.1 bt345.2.2.1 bt345.2.2.2)) else (platformfwlaw08_ValueComparison.j0 k true (wrap64 (1 + (wrap64 (Int.tmod a2 3)))) bt341.2.1 bt341.2.2.1 bt341.2.2.2 (wrap64 (1 + (wrap64 (Int.tmod a2 3)))) bt345.2.1 bt345.2.2.1 bt345.2.2.2))))
theorem platformfwlaw08_ValueComparison.mono_l : ∀ k, (∀ y0 y1 y2 y3 y4 y5 y6 y7 y8, LeO (platformfwlaw08_ValueComparison.j0 k y0 y1 y2 y3 y4 y5 y6 y7 y8) (platformfwlaw08_ValueComparison.j0 (k + 1) y0 y1 y2 y3 y4 y5 y6 y7 y8)) ∧ (∀ y0 y1 y2 y3 y4 y5 y6 y7 y8 y9 y10 y11 y12 y13 y14, LeO (platformfwlaw08_ValueComparison.l0 k y0 y1 y2 y3 y4 y5 y6 y7 y8 y9 y10 y11 y12 y13 y14) (platformfwlaw08_ValueComparison.l0 (k + 1) y0 y1 y2 y3 y4 y5 y6 y7 y8 y9 y10 y11 y12 y13 y14))
 | 0 => ⟨fun _ _ _ _ _ _ _ _ _ r h => by simp [platformfwlaw08_ValueComparison.j0] at h, fun _ _ _ _ _ _ _ _ _ _ _ _ _ _ _ r h => by simp [platformfwlaw08_ValueComparison.l0] at h⟩
 | k + 1 => by
  obtain ⟨ih0, ih1⟩ := platformfwlaw08_ValueComparison.mono_l k
  refine ⟨?_, ?_⟩
  ·intro y0 y1 y2 y3 y4 y5 y6 y7 y8
   unfold platformfwlaw08_ValueComparison.j0
   repeat' first
   | (with_reducible exact ih0 _ _ _ _ _ _ _ _ _)
   | (with_reducible exact ih1 _ _ _ _ _ _ _ _ _ _ _ _ _ _ _)
   | (with_reducible exact platformfwlaw08_awake.mono _)
   | (with_reducible exact platformfwlaw08_some.mono _ _ _ _ _)
   | (with_reducible exact value_Binary.mono _ _ _ _ _ _ _ _ _ _)
   | (with_reducible exact LeO.refl _)
   | (with_reducible exact LeO.none _)
   | (with_reducible refine LeO.ite ?_ ?_)
   | (with_reducible refine LeO.bind ?_ (fun _ => ?_))
   | exact ih0 _ _ _ _ _ _ _ _ _
   | exact ih1 _ _ _ _ _ _ _ _ _ _ _ _ _ _ _
   | exact platformfwlaw08_awake.mono _
   | exact platformfwlaw08_some.mono _ _ _ _ _
   | exact value_Binary.mono _ _ _ _ _ _ _ _ _ _
   | exact LeO.none _
   | refine LeO.ite ?_ ?_
   | refine LeO.bind ?_ (fun _ => ?_)
  ·intro y0 y1 y2 y3 y4 y5 y6 y7 y8 y9 y10 y11 y12 y13 y14
   unfold platformfwlaw08_ValueComparison.l0
   repeat' first
   | (with_reducible exact ih0 _ _ _ _ _ _ _ _ _)
   | (with_reducible exact ih1 _ _ _ _ _ _ _ _ _ _ _ _ _ _ _)
   | (with_reducible exact platformfwlaw08_awake.mono _)
   | (with_reducible exact platformfwlaw08_some.mono _ _ _ _ _)
   | (with_reducible exact value_Binary.mono _ _ _ _ _ _ _ _ _ _)
   | (with_reducible exact LeO.refl _)
   | (with_reducible exact LeO.none _)
   | (with_reducible refine LeO.ite ?_ ?_)
   | (with_reducible refine LeO.bind ?_ (fun _ => ?_))
   | exact ih0 _ _ _ _ _ _ _ _ _
   | exact ih1 _ _ _ _ _ _ _ _ _ _ _ _ _ _ _
   | exact platformfwlaw08_awake.mono _
   | exact platformfwlaw08_some.mono _ _ _ _ _
   | exact value_Binary.mono _ _ _ _ _ _ _ _ _ _
   | exact LeO.none _
   | refine LeO.ite ?_ ?_
   | refine LeO.bind ?_ (fun _ => ?_)
theorem platformfwlaw08_ValueComparison.mono : ∀ a0 a1 a2 a3 a4 a5 a6 a7 a8 k, LeO (platformfwlaw08_ValueComparison.f k a0 a1 a2 a3 a4 a5 a6 a7 a8) (platformfwlaw08_ValueComparison.f (k + 1) a0 a1 a2 a3 a4 a5 a6 a7 a8) := by
 intro a0 a1 a2 a3 a4 a5 a6 a7 a8 k
 obtain ⟨ih0, ih1⟩ := platformfwlaw08_ValueComparison.mono_l k
 unfold platformfwlaw08_ValueComparison.f
 repeat' first
   | (with_reducible exact ih0 _ _ _ _ _ _ _ _ _)
   | (with_reducible exact ih1 _ _ _ _ _ _ _ _ _ _ _ _ _ _ _)
   | (with_reducible exact platformfwlaw08_awake.mono _)
   | (with_reducible exact platformfwlaw08_some.mono _ _ _ _ _)
   | (with_reducible exact value_Binary.mono _ _ _ _ _ _ _ _ _ _)
   | (with_reducible exact LeO.refl _)
   | (with_reducible exact LeO.none _)
   | (with_reducible refine LeO.ite ?_ ?_)
   | (with_reducible refine LeO.bind ?_ (fun _ => ?_))
   | exact ih0 _ _ _ _ _ _ _ _ _
   | exact ih1 _ _ _ _ _ _ _ _ _ _ _ _ _ _ _
   | exact platformfwlaw08_awake.mono _
   | exact platformfwlaw08_some.mono _ _ _ _ _
   | exact value_Binary.mono _ _ _ _ _ _ _ _ _ _
   | exact LeO.none _
   | refine LeO.ite ?_ ?_
   | refine LeO.bind ?_ (fun _ => ?_)
set_option maxHeartbeats 8000000 in
set_option maxRecDepth 100000 in
theorem platformfwlaw08_ValueComparison.calls (k : Nat) (a0_0 : Int) (a0_1 : Int) (a0_2 : ByteArray) (a0_3 : Int) (a1_0 : Int) (a1_1 : Int) (a1_2 : ByteArray) (a1_3 : Int) (a2 : Int) (r : Bool) (w : World) (hT_ : w.cell? ⟨6, 15, none⟩ = some (.int .u8 4)) (hr_ : Aside0 (r = true)) (h : platformfwlaw08_ValueComparison.f k a0_0 a0_1 a0_2 a0_3 a1_0 a1_1 a1_2 a1_3 a2 = some r) :
  Calls Tryd.prog 4 #[.agg #[.int .i64 a0_0, .int .u64 a0_1, .string a0_2, .int .i64 a0_3], .agg #[.int .i64 a1_0, .int .u64 a1_1, .string a1_2, .int .i64 a1_3], .int .u8 a2] w fun e w' => e = .returned (.bool r) ∧ Below w.heap.size w w' := by
 have HTT_ := Aside0.mk hT_
 clear hT_
 have hu24 := Tryd.underlying24
 have HB := Aside0.mk (Below.refl w.heap.size w)
 have H : ((platformfwlaw08_some.f k a0_0 a0_1 a0_2 a0_3).bind fun bt341 => ((platformfwlaw08_some.f k a1_0 a1_1 a1_2 a1_3).bind fun bt345 => ((platformfwref08_Valid.f (wrap64 (1 + (wrap64 (Int.tmod a2 3)))) bt341.2.1 bt341.2.2.1 bt341.2.2.2).bind fun t349 => (if t349 = true then ((platformfwref08_Valid.f (wrap64 (1 + (wrap64 (Int.tmod a2 3)))) bt345.2.1 bt345.2.2.1 bt345.2.2.2).bind fun t350 => (platformfwlaw08_ValueComparison.j0 k (!t350) (wrap64 (1 + (wrap64 (Int.tmod a2 3)))) bt341.2.1 bt341.2.2.1 bt341.2.2.2 (wrap64 (1 + (wrap64 (Int.tmod a2 3)))) bt345.2.1 bt345.2.2.1 bt345.2.2.2)) else (platformfwlaw08_ValueComparison.j0 k true (wrap64 (1 + (wrap64 (Int.tmod a2 3)))) bt341.2.1 bt341.2.2.1 bt341.2.2.2 (wrap64 (1 + (wrap64 (Int.tmod a2 3)))) bt345.2.1 bt345.2.2.1 bt345.2.2.2))))) = some r := h
 clear h
 replace H := Option.bind_eq_some_iff.mp H
 obtain ⟨⟨t341, t342, t343, t344⟩, A40, H⟩ := H
 replace H : ((platformfwlaw08_some.f k a1_0 a1_1 a1_2 a1_3).bind fun bt345 => ((platformfwref08_Valid.f (wrap64 (1 + (wrap64 (Int.tmod a2 3)))) t342 t343 t344).bind fun t349 => (if t349 = true then ((platformfwref08_Valid.f (wrap64 (1 + (wrap64 (Int.tmod a2 3)))) bt345.2.1 bt345.2.2.1 bt345.2.2.2).bind fun t350 => (platformfwlaw08_ValueComparison.j0 k (!t350) (wrap64 (1 + (wrap64 (Int.tmod a2 3)))) t342 t343 t344 (wrap64 (1 + (wrap64 (Int.tmod a2 3)))) bt345.2.1 bt345.2.2.1 bt345.2.2.2)) else (platformfwlaw08_ValueComparison.j0 k true (wrap64 (1 + (wrap64 (Int.tmod a2 3)))) t342 t343 t344 (wrap64 (1 + (wrap64 (Int.tmod a2 3)))) bt345.2.1 bt345.2.2.1 bt345.2.2.2)))) = some r := H
 have A4 := Aside0.mk A40
 clear A40
 replace H := Option.bind_eq_some_iff.mp H
 obtain ⟨⟨t345, t346, t347, t348⟩, A50, H⟩ := H
 replace H : ((platformfwref08_Valid.f (wrap64 (1 + (wrap64 (Int.tmod a2 3)))) t342 t343 t344).bind fun t349 => (if t349 = true then ((platformfwref08_Valid.f (wrap64 (1 + (wrap64 (Int.tmod a2 3)))) t346 t347 t348).bind fun t350 => (platformfwlaw08_ValueComparison.j0 k (!t350) (wrap64 (1 + (wrap64 (Int.tmod a2 3)))) t342 t343 t344 (wrap64 (1 + (wrap64 (Int.tmod a2 3)))) t346 t347 t348)) else (platformfwlaw08_ValueComparison.j0 k true (wrap64 (1 + (wrap64 (Int.tmod a2 3)))) t342 t343 t344 (wrap64 (1 + (wrap64 (Int.tmod a2 3)))) t346 t347 t348))) = some r := H
 have A5 := Aside0.mk A50
 clear A50
 have HC6 := Aside0.mk H
 clear H
 go_enter Tryd.func4, Tryd.ntmps4
 try go_wp2_with (first | ((with_reducible refine gate_dst (N := 3) rfl ?_); refine box_event ?hg (N := 3) ?hd (cs := #[.int .i64 a0_0, .int .u64 a0_1, .string a0_2, .int .i64 a0_3]) (t := 24) ?hr ?_; (case hd => rfl); (case hg => rfl); (case hr => first | (go_simp; done) | (go_simp; rfl)); intro gb339 hg w7 hbox hb; have n0_ := Aside0.mk (below_step (by repeat (first | (with_reducible first | exact HB.out | apply bA_ | apply bN_ | apply bD_) | exact HB.out)) hb); have n1_ := Aside0.mk (hbox); have n2_ := Aside0.mk ((by rw [hg]; exact (below_size (by repeat (first | (with_reducible first | exact HB.out | apply bA_ | apply bN_ | apply bD_) | exact HB.out))) : w.heap.size ≤ gb339)); have n3_ := Aside0.mk ((by rw [hg]; exact (below_size (by repeat (first | (with_reducible first | exact HB.out | apply bA_ | apply bN_ | apply bD_) | exact HB.out))) : w.heap.size ≤ gb339)); clear HB; have HB := n0_; have BK339 := n1_; have GW339 := n2_; have GE339 := n3_; clear n0_ n1_ n2_ n3_; clear hb hbox hg) | ((with_reducible refine gate_dst (N := 4) rfl ?_); refine box_event ?hg (N := 4) ?hd (cs := #[.int .i64 a1_0, .int .u64 a1_1, .string a1_2, .int .i64 a1_3]) (t := 24) ?hr ?_; (case hd => rfl); (case hg => rfl); (case hr => first | (go_simp; done) | (go_simp; rfl)); intro gb340 hg w8 hbox hb; have n0_ := Aside0.mk (blk_below (g := gb339) (o := .cells #[.int .i64 a0_0, .int .u64 a0_1, .string a0_2, .int .i64 a0_3] 24 (0, 0)) (by (with_reducible repeat (first | apply kN_ | apply kD_ | apply kA_)); exact BK339.out) hb); have n1_ := Aside0.mk (below_step (by repeat (first | (with_reducible first | exact HB.out | apply bA_ | apply bN_ | apply bD_ | refine bS_ ?_ GE339.out) | exact HB.out)) hb); have n2_ := Aside0.mk (hbox); have n3_ := Aside0.mk ((by rw [hg]; exact (below_size (by repeat (first | (with_reducible first | exact HB.out | apply bA_ | apply bN_ | apply bD_ | refine bS_ ?_ GE339.out) | exact HB.out))) : w.heap.size ≤ gb340)); have n4_ := Aside0.mk ((by rw [hg]; exact (below_size (by repeat (first | (with_reducible first | exact HB.out | apply bA_ | apply bN_ | apply bD_ | refine bS_ ?_ GE339.out) | exact HB.out))) : w.heap.size ≤ gb340)); have n5_ := Aside0.mk ((by rw [hg]; exact Nat.ne_of_lt (blk_lt (g := gb339) (o := .cells #[.int .i64 a0_0, .int .u64 a0_1, .string a0_2, .int .i64 a0_3] 24 (0, 0)) (by (with_reducible repeat (first | apply kN_ | apply kD_ | apply kA_)); exact BK339.out)) : gb339 ≠ gb340)); have n6_ := Aside0.mk ((by rw [hg]; exact Nat.ne_of_gt (blk_lt (g := gb339) (o := .cells #[.int .i64 a0_0, .int .u64 a0_1, .string a0_2, .int .i64 a0_3] 24 (0, 0)) (by (with_reducible repeat (first | apply kN_ | apply kD_ | apply kA_)); exact BK339.out)) : gb340 ≠ gb339)); clear BK339; clear HB; have BK339 := n0_; have HB := n1_; have BK340 := n2_; have GW340 := n3_; have GE340 := n4_; have NB339_340 := n5_; have NB340_339 := n6_; clear n0_ n1_ n2_ n3_ n4_ n5_ n6_; clear hb hbox hg))
 have n0_ := Aside0.mk (kD_ BK339.out)
 have n1_ := Aside0.mk (kD_ BK340.out)
 have n2_ := Aside0.mk (bD_ HB.out)
 clear BK339
 clear BK340
 clear HB
 have BK339 := n0_
 have BK340 := n1_
 have HB := n2_
 clear n0_ n1_ n2_
 refine start_ (n := 6) (S := fun w' => w'.cell? ⟨gb339, 0, none⟩ = some (.int .i64 a0_0) ∧ w'.cell? ⟨gb339, 1, none⟩ = some (.int .u64 a0_1) ∧ w'.cell? ⟨gb339, 2, none⟩ = some (.string a0_2) ∧ w'.cell? ⟨gb339, 3, none⟩ = some (.int .i64 a0_3) ∧ w'.cell? ⟨gb340, 0, none⟩ = some (.int .i64 a1_0) ∧ w'.cell? ⟨gb340, 1, none⟩ = some (.int .u64 a1_1) ∧ w'.cell? ⟨gb340, 2, none⟩ = some (.string a1_2) ∧ w'.cell? ⟨gb340, 3, none⟩ = some (.int .i64 a1_3)) (ds := [4, 5]) #[false, false, false, false, false, false] (by kernel_rfl) rfl rfl ⟨(blk_cell BK339.out 0).trans rfl, (blk_cell BK339.out 1).trans rfl, (blk_cell BK339.out 2).trans rfl, (blk_cell BK339.out 3).trans rfl, (blk_cell BK340.out 0).trans rfl, (blk_cell BK340.out 1).trans rfl, (blk_cell BK340.out 2).trans rfl, (blk_cell BK340.out 3).trans rfl⟩ (fun hHeld => ?_)
 generalize w8.drew = w9 at BK339 BK340 HB hHeld ⊢
 refine take_ (i := 0) (N := some 18) (v := ?_) (a' := ?_) (tf 6 1) rfl rfl (by kernel_rfl) (fun _ _ _ h => h) (Or.inl ⟨by rfl, ?_⟩) hHeld ?_ ?_
 rotate_left
 ·rintro w' ⟨s0, s1, s2, s3, s4, s5, s6, s7⟩
  go_simp
  with_reducible rfl
 rotate_left
 ·simp only [Act.put, sA_, sB_, sC_, i64_w, i32_w]
  rfl
 refine take_ (i := 2) (N := some 20) (v := ?_) (a' := ?_) (tf 6 5) rfl rfl (by kernel_rfl) (fun _ _ _ h => h) (Or.inl ⟨by rfl, ?_⟩) hHeld ?_ ?_
 rotate_left
 ·rintro w' ⟨s0, s1, s2, s3, s4, s5, s6, s7⟩
  go_simp
  with_reducible rfl
 rotate_left
 ·simp only [Act.put, sA_, sB_, sC_, i64_w, i32_w]
  rfl
 refine one_ (i := 1) (N := some 19) (tf 6 7) rfl rfl (by kernel_rfl) (by decide) (fun K hK => ?_)
 refine goes_ Tryd.func11 (by kernel_rfl) rfl #[.agg #[.int .i64 a0_0, .int .u64 a0_1, .string a0_2, .int .i64 a0_3]] (by rfl) rfl rfl (by (try simp only [List.map_toArray, List.map_cons, List.map_nil]); first | done | rfl | (simp only [List.length_drop, List.length_take]; rfl)) ?_
 with_reducible refine (platformfwlaw08_some.calls k a0_0 a0_1 a0_2 a0_3 t341 t342 t343 t344 _ A4.out).mono ?_
 rintro e w10 ⟨rfl, hb⟩
 refine ⟨_, rfl, ?_⟩
 have n0_ := Aside0.mk (blk_below (g := gb339) (o := .cells #[.int .i64 a0_0, .int .u64 a0_1, .string a0_2, .int .i64 a0_3] 24 (0, 0)) (by (with_reducible repeat (first | apply kN_ | apply kD_ | apply kA_)); exact BK339.out) hb)
 have n1_ := Aside0.mk (blk_below (g := gb340) (o := .cells #[.int .i64 a1_0, .int .u64 a1_1, .string a1_2, .int .i64 a1_3] 24 (0, 0)) (by (with_reducible repeat (first | apply kN_ | apply kD_ | apply kA_)); exact BK340.out) hb)
 have n2_ := Aside0.mk (below_step (by repeat (first | (with_reducible first | exact HB.out | apply bA_ | apply bN_ | apply bD_ | refine bS_ ?_ GE339.out | refine bS_ ?_ GE340.out) | exact HB.out)) hb)
 clear BK339
 clear BK340
 clear HB
 have BK339 := n0_
 have BK340 := n1_
 have HB := n2_
 clear n0_ n1_ n2_
 (try clear hb)
 (try clear hb2)
 (try clear hk)
 (try clear hi)
 refine hK.out _ _ ⟨(blk_cell BK339.out 0).trans rfl, (blk_cell BK339.out 1).trans rfl, (blk_cell BK339.out 2).trans rfl, (blk_cell BK339.out 3).trans rfl, (blk_cell BK340.out 0).trans rfl, (blk_cell BK340.out 1).trans rfl, (blk_cell BK340.out 2).trans rfl, (blk_cell BK340.out 3).trans rfl⟩ (fun hHeld => ?_)
 clear hK K
 refine norm_ (a' := ?_) ?_ ?_
 rotate_left
 ·show Act.put _ (some 19) _ = _
  simp only [Act.put, sA_, sB_, sC_, i64_w, i32_w]
  rfl
 refine one_ (i := 3) (N := some 21) (tf 6 15) rfl rfl (by kernel_rfl) (by decide) (fun K hK => ?_)
 refine goes_ Tryd.func11 (by kernel_rfl) rfl #[.agg #[.int .i64 a1_0, .int .u64 a1_1, .string a1_2, .int .i64 a1_3]] (by rfl) rfl rfl (by (try simp only [List.map_toArray, List.map_cons, List.map_nil]); first | done | rfl | (simp only [List.length_drop, List.length_take]; rfl)) ?_
 with_reducible refine (platformfwlaw08_some.calls k a1_0 a1_1 a1_2 a1_3 t345 t346 t347 t348 _ A5.out).mono ?_
 rintro e w11 ⟨rfl, hb⟩
 refine ⟨_, rfl, ?_⟩
 have n0_ := Aside0.mk (blk_below (g := gb339) (o := .cells #[.int .i64 a0_0, .int .u64 a0_1, .string a0_2, .int .i64 a0_3] 24 (0, 0)) (by (with_reducible repeat (first | apply kN_ | apply kD_ | apply kA_)); exact BK339.out) hb)
 have n1_ := Aside0.mk (blk_below (g := gb340) (o := .cells #[.int .i64 a1_0, .int .u64 a1_1, .string a1_2, .int .i64 a1_3] 24 (0, 0)) (by (with_reducible repeat (first | apply kN_ | apply kD_ | apply kA_)); exact BK340.out) hb)
 have n2_ := Aside0.mk (below_step (by repeat (first | (with_reducible first | exact HB.out | apply bA_ | apply bN_ | apply bD_ | refine bS_ ?_ GE339.out | refine bS_ ?_ GE340.out) | exact HB.out)) hb)
 clear BK339
 clear BK340
 clear HB
 have BK339 := n0_
 have BK340 := n1_
 have HB := n2_
 clear n0_ n1_ n2_
 (try clear hb)
 (try clear hb2)
 (try clear hk)
 (try clear hi)
 refine hK.out _ _ ⟨(blk_cell BK339.out 0).trans rfl, (blk_cell BK339.out 1).trans rfl, (blk_cell BK339.out 2).trans rfl, (blk_cell BK339.out 3).trans rfl, (blk_cell BK340.out 0).trans rfl, (blk_cell BK340.out 1).trans rfl, (blk_cell BK340.out 2).trans rfl, (blk_cell BK340.out 3).trans rfl⟩ (fun hHeld => ?_)
 clear hK K
 refine norm_ (a' := ?_) ?_ ?_
 rotate_left
 ·show Act.put _ (some 21) _ = _
  simp only [Act.put, sA_, sB_, sC_, i64_w, i32_w]
  rfl
 refine last_ (i := 4) (N := none) (tf 6 31) rfl rfl (by kernel_rfl) (by decide) (fun K hK => ?_)
 have hs12 : w11.cell? ⟨gb339, 0, none⟩ = some (.int .i64 a0_0) := (blk_cell BK339.out 0).trans rfl
 have hfs12 := blk_frozen BK339.out 0
 have hns12_1 := NB340_339.out
 have hms12_1 := NB339_340.out
 have hs13 : w11.cell? ⟨gb339, 1, none⟩ = some (.int .u64 a0_1) := (blk_cell BK339.out 1).trans rfl
 have hfs13 := blk_frozen BK339.out 1
 have hns13_1 := NB340_339.out
 have hms13_1 := NB339_340.out
 have hs14 : w11.cell? ⟨gb339, 2, none⟩ = some (.string a0_2) := (blk_cell BK339.out 2).trans rfl
 have hfs14 := blk_frozen BK339.out 2
 have hns14_1 := NB340_339.out
 have hms14_1 := NB339_340.out
 have hs15 : w11.cell? ⟨gb339, 3, none⟩ = some (.int .i64 a0_3) := (blk_cell BK339.out 3).trans rfl
 have hfs15 := blk_frozen BK339.out 3
 have hns15_1 := NB340_339.out
 have hms15_1 := NB339_340.out
 refine skip_ (w1 := ?_) (by rfl) rfl ?_ ?_
 rotate_left
 ·go_simp
  rfl
 refine hK.out _ _ ?_
 clear hK K
 refine last_ (i := 5) (N := none) (tf 6 63) rfl rfl (by kernel_rfl) (by decide) (fun K hK => ?_)
 have hs16 : w11.cell? ⟨gb340, 0, none⟩ = some (.int .i64 a1_0) := (blk_cell BK340.out 0).trans rfl
 have hfs16 := blk_frozen BK340.out 0
 have hns16_0 := NB339_340.out
 have hms16_0 := NB340_339.out
 have hs17 : w11.cell? ⟨gb340, 1, none⟩ = some (.int .u64 a1_1) := (blk_cell BK340.out 1).trans rfl
 have hfs17 := blk_frozen BK340.out 1
 have hns17_0 := NB339_340.out
 have hms17_0 := NB340_339.out
 have hs18 : w11.cell? ⟨gb340, 2, none⟩ = some (.string a1_2) := (blk_cell BK340.out 2).trans rfl
 have hfs18 := blk_frozen BK340.out 2
 have hns18_0 := NB339_340.out
 have hms18_0 := NB340_339.out
 have hs19 : w11.cell? ⟨gb340, 3, none⟩ = some (.int .i64 a1_3) := (blk_cell BK340.out 3).trans rfl
 have hfs19 := blk_frozen BK340.out 3
 have hns19_0 := NB339_340.out
 have hms19_0 := NB340_339.out
 refine skip_ (w1 := ?_) (by rfl) rfl ?_ ?_
 rotate_left
 ·go_simp
  rfl
 refine hK.out _ _ ?_
 clear hK K
 refine done_ (by kernel_rfl) ?_
 have hnb20 := NB339_340.out
 have hnc20 := NB340_339.out
 have hcz21_0 : w11.cell? ⟨gb339, 0, none⟩ = some (.int .i64 a0_0) := (blk_cell BK339.out 0).trans rfl
 have hcz21_1 : w11.cell? ⟨gb339, 1, none⟩ = some (.int .u64 a0_1) := (blk_cell BK339.out 1).trans rfl
 have hcz21_2 : w11.cell? ⟨gb339, 2, none⟩ = some (.string a0_2) := (blk_cell BK339.out 2).trans rfl
 have hcz21_3 : w11.cell? ⟨gb339, 3, none⟩ = some (.int .i64 a0_3) := (blk_cell BK339.out 3).trans rfl
 have hfz21_0 := blk_frozen BK339.out 0
 have hfz21_1 := blk_frozen BK339.out 1
 have hfz21_2 := blk_frozen BK339.out 2
 have hfz21_3 := blk_frozen BK339.out 3
 have hcz22_0 : w11.cell? ⟨gb340, 0, none⟩ = some (.int .i64 a1_0) := (blk_cell BK340.out 0).trans rfl
 have hcz22_1 : w11.cell? ⟨gb340, 1, none⟩ = some (.int .u64 a1_1) := (blk_cell BK340.out 1).trans rfl
 have hcz22_2 : w11.cell? ⟨gb340, 2, none⟩ = some (.string a1_2) := (blk_cell BK340.out 2).trans rfl
 have hcz22_3 : w11.cell? ⟨gb340, 3, none⟩ = some (.int .i64 a1_3) := (blk_cell BK340.out 3).trans rfl
 have hfz22_0 := blk_frozen BK340.out 0
 have hfz22_1 := blk_frozen BK340.out 1
 have hfz22_2 := blk_frozen BK340.out 2
 have hfz22_3 := blk_frozen BK340.out 3
 go_upto_region 4 with (fail)
 go_cut [37] (fun v37 wc => ∃ (kq : Nat) (x37_5 : Bool), v37 = .bool x37_5 ∧ Aside0 (platformfwlaw08_ValueComparison.j0 kq x37_5 (wrap64 (1 + (wrap64 (Int.tmod a2 3)))) t342 t343 t344 (wrap64 (1 + (wrap64 (Int.tmod a2 3)))) t346 t347 t348 = some r) ∧ Aside0 (kq ≤ k) ∧ Aside0 (wc.heap[gb339]? = some (.cells #[.int .i64 (wrap64 (1 + (wrap64 (Int.tmod a2 3)))), .int .u64 t342, .string t343, .int .i64 t344] 24 (0, 0))) ∧ Aside0 (wc.heap[gb340]? = some (.cells #[.int .i64 (wrap64 (1 + (wrap64 (Int.tmod a2 3)))), .int .u64 t346, .string t347, .int .i64 t348] 24 (0, 0))) ∧ Aside0 (Below w.heap.size w wc))
 case first =>
  have H := HC6.out
  clear HC6
  replace H := Option.bind_eq_some_iff.mp H
  obtain ⟨t349, A230, H⟩ := H
  replace H : (if t349 = true then ((platformfwref08_Valid.f (wrap64 (1 + (wrap64 (Int.tmod a2 3)))) t346 t347 t348).bind fun t350 => (platformfwlaw08_ValueComparison.j0 k (!t350) (wrap64 (1 + (wrap64 (Int.tmod a2 3)))) t342 t343 t344 (wrap64 (1 + (wrap64 (Int.tmod a2 3)))) t346 t347 t348)) else (platformfwlaw08_ValueComparison.j0 k true (wrap64 (1 + (wrap64 (Int.tmod a2 3)))) t342 t343 t344 (wrap64 (1 + (wrap64 (Int.tmod a2 3)))) t346 t347 t348)) = some r := H
  have A23 := Aside0.mk A230
  clear A230
  by_cases c24 : t349 = true
  ·subst c24
   have H1 : ((platformfwref08_Valid.f (wrap64 (1 + (wrap64 (Int.tmod a2 3)))) t346 t347 t348).bind fun t350 => (platformfwlaw08_ValueComparison.j0 k (!t350) (wrap64 (1 + (wrap64 (Int.tmod a2 3)))) t342 t343 t344 (wrap64 (1 + (wrap64 (Int.tmod a2 3)))) t346 t347 t348)) = some r := by rw [if_pos rfl] at H; exact H
   clear H
   have H := H1
   clear H1
   replace H := Option.bind_eq_some_iff.mp H
   obtain ⟨t350, A250, H⟩ := H
   replace H : (platformfwlaw08_ValueComparison.j0 k (!t350) (wrap64 (1 + (wrap64 (Int.tmod a2 3)))) t342 t343 t344 (wrap64 (1 + (wrap64 (Int.tmod a2 3)))) t346 t347 t348) = some r := H
   have A25 := Aside0.mk A250
   clear A250
   have H' := Aside0.mk H
   clear H
   have hnb26 := NB339_340.out
   have hnc26 := NB340_339.out
   have hcz27_0 : w11.cell? ⟨gb339, 0, none⟩ = some (.int .i64 a0_0) := (blk_cell BK339.out 0).trans rfl
   have hcz27_1 : w11.cell? ⟨gb339, 1, none⟩ = some (.int .u64 a0_1) := (blk_cell BK339.out 1).trans rfl
   have hcz27_2 : w11.cell? ⟨gb339, 2, none⟩ = some (.string a0_2) := (blk_cell BK339.out 2).trans rfl
   have hcz27_3 : w11.cell? ⟨gb339, 3, none⟩ = some (.int .i64 a0_3) := (blk_cell BK339.out 3).trans rfl
   have hfz27_0 := blk_frozen BK339.out 0
   have hfz27_1 := blk_frozen BK339.out 1
   have hfz27_2 := blk_frozen BK339.out 2
   have hfz27_3 := blk_frozen BK339.out 3
   go_wp2_with (first | ((with_reducible refine gate_callee (f := 13) rfl ?_); refine goesL_ (some 31) rfl rfl Tryd.func13 (by kernel_rfl) rfl #[.agg #[.int .i64 (wrap64 (1 + (wrap64 (Int.tmod a2 3)))), .int .u64 t342, .string t343, .int .i64 t344]] rfl (by (try simp only [List.map_toArray, List.map_cons, List.map_nil]); first | done | rfl | (simp only [List.length_drop, List.length_take]; rfl)) ?_; (with_reducible refine (platformfwref08_Valid.calls (wrap64 (1 + (wrap64 (Int.tmod a2 3)))) t342 t343 t344 true _ A23.out).mono ?_); rintro e w28 ⟨rfl, hb⟩; refine ⟨_, rfl, ?_⟩; have n0_ := Aside0.mk (blk_below (g := gb339) (o := .cells #[.int .i64 (wrap64 (1 + (wrap64 (Int.tmod a2 3)))), .int .u64 t342, .string t343, .int .i64 t344] 24 (0, 0)) (by (with_reducible repeat (first | apply kN_ | apply kD_ | apply kA_)); refine blk_far ?_ NB339_340.out _; (with_reducible repeat (first | apply kN_ | apply kD_ | apply kA_)); refine blk_put (cs := #[.int .i64 t341, .int .u64 t342, .string t343, .int .i64 t344]) ?_ 0 _ rfl; (with_reducible repeat (first | apply kN_ | apply kD_ | apply kA_)); refine blk_far ?_ NB339_340.out _; (with_reducible repeat (first | apply kN_ | apply kD_ | apply kA_)); refine blk_far ?_ NB339_340.out _; (with_reducible repeat (first | apply kN_ | apply kD_ | apply kA_)); refine blk_far ?_ NB339_340.out _; (with_reducible repeat (first | apply kN_ | apply kD_ | apply kA_)); refine blk_far ?_ NB339_340.out _; (with_reducible repeat (first | apply kN_ | apply kD_ | apply kA_)); refine blk_put (cs := #[.int .i64 t341, .int .u64 t342, .string t343, .int .i64 a0_3]) ?_ 3 _ rfl; (with_reducible repeat (first | apply kN_ | apply kD_ | apply kA_)); refine blk_put (cs := #[.int .i64 t341, .int .u64 t342, .string a0_2, .int .i64 a0_3]) ?_ 2 _ rfl; (with_reducible repeat (first | apply kN_ | apply kD_ | apply kA_)); refine blk_put (cs := #[.int .i64 t341, .int .u64 a0_1, .string a0_2, .int .i64 a0_3]) ?_ 1 _ rfl; (with_reducible repeat (first | apply kN_ | apply kD_ | apply kA_)); refine blk_put (cs := #[.int .i64 a0_0, .int .u64 a0_1, .string a0_2, .int .i64 a0_3]) ?_ 0 _ rfl; (with_reducible repeat (first | apply kN_ | apply kD_ | apply kA_)); exact BK339.out) hb); have n1_ := Aside0.mk (blk_below (g := gb340) (o := .cells #[.int .i64 (wrap64 (1 + (wrap64 (Int.tmod a2 3)))), .int .u64 t346, .string t347, .int .i64 t348] 24 (0, 0)) (by (with_reducible repeat (first | apply kN_ | apply kD_ | apply kA_)); refine blk_put (cs := #[.int .i64 t345, .int .u64 t346, .string t347, .int .i64 t348]) ?_ 0 _ rfl; (with_reducible repeat (first | apply kN_ | apply kD_ | apply kA_)); refine blk_far ?_ NB340_339.out _; (with_reducible repeat (first | apply kN_ | apply kD_ | apply kA_)); refine blk_put (cs := #[.int .i64 t345, .int .u64 t346, .string t347, .int .i64 a1_3]) ?_ 3 _ rfl; (with_reducible repeat (first | apply kN_ | apply kD_ | apply kA_)); refine blk_put (cs := #[.int .i64 t345, .int .u64 t346, .string a1_2, .int .i64 a1_3]) ?_ 2 _ rfl; (with_reducible repeat (first | apply kN_ | apply kD_ | apply kA_)); refine blk_put (cs := #[.int .i64 t345, .int .u64 a1_1, .string a1_2, .int .i64 a1_3]) ?_ 1 _ rfl; (with_reducible repeat (first | apply kN_ | apply kD_ | apply kA_)); refine blk_put (cs := #[.int .i64 a1_0, .int .u64 a1_1, .string a1_2, .int .i64 a1_3]) ?_ 0 _ rfl; (with_reducible repeat (first | apply kN_ | apply kD_ | apply kA_)); refine blk_far ?_ NB340_339.out _; (with_reducible repeat (first | apply kN_ | apply kD_ | apply kA_)); refine blk_far ?_ NB340_339.out _; (with_reducible repeat (first | apply kN_ | apply kD_ | apply kA_)); refine blk_far ?_ NB340_339.out _; (with_reducible repeat (first | apply kN_ | apply kD_ | apply kA_)); refine blk_far ?_ NB340_339.out _; (with_reducible repeat (first | apply kN_ | apply kD_ | apply kA_)); exact BK340.out) hb); have n2_ := Aside0.mk (below_step (by repeat (first | (with_reducible first | exact HB.out | apply bA_ | apply bN_ | apply bD_ | refine bS_ ?_ GE339.out | refine bS_ ?_ GE340.out) | exact HB.out)) hb); clear BK339; clear BK340; clear HB; have BK339 := n0_; have BK340 := n1_; have HB := n2_; clear n0_ n1_ n2_; (try clear hb); (try clear hb2); (try clear hk); (try clear hi); obtain ⟨hcz29_0, hcz29_1, hcz29_2, hcz29_3⟩ := cells4_ BK340.out; obtain ⟨hfz29_0, hfz29_1, hfz29_2, hfz29_3⟩ := froz4_ BK340.out) | (go_at_call 13; (with_reducible refine (platformfwref08_Valid.calls (wrap64 (1 + (wrap64 (Int.tmod a2 3)))) t346 t347 t348 t350 _ A25.out).mono ?_); rintro e w30 ⟨rfl, hb⟩; have n0_ := Aside0.mk (blk_below (g := gb339) (o := .cells #[.int .i64 (wrap64 (1 + (wrap64 (Int.tmod a2 3)))), .int .u64 t342, .string t343, .int .i64 t344] 24 (0, 0)) (by (with_reducible repeat (first | apply kN_ | apply kD_ | apply kA_)); exact BK339.out) hb); have n1_ := Aside0.mk (blk_below (g := gb340) (o := .cells #[.int .i64 (wrap64 (1 + (wrap64 (Int.tmod a2 3)))), .int .u64 t346, .string t347, .int .i64 t348] 24 (0, 0)) (by (with_reducible repeat (first | apply kN_ | apply kD_ | apply kA_)); exact BK340.out) hb); have n2_ := Aside0.mk (below_step (by repeat (first | (with_reducible first | exact HB.out | apply bA_ | apply bN_ | apply bD_ | refine bS_ ?_ GE339.out | refine bS_ ?_ GE340.out) | exact HB.out)) hb); clear BK339; clear BK340; clear HB; have BK339 := n0_; have BK340 := n1_; have HB := n2_; clear n0_ n1_ n2_; (try clear hb); (try clear hb2); (try clear hk); (try clear hi)))
   go_meet
   case rel => exact ⟨_, (!t350), (by first | rfl | (simp; done) | (simp [*]; done)), H', ⟨by first | omega | exact Nat.le_refl _⟩, ⟨by (with_reducible repeat (first | apply kN_ | apply kD_ | apply kA_)); exact BK339.out⟩, ⟨by (with_reducible repeat (first | apply kN_ | apply kD_ | apply kA_)); exact BK340.out⟩, ⟨by repeat (first | (with_reducible first | exact HB.out | apply bA_ | apply bN_ | apply bD_ | refine bS_ ?_ GE339.out | refine bS_ ?_ GE340.out) | exact HB.out)⟩⟩
  ·replace c24 := Bool.eq_false_iff.mpr c24
   subst c24
   have H1 : (platformfwlaw08_ValueComparison.j0 k true (wrap64 (1 + (wrap64 (Int.tmod a2 3)))) t342 t343 t344 (wrap64 (1 + (wrap64 (Int.tmod a2 3)))) t346 t347 t348) = some r := by rw [if_neg (show ¬ (false = true) by decide)] at H; exact H
   clear H
   have H := H1
   clear H1
   have H' := Aside0.mk H
   clear H
   have hnb31 := NB339_340.out
   have hnc31 := NB340_339.out
   have hcz32_0 : w11.cell? ⟨gb339, 0, none⟩ = some (.int .i64 a0_0) := (blk_cell BK339.out 0).trans rfl
   have hcz32_1 : w11.cell? ⟨gb339, 1, none⟩ = some (.int .u64 a0_1) := (blk_cell BK339.out 1).trans rfl
   have hcz32_2 : w11.cell? ⟨gb339, 2, none⟩ = some (.string a0_2) := (blk_cell BK339.out 2).trans rfl
   have hcz32_3 : w11.cell? ⟨gb339, 3, none⟩ = some (.int .i64 a0_3) := (blk_cell BK339.out 3).trans rfl
   have hfz32_0 := blk_frozen BK339.out 0
   have hfz32_1 := blk_frozen BK339.out 1
   have hfz32_2 := blk_frozen BK339.out 2
   have hfz32_3 := blk_frozen BK339.out 3
   go_wp2_with (first | ((with_reducible refine gate_callee (f := 13) rfl ?_); refine goesL_ (some 31) rfl rfl Tryd.func13 (by kernel_rfl) rfl #[.agg #[.int .i64 (wrap64 (1 + (wrap64 (Int.tmod a2 3)))), .int .u64 t342, .string t343, .int .i64 t344]] rfl (by (try simp only [List.map_toArray, List.map_cons, List.map_nil]); first | done | rfl | (simp only [List.length_drop, List.length_take]; rfl)) ?_; (with_reducible refine (platformfwref08_Valid.calls (wrap64 (1 + (wrap64 (Int.tmod a2 3)))) t342 t343 t344 false _ A23.out).mono ?_); rintro e w33 ⟨rfl, hb⟩; refine ⟨_, rfl, ?_⟩; have n0_ := Aside0.mk (blk_below (g := gb339) (o := .cells #[.int .i64 (wrap64 (1 + (wrap64 (Int.tmod a2 3)))), .int .u64 t342, .string t343, .int .i64 t344] 24 (0, 0)) (by (with_reducible repeat (first | apply kN_ | apply kD_ | apply kA_)); refine blk_far ?_ NB339_340.out _; (with_reducible repeat (first | apply kN_ | apply kD_ | apply kA_)); refine blk_put (cs := #[.int .i64 t341, .int .u64 t342, .string t343, .int .i64 t344]) ?_ 0 _ rfl; (with_reducible repeat (first | apply kN_ | apply kD_ | apply kA_)); refine blk_far ?_ NB339_340.out _; (with_reducible repeat (first | apply kN_ | apply kD_ | apply kA_)); refine blk_far ?_ NB339_340.out _; (with_reducible repeat (first | apply kN_ | apply kD_ | apply kA_)); refine blk_far ?_ NB339_340.out _; (with_reducible repeat (first | apply kN_ | apply kD_ | apply kA_)); refine blk_far ?_ NB339_340.out _; (with_reducible repeat (first | apply kN_ | apply kD_ | apply kA_)); refine blk_put (cs := #[.int .i64 t341, .int .u64 t342, .string t343, .int .i64 a0_3]) ?_ 3 _ rfl; (with_reducible repeat (first | apply kN_ | apply kD_ | apply kA_)); refine blk_put (cs := #[.int .i64 t341, .int .u64 t342, .string a0_2, .int .i64 a0_3]) ?_ 2 _ rfl; (with_reducible repeat (first | apply kN_ | apply kD_ | apply kA_)); refine blk_put (cs := #[.int .i64 t341, .int .u64 a0_1, .string a0_2, .int .i64 a0_3]) ?_ 1 _ rfl; (with_reducible repeat (first | apply kN_ | apply kD_ | apply kA_)); refine blk_put (cs := #[.int .i64 a0_0, .int .u64 a0_1, .string a0_2, .int .i64 a0_3]) ?_ 0 _ rfl; (with_reducible repeat (first | apply kN_ | apply kD_ | apply kA_)); exact BK339.out) hb); have n1_ := Aside0.mk (blk_below (g := gb340) (o := .cells #[.int .i64 (wrap64 (1 + (wrap64 (Int.tmod a2 3)))), .int .u64 t346, .string t347, .int .i64 t348] 24 (0, 0)) (by (with_reducible repeat (first | apply kN_ | apply kD_ | apply kA_)); refine blk_put (cs := #[.int .i64 t345, .int .u64 t346, .string t347, .int .i64 t348]) ?_ 0 _ rfl; (with_reducible repeat (first | apply kN_ | apply kD_ | apply kA_)); refine blk_far ?_ NB340_339.out _; (with_reducible repeat (first | apply kN_ | apply kD_ | apply kA_)); refine blk_put (cs := #[.int .i64 t345, .int .u64 t346, .string t347, .int .i64 a1_3]) ?_ 3 _ rfl; (with_reducible repeat (first | apply kN_ | apply kD_ | apply kA_)); refine blk_put (cs := #[.int .i64 t345, .int .u64 t346, .string a1_2, .int .i64 a1_3]) ?_ 2 _ rfl; (with_reducible repeat (first | apply kN_ | apply kD_ | apply kA_)); refine blk_put (cs := #[.int .i64 t345, .int .u64 a1_1, .string a1_2, .int .i64 a1_3]) ?_ 1 _ rfl; (with_reducible repeat (first | apply kN_ | apply kD_ | apply kA_)); refine blk_put (cs := #[.int .i64 a1_0, .int .u64 a1_1, .string a1_2, .int .i64 a1_3]) ?_ 0 _ rfl; (with_reducible repeat (first | apply kN_ | apply kD_ | apply kA_)); refine blk_far ?_ NB340_339.out _; (with_reducible repeat (first | apply kN_ | apply kD_ | apply kA_)); refine blk_far ?_ NB340_339.out _; (with_reducible repeat (first | apply kN_ | apply kD_ | apply kA_)); refine blk_far ?_ NB340_339.out _; (with_reducible repeat (first | apply kN_ | apply kD_ | apply kA_)); refine blk_far ?_ NB340_339.out _; (with_reducible repeat (first | apply kN_ | apply kD_ | apply kA_)); exact BK340.out) hb); have n2_ := Aside0.mk (below_step (by repeat (first | (with_reducible first | exact HB.out | apply bA_ | apply bN_ | apply bD_ | refine bS_ ?_ GE339.out | refine bS_ ?_ GE340.out) | exact HB.out)) hb); clear BK339; clear BK340; clear HB; have BK339 := n0_; have BK340 := n1_; have HB := n2_; clear n0_ n1_ n2_; (try clear hb); (try clear hb2); (try clear hk); (try clear hi)))
   go_meet
   case rel => exact ⟨_, (true), (by first | rfl | (simp; done) | (simp [*]; done)), H', ⟨by first | omega | exact Nat.le_refl _⟩, ⟨by (with_reducible repeat (first | apply kN_ | apply kD_ | apply kA_)); exact BK339.out⟩, ⟨by (with_reducible repeat (first | apply kN_ | apply kD_ | apply kA_)); exact BK340.out⟩, ⟨by repeat (first | (with_reducible first | exact HB.out | apply bA_ | apply bN_ | apply bD_ | refine bS_ ?_ GE339.out | refine bS_ ?_ GE340.out) | exact HB.out)⟩⟩
 case rest =>
  clear HC6
  try clear c1
  try clear c2
  try clear p2
  try clear c3
  try clear c4
  try clear p6
  try clear c11
  try clear c13
  try clear c20
  try clear c24
  try clear c26
  try clear c31
  try clear hcz21_0 hcz21_1 hcz21_2 hcz21_3
  try clear hcz22_0 hcz22_1 hcz22_2 hcz22_3
  try clear hcz27_0 hcz27_1 hcz27_2 hcz27_3
  try clear hcz29_0 hcz29_1 hcz29_2 hcz29_3
  try clear hcz32_0 hcz32_1 hcz32_2 hcz32_3
  try clear hfz21_0 hfz21_1 hfz21_2 hfz21_3
  try clear hfz22_0 hfz22_1 hfz22_2 hfz22_3
  try clear hfz27_0 hfz27_1 hfz27_2 hfz27_3
  try clear hfz29_0 hfz29_1 hfz29_2 hfz29_3
  try clear hfz32_0 hfz32_1 hfz32_2 hfz32_3
  obtain ⟨kq, x37_5, rfl, HA, HJ5, BK339, BK340, HB⟩ := hcut
  cases kq with
  | zero => exact absurd HA.out (by simp [platformfwlaw08_ValueComparison.j0])
  | succ kj5 =>
   have H := HA.out
   clear HA
   simp only [platformfwlaw08_ValueComparison.j0] at H
   by_cases c34 : x37_5 = true
   ·subst c34
    have H1 : ((platformfwlaw08_awake.f kj5).bind fun t351 => (some t351)) = some r := by rw [if_pos rfl] at H; exact H
    clear H
    have H := H1
    clear H1
    replace H := Option.bind_eq_some_iff.mp H
    obtain ⟨t351, A350, H⟩ := H
    replace H : (some t351) = some r := H
    have A35 := Aside0.mk A350
    clear A350
    obtain rfl := Option.some.inj H
    go_wp2_with (first | ((with_reducible refine gate_callee (f := 12) rfl ?_); refine goesL_ (some 38) rfl rfl Tryd.func12 (by kernel_rfl) rfl #[] rfl (by (try simp only [List.map_toArray, List.map_cons, List.map_nil]); first | done | rfl | (simp only [List.length_drop, List.length_take]; rfl)) ?_; (with_reducible refine (platformfwlaw08_awake.calls kj5  t351 _ ?hTT_ (by first | exact hr_ | exact ⟨rfl⟩) A35.out).mono ?_); (case hTT_ => exact tb_below HTT_.out (by repeat (first | (with_reducible first | exact HB.out | apply bA_ | apply bN_ | apply bD_ | refine bS_ ?_ GE339.out | refine bS_ ?_ GE340.out) | exact HB.out))); rintro e w36 ⟨rfl, hb⟩; refine ⟨_, rfl, ?_⟩; have n0_ := Aside0.mk (blk_below (g := gb339) (o := .cells #[.int .i64 (wrap64 (1 + (wrap64 (Int.tmod a2 3)))), .int .u64 t342, .string t343, .int .i64 t344] 24 (0, 0)) (by (with_reducible repeat (first | apply kN_ | apply kD_ | apply kA_)); exact BK339.out) hb); have n1_ := Aside0.mk (blk_below (g := gb340) (o := .cells #[.int .i64 (wrap64 (1 + (wrap64 (Int.tmod a2 3)))), .int .u64 t346, .string t347, .int .i64 t348] 24 (0, 0)) (by (with_reducible repeat (first | apply kN_ | apply kD_ | apply kA_)); exact BK340.out) hb); have n2_ := Aside0.mk (below_step (by repeat (first | (with_reducible first | exact HB.out | apply bA_ | apply bN_ | apply bD_ | refine bS_ ?_ GE339.out | refine bS_ ?_ GE340.out) | exact HB.out)) hb); clear BK339; clear BK340; clear HB; have BK339 := n0_; have BK340 := n1_; have HB := n2_; clear n0_ n1_ n2_; (try clear hb); (try clear hb2); (try clear hk); (try clear hi)))
    go_ret
    exact ⟨by first | rfl | (simp [errW_none, errW_some] <;> rfl) | (simp [*, errW_none, errW_some] <;> rfl), by repeat (first | (with_reducible first | exact HB.out | apply bA_ | apply bN_ | apply bD_ | refine bS_ ?_ GE339.out | refine bS_ ?_ GE340.out) | exact HB.out)⟩
   ·replace c34 := Bool.eq_false_iff.mpr c34
    subst c34
    have H1 : ((value_Binary.f kj5 72 (wrap64 (1 + (wrap64 (Int.tmod a2 3)))) t342 t343 t344 (wrap64 (1 + (wrap64 (Int.tmod a2 3)))) t346 t347 t348).bind fun bt352 => ((value_Binary.f kj5 73 (wrap64 (1 + (wrap64 (Int.tmod a2 3)))) t342 t343 t344 (wrap64 (1 + (wrap64 (Int.tmod a2 3)))) t346 t347 t348).bind fun bt358 => ((value_Binary.f kj5 74 (wrap64 (1 + (wrap64 (Int.tmod a2 3)))) t342 t343 t344 (wrap64 (1 + (wrap64 (Int.tmod a2 3)))) t346 t347 t348).bind fun bt364 => ((value_Binary.f kj5 73 (wrap64 (1 + (wrap64 (Int.tmod a2 3)))) t346 t347 t348 (wrap64 (1 + (wrap64 (Int.tmod a2 3)))) t342 t343 t344).bind fun bt370 => ((some (([(⟨bt352.1, bt352.2.1, bt352.2.2.1, bt352.2.2.2.1⟩ : S24), (⟨bt358.1, bt358.2.1, bt358.2.2.1, bt358.2.2.2.1⟩ : S24), (⟨bt364.1, bt364.2.1, bt364.2.2.1, bt364.2.2.2.1⟩ : S24)] : List (S24)) : List (S24))).bind fun y376 => (platformfwlaw08_ValueComparison.l0 kj5 bt352.2.2.2.2 bt358.2.2.2.2 bt364.2.2.2.2 0 y376 (y376.length : Int) 0 bt364.1 bt364.2.1 bt364.2.2.1 bt364.2.2.2.1 bt370.1 bt370.2.1 bt370.2.2.1 bt370.2.2.2.1)))))) = some r := by rw [if_neg (show ¬ (false = true) by decide)] at H; exact H
    clear H
    have H := H1
    clear H1
    replace H := Option.bind_eq_some_iff.mp H
    obtain ⟨⟨t352, t353, t354, t355, t356⟩, A370, H⟩ := H
    replace H : ((value_Binary.f kj5 73 (wrap64 (1 + (wrap64 (Int.tmod a2 3)))) t342 t343 t344 (wrap64 (1 + (wrap64 (Int.tmod a2 3)))) t346 t347 t348).bind fun bt358 => ((value_Binary.f kj5 74 (wrap64 (1 + (wrap64 (Int.tmod a2 3)))) t342 t343 t344 (wrap64 (1 + (wrap64 (Int.tmod a2 3)))) t346 t347 t348).bind fun bt364 => ((value_Binary.f kj5 73 (wrap64 (1 + (wrap64 (Int.tmod a2 3)))) t346 t347 t348 (wrap64 (1 + (wrap64 (Int.tmod a2 3)))) t342 t343 t344).bind fun bt370 => ((some (([(⟨t352, t353, t354, t355⟩ : S24), (⟨bt358.1, bt358.2.1, bt358.2.2.1, bt358.2.2.2.1⟩ : S24), (⟨bt364.1, bt364.2.1, bt364.2.2.1, bt364.2.2.2.1⟩ : S24)] : List (S24)) : List (S24))).bind fun y376 => (platformfwlaw08_ValueComparison.l0 kj5 t356 bt358.2.2.2.2 bt364.2.2.2.2 0 y376 (y376.length : Int) 0 bt364.1 bt364.2.1 bt364.2.2.1 bt364.2.2.2.1 bt370.1 bt370.2.1 bt370.2.2.1 bt370.2.2.2.1))))) = some r := H
    have A37 := Aside0.mk A370
    clear A370
    replace H := Option.bind_eq_some_iff.mp H
    obtain ⟨⟨t358, t359, t360, t361, t362⟩, A380, H⟩ := H
    replace H : ((value_Binary.f kj5 74 (wrap64 (1 + (wrap64 (Int.tmod a2 3)))) t342 t343 t344 (wrap64 (1 + (wrap64 (Int.tmod a2 3)))) t346 t347 t348).bind fun bt364 => ((value_Binary.f kj5 73 (wrap64 (1 + (wrap64 (Int.tmod a2 3)))) t346 t347 t348 (wrap64 (1 + (wrap64 (Int.tmod a2 3)))) t342 t343 t344).bind fun bt370 => ((some (([(⟨t352, t353, t354, t355⟩ : S24), (⟨t358, t359, t360, t361⟩ : S24), (⟨bt364.1, bt364.2.1, bt364.2.2.1, bt364.2.2.2.1⟩ : S24)] : List (S24)) : List (S24))).bind fun y376 => (platformfwlaw08_ValueComparison.l0 kj5 t356 t362 bt364.2.2.2.2 0 y376 (y376.length : Int) 0 bt364.1 bt364.2.1 bt364.2.2.1 bt364.2.2.2.1 bt370.1 bt370.2.1 bt370.2.2.1 bt370.2.2.2.1)))) = some r := H
    have A38 := Aside0.mk A380
    clear A380
    replace H := Option.bind_eq_some_iff.mp H
    obtain ⟨⟨t364, t365, t366, t367, t368⟩, A390, H⟩ := H
    replace H : ((value_Binary.f kj5 73 (wrap64 (1 + (wrap64 (Int.tmod a2 3)))) t346 t347 t348 (wrap64 (1 + (wrap64 (Int.tmod a2 3)))) t342 t343 t344).bind fun bt370 => ((some (([(⟨t352, t353, t354, t355⟩ : S24), (⟨t358, t359, t360, t361⟩ : S24), (⟨t364, t365, t366, t367⟩ : S24)] : List (S24)) : List (S24))).bind fun y376 => (platformfwlaw08_ValueComparison.l0 kj5 t356 t362 t368 0 y376 (y376.length : Int) 0 t364 t365 t366 t367 bt370.1 bt370.2.1 bt370.2.2.1 bt370.2.2.2.1))) = some r := H
    have A39 := Aside0.mk A390
    clear A390
    replace H := Option.bind_eq_some_iff.mp H
    obtain ⟨⟨t370, t371, t372, t373, t374⟩, A400, H⟩ := H
    replace H : ((some (([(⟨t352, t353, t354, t355⟩ : S24), (⟨t358, t359, t360, t361⟩ : S24), (⟨t364, t365, t366, t367⟩ : S24)] : List (S24)) : List (S24))).bind fun y376 => (platformfwlaw08_ValueComparison.l0 kj5 t356 t362 t368 0 y376 (y376.length : Int) 0 t364 t365 t366 t367 t370 t371 t372 t373)) = some r := H
    have A40 := Aside0.mk A400
    clear A400
    obtain ⟨y376, hy376⟩ : ∃ y_ : List (S24), y_ = (([(⟨t352, t353, t354, t355⟩ : S24), (⟨t358, t359, t360, t361⟩ : S24), (⟨t364, t365, t366, t367⟩ : S24)] : List (S24))) := ⟨_, rfl⟩
    replace H : (platformfwlaw08_ValueComparison.l0 kj5 t356 t362 t368 0 y376 (y376.length : Int) 0 t364 t365 t366 t367 t370 t371 t372 t373) = some r := by first | (rw [hy376]; with_reducible exact H) | (have H2_ := (Option.bind_some _ _).symm.trans H; rw [hy376]; with_reducible exact H2_) | (have H2_ := (Option.bind_some _ _).symm.trans H; with_reducible exact H2_) | with_reducible exact H | (rw [hy376]; exact H) | exact H
    have Ny376 := Aside0.mk hy376
    clear hy376
    have H' := Aside0.mk H
    clear H
    have hnb41 := NB339_340.out
    have hnc41 := NB340_339.out
    obtain ⟨hcz42_0, hcz42_1, hcz42_2, hcz42_3⟩ := cells4_ BK339.out
    obtain ⟨hfz42_0, hfz42_1, hfz42_2, hfz42_3⟩ := froz4_ BK339.out
    obtain ⟨hcz43_0, hcz43_1, hcz43_2, hcz43_3⟩ := cells4_ BK340.out
    obtain ⟨hfz43_0, hfz43_1, hfz43_2, hfz43_3⟩ := froz4_ BK340.out
    go_wp2_with (first | ((with_reducible refine gate_callee (f := 8) rfl ?_); refine goesL_ (some 42) rfl rfl Tryd.func8 (by kernel_rfl) rfl #[.int .i64 72, .agg #[.int .i64 (wrap64 (1 + (wrap64 (Int.tmod a2 3)))), .int .u64 t342, .string t343, .int .i64 t344], .agg #[.int .i64 (wrap64 (1 + (wrap64 (Int.tmod a2 3)))), .int .u64 t346, .string t347, .int .i64 t348]] rfl (by (try simp only [List.map_toArray, List.map_cons, List.map_nil]); first | done | rfl | (simp only [List.length_drop, List.length_take]; rfl)) ?_; (with_reducible refine (value_Binary.calls kj5 72 (wrap64 (1 + (wrap64 (Int.tmod a2 3)))) t342 t343 t344 (wrap64 (1 + (wrap64 (Int.tmod a2 3)))) t346 t347 t348 t352 t353 t354 t355 t356 _ ?hTT_ A37.out).mono ?_); (case hTT_ => exact tb_below HTT_.out (by repeat (first | (with_reducible first | exact HB.out | apply bA_ | apply bN_ | apply bD_ | refine bS_ ?_ GE339.out | refine bS_ ?_ GE340.out) | exact HB.out))); rintro e w44 ⟨rfl, hb⟩; refine ⟨_, rfl, ?_⟩; have n0_ := Aside0.mk (blk_below (g := gb339) (o := .cells #[.int .i64 (wrap64 (1 + (wrap64 (Int.tmod a2 3)))), .int .u64 t342, .string t343, .int .i64 t344] 24 (0, 0)) (by (with_reducible repeat (first | apply kN_ | apply kD_ | apply kA_)); exact BK339.out) hb); have n1_ := Aside0.mk (blk_below (g := gb340) (o := .cells #[.int .i64 (wrap64 (1 + (wrap64 (Int.tmod a2 3)))), .int .u64 t346, .string t347, .int .i64 t348] 24 (0, 0)) (by (with_reducible repeat (first | apply kN_ | apply kD_ | apply kA_)); exact BK340.out) hb); have n2_ := Aside0.mk (below_step (by repeat (first | (with_reducible first | exact HB.out | apply bA_ | apply bN_ | apply bD_ | refine bS_ ?_ GE339.out | refine bS_ ?_ GE340.out) | exact HB.out)) hb); clear BK339; clear BK340; clear HB; have BK339 := n0_; have BK340 := n1_; have HB := n2_; clear n0_ n1_ n2_; (try clear hb); (try clear hb2); (try clear hk); (try clear hi)) | ((with_reducible refine gate_dst (N := 7) rfl ?_); refine box_event ?hg (N := 7) ?hd (cs := #[.int .i64 0, .int .u64 0, .string (⟨#[]⟩ : ByteArray), .int .i64 0]) (t := 24) ?hr ?_; (case hd => rfl); (case hg => rfl); (case hr => first | (go_simp; done) | (go_simp; rfl)); intro gb357 hg w45 hbox hb; have n0_ := Aside0.mk (blk_below (g := gb339) (o := .cells #[.int .i64 (wrap64 (1 + (wrap64 (Int.tmod a2 3)))), .int .u64 t342, .string t343, .int .i64 t344] 24 (0, 0)) (by (with_reducible repeat (first | apply kN_ | apply kD_ | apply kA_)); exact BK339.out) hb); have n1_ := Aside0.mk (blk_below (g := gb340) (o := .cells #[.int .i64 (wrap64 (1 + (wrap64 (Int.tmod a2 3)))), .int .u64 t346, .string t347, .int .i64 t348] 24 (0, 0)) (by (with_reducible repeat (first | apply kN_ | apply kD_ | apply kA_)); exact BK340.out) hb); have n2_ := Aside0.mk (below_step (by repeat (first | (with_reducible first | exact HB.out | apply bA_ | apply bN_ | apply bD_ | refine bS_ ?_ GE339.out | refine bS_ ?_ GE340.out) | exact HB.out)) hb); have n3_ := Aside0.mk (hbox); have n4_ := Aside0.mk ((by rw [hg]; exact (below_size (by repeat (first | (with_reducible first | exact HB.out | apply bA_ | apply bN_ | apply bD_ | refine bS_ ?_ GE339.out | refine bS_ ?_ GE340.out) | exact HB.out))) : w.heap.size ≤ gb357)); have n5_ := Aside0.mk ((by rw [hg]; exact (below_size (by repeat (first | (with_reducible first | exact HB.out | apply bA_ | apply bN_ | apply bD_ | refine bS_ ?_ GE339.out | refine bS_ ?_ GE340.out) | exact HB.out))) : w.heap.size ≤ gb357)); have n6_ := Aside0.mk ((by rw [hg]; exact Nat.ne_of_lt (blk_lt (g := gb339) (o := .cells #[.int .i64 (wrap64 (1 + (wrap64 (Int.tmod a2 3)))), .int .u64 t342, .string t343, .int .i64 t344] 24 (0, 0)) (by (with_reducible repeat (first | apply kN_ | apply kD_ | apply kA_)); exact BK339.out)) : gb339 ≠ gb357)); have n7_ := Aside0.mk ((by rw [hg]; exact Nat.ne_of_gt (blk_lt (g := gb339) (o := .cells #[.int .i64 (wrap64 (1 + (wrap64 (Int.tmod a2 3)))), .int .u64 t342, .string t343, .int .i64 t344] 24 (0, 0)) (by (with_reducible repeat (first | apply kN_ | apply kD_ | apply kA_)); exact BK339.out)) : gb357 ≠ gb339)); have n8_ := Aside0.mk ((by rw [hg]; exact Nat.ne_of_lt (blk_lt (g := gb340) (o := .cells #[.int .i64 (wrap64 (1 + (wrap64 (Int.tmod a2 3)))), .int .u64 t346, .string t347, .int .i64 t348] 24 (0, 0)) (by (with_reducible repeat (first | apply kN_ | apply kD_ | apply kA_)); exact BK340.out)) : gb340 ≠ gb357)); have n9_ := Aside0.mk ((by rw [hg]; exact Nat.ne_of_gt (blk_lt (g := gb340) (o := .cells #[.int .i64 (wrap64 (1 + (wrap64 (Int.tmod a2 3)))), .int .u64 t346, .string t347, .int .i64 t348] 24 (0, 0)) (by (with_reducible repeat (first | apply kN_ | apply kD_ | apply kA_)); exact BK340.out)) : gb357 ≠ gb340)); clear BK339; clear BK340; clear HB; have BK339 := n0_; have BK340 := n1_; have HB := n2_; have BK357 := n3_; have GW357 := n4_; have GE357 := n5_; have NB339_357 := n6_; have NB357_339 := n7_; have NB340_357 := n8_; have NB357_340 := n9_; clear n0_ n1_ n2_ n3_ n4_ n5_ n6_ n7_ n8_ n9_; clear hb hbox hg; have hnb46 := NB357_339.out; have hnc46 := NB339_357.out; have hnb47 := NB357_340.out; have hnc47 := NB340_357.out; obtain ⟨hcz48_0, hcz48_1, hcz48_2, hcz48_3⟩ := cells4_ BK357.out; obtain ⟨hfz48_0, hfz48_1, hfz48_2, hfz48_3⟩ := froz4_ BK357.out; obtain ⟨hcz49_0, hcz49_1, hcz49_2, hcz49_3⟩ := cells4_ BK339.out; obtain ⟨hfz49_0, hfz49_1, hfz49_2, hfz49_3⟩ := froz4_ BK339.out; obtain ⟨hcz50_0, hcz50_1, hcz50_2, hcz50_3⟩ := cells4_ BK340.out; obtain ⟨hfz50_0, hfz50_1, hfz50_2, hfz50_3⟩ := froz4_ BK340.out) | ((with_reducible refine gate_callee (f := 8) rfl ?_); refine goesL_ (some 48) rfl rfl Tryd.func8 (by kernel_rfl) rfl #[.int .i64 73, .agg #[.int .i64 (wrap64 (1 + (wrap64 (Int.tmod a2 3)))), .int .u64 t342, .string t343, .int .i64 t344], .agg #[.int .i64 (wrap64 (1 + (wrap64 (Int.tmod a2 3)))), .int .u64 t346, .string t347, .int .i64 t348]] rfl (by (try simp only [List.map_toArray, List.map_cons, List.map_nil]); first | done | rfl | (simp only [List.length_drop, List.length_take]; rfl)) ?_; (with_reducible refine (value_Binary.calls kj5 73 (wrap64 (1 + (wrap64 (Int.tmod a2 3)))) t342 t343 t344 (wrap64 (1 + (wrap64 (Int.tmod a2 3)))) t346 t347 t348 t358 t359 t360 t361 t362 _ ?hTT_ A38.out).mono ?_); (case hTT_ => exact tb_below HTT_.out (by repeat (first | (with_reducible first | exact HB.out | apply bA_ | apply bN_ | apply bD_ | refine bS_ ?_ GE339.out | refine bS_ ?_ GE340.out | refine bS_ ?_ GE357.out) | exact HB.out))); rintro e w51 ⟨rfl, hb⟩; refine ⟨_, rfl, ?_⟩; have n0_ := Aside0.mk (blk_below (g := gb339) (o := .cells #[.int .i64 (wrap64 (1 + (wrap64 (Int.tmod a2 3)))), .int .u64 t342, .string t343, .int .i64 t344] 24 (0, 0)) (by (with_reducible repeat (first | apply kN_ | apply kD_ | apply kA_)); refine blk_far ?_ NB339_357.out _; (with_reducible repeat (first | apply kN_ | apply kD_ | apply kA_)); refine blk_far ?_ NB339_357.out _; (with_reducible repeat (first | apply kN_ | apply kD_ | apply kA_)); refine blk_far ?_ NB339_357.out _; (with_reducible repeat (first | apply kN_ | apply kD_ | apply kA_)); refine blk_far ?_ NB339_357.out _; (with_reducible repeat (first | apply kN_ | apply kD_ | apply kA_)); exact BK339.out) hb); have n1_ := Aside0.mk (blk_below (g := gb340) (o := .cells #[.int .i64 (wrap64 (1 + (wrap64 (Int.tmod a2 3)))), .int .u64 t346, .string t347, .int .i64 t348] 24 (0, 0)) (by (with_reducible repeat (first | apply kN_ | apply kD_ | apply kA_)); refine blk_far ?_ NB340_357.out _; (with_reducible repeat (first | apply kN_ | apply kD_ | apply kA_)); refine blk_far ?_ NB340_357.out _; (with_reducible repeat (first | apply kN_ | apply kD_ | apply kA_)); refine blk_far ?_ NB340_357.out _; (with_reducible repeat (first | apply kN_ | apply kD_ | apply kA_)); refine blk_far ?_ NB340_357.out _; (with_reducible repeat (first | apply kN_ | apply kD_ | apply kA_)); exact BK340.out) hb); have n2_ := Aside0.mk (blk_below (g := gb357) (o := .cells #[.int .i64 t352, .int .u64 t353, .string t354, .int .i64 t355] 24 (0, 0)) (by (with_reducible repeat (first | apply kN_ | apply kD_ | apply kA_)); refine blk_put (cs := #[.int .i64 t352, .int .u64 t353, .string t354, .int .i64 0]) ?_ 3 _ rfl; (with_reducible repeat (first | apply kN_ | apply kD_ | apply kA_)); refine blk_put (cs := #[.int .i64 t352, .int .u64 t353, .string (⟨#[]⟩ : ByteArray), .int .i64 0]) ?_ 2 _ rfl; (with_reducible repeat (first | apply kN_ | apply kD_ | apply kA_)); refine blk_put (cs := #[.int .i64 t352, .int .u64 0, .string (⟨#[]⟩ : ByteArray), .int .i64 0]) ?_ 1 _ rfl; (with_reducible repeat (first | apply kN_ | apply kD_ | apply kA_)); refine blk_put (cs := #[.int .i64 0, .int .u64 0, .string (⟨#[]⟩ : ByteArray), .int .i64 0]) ?_ 0 _ rfl; (with_reducible repeat (first | apply kN_ | apply kD_ | apply kA_)); exact BK357.out) hb); have n3_ := Aside0.mk (below_step (by repeat (first | (with_reducible first | exact HB.out | apply bA_ | apply bN_ | apply bD_ | refine bS_ ?_ GE339.out | refine bS_ ?_ GE340.out | refine bS_ ?_ GE357.out) | exact HB.out)) hb); clear BK339; clear BK340; clear BK357; clear HB; have BK339 := n0_; have BK340 := n1_; have BK357 := n2_; have HB := n3_; clear n0_ n1_ n2_ n3_; (try clear hb); (try clear hb2); (try clear hk); (try clear hi)) | ((with_reducible refine gate_dst (N := 9) rfl ?_); refine box_event ?hg (N := 9) ?hd (cs := #[.int .i64 0, .int .u64 0, .string (⟨#[]⟩ : ByteArray), .int .i64 0]) (t := 24) ?hr ?_; (case hd => rfl); (case hg => rfl); (case hr => first | (go_simp; done) | (go_simp; rfl)); intro gb363 hg w52 hbox hb; have n0_ := Aside0.mk (blk_below (g := gb339) (o := .cells #[.int .i64 (wrap64 (1 + (wrap64 (Int.tmod a2 3)))), .int .u64 t342, .string t343, .int .i64 t344] 24 (0, 0)) (by (with_reducible repeat (first | apply kN_ | apply kD_ | apply kA_)); exact BK339.out) hb); have n1_ := Aside0.mk (blk_below (g := gb340) (o := .cells #[.int .i64 (wrap64 (1 + (wrap64 (Int.tmod a2 3)))), .int .u64 t346, .string t347, .int .i64 t348] 24 (0, 0)) (by (with_reducible repeat (first | apply kN_ | apply kD_ | apply kA_)); exact BK340.out) hb); have n2_ := Aside0.mk (blk_below (g := gb357) (o := .cells #[.int .i64 t352, .int .u64 t353, .string t354, .int .i64 t355] 24 (0, 0)) (by (with_reducible repeat (first | apply kN_ | apply kD_ | apply kA_)); exact BK357.out) hb); have n3_ := Aside0.mk (below_step (by repeat (first | (with_reducible first | exact HB.out | apply bA_ | apply bN_ | apply bD_ | refine bS_ ?_ GE339.out | refine bS_ ?_ GE340.out | refine bS_ ?_ GE357.out) | exact HB.out)) hb); have n4_ := Aside0.mk (hbox); have n5_ := Aside0.mk ((by rw [hg]; exact (below_size (by repeat (first | (with_reducible first | exact HB.out | apply bA_ | apply bN_ | apply bD_ | refine bS_ ?_ GE339.out | refine bS_ ?_ GE340.out | refine bS_ ?_ GE357.out) | exact HB.out))) : w.heap.size ≤ gb363)); have n6_ := Aside0.mk ((by rw [hg]; exact (below_size (by repeat (first | (with_reducible first | exact HB.out | apply bA_ | apply bN_ | apply bD_ | refine bS_ ?_ GE339.out | refine bS_ ?_ GE340.out | refine bS_ ?_ GE357.out) | exact HB.out))) : w.heap.size ≤ gb363)); have n7_ := Aside0.mk ((by rw [hg]; exact Nat.ne_of_lt (blk_lt (g := gb339) (o := .cells #[.int .i64 (wrap64 (1 + (wrap64 (Int.tmod a2 3)))), .int .u64 t342, .string t343, .int .i64 t344] 24 (0, 0)) (by (with_reducible repeat (first | apply kN_ | apply kD_ | apply kA_)); exact BK339.out)) : gb339 ≠ gb363)); have n8_ := Aside0.mk ((by rw [hg]; exact Nat.ne_of_gt (blk_lt (g := gb339) (o := .cells #[.int .i64 (wrap64 (1 + (wrap64 (Int.tmod a2 3)))), .int .u64 t342, .string t343, .int .i64 t344] 24 (0, 0)) (by (with_reducible repeat (first | apply kN_ | apply kD_ | apply kA_)); exact BK339.out)) : gb363 ≠ gb339)); have n9_ := Aside0.mk ((by rw [hg]; exact Nat.ne_of_lt (blk_lt (g := gb340) (o := .cells #[.int .i64 (wrap64 (1 + (wrap64 (Int.tmod a2 3)))), .int .u64 t346, .string t347, .int .i64 t348] 24 (0, 0)) (by (with_reducible repeat (first | apply kN_ | apply kD_ | apply kA_)); exact BK340.out)) : gb340 ≠ gb363)); have n10_ := Aside0.mk ((by rw [hg]; exact Nat.ne_of_gt (blk_lt (g := gb340) (o := .cells #[.int .i64 (wrap64 (1 + (wrap64 (Int.tmod a2 3)))), .int .u64 t346, .string t347, .int .i64 t348] 24 (0, 0)) (by (with_reducible repeat (first | apply kN_ | apply kD_ | apply kA_)); exact BK340.out)) : gb363 ≠ gb340)); have n11_ := Aside0.mk ((by rw [hg]; exact Nat.ne_of_lt (blk_lt (g := gb357) (o := .cells #[.int .i64 t352, .int .u64 t353, .string t354, .int .i64 t355] 24 (0, 0)) (by (with_reducible repeat (first | apply kN_ | apply kD_ | apply kA_)); exact BK357.out)) : gb357 ≠ gb363)); have n12_ := Aside0.mk ((by rw [hg]; exact Nat.ne_of_gt (blk_lt (g := gb357) (o := .cells #[.int .i64 t352, .int .u64 t353, .string t354, .int .i64 t355] 24 (0, 0)) (by (with_reducible repeat (first | apply kN_ | apply kD_ | apply kA_)); exact BK357.out)) : gb363 ≠ gb357)); clear BK339; clear BK340; clear BK357; clear HB; have BK339 := n0_; have BK340 := n1_; have BK357 := n2_; have HB := n3_; have BK363 := n4_; have GW363 := n5_; have GE363 := n6_; have NB339_363 := n7_; have NB363_339 := n8_; have NB340_363 := n9_; have NB363_340 := n10_; have NB357_363 := n11_; have NB363_357 := n12_; clear n0_ n1_ n2_ n3_ n4_ n5_ n6_ n7_ n8_ n9_ n10_ n11_ n12_; clear hb hbox hg; have hnb53 := NB363_339.out; have hnc53 := NB339_363.out; have hnb54 := NB363_340.out; have hnc54 := NB340_363.out; have hnb55 := NB363_357.out; have hnc55 := NB357_363.out; obtain ⟨hcz56_0, hcz56_1, hcz56_2, hcz56_3⟩ := cells4_ BK363.out; obtain ⟨hfz56_0, hfz56_1, hfz56_2, hfz56_3⟩ := froz4_ BK363.out; obtain ⟨hcz57_0, hcz57_1, hcz57_2, hcz57_3⟩ := cells4_ BK339.out; obtain ⟨hfz57_0, hfz57_1, hfz57_2, hfz57_3⟩ := froz4_ BK339.out; obtain ⟨hcz58_0, hcz58_1, hcz58_2, hcz58_3⟩ := cells4_ BK340.out; obtain ⟨hfz58_0, hfz58_1, hfz58_2, hfz58_3⟩ := froz4_ BK340.out) | ((with_reducible refine gate_callee (f := 8) rfl ?_); refine goesL_ (some 54) rfl rfl Tryd.func8 (by kernel_rfl) rfl #[.int .i64 74, .agg #[.int .i64 (wrap64 (1 + (wrap64 (Int.tmod a2 3)))), .int .u64 t342, .string t343, .int .i64 t344], .agg #[.int .i64 (wrap64 (1 + (wrap64 (Int.tmod a2 3)))), .int .u64 t346, .string t347, .int .i64 t348]] rfl (by (try simp only [List.map_toArray, List.map_cons, List.map_nil]); first | done | rfl | (simp only [List.length_drop, List.length_take]; rfl)) ?_; (with_reducible refine (value_Binary.calls kj5 74 (wrap64 (1 + (wrap64 (Int.tmod a2 3)))) t342 t343 t344 (wrap64 (1 + (wrap64 (Int.tmod a2 3)))) t346 t347 t348 t364 t365 t366 t367 t368 _ ?hTT_ A39.out).mono ?_); (case hTT_ => exact tb_below HTT_.out (by repeat (first | (with_reducible first | exact HB.out | apply bA_ | apply bN_ | apply bD_ | refine bS_ ?_ GE339.out | refine bS_ ?_ GE340.out | refine bS_ ?_ GE357.out | refine bS_ ?_ GE363.out) | exact HB.out))); rintro e w59 ⟨rfl, hb⟩; refine ⟨_, rfl, ?_⟩; have n0_ := Aside0.mk (blk_below (g := gb339) (o := .cells #[.int .i64 (wrap64 (1 + (wrap64 (Int.tmod a2 3)))), .int .u64 t342, .string t343, .int .i64 t344] 24 (0, 0)) (by (with_reducible repeat (first | apply kN_ | apply kD_ | apply kA_)); refine blk_far ?_ NB339_363.out _; (with_reducible repeat (first | apply kN_ | apply kD_ | apply kA_)); refine blk_far ?_ NB339_363.out _; (with_reducible repeat (first | apply kN_ | apply kD_ | apply kA_)); refine blk_far ?_ NB339_363.out _; (with_reducible repeat (first | apply kN_ | apply kD_ | apply kA_)); refine blk_far ?_ NB339_363.out _; (with_reducible repeat (first | apply kN_ | apply kD_ | apply kA_)); exact BK339.out) hb); have n1_ := Aside0.mk (blk_below (g := gb340) (o := .cells #[.int .i64 (wrap64 (1 + (wrap64 (Int.tmod a2 3)))), .int .u64 t346, .string t347, .int .i64 t348] 24 (0, 0)) (by (with_reducible repeat (first | apply kN_ | apply kD_ | apply kA_)); refine blk_far ?_ NB340_363.out _; (with_reducible repeat (first | apply kN_ | apply kD_ | apply kA_)); refine blk_far ?_ NB340_363.out _; (with_reducible repeat (first | apply kN_ | apply kD_ | apply kA_)); refine blk_far ?_ NB340_363.out _; (with_reducible repeat (first | apply kN_ | apply kD_ | apply kA_)); refine blk_far ?_ NB340_363.out _; (with_reducible repeat (first | apply kN_ | apply kD_ | apply kA_)); exact BK340.out) hb); have n2_ := Aside0.mk (blk_below (g := gb357) (o := .cells #[.int .i64 t352, .int .u64 t353, .string t354, .int .i64 t355] 24 (0, 0)) (by (with_reducible repeat (first | apply kN_ | apply kD_ | apply kA_)); refine blk_far ?_ NB357_363.out _; (with_reducible repeat (first | apply kN_ | apply kD_ | apply kA_)); refine blk_far ?_ NB357_363.out _; (with_reducible repeat (first | apply kN_ | apply kD_ | apply kA_)); refine blk_far ?_ NB357_363.out _; (with_reducible repeat (first | apply kN_ | apply kD_ | apply kA_)); refine blk_far ?_ NB357_363.out _; (with_reducible repeat (first | apply kN_ | apply kD_ | apply kA_)); exact BK357.out) hb); have n3_ := Aside0.mk (blk_below (g := gb363) (o := .cells #[.int .i64 t358, .int .u64 t359, .string t360, .int .i64 t361] 24 (0, 0)) (by (with_reducible repeat (first | apply kN_ | apply kD_ | apply kA_)); refine blk_put (cs := #[.int .i64 t358, .int .u64 t359, .string t360, .int .i64 0]) ?_ 3 _ rfl; (with_reducible repeat (first | apply kN_ | apply kD_ | apply kA_)); refine blk_put (cs := #[.int .i64 t358, .int .u64 t359, .string (⟨#[]⟩ : ByteArray), .int .i64 0]) ?_ 2 _ rfl; (with_reducible repeat (first | apply kN_ | apply kD_ | apply kA_)); refine blk_put (cs := #[.int .i64 t358, .int .u64 0, .string (⟨#[]⟩ : ByteArray), .int .i64 0]) ?_ 1 _ rfl; (with_reducible repeat (first | apply kN_ | apply kD_ | apply kA_)); refine blk_put (cs := #[.int .i64 0, .int .u64 0, .string (⟨#[]⟩ : ByteArray), .int .i64 0]) ?_ 0 _ rfl; (with_reducible repeat (first | apply kN_ | apply kD_ | apply kA_)); exact BK363.out) hb); have n4_ := Aside0.mk (below_step (by repeat (first | (with_reducible first | exact HB.out | apply bA_ | apply bN_ | apply bD_ | refine bS_ ?_ GE339.out | refine bS_ ?_ GE340.out | refine bS_ ?_ GE357.out | refine bS_ ?_ GE363.out) | exact HB.out)) hb); clear BK339; clear BK340; clear BK357; clear BK363; clear HB; have BK339 := n0_; have BK340 := n1_; have BK357 := n2_; have BK363 := n3_; have HB := n4_; clear n0_ n1_ n2_ n3_ n4_; (try clear hb); (try clear hb2); (try clear hk); (try clear hi)) | ((with_reducible refine gate_dst (N := 11) rfl ?_); refine box_event ?hg (N := 11) ?hd (cs := #[.int .i64 0, .int .u64 0, .string (⟨#[]⟩ : ByteArray), .int .i64 0]) (t := 24) ?hr ?_; (case hd => rfl); (case hg => rfl); (case hr => first | (go_simp; done) | (go_simp; rfl)); intro gb369 hg w60 hbox hb; have n0_ := Aside0.mk (blk_below (g := gb339) (o := .cells #[.int .i64 (wrap64 (1 + (wrap64 (Int.tmod a2 3)))), .int .u64 t342, .string t343, .int .i64 t344] 24 (0, 0)) (by (with_reducible repeat (first | apply kN_ | apply kD_ | apply kA_)); exact BK339.out) hb); have n1_ := Aside0.mk (blk_below (g := gb340) (o := .cells #[.int .i64 (wrap64 (1 + (wrap64 (Int.tmod a2 3)))), .int .u64 t346, .string t347, .int .i64 t348] 24 (0, 0)) (by (with_reducible repeat (first | apply kN_ | apply kD_ | apply kA_)); exact BK340.out) hb); have n2_ := Aside0.mk (blk_below (g := gb357) (o := .cells #[.int .i64 t352, .int .u64 t353, .string t354, .int .i64 t355] 24 (0, 0)) (by (with_reducible repeat (first | apply kN_ | apply kD_ | apply kA_)); exact BK357.out) hb); have n3_ := Aside0.mk (blk_below (g := gb363) (o := .cells #[.int .i64 t358, .int .u64 t359, .string t360, .int .i64 t361] 24 (0, 0)) (by (with_reducible repeat (first | apply kN_ | apply kD_ | apply kA_)); exact BK363.out) hb); have n4_ := Aside0.mk (below_step (by repeat (first | (with_reducible first | exact HB.out | apply bA_ | apply bN_ | apply bD_ | refine bS_ ?_ GE339.out | refine bS_ ?_ GE340.out | refine bS_ ?_ GE357.out | refine bS_ ?_ GE363.out) | exact HB.out)) hb); have n5_ := Aside0.mk (hbox); have n6_ := Aside0.mk ((by rw [hg]; exact (below_size (by repeat (first | (with_reducible first | exact HB.out | apply bA_ | apply bN_ | apply bD_ | refine bS_ ?_ GE339.out | refine bS_ ?_ GE340.out | refine bS_ ?_ GE357.out | refine bS_ ?_ GE363.out) | exact HB.out))) : w.heap.size ≤ gb369)); have n7_ := Aside0.mk ((by rw [hg]; exact (below_size (by repeat (first | (with_reducible first | exact HB.out | apply bA_ | apply bN_ | apply bD_ | refine bS_ ?_ GE339.out | refine bS_ ?_ GE340.out | refine bS_ ?_ GE357.out | refine bS_ ?_ GE363.out) | exact HB.out))) : w.heap.size ≤ gb369)); have n8_ := Aside0.mk ((by rw [hg]; exact Nat.ne_of_lt (blk_lt (g := gb339) (o := .cells #[.int .i64 (wrap64 (1 + (wrap64 (Int.tmod a2 3)))), .int .u64 t342, .string t343, .int .i64 t344] 24 (0, 0)) (by (with_reducible repeat (first | apply kN_ | apply kD_ | apply kA_)); exact BK339.out)) : gb339 ≠ gb369)); have n9_ := Aside0.mk ((by rw [hg]; exact Nat.ne_of_gt (blk_lt (g := gb339) (o := .cells #[.int .i64 (wrap64 (1 + (wrap64 (Int.tmod a2 3)))), .int .u64 t342, .string t343, .int .i64 t344] 24 (0, 0)) (by (with_reducible repeat (first | apply kN_ | apply kD_ | apply kA_)); exact BK339.out)) : gb369 ≠ gb339)); have n10_ := Aside0.mk ((by rw [hg]; exact Nat.ne_of_lt (blk_lt (g := gb340) (o := .cells #[.int .i64 (wrap64 (1 + (wrap64 (Int.tmod a2 3)))), .int .u64 t346, .string t347, .int .i64 t348] 24 (0, 0)) (by (with_reducible repeat (first | apply kN_ | apply kD_ | apply kA_)); exact BK340.out)) : gb340 ≠ gb369)); have n11_ := Aside0.mk ((by rw [hg]; exact Nat.ne_of_gt (blk_lt (g := gb340) (o := .cells #[.int .i64 (wrap64 (1 + (wrap64 (Int.tmod a2 3)))), .int .u64 t346, .string t347, .int .i64 t348] 24 (0, 0)) (by (with_reducible repeat (first | apply kN_ | apply kD_ | apply kA_)); exact BK340.out)) : gb369 ≠ gb340)); have n12_ := Aside0.mk ((by rw [hg]; exact Nat.ne_of_lt (blk_lt (g := gb357) (o := .cells #[.int .i64 t352, .int .u64 t353, .string t354, .int .i64 t355] 24 (0, 0)) (by (with_reducible repeat (first | apply kN_ | apply kD_ | apply kA_)); exact BK357.out)) : gb357 ≠ gb369)); have n13_ := Aside0.mk ((by rw [hg]; exact Nat.ne_of_gt (blk_lt (g := gb357) (o := .cells #[.int .i64 t352, .int .u64 t353, .string t354, .int .i64 t355] 24 (0, 0)) (by (with_reducible repeat (first | apply kN_ | apply kD_ | apply kA_)); exact BK357.out)) : gb369 ≠ gb357)); have n14_ := Aside0.mk ((by rw [hg]; exact Nat.ne_of_lt (blk_lt (g := gb363) (o := .cells #[.int .i64 t358, .int .u64 t359, .string t360, .int .i64 t361] 24 (0, 0)) (by (with_reducible repeat (first | apply kN_ | apply kD_ | apply kA_)); exact BK363.out)) : gb363 ≠ gb369)); have n15_ := Aside0.mk ((by rw [hg]; exact Nat.ne_of_gt (blk_lt (g := gb363) (o := .cells #[.int .i64 t358, .int .u64 t359, .string t360, .int .i64 t361] 24 (0, 0)) (by (with_reducible repeat (first | apply kN_ | apply kD_ | apply kA_)); exact BK363.out)) : gb369 ≠ gb363)); clear BK339; clear BK340; clear BK357; clear BK363; clear HB; have BK339 := n0_; have BK340 := n1_; have BK357 := n2_; have BK363 := n3_; have HB := n4_; have BK369 := n5_; have GW369 := n6_; have GE369 := n7_; have NB339_369 := n8_; have NB369_339 := n9_; have NB340_369 := n10_; have NB369_340 := n11_; have NB357_369 := n12_; have NB369_357 := n13_; have NB363_369 := n14_; have NB369_363 := n15_; clear n0_ n1_ n2_ n3_ n4_ n5_ n6_ n7_ n8_ n9_ n10_ n11_ n12_ n13_ n14_ n15_; clear hb hbox hg; have hnb61 := NB369_339.out; have hnc61 := NB339_369.out; have hnb62 := NB369_340.out; have hnc62 := NB340_369.out; have hnb63 := NB369_357.out; have hnc63 := NB357_369.out; have hnb64 := NB369_363.out; have hnc64 := NB363_369.out; obtain ⟨hcz65_0, hcz65_1, hcz65_2, hcz65_3⟩ := cells4_ BK369.out; obtain ⟨hfz65_0, hfz65_1, hfz65_2, hfz65_3⟩ := froz4_ BK369.out; obtain ⟨hcz66_0, hcz66_1, hcz66_2, hcz66_3⟩ := cells4_ BK340.out; obtain ⟨hfz66_0, hfz66_1, hfz66_2, hfz66_3⟩ := froz4_ BK340.out; obtain ⟨hcz67_0, hcz67_1, hcz67_2, hcz67_3⟩ := cells4_ BK339.out; obtain ⟨hfz67_0, hfz67_1, hfz67_2, hfz67_3⟩ := froz4_ BK339.out) | ((with_reducible refine gate_callee (f := 8) rfl ?_); refine goesL_ (some 60) rfl rfl Tryd.func8 (by kernel_rfl) rfl #[.int .i64 73, .agg #[.int .i64 (wrap64 (1 + (wrap64 (Int.tmod a2 3)))), .int .u64 t346, .string t347, .int .i64 t348], .agg #[.int .i64 (wrap64 (1 + (wrap64 (Int.tmod a2 3)))), .int .u64 t342, .string t343, .int .i64 t344]] rfl (by (try simp only [List.map_toArray, List.map_cons, List.map_nil]); first | done | rfl | (simp only [List.length_drop, List.length_take]; rfl)) ?_; (with_reducible refine (value_Binary.calls kj5 73 (wrap64 (1 + (wrap64 (Int.tmod a2 3)))) t346 t347 t348 (wrap64 (1 + (wrap64 (Int.tmod a2 3)))) t342 t343 t344 t370 t371 t372 t373 t374 _ ?hTT_ A40.out).mono ?_); (case hTT_ => exact tb_below HTT_.out (by repeat (first | (with_reducible first | exact HB.out | apply bA_ | apply bN_ | apply bD_ | refine bS_ ?_ GE339.out | refine bS_ ?_ GE340.out | refine bS_ ?_ GE357.out | refine bS_ ?_ GE363.out | refine bS_ ?_ GE369.out) | exact HB.out))); rintro e w68 ⟨rfl, hb⟩; refine ⟨_, rfl, ?_⟩; have n0_ := Aside0.mk (blk_below (g := gb339) (o := .cells #[.int .i64 (wrap64 (1 + (wrap64 (Int.tmod a2 3)))), .int .u64 t342, .string t343, .int .i64 t344] 24 (0, 0)) (by (with_reducible repeat (first | apply kN_ | apply kD_ | apply kA_)); refine blk_far ?_ NB339_369.out _; (with_reducible repeat (first | apply kN_ | apply kD_ | apply kA_)); refine blk_far ?_ NB339_369.out _; (with_reducible repeat (first | apply kN_ | apply kD_ | apply kA_)); refine blk_far ?_ NB339_369.out _; (with_reducible repeat (first | apply kN_ | apply kD_ | apply kA_)); refine blk_far ?_ NB339_369.out _; (with_reducible repeat (first | apply kN_ | apply kD_ | apply kA_)); exact BK339.out) hb); have n1_ := Aside0.mk (blk_below (g := gb340) (o := .cells #[.int .i64 (wrap64 (1 + (wrap64 (Int.tmod a2 3)))), .int .u64 t346, .string t347, .int .i64 t348] 24 (0, 0)) (by (with_reducible repeat (first | apply kN_ | apply kD_ | apply kA_)); refine blk_far ?_ NB340_369.out _; (with_reducible repeat (first | apply kN_ | apply kD_ | apply kA_)); refine blk_far ?_ NB340_369.out _; (with_reducible repeat (first | apply kN_ | apply kD_ | apply kA_)); refine blk_far ?_ NB340_369.out _; (with_reducible repeat (first | apply kN_ | apply kD_ | apply kA_)); refine blk_far ?_ NB340_369.out _; (with_reducible repeat (first | apply kN_ | apply kD_ | apply kA_)); exact BK340.out) hb); have n2_ := Aside0.mk (blk_below (g := gb357) (o := .cells #[.int .i64 t352, .int .u64 t353, .string t354, .int .i64 t355] 24 (0, 0)) (by (with_reducible repeat (first | apply kN_ | apply kD_ | apply kA_)); refine blk_far ?_ NB357_369.out _; (with_reducible repeat (first | apply kN_ | apply kD_ | apply kA_)); refine blk_far ?_ NB357_369.out _; (with_reducible repeat (first | apply kN_ | apply kD_ | apply kA_)); refine blk_far ?_ NB357_369.out _; (with_reducible repeat (first | apply kN_ | apply kD_ | apply kA_)); refine blk_far ?_ NB357_369.out _; (with_reducible repeat (first | apply kN_ | apply kD_ | apply kA_)); exact BK357.out) hb); have n3_ := Aside0.mk (blk_below (g := gb363) (o := .cells #[.int .i64 t358, .int .u64 t359, .string t360, .int .i64 t361] 24 (0, 0)) (by (with_reducible repeat (first | apply kN_ | apply kD_ | apply kA_)); refine blk_far ?_ NB363_369.out _; (with_reducible repeat (first | apply kN_ | apply kD_ | apply kA_)); refine blk_far ?_ NB363_369.out _; (with_reducible repeat (first | apply kN_ | apply kD_ | apply kA_)); refine blk_far ?_ NB363_369.out _; (with_reducible repeat (first | apply kN_ | apply kD_ | apply kA_)); refine blk_far ?_ NB363_369.out _; (with_reducible repeat (first | apply kN_ | apply kD_ | apply kA_)); exact BK363.out) hb); have n4_ := Aside0.mk (blk_below (g := gb369) (o := .cells #[.int .i64 t364, .int .u64 t365, .string t366, .int .i64 t367] 24 (0, 0)) (by (with_reducible repeat (first | apply kN_ | apply kD_ | apply kA_)); refine blk_put (cs := #[.int .i64 t364, .int .u64 t365, .string t366, .int .i64 0]) ?_ 3 _ rfl; (with_reducible repeat (first | apply kN_ | apply kD_ | apply kA_)); refine blk_put (cs := #[.int .i64 t364, .int .u64 t365, .string (⟨#[]⟩ : ByteArray), .int .i64 0]) ?_ 2 _ rfl; (with_reducible repeat (first | apply kN_ | apply kD_ | apply kA_)); refine blk_put (cs := #[.int .i64 t364, .int .u64 0, .string (⟨#[]⟩ : ByteArray), .int .i64 0]) ?_ 1 _ rfl; (with_reducible repeat (first | apply kN_ | apply kD_ | apply kA_)); refine blk_put (cs := #[.int .i64 0, .int .u64 0, .string (⟨#[]⟩ : ByteArray), .int .i64 0]) ?_ 0 _ rfl; (with_reducible repeat (first | apply kN_ | apply kD_ | apply kA_)); exact BK369.out) hb); have n5_ := Aside0.mk (below_step (by repeat (first | (with_reducible first | exact HB.out | apply bA_ | apply bN_ | apply bD_ | refine bS_ ?_ GE339.out | refine bS_ ?_ GE340.out | refine bS_ ?_ GE357.out | refine bS_ ?_ GE363.out | refine bS_ ?_ GE369.out) | exact HB.out)) hb); clear BK339; clear BK340; clear BK357; clear BK363; clear BK369; clear HB; have BK339 := n0_; have BK340 := n1_; have BK357 := n2_; have BK363 := n3_; have BK369 := n4_; have HB := n5_; clear n0_ n1_ n2_ n3_ n4_ n5_; (try clear hb); (try clear hb2); (try clear hk); (try clear hi)) | ((with_reducible refine gate_dst (N := 13) rfl ?_); refine box_event ?hg (N := 13) ?hd (cs := #[.int .i64 0, .int .u64 0, .string (⟨#[]⟩ : ByteArray), .int .i64 0]) (t := 24) ?hr ?_; (case hd => rfl); (case hg => rfl); (case hr => first | (go_simp; done) | (go_simp; rfl)); intro gb375 hg w69 hbox hb; have n0_ := Aside0.mk (blk_below (g := gb339) (o := .cells #[.int .i64 (wrap64 (1 + (wrap64 (Int.tmod a2 3)))), .int .u64 t342, .string t343, .int .i64 t344] 24 (0, 0)) (by (with_reducible repeat (first | apply kN_ | apply kD_ | apply kA_)); exact BK339.out) hb); have n1_ := Aside0.mk (blk_below (g := gb340) (o := .cells #[.int .i64 (wrap64 (1 + (wrap64 (Int.tmod a2 3)))), .int .u64 t346, .string t347, .int .i64 t348] 24 (0, 0)) (by (with_reducible repeat (first | apply kN_ | apply kD_ | apply kA_)); exact BK340.out) hb); have n2_ := Aside0.mk (blk_below (g := gb357) (o := .cells #[.int .i64 t352, .int .u64 t353, .string t354, .int .i64 t355] 24 (0, 0)) (by (with_reducible repeat (first | apply kN_ | apply kD_ | apply kA_)); exact BK357.out) hb); have n3_ := Aside0.mk (blk_below (g := gb363) (o := .cells #[.int .i64 t358, .int .u64 t359, .string t360, .int .i64 t361] 24 (0, 0)) (by (with_reducible repeat (first | apply kN_ | apply kD_ | apply kA_)); exact BK363.out) hb); have n4_ := Aside0.mk (blk_below (g := gb369) (o := .cells #[.int .i64 t364, .int .u64 t365, .string t366, .int .i64 t367] 24 (0, 0)) (by (with_reducible repeat (first | apply kN_ | apply kD_ | apply kA_)); exact BK369.out) hb); have n5_ := Aside0.mk (below_step (by repeat (first | (with_reducible first | exact HB.out | apply bA_ | apply bN_ | apply bD_ | refine bS_ ?_ GE339.out | refine bS_ ?_ GE340.out | refine bS_ ?_ GE357.out | refine bS_ ?_ GE363.out | refine bS_ ?_ GE369.out) | exact HB.out)) hb); have n6_ := Aside0.mk (hbox); have n7_ := Aside0.mk ((by rw [hg]; exact (below_size (by repeat (first | (with_reducible first | exact HB.out | apply bA_ | apply bN_ | apply bD_ | refine bS_ ?_ GE339.out | refine bS_ ?_ GE340.out | refine bS_ ?_ GE357.out | refine bS_ ?_ GE363.out | refine bS_ ?_ GE369.out) | exact HB.out))) : w.heap.size ≤ gb375)); have n8_ := Aside0.mk ((by rw [hg]; exact (below_size (by repeat (first | (with_reducible first | exact HB.out | apply bA_ | apply bN_ | apply bD_ | refine bS_ ?_ GE339.out | refine bS_ ?_ GE340.out | refine bS_ ?_ GE357.out | refine bS_ ?_ GE363.out | refine bS_ ?_ GE369.out) | exact HB.out))) : w.heap.size ≤ gb375)); have n9_ := Aside0.mk ((by rw [hg]; exact Nat.ne_of_lt (blk_lt (g := gb339) (o := .cells #[.int .i64 (wrap64 (1 + (wrap64 (Int.tmod a2 3)))), .int .u64 t342, .string t343, .int .i64 t344] 24 (0, 0)) (by (with_reducible repeat (first | apply kN_ | apply kD_ | apply kA_)); exact BK339.out)) : gb339 ≠ gb375)); have n10_ := Aside0.mk ((by rw [hg]; exact Nat.ne_of_gt (blk_lt (g := gb339) (o := .cells #[.int .i64 (wrap64 (1 + (wrap64 (Int.tmod a2 3)))), .int .u64 t342, .string t343, .int .i64 t344] 24 (0, 0)) (by (with_reducible repeat (first | apply kN_ | apply kD_ | apply kA_)); exact BK339.out)) : gb375 ≠ gb339)); have n11_ := Aside0.mk ((by rw [hg]; exact Nat.ne_of_lt (blk_lt (g := gb340) (o := .cells #[.int .i64 (wrap64 (1 + (wrap64 (Int.tmod a2 3)))), .int .u64 t346, .string t347, .int .i64 t348] 24 (0, 0)) (by (with_reducible repeat (first | apply kN_ | apply kD_ | apply kA_)); exact BK340.out)) : gb340 ≠ gb375)); have n12_ := Aside0.mk ((by rw [hg]; exact Nat.ne_of_gt (blk_lt (g := gb340) (o := .cells #[.int .i64 (wrap64 (1 + (wrap64 (Int.tmod a2 3)))), .int .u64 t346, .string t347, .int .i64 t348] 24 (0, 0)) (by (with_reducible repeat (first | apply kN_ | apply kD_ | apply kA_)); exact BK340.out)) : gb375 ≠ gb340)); have n13_ := Aside0.mk ((by rw [hg]; exact Nat.ne_of_lt (blk_lt (g := gb357) (o := .cells #[.int .i64 t352, .int .u64 t353, .string t354, .int .i64 t355] 24 (0, 0)) (by (with_reducible repeat (first | apply kN_ | apply kD_ | apply kA_)); exact BK357.out)) : gb357 ≠ gb375)); have n14_ := Aside0.mk ((by rw [hg]; exact Nat.ne_of_gt (blk_lt (g := gb357) (o := .cells #[.int .i64 t352, .int .u64 t353, .string t354, .int .i64 t355] 24 (0, 0)) (by (with_reducible repeat (first | apply kN_ | apply kD_ | apply kA_)); exact BK357.out)) : gb375 ≠ gb357)); have n15_ := Aside0.mk ((by rw [hg]; exact Nat.ne_of_lt (blk_lt (g := gb363) (o := .cells #[.int .i64 t358, .int .u64 t359, .string t360, .int .i64 t361] 24 (0, 0)) (by (with_reducible repeat (first | apply kN_ | apply kD_ | apply kA_)); exact BK363.out)) : gb363 ≠ gb375)); have n16_ := Aside0.mk ((by rw [hg]; exact Nat.ne_of_gt (blk_lt (g := gb363) (o := .cells #[.int .i64 t358, .int .u64 t359, .string t360, .int .i64 t361] 24 (0, 0)) (by (with_reducible repeat (first | apply kN_ | apply kD_ | apply kA_)); exact BK363.out)) : gb375 ≠ gb363)); have n17_ := Aside0.mk ((by rw [hg]; exact Nat.ne_of_lt (blk_lt (g := gb369) (o := .cells #[.int .i64 t364, .int .u64 t365, .string t366, .int .i64 t367] 24 (0, 0)) (by (with_reducible repeat (first | apply kN_ | apply kD_ | apply kA_)); exact BK369.out)) : gb369 ≠ gb375)); have n18_ := Aside0.mk ((by rw [hg]; exact Nat.ne_of_gt (blk_lt (g := gb369) (o := .cells #[.int .i64 t364, .int .u64 t365, .string t366, .int .i64 t367] 24 (0, 0)) (by (with_reducible repeat (first | apply kN_ | apply kD_ | apply kA_)); exact BK369.out)) : gb375 ≠ gb369)); clear BK339; clear BK340; clear BK357; clear BK363; clear BK369; clear HB; have BK339 := n0_; have BK340 := n1_; have BK357 := n2_; have BK363 := n3_; have BK369 := n4_; have HB := n5_; have BK375 := n6_; have GW375 := n7_; have GE375 := n8_; have NB339_375 := n9_; have NB375_339 := n10_; have NB340_375 := n11_; have NB375_340 := n12_; have NB357_375 := n13_; have NB375_357 := n14_; have NB363_375 := n15_; have NB375_363 := n16_; have NB369_375 := n17_; have NB375_369 := n18_; clear n0_ n1_ n2_ n3_ n4_ n5_ n6_ n7_ n8_ n9_ n10_ n11_ n12_ n13_ n14_ n15_ n16_ n17_ n18_; clear hb hbox hg; have hnb70 := NB375_339.out; have hnc70 := NB339_375.out; have hnb71 := NB375_340.out; have hnc71 := NB340_375.out; have hnb72 := NB375_357.out; have hnc72 := NB357_375.out; have hnb73 := NB375_363.out; have hnc73 := NB363_375.out; have hnb74 := NB375_369.out; have hnc74 := NB369_375.out; obtain ⟨hcz75_0, hcz75_1, hcz75_2, hcz75_3⟩ := cells4_ BK375.out; obtain ⟨hfz75_0, hfz75_1, hfz75_2, hfz75_3⟩ := froz4_ BK375.out; obtain ⟨hcz76_0, hcz76_1, hcz76_2, hcz76_3⟩ := cells4_ BK357.out; obtain ⟨hfz76_0, hfz76_1, hfz76_2, hfz76_3⟩ := froz4_ BK357.out; obtain ⟨hcz77_0, hcz77_1, hcz77_2, hcz77_3⟩ := cells4_ BK363.out; obtain ⟨hfz77_0, hfz77_1, hfz77_2, hfz77_3⟩ := froz4_ BK363.out; obtain ⟨hcz78_0, hcz78_1, hcz78_2, hcz78_3⟩ := cells4_ BK369.out; obtain ⟨hfz78_0, hfz78_1, hfz78_2, hfz78_3⟩ := froz4_ BK369.out) | ((with_reducible refine gate_dst (N := 66) rfl ?_); refine Kd.R_lit k24 _ 24 ?hg (N := 66) ?hd (xs := ([(⟨t352, t353, t354, t355⟩ : S24), (⟨t358, t359, t360, t361⟩ : S24), (⟨t364, t365, t366, t367⟩ : S24)] : List (S24))) (inner := [.int .i64 t352, .int .u64 t353, .string t354, .int .i64 t355, .int .i64 t358, .int .u64 t359, .string t360, .int .i64 t361, .int .i64 t364, .int .u64 t365, .string t366, .int .i64 t367]) (ok := fun _ => True) (okp := fun _ => True) ?hr ?hp (fun _ hk => hk) trivial (Below.refl _ _) (Nat.le_refl _) (by simp) ?_; (case hd => rfl); (case hg => rfl); (case hr => first | (go_simp; done) | (go_simp; rfl)); (case hp => exact (Reps.c4 (show Kd.M k24 _ _ _ (⟨t352, t353, t354, t355⟩ : S24) [.int .i64 t352, .int .u64 t353, .string t354, .int .i64 t355] from (k24_mkM _ _ _ (⟨t352, t353, t354, t355⟩ : S24) )) (Reps.c4 (show Kd.M k24 _ _ _ (⟨t358, t359, t360, t361⟩ : S24) [.int .i64 t358, .int .u64 t359, .string t360, .int .i64 t361] from (k24_mkM _ _ _ (⟨t358, t359, t360, t361⟩ : S24) )) (Reps.c4 (show Kd.M k24 _ _ _ (⟨t364, t365, t366, t367⟩ : S24) [.int .i64 t364, .int .u64 t365, .string t366, .int .i64 t367] from (k24_mkM _ _ _ (⟨t364, t365, t366, t367⟩ : S24) )) (Reps.none _ _))))); intro v377 w79 ho80 hb hg_ hnew_; clear hg_ hnew_; (first | rw [← Ny376.out] at ho80 | (simp only [Int.reduceToNat] at ho80; rw [← Ny376.out] at ho80)); have n0_ := Aside0.mk (Kd.R_lower (Kd.R_newB (Kd.R_newB (Kd.R_newB (Kd.R_newB (Kd.R_newB (Kd.R_newB ho80 (g := gb339) (o := .cells #[.int .i64 (wrap64 (1 + (wrap64 (Int.tmod a2 3)))), .int .u64 t342, .string t343, .int .i64 t344] 24 (0, 0)) (by (with_reducible repeat (first | apply kN_ | apply kD_ | apply kA_)); refine blk_far ?_ NB339_375.out _; (with_reducible repeat (first | apply kN_ | apply kD_ | apply kA_)); refine blk_far ?_ NB339_375.out _; (with_reducible repeat (first | apply kN_ | apply kD_ | apply kA_)); refine blk_far ?_ NB339_375.out _; (with_reducible repeat (first | apply kN_ | apply kD_ | apply kA_)); refine blk_far ?_ NB339_375.out _; (with_reducible repeat (first | apply kN_ | apply kD_ | apply kA_)); exact BK339.out)) (g := gb340) (o := .cells #[.int .i64 (wrap64 (1 + (wrap64 (Int.tmod a2 3)))), .int .u64 t346, .string t347, .int .i64 t348] 24 (0, 0)) (by (with_reducible repeat (first | apply kN_ | apply kD_ | apply kA_)); refine blk_far ?_ NB340_375.out _; (with_reducible repeat (first | apply kN_ | apply kD_ | apply kA_)); refine blk_far ?_ NB340_375.out _; (with_reducible repeat (first | apply kN_ | apply kD_ | apply kA_)); refine blk_far ?_ NB340_375.out _; (with_reducible repeat (first | apply kN_ | apply kD_ | apply kA_)); refine blk_far ?_ NB340_375.out _; (with_reducible repeat (first | apply kN_ | apply kD_ | apply kA_)); exact BK340.out)) (g := gb357) (o := .cells #[.int .i64 t352, .int .u64 t353, .string t354, .int .i64 t355] 24 (0, 0)) (by (with_reducible repeat (first | apply kN_ | apply kD_ | apply kA_)); refine blk_far ?_ NB357_375.out _; (with_reducible repeat (first | apply kN_ | apply kD_ | apply kA_)); refine blk_far ?_ NB357_375.out _; (with_reducible repeat (first | apply kN_ | apply kD_ | apply kA_)); refine blk_far ?_ NB357_375.out _; (with_reducible repeat (first | apply kN_ | apply kD_ | apply kA_)); refine blk_far ?_ NB357_375.out _; (with_reducible repeat (first | apply kN_ | apply kD_ | apply kA_)); exact BK357.out)) (g := gb363) (o := .cells #[.int .i64 t358, .int .u64 t359, .string t360, .int .i64 t361] 24 (0, 0)) (by (with_reducible repeat (first | apply kN_ | apply kD_ | apply kA_)); refine blk_far ?_ NB363_375.out _; (with_reducible repeat (first | apply kN_ | apply kD_ | apply kA_)); refine blk_far ?_ NB363_375.out _; (with_reducible repeat (first | apply kN_ | apply kD_ | apply kA_)); refine blk_far ?_ NB363_375.out _; (with_reducible repeat (first | apply kN_ | apply kD_ | apply kA_)); refine blk_far ?_ NB363_375.out _; (with_reducible repeat (first | apply kN_ | apply kD_ | apply kA_)); exact BK363.out)) (g := gb369) (o := .cells #[.int .i64 t364, .int .u64 t365, .string t366, .int .i64 t367] 24 (0, 0)) (by (with_reducible repeat (first | apply kN_ | apply kD_ | apply kA_)); refine blk_far ?_ NB369_375.out _; (with_reducible repeat (first | apply kN_ | apply kD_ | apply kA_)); refine blk_far ?_ NB369_375.out _; (with_reducible repeat (first | apply kN_ | apply kD_ | apply kA_)); refine blk_far ?_ NB369_375.out _; (with_reducible repeat (first | apply kN_ | apply kD_ | apply kA_)); refine blk_far ?_ NB369_375.out _; (with_reducible repeat (first | apply kN_ | apply kD_ | apply kA_)); exact BK369.out)) (g := gb375) (o := .cells #[.int .i64 t370, .int .u64 t371, .string t372, .int .i64 t373] 24 (0, 0)) (by (with_reducible repeat (first | apply kN_ | apply kD_ | apply kA_)); refine blk_put (cs := #[.int .i64 t370, .int .u64 t371, .string t372, .int .i64 0]) ?_ 3 _ rfl; (with_reducible repeat (first | apply kN_ | apply kD_ | apply kA_)); refine blk_put (cs := #[.int .i64 t370, .int .u64 t371, .string (⟨#[]⟩ : ByteArray), .int .i64 0]) ?_ 2 _ rfl; (with_reducible repeat (first | apply kN_ | apply kD_ | apply kA_)); refine blk_put (cs := #[.int .i64 t370, .int .u64 0, .string (⟨#[]⟩ : ByteArray), .int .i64 0]) ?_ 1 _ rfl; (with_reducible repeat (first | apply kN_ | apply kD_ | apply kA_)); refine blk_put (cs := #[.int .i64 0, .int .u64 0, .string (⟨#[]⟩ : ByteArray), .int .i64 0]) ?_ 0 _ rfl; (with_reducible repeat (first | apply kN_ | apply kD_ | apply kA_)); exact BK375.out)) (below_size (by repeat (first | (with_reducible first | exact HB.out | apply bA_ | apply bN_ | apply bD_ | refine bS_ ?_ GE339.out | refine bS_ ?_ GE340.out | refine bS_ ?_ GE357.out | refine bS_ ?_ GE363.out | refine bS_ ?_ GE369.out | refine bS_ ?_ GE375.out) | exact HB.out)))); have n1_ := Aside0.mk (blk_below (g := gb339) (o := .cells #[.int .i64 (wrap64 (1 + (wrap64 (Int.tmod a2 3)))), .int .u64 t342, .string t343, .int .i64 t344] 24 (0, 0)) (by (with_reducible repeat (first | apply kN_ | apply kD_ | apply kA_)); refine blk_far ?_ NB339_375.out _; (with_reducible repeat (first | apply kN_ | apply kD_ | apply kA_)); refine blk_far ?_ NB339_375.out _; (with_reducible repeat (first | apply kN_ | apply kD_ | apply kA_)); refine blk_far ?_ NB339_375.out _; (with_reducible repeat (first | apply kN_ | apply kD_ | apply kA_)); refine blk_far ?_ NB339_375.out _; (with_reducible repeat (first | apply kN_ | apply kD_ | apply kA_)); exact BK339.out) hb); have n2_ := Aside0.mk (blk_below (g := gb340) (o := .cells #[.int .i64 (wrap64 (1 + (wrap64 (Int.tmod a2 3)))), .int .u64 t346, .string t347, .int .i64 t348] 24 (0, 0)) (by (with_reducible repeat (first | apply kN_ | apply kD_ | apply kA_)); refine blk_far ?_ NB340_375.out _; (with_reducible repeat (first | apply kN_ | apply kD_ | apply kA_)); refine blk_far ?_ NB340_375.out _; (with_reducible repeat (first | apply kN_ | apply kD_ | apply kA_)); refine blk_far ?_ NB340_375.out _; (with_reducible repeat (first | apply kN_ | apply kD_ | apply kA_)); refine blk_far ?_ NB340_375.out _; (with_reducible repeat (first | apply kN_ | apply kD_ | apply kA_)); exact BK340.out) hb); have n3_ := Aside0.mk (blk_below (g := gb357) (o := .cells #[.int .i64 t352, .int .u64 t353, .string t354, .int .i64 t355] 24 (0, 0)) (by (with_reducible repeat (first | apply kN_ | apply kD_ | apply kA_)); refine blk_far ?_ NB357_375.out _; (with_reducible repeat (first | apply kN_ | apply kD_ | apply kA_)); refine blk_far ?_ NB357_375.out _; (with_reducible repeat (first | apply kN_ | apply kD_ | apply kA_)); refine blk_far ?_ NB357_375.out _; (with_reducible repeat (first | apply kN_ | apply kD_ | apply kA_)); refine blk_far ?_ NB357_375.out _; (with_reducible repeat (first | apply kN_ | apply kD_ | apply kA_)); exact BK357.out) hb); have n4_ := Aside0.mk (blk_below (g := gb363) (o := .cells #[.int .i64 t358, .int .u64 t359, .string t360, .int .i64 t361] 24 (0, 0)) (by (with_reducible repeat (first | apply kN_ | apply kD_ | apply kA_)); refine blk_far ?_ NB363_375.out _; (with_reducible repeat (first | apply kN_ | apply kD_ | apply kA_)); refine blk_far ?_ NB363_375.out _; (with_reducible repeat (first | apply kN_ | apply kD_ | apply kA_)); refine blk_far ?_ NB363_375.out _; (with_reducible repeat (first | apply kN_ | apply kD_ | apply kA_)); refine blk_far ?_ NB363_375.out _; (with_reducible repeat (first | apply kN_ | apply kD_ | apply kA_)); exact BK363.out) hb); have n5_ := Aside0.mk (blk_below (g := gb369) (o := .cells #[.int .i64 t364, .int .u64 t365, .string t366, .int .i64 t367] 24 (0, 0)) (by (with_reducible repeat (first | apply kN_ | apply kD_ | apply kA_)); refine blk_far ?_ NB369_375.out _; (with_reducible repeat (first | apply kN_ | apply kD_ | apply kA_)); refine blk_far ?_ NB369_375.out _; (with_reducible repeat (first | apply kN_ | apply kD_ | apply kA_)); refine blk_far ?_ NB369_375.out _; (with_reducible repeat (first | apply kN_ | apply kD_ | apply kA_)); refine blk_far ?_ NB369_375.out _; (with_reducible repeat (first | apply kN_ | apply kD_ | apply kA_)); exact BK369.out) hb); have n6_ := Aside0.mk (blk_below (g := gb375) (o := .cells #[.int .i64 t370, .int .u64 t371, .string t372, .int .i64 t373] 24 (0, 0)) (by (with_reducible repeat (first | apply kN_ | apply kD_ | apply kA_)); refine blk_put (cs := #[.int .i64 t370, .int .u64 t371, .string t372, .int .i64 0]) ?_ 3 _ rfl; (with_reducible repeat (first | apply kN_ | apply kD_ | apply kA_)); refine blk_put (cs := #[.int .i64 t370, .int .u64 t371, .string (⟨#[]⟩ : ByteArray), .int .i64 0]) ?_ 2 _ rfl; (with_reducible repeat (first | apply kN_ | apply kD_ | apply kA_)); refine blk_put (cs := #[.int .i64 t370, .int .u64 0, .string (⟨#[]⟩ : ByteArray), .int .i64 0]) ?_ 1 _ rfl; (with_reducible repeat (first | apply kN_ | apply kD_ | apply kA_)); refine blk_put (cs := #[.int .i64 0, .int .u64 0, .string (⟨#[]⟩ : ByteArray), .int .i64 0]) ?_ 0 _ rfl; (with_reducible repeat (first | apply kN_ | apply kD_ | apply kA_)); exact BK375.out) hb); have n7_ := Aside0.mk (below_step (by repeat (first | (with_reducible first | exact HB.out | apply bA_ | apply bN_ | apply bD_ | refine bS_ ?_ GE339.out | refine bS_ ?_ GE340.out | refine bS_ ?_ GE357.out | refine bS_ ?_ GE363.out | refine bS_ ?_ GE369.out | refine bS_ ?_ GE375.out) | exact HB.out)) hb); clear BK339; clear BK340; clear BK357; clear BK363; clear BK369; clear BK375; clear HB; have HO378 := n0_; have BK339 := n1_; have BK340 := n2_; have BK357 := n3_; have BK363 := n4_; have BK369 := n5_; have BK375 := n6_; have HB := n7_; clear n0_ n1_ n2_ n3_ n4_ n5_ n6_ n7_; clear hb ho80; obtain ⟨Ao81, co81, eo81⟩ := Kd.R_slice HO378.out; subst eo81))
    go_loopg [15, 68] kj5 (fun kq v15 v68 w' => ∃ (x15_2 : Int) (x68_2 : Int), v15 = .int .i64 x15_2 ∧ v68 = .int .i64 x68_2 ∧ Aside0 (platformfwlaw08_ValueComparison.l0 kq t356 t362 t368 x15_2 y376 (y376.length : Int) x68_2 t364 t365 t366 t367 t370 t371 t372 t373 = some r) ∧ Aside0 (kq ≤ kj5) ∧ Aside0 (Kd.R k24 24 w' w.heap.size (fun k_ => k_ ≠ gb339 ∧ k_ ≠ gb340 ∧ k_ ≠ gb357 ∧ k_ ≠ gb363 ∧ k_ ≠ gb369 ∧ k_ ≠ gb375) (.slice Ao81 y376.length co81) y376) ∧ Aside0 (w'.heap[gb339]? = some (.cells #[.int .i64 (wrap64 (1 + (wrap64 (Int.tmod a2 3)))), .int .u64 t342, .string t343, .int .i64 t344] 24 (0, 0))) ∧ Aside0 (w'.heap[gb340]? = some (.cells #[.int .i64 (wrap64 (1 + (wrap64 (Int.tmod a2 3)))), .int .u64 t346, .string t347, .int .i64 t348] 24 (0, 0))) ∧ Aside0 (w'.heap[gb357]? = some (.cells #[.int .i64 t352, .int .u64 t353, .string t354, .int .i64 t355] 24 (0, 0))) ∧ Aside0 (w'.heap[gb363]? = some (.cells #[.int .i64 t358, .int .u64 t359, .string t360, .int .i64 t361] 24 (0, 0))) ∧ Aside0 (w'.heap[gb369]? = some (.cells #[.int .i64 t364, .int .u64 t365, .string t366, .int .i64 t367] 24 (0, 0))) ∧ Aside0 (w'.heap[gb375]? = some (.cells #[.int .i64 t370, .int .u64 t371, .string t372, .int .i64 t373] 24 (0, 0))) ∧ Aside0 (Below w.heap.size w w'))
    case atStart => exact ⟨(0), (0), (by first | rfl | (simp; done) | (simp [*]; done)), (by first | rfl | (simp; done) | (simp [*]; done)), H', ⟨Nat.le_refl _⟩, ⟨by (with_reducible repeat (first | apply Kd.R_alloc | apply Kd.R_drewN | apply Kd.R_drew)); exact Kd.R_mono HO378.out (fun _ hk => ⟨hk.1.1.1.1.1.2, ⟨hk.1.1.1.1.2, ⟨hk.1.1.1.2, ⟨hk.1.1.2, ⟨hk.1.2, hk.2⟩⟩⟩⟩⟩)⟩, ⟨by (with_reducible repeat (first | apply kN_ | apply kD_ | apply kA_)); exact BK339.out⟩, ⟨by (with_reducible repeat (first | apply kN_ | apply kD_ | apply kA_)); exact BK340.out⟩, ⟨by (with_reducible repeat (first | apply kN_ | apply kD_ | apply kA_)); exact BK357.out⟩, ⟨by (with_reducible repeat (first | apply kN_ | apply kD_ | apply kA_)); exact BK363.out⟩, ⟨by (with_reducible repeat (first | apply kN_ | apply kD_ | apply kA_)); exact BK369.out⟩, ⟨by (with_reducible repeat (first | apply kN_ | apply kD_ | apply kA_)); exact BK375.out⟩, ⟨by repeat (first | (with_reducible first | exact HB.out | apply bA_ | apply bN_ | apply bD_ | refine bS_ ?_ GE339.out | refine bS_ ?_ GE340.out | refine bS_ ?_ GE357.out | refine bS_ ?_ GE363.out | refine bS_ ?_ GE369.out | refine bS_ ?_ GE375.out) | exact HB.out)⟩⟩
    case round =>
     clear H'
     try clear c1
     try clear c2
     try clear p2
     try clear c3
     try clear c4
     try clear c5
     try clear c6
     try clear p6
     try clear c7
     try clear c8
     try clear c11
     try clear c12
     try clear c13
     try clear c20
     try clear c24
     try clear c26
     try clear c31
     try clear c34
     try clear c41
     try clear c46
     try clear c47
     try clear c53
     try clear c54
     try clear c55
     try clear c61
     try clear c62
     try clear c63
     try clear c64
     try clear p64
     try clear c70
     try clear c71
     try clear c72
     try clear c73
     try clear c74
     try clear hcz21_0 hcz21_1 hcz21_2 hcz21_3
     try clear hcz22_0 hcz22_1 hcz22_2 hcz22_3
     try clear hcz27_0 hcz27_1 hcz27_2 hcz27_3
     try clear hcz29_0 hcz29_1 hcz29_2 hcz29_3
     try clear hcz32_0 hcz32_1 hcz32_2 hcz32_3
     try clear hcz42_0 hcz42_1 hcz42_2 hcz42_3
     try clear hcz43_0 hcz43_1 hcz43_2 hcz43_3
     try clear hcz48_0 hcz48_1 hcz48_2 hcz48_3
     try clear hcz49_0 hcz49_1 hcz49_2 hcz49_3
     try clear hcz50_0 hcz50_1 hcz50_2 hcz50_3
     try clear hcz56_0 hcz56_1 hcz56_2 hcz56_3
     try clear hcz57_0 hcz57_1 hcz57_2 hcz57_3
     try clear hcz58_0 hcz58_1 hcz58_2 hcz58_3
     try clear hcz65_0 hcz65_1 hcz65_2 hcz65_3
     try clear hcz66_0 hcz66_1 hcz66_2 hcz66_3
     try clear hcz67_0 hcz67_1 hcz67_2 hcz67_3
     try clear hcz75_0 hcz75_1 hcz75_2 hcz75_3
     try clear hcz76_0 hcz76_1 hcz76_2 hcz76_3
     try clear hcz77_0 hcz77_1 hcz77_2 hcz77_3
     try clear hcz78_0 hcz78_1 hcz78_2 hcz78_3
     try clear hfz21_0 hfz21_1 hfz21_2 hfz21_3
     try clear hfz22_0 hfz22_1 hfz22_2 hfz22_3
     try clear hfz27_0 hfz27_1 hfz27_2 hfz27_3
     try clear hfz29_0 hfz29_1 hfz29_2 hfz29_3
     try clear hfz32_0 hfz32_1 hfz32_2 hfz32_3
     try clear hfz42_0 hfz42_1 hfz42_2 hfz42_3
     try clear hfz43_0 hfz43_1 hfz43_2 hfz43_3
     try clear hfz48_0 hfz48_1 hfz48_2 hfz48_3
     try clear hfz49_0 hfz49_1 hfz49_2 hfz49_3
     try clear hfz50_0 hfz50_1 hfz50_2 hfz50_3
     try clear hfz56_0 hfz56_1 hfz56_2 hfz56_3
     try clear hfz57_0 hfz57_1 hfz57_2 hfz57_3
     try clear hfz58_0 hfz58_1 hfz58_2 hfz58_3
     try clear hfz65_0 hfz65_1 hfz65_2 hfz65_3
     try clear hfz66_0 hfz66_1 hfz66_2 hfz66_3
     try clear hfz67_0 hfz67_1 hfz67_2 hfz67_3
     try clear hfz75_0 hfz75_1 hfz75_2 hfz75_3
     try clear hfz76_0 hfz76_1 hfz76_2 hfz76_3
     try clear hfz77_0 hfz77_1 hfz77_2 hfz77_3
     try clear hfz78_0 hfz78_1 hfz78_2 hfz78_3
     try clear p2
     try clear p6
     obtain ⟨x15_2, x68_2, rfl, rfl, HA, HK2, HO_66, BK339, BK340, BK357, BK363, BK369, BK375, HB⟩ := hrel
     cases gk with
     | zero => exact absurd HA.out (by simp [platformfwlaw08_ValueComparison.l0])
     | succ k2 =>
      have H := HA.out
      clear HA
      simp only [platformfwlaw08_ValueComparison.l0] at H
      by_cases c82 : x68_2 < (y376.length : Int)
      ·rw [if_pos c82] at H
       have c82b0 : decide (x68_2 < (y376.length : Int)) = true := decide_eq_true c82
       clear c82
       by_cases c83 : 0 ≤ x68_2
       ·rw [if_pos c83] at H
        have c83b0 : decide (0 ≤ x68_2) = true := decide_eq_true c83
        clear c83
        by_cases c84 : x68_2 < (y376.length : Int)
        ·rw [if_pos c84] at H
         have c84b0 : decide (x68_2 < (y376.length : Int)) = true := decide_eq_true c84
         clear c84
         replace H := Option.bind_eq_some_iff.mp H
         obtain ⟨⟨t382, t383, t384, t385⟩, A850, H⟩ := H
         replace H : (if (((rd_T24 y376 x68_2).f0) == t382 && (((rd_T24 y376 x68_2).f1) == t383 && ((((rd_T24 y376 x68_2).f2).toList) == t384.toList && (((rd_T24 y376 x68_2).f3) == t385)))) = true then (platformfwlaw08_ValueComparison.l0 k2 t356 t362 t368 (wrap64 (x15_2 + 1)) y376 (y376.length : Int) (wrap64 (x68_2 + 1)) t364 t365 t366 t367 t370 t371 t372 t373) else ((platformfwref08_Bool.f false).bind fun bt386 => (if (!(((rd_T24 y376 x68_2).f0) == bt386.1) || (!(((rd_T24 y376 x68_2).f1) == bt386.2.1) || (!((((rd_T24 y376 x68_2).f2).toList) == bt386.2.2.1.toList) || (!(((rd_T24 y376 x68_2).f3) == bt386.2.2.2))))) = true then (some false) else (platformfwlaw08_ValueComparison.l0 k2 t356 t362 t368 x15_2 y376 (y376.length : Int) (wrap64 (x68_2 + 1)) t364 t365 t366 t367 t370 t371 t372 t373)))) = some r := H
         have A85 := Aside0.mk A850
         clear A850
         by_cases c86 : (((rd_T24 y376 x68_2).f0) == t382 && (((rd_T24 y376 x68_2).f1) == t383 && ((((rd_T24 y376 x68_2).f2).toList) == t384.toList && (((rd_T24 y376 x68_2).f3) == t385)))) = true
         ·rw [if_pos c86] at H
          have c86b0 : (((rd_T24 y376 x68_2).f0) == t382 && (((rd_T24 y376 x68_2).f1) == t383 && ((((rd_T24 y376 x68_2).f2).toList) == t384.toList && (((rd_T24 y376 x68_2).f3) == t385)))) = true := c86
          (try (have c86b1 : decide (((rd_T24 y376 x68_2).f0) = t382 && (((rd_T24 y376 x68_2).f1) == t383 && ((((rd_T24 y376 x68_2).f2).toList) == t384.toList && (((rd_T24 y376 x68_2).f3) == t385)))) = true := by simpa using c86))
          (try (have c86b2 : (((rd_T24 y376 x68_2).f0) == t382 && (((rd_T24 y376 x68_2).f1) == t383 && ((((rd_T24 y376 x68_2).f2).toList) == t384.toList && (((rd_T24 y376 x68_2).f3) == t385)))) = true := by simpa using c86))
          clear c86
          have H' := Aside0.mk H
          clear H
          have p380 : 0 ≤ (x68_2 : Int) := of_decide_eq_true (by first | (with_reducible assumption) | assumption)
          have q380 : x68_2 < (y376.length : Int) := of_decide_eq_true (by first | (with_reducible assumption) | assumption)
          obtain ⟨ad380, e380, hx380_0, hx380_1, hx380_2, hx380_3⟩ := at_T24 (Kd.R_reads' HO_66.out).2.2 x68_2 p380 q380
          cases e380
          replace p380 := eq_true p380
          replace q380 := eq_true q380
          try go_wp2_with (first | ((with_reducible refine gate_dst (N := 17) rfl ?_); refine box_event ?hg (N := 17) ?hd (cs := #[.int .i64 0, .int .u64 0, .string (⟨#[]⟩ : ByteArray), .int .i64 0]) (t := 24) ?hr ?_; (case hd => rfl); (case hg => rfl); (case hr => first | (go_simp; done) | (go_simp; rfl)); intro gb381 hg w87 hbox hb; have n0_ := Aside0.mk (Kd.R_below (Kd.R_elderB (by (with_reducible repeat (first | apply Kd.R_alloc | apply Kd.R_drewN | apply Kd.R_drew)); exact HO_66.out) gb381 (Nat.le_of_eq hg.symm)) hb); have n1_ := Aside0.mk (blk_below (g := gb339) (o := .cells #[.int .i64 (wrap64 (1 + (wrap64 (Int.tmod a2 3)))), .int .u64 t342, .string t343, .int .i64 t344] 24 (0, 0)) (by (with_reducible repeat (first | apply kN_ | apply kD_ | apply kA_)); exact BK339.out) hb); have n2_ := Aside0.mk (blk_below (g := gb340) (o := .cells #[.int .i64 (wrap64 (1 + (wrap64 (Int.tmod a2 3)))), .int .u64 t346, .string t347, .int .i64 t348] 24 (0, 0)) (by (with_reducible repeat (first | apply kN_ | apply kD_ | apply kA_)); exact BK340.out) hb); have n3_ := Aside0.mk (blk_below (g := gb357) (o := .cells #[.int .i64 t352, .int .u64 t353, .string t354, .int .i64 t355] 24 (0, 0)) (by (with_reducible repeat (first | apply kN_ | apply kD_ | apply kA_)); exact BK357.out) hb); have n4_ := Aside0.mk (blk_below (g := gb363) (o := .cells #[.int .i64 t358, .int .u64 t359, .string t360, .int .i64 t361] 24 (0, 0)) (by (with_reducible repeat (first | apply kN_ | apply kD_ | apply kA_)); exact BK363.out) hb); have n5_ := Aside0.mk (blk_below (g := gb369) (o := .cells #[.int .i64 t364, .int .u64 t365, .string t366, .int .i64 t367] 24 (0, 0)) (by (with_reducible repeat (first | apply kN_ | apply kD_ | apply kA_)); exact BK369.out) hb); have n6_ := Aside0.mk (blk_below (g := gb375) (o := .cells #[.int .i64 t370, .int .u64 t371, .string t372, .int .i64 t373] 24 (0, 0)) (by (with_reducible repeat (first | apply kN_ | apply kD_ | apply kA_)); exact BK375.out) hb); have n7_ := Aside0.mk (below_step (by repeat (first | (with_reducible first | exact HB.out | apply bA_ | apply bN_ | apply bD_ | refine bS_ ?_ GE339.out | refine bS_ ?_ GE340.out | refine bS_ ?_ GE357.out | refine bS_ ?_ GE363.out | refine bS_ ?_ GE369.out | refine bS_ ?_ GE375.out) | exact HB.out)) hb); have n8_ := Aside0.mk (hbox); have n9_ := Aside0.mk ((by rw [hg]; exact (below_size (by repeat (first | (with_reducible first | exact HB.out | apply bA_ | apply bN_ | apply bD_ | refine bS_ ?_ GE339.out | refine bS_ ?_ GE340.out | refine bS_ ?_ GE357.out | refine bS_ ?_ GE363.out | refine bS_ ?_ GE369.out | refine bS_ ?_ GE375.out) | exact HB.out))) : w.heap.size ≤ gb381)); have n10_ := Aside0.mk ((by rw [hg]; exact (below_size (by repeat (first | (with_reducible first | exact HB.out | apply bA_ | apply bN_ | apply bD_ | refine bS_ ?_ GE339.out | refine bS_ ?_ GE340.out | refine bS_ ?_ GE357.out | refine bS_ ?_ GE363.out | refine bS_ ?_ GE369.out | refine bS_ ?_ GE375.out) | exact HB.out))) : w.heap.size ≤ gb381)); have n11_ := Aside0.mk ((by rw [hg]; exact Nat.ne_of_lt (blk_lt (g := gb339) (o := .cells #[.int .i64 (wrap64 (1 + (wrap64 (Int.tmod a2 3)))), .int .u64 t342, .string t343, .int .i64 t344] 24 (0, 0)) (by (with_reducible repeat (first | apply kN_ | apply kD_ | apply kA_)); exact BK339.out)) : gb339 ≠ gb381)); have n12_ := Aside0.mk ((by rw [hg]; exact Nat.ne_of_gt (blk_lt (g := gb339) (o := .cells #[.int .i64 (wrap64 (1 + (wrap64 (Int.tmod a2 3)))), .int .u64 t342, .string t343, .int .i64 t344] 24 (0, 0)) (by (with_reducible repeat (first | apply kN_ | apply kD_ | apply kA_)); exact BK339.out)) : gb381 ≠ gb339)); have n13_ := Aside0.mk ((by rw [hg]; exact Nat.ne_of_lt (blk_lt (g := gb340) (o := .cells #[.int .i64 (wrap64 (1 + (wrap64 (Int.tmod a2 3)))), .int .u64 t346, .string t347, .int .i64 t348] 24 (0, 0)) (by (with_reducible repeat (first | apply kN_ | apply kD_ | apply kA_)); exact BK340.out)) : gb340 ≠ gb381)); have n14_ := Aside0.mk ((by rw [hg]; exact Nat.ne_of_gt (blk_lt (g := gb340) (o := .cells #[.int .i64 (wrap64 (1 + (wrap64 (Int.tmod a2 3)))), .int .u64 t346, .string t347, .int .i64 t348] 24 (0, 0)) (by (with_reducible repeat (first | apply kN_ | apply kD_ | apply kA_)); exact BK340.out)) : gb381 ≠ gb340)); have n15_ := Aside0.mk ((by rw [hg]; exact Nat.ne_of_lt (blk_lt (g := gb357) (o := .cells #[.int .i64 t352, .int .u64 t353, .string t354, .int .i64 t355] 24 (0, 0)) (by (with_reducible repeat (first | apply kN_ | apply kD_ | apply kA_)); exact BK357.out)) : gb357 ≠ gb381)); have n16_ := Aside0.mk ((by rw [hg]; exact Nat.ne_of_gt (blk_lt (g := gb357) (o := .cells #[.int .i64 t352, .int .u64 t353, .string t354, .int .i64 t355] 24 (0, 0)) (by (with_reducible repeat (first | apply kN_ | apply kD_ | apply kA_)); exact BK357.out)) : gb381 ≠ gb357)); have n17_ := Aside0.mk ((by rw [hg]; exact Nat.ne_of_lt (blk_lt (g := gb363) (o := .cells #[.int .i64 t358, .int .u64 t359, .string t360, .int .i64 t361] 24 (0, 0)) (by (with_reducible repeat (first | apply kN_ | apply kD_ | apply kA_)); exact BK363.out)) : gb363 ≠ gb381)); have n18_ := Aside0.mk ((by rw [hg]; exact Nat.ne_of_gt (blk_lt (g := gb363) (o := .cells #[.int .i64 t358, .int .u64 t359, .string t360, .int .i64 t361] 24 (0, 0)) (by (with_reducible repeat (first | apply kN_ | apply kD_ | apply kA_)); exact BK363.out)) : gb381 ≠ gb363)); have n19_ := Aside0.mk ((by rw [hg]; exact Nat.ne_of_lt (blk_lt (g := gb369) (o := .cells #[.int .i64 t364, .int .u64 t365, .string t366, .int .i64 t367] 24 (0, 0)) (by (with_reducible repeat (first | apply kN_ | apply kD_ | apply kA_)); exact BK369.out)) : gb369 ≠ gb381)); have n20_ := Aside0.mk ((by rw [hg]; exact Nat.ne_of_gt (blk_lt (g := gb369) (o := .cells #[.int .i64 t364, .int .u64 t365, .string t366, .int .i64 t367] 24 (0, 0)) (by (with_reducible repeat (first | apply kN_ | apply kD_ | apply kA_)); exact BK369.out)) : gb381 ≠ gb369)); have n21_ := Aside0.mk ((by rw [hg]; exact Nat.ne_of_lt (blk_lt (g := gb375) (o := .cells #[.int .i64 t370, .int .u64 t371, .string t372, .int .i64 t373] 24 (0, 0)) (by (with_reducible repeat (first | apply kN_ | apply kD_ | apply kA_)); exact BK375.out)) : gb375 ≠ gb381)); have n22_ := Aside0.mk ((by rw [hg]; exact Nat.ne_of_gt (blk_lt (g := gb375) (o := .cells #[.int .i64 t370, .int .u64 t371, .string t372, .int .i64 t373] 24 (0, 0)) (by (with_reducible repeat (first | apply kN_ | apply kD_ | apply kA_)); exact BK375.out)) : gb381 ≠ gb375)); clear HO_66; clear BK339; clear BK340; clear BK357; clear BK363; clear BK369; clear BK375; clear HB; have HO_66 := n0_; have BK339 := n1_; have BK340 := n2_; have BK357 := n3_; have BK363 := n4_; have BK369 := n5_; have BK375 := n6_; have HB := n7_; have BK381 := n8_; have GW381 := n9_; have GE381 := n10_; have NB339_381 := n11_; have NB381_339 := n12_; have NB340_381 := n13_; have NB381_340 := n14_; have NB357_381 := n15_; have NB381_357 := n16_; have NB363_381 := n17_; have NB381_363 := n18_; have NB369_381 := n19_; have NB381_369 := n20_; have NB375_381 := n21_; have NB381_375 := n22_; clear n0_ n1_ n2_ n3_ n4_ n5_ n6_ n7_ n8_ n9_ n10_ n11_ n12_ n13_ n14_ n15_ n16_ n17_ n18_ n19_ n20_ n21_ n22_; clear hb hbox hg; have hnb88 := NB381_339.out; have hnc88 := NB339_381.out; have hnb89 := NB381_340.out; have hnc89 := NB340_381.out; have hnb90 := NB381_357.out; have hnc90 := NB357_381.out; have hnb91 := NB381_363.out; have hnc91 := NB363_381.out; have hnb92 := NB381_369.out; have hnc92 := NB369_381.out; have hnb93 := NB381_375.out; have hnc93 := NB375_381.out; obtain ⟨hcz94_0, hcz94_1, hcz94_2, hcz94_3⟩ := cells4_ BK381.out; obtain ⟨hfz94_0, hfz94_1, hfz94_2, hfz94_3⟩ := froz4_ BK381.out))
          have n0_ : Aside0 (Kd.R k24 24 ((((w87.setCell ⟨gb381, 0, none⟩ (.int .i64 ((rd_T24 y376 x68_2).f0))).setCell ⟨gb381, 1, none⟩ (.int .u64 ((rd_T24 y376 x68_2).f1))).setCell ⟨gb381, 2, none⟩ (.string ((rd_T24 y376 x68_2).f2))).setCell ⟨gb381, 3, none⟩ (.int .i64 ((rd_T24 y376 x68_2).f3))) w.heap.size (fun k_ => k_ ≠ gb339 ∧ k_ ≠ gb340 ∧ k_ ≠ gb357 ∧ k_ ≠ gb363 ∧ k_ ≠ gb369 ∧ k_ ≠ gb375 ∧ k_ ≠ gb381) (.slice (some ad380) y376.length co81) y376) := ⟨by (with_reducible repeat (first | apply Kd.R_alloc | apply Kd.R_drewN | apply Kd.R_drew)); exact Kd.R_mono (Kd.R_far (p := ⟨gb381, 3, none⟩) (Kd.R_far (p := ⟨gb381, 2, none⟩) (Kd.R_far (p := ⟨gb381, 1, none⟩) (Kd.R_far (p := ⟨gb381, 0, none⟩) (Kd.R_mono HO_66.out (fun k_ hk => (⟨hk, hk.2⟩ : _ ∧ k_ ≠ gb381))) (fun _ hk => hk.2) (.int .i64 ((rd_T24 y376 x68_2).f0))) (fun _ hk => hk.2) (.int .u64 ((rd_T24 y376 x68_2).f1))) (fun _ hk => hk.2) (.string ((rd_T24 y376 x68_2).f2))) (fun _ hk => hk.2) (.int .i64 ((rd_T24 y376 x68_2).f3))) (fun _ hk => ⟨hk.1.1.1, ⟨hk.1.1.2.1, ⟨hk.1.1.2.2.1, ⟨hk.1.1.2.2.2.1, ⟨hk.1.1.2.2.2.2.1, ⟨hk.1.1.2.2.2.2.2, hk.1.2⟩⟩⟩⟩⟩⟩)⟩
          have n1_ : Aside0 (((((w87.setCell ⟨gb381, 0, none⟩ (.int .i64 ((rd_T24 y376 x68_2).f0))).setCell ⟨gb381, 1, none⟩ (.int .u64 ((rd_T24 y376 x68_2).f1))).setCell ⟨gb381, 2, none⟩ (.string ((rd_T24 y376 x68_2).f2))).setCell ⟨gb381, 3, none⟩ (.int .i64 ((rd_T24 y376 x68_2).f3))).heap[gb339]? = some (.cells #[.int .i64 (wrap64 (1 + (wrap64 (Int.tmod a2 3)))), .int .u64 t342, .string t343, .int .i64 t344] 24 (0, 0))) := ⟨by (with_reducible repeat (first | apply kN_ | apply kD_ | apply kA_)); refine blk_far ?_ NB339_381.out _; (with_reducible repeat (first | apply kN_ | apply kD_ | apply kA_)); refine blk_far ?_ NB339_381.out _; (with_reducible repeat (first | apply kN_ | apply kD_ | apply kA_)); refine blk_far ?_ NB339_381.out _; (with_reducible repeat (first | apply kN_ | apply kD_ | apply kA_)); refine blk_far ?_ NB339_381.out _; (with_reducible repeat (first | apply kN_ | apply kD_ | apply kA_)); exact BK339.out⟩
          have n2_ : Aside0 (((((w87.setCell ⟨gb381, 0, none⟩ (.int .i64 ((rd_T24 y376 x68_2).f0))).setCell ⟨gb381, 1, none⟩ (.int .u64 ((rd_T24 y376 x68_2).f1))).setCell ⟨gb381, 2, none⟩ (.string ((rd_T24 y376 x68_2).f2))).setCell ⟨gb381, 3, none⟩ (.int .i64 ((rd_T24 y376 x68_2).f3))).heap[gb340]? = some (.cells #[.int .i64 (wrap64 (1 + (wrap64 (Int.tmod a2 3)))), .int .u64 t346, .string t347, .int .i64 t348] 24 (0, 0))) := ⟨by (with_reducible repeat (first | apply kN_ | apply kD_ | apply kA_)); refine blk_far ?_ NB340_381.out _; (with_reducible repeat (first | apply kN_ | apply kD_ | apply kA_)); refine blk_far ?_ NB340_381.out _; (with_reducible repeat (first | apply kN_ | apply kD_ | apply kA_)); refine blk_far ?_ NB340_381.out _; (with_reducible repeat (first | apply kN_ | apply kD_ | apply kA_)); refine blk_far ?_ NB340_381.out _; (with_reducible repeat (first | apply kN_ | apply kD_ | apply kA_)); exact BK340.out⟩
          have n3_ : Aside0 (((((w87.setCell ⟨gb381, 0, none⟩ (.int .i64 ((rd_T24 y376 x68_2).f0))).setCell ⟨gb381, 1, none⟩ (.int .u64 ((rd_T24 y376 x68_2).f1))).setCell ⟨gb381, 2, none⟩ (.string ((rd_T24 y376 x68_2).f2))).setCell ⟨gb381, 3, none⟩ (.int .i64 ((rd_T24 y376 x68_2).f3))).heap[gb357]? = some (.cells #[.int .i64 t352, .int .u64 t353, .string t354, .int .i64 t355] 24 (0, 0))) := ⟨by (with_reducible repeat (first | apply kN_ | apply kD_ | apply kA_)); refine blk_far ?_ NB357_381.out _; (with_reducible repeat (first | apply kN_ | apply kD_ | apply kA_)); refine blk_far ?_ NB357_381.out _; (with_reducible repeat (first | apply kN_ | apply kD_ | apply kA_)); refine blk_far ?_ NB357_381.out _; (with_reducible repeat (first | apply kN_ | apply kD_ | apply kA_)); refine blk_far ?_ NB357_381.out _; (with_reducible repeat (first | apply kN_ | apply kD_ | apply kA_)); exact BK357.out⟩
          have n4_ : Aside0 (((((w87.setCell ⟨gb381, 0, none⟩ (.int .i64 ((rd_T24 y376 x68_2).f0))).setCell ⟨gb381, 1, none⟩ (.int .u64 ((rd_T24 y376 x68_2).f1))).setCell ⟨gb381, 2, none⟩ (.string ((rd_T24 y376 x68_2).f2))).setCell ⟨gb381, 3, none⟩ (.int .i64 ((rd_T24 y376 x68_2).f3))).heap[gb363]? = some (.cells #[.int .i64 t358, .int .u64 t359, .string t360, .int .i64 t361] 24 (0, 0))) := ⟨by (with_reducible repeat (first | apply kN_ | apply kD_ | apply kA_)); refine blk_far ?_ NB363_381.out _; (with_reducible repeat (first | apply kN_ | apply kD_ | apply kA_)); refine blk_far ?_ NB363_381.out _; (with_reducible repeat (first | apply kN_ | apply kD_ | apply kA_)); refine blk_far ?_ NB363_381.out _; (with_reducible repeat (first | apply kN_ | apply kD_ | apply kA_)); refine blk_far ?_ NB363_381.out _; (with_reducible repeat (first | apply kN_ | apply kD_ | apply kA_)); exact BK363.out⟩
          have n5_ : Aside0 (((((w87.setCell ⟨gb381, 0, none⟩ (.int .i64 ((rd_T24 y376 x68_2).f0))).setCell ⟨gb381, 1, none⟩ (.int .u64 ((rd_T24 y376 x68_2).f1))).setCell ⟨gb381, 2, none⟩ (.string ((rd_T24 y376 x68_2).f2))).setCell ⟨gb381, 3, none⟩ (.int .i64 ((rd_T24 y376 x68_2).f3))).heap[gb369]? = some (.cells #[.int .i64 t364, .int .u64 t365, .string t366, .int .i64 t367] 24 (0, 0))) := ⟨by (with_reducible repeat (first | apply kN_ | apply kD_ | apply kA_)); refine blk_far ?_ NB369_381.out _; (with_reducible repeat (first | apply kN_ | apply kD_ | apply kA_)); refine blk_far ?_ NB369_381.out _; (with_reducible repeat (first | apply kN_ | apply kD_ | apply kA_)); refine blk_far ?_ NB369_381.out _; (with_reducible repeat (first | apply kN_ | apply kD_ | apply kA_)); refine blk_far ?_ NB369_381.out _; (with_reducible repeat (first | apply kN_ | apply kD_ | apply kA_)); exact BK369.out⟩
          have n6_ : Aside0 (((((w87.setCell ⟨gb381, 0, none⟩ (.int .i64 ((rd_T24 y376 x68_2).f0))).setCell ⟨gb381, 1, none⟩ (.int .u64 ((rd_T24 y376 x68_2).f1))).setCell ⟨gb381, 2, none⟩ (.string ((rd_T24 y376 x68_2).f2))).setCell ⟨gb381, 3, none⟩ (.int .i64 ((rd_T24 y376 x68_2).f3))).heap[gb375]? = some (.cells #[.int .i64 t370, .int .u64 t371, .string t372, .int .i64 t373] 24 (0, 0))) := ⟨by (with_reducible repeat (first | apply kN_ | apply kD_ | apply kA_)); refine blk_far ?_ NB375_381.out _; (with_reducible repeat (first | apply kN_ | apply kD_ | apply kA_)); refine blk_far ?_ NB375_381.out _; (with_reducible repeat (first | apply kN_ | apply kD_ | apply kA_)); refine blk_far ?_ NB375_381.out _; (with_reducible repeat (first | apply kN_ | apply kD_ | apply kA_)); refine blk_far ?_ NB375_381.out _; (with_reducible repeat (first | apply kN_ | apply kD_ | apply kA_)); exact BK375.out⟩
          have n7_ : Aside0 (((((w87.setCell ⟨gb381, 0, none⟩ (.int .i64 ((rd_T24 y376 x68_2).f0))).setCell ⟨gb381, 1, none⟩ (.int .u64 ((rd_T24 y376 x68_2).f1))).setCell ⟨gb381, 2, none⟩ (.string ((rd_T24 y376 x68_2).f2))).setCell ⟨gb381, 3, none⟩ (.int .i64 ((rd_T24 y376 x68_2).f3))).heap[gb381]? = some (.cells #[.int .i64 ((rd_T24 y376 x68_2).f0), .int .u64 ((rd_T24 y376 x68_2).f1), .string ((rd_T24 y376 x68_2).f2), .int .i64 ((rd_T24 y376 x68_2).f3)] 24 (0, 0))) := ⟨by (with_reducible repeat (first | apply kN_ | apply kD_ | apply kA_)); refine blk_put (cs := #[.int .i64 ((rd_T24 y376 x68_2).f0), .int .u64 ((rd_T24 y376 x68_2).f1), .string ((rd_T24 y376 x68_2).f2), .int .i64 0]) ?_ 3 _ rfl; (with_reducible repeat (first | apply kN_ | apply kD_ | apply kA_)); refine blk_put (cs := #[.int .i64 ((rd_T24 y376 x68_2).f0), .int .u64 ((rd_T24 y376 x68_2).f1), .string (⟨#[]⟩ : ByteArray), .int .i64 0]) ?_ 2 _ rfl; (with_reducible repeat (first | apply kN_ | apply kD_ | apply kA_)); refine blk_put (cs := #[.int .i64 ((rd_T24 y376 x68_2).f0), .int .u64 0, .string (⟨#[]⟩ : ByteArray), .int .i64 0]) ?_ 1 _ rfl; (with_reducible repeat (first | apply kN_ | apply kD_ | apply kA_)); refine blk_put (cs := #[.int .i64 0, .int .u64 0, .string (⟨#[]⟩ : ByteArray), .int .i64 0]) ?_ 0 _ rfl; (with_reducible repeat (first | apply kN_ | apply kD_ | apply kA_)); exact BK381.out⟩
          have n8_ : Aside0 (Below w.heap.size w ((((w87.setCell ⟨gb381, 0, none⟩ (.int .i64 ((rd_T24 y376 x68_2).f0))).setCell ⟨gb381, 1, none⟩ (.int .u64 ((rd_T24 y376 x68_2).f1))).setCell ⟨gb381, 2, none⟩ (.string ((rd_T24 y376 x68_2).f2))).setCell ⟨gb381, 3, none⟩ (.int .i64 ((rd_T24 y376 x68_2).f3)))) := ⟨by repeat (first | (with_reducible first | exact HB.out | apply bA_ | apply bN_ | apply bD_ | refine bS_ ?_ GE339.out | refine bS_ ?_ GE340.out | refine bS_ ?_ GE357.out | refine bS_ ?_ GE363.out | refine bS_ ?_ GE369.out | refine bS_ ?_ GE375.out | refine bS_ ?_ GE381.out) | exact HB.out)⟩
          (try clear HO_66)
          (try clear BK339)
          (try clear BK340)
          (try clear BK357)
          (try clear BK363)
          (try clear BK369)
          (try clear BK375)
          (try clear BK381)
          (try clear HB)
          generalize ((((w87.setCell ⟨gb381, 0, none⟩ (.int .i64 ((rd_T24 y376 x68_2).f0))).setCell ⟨gb381, 1, none⟩ (.int .u64 ((rd_T24 y376 x68_2).f1))).setCell ⟨gb381, 2, none⟩ (.string ((rd_T24 y376 x68_2).f2))).setCell ⟨gb381, 3, none⟩ (.int .i64 ((rd_T24 y376 x68_2).f3))) = w95 at n0_ n1_ n2_ n3_ n4_ n5_ n6_ n7_ n8_ ⊢
          have HO_66 := n0_
          have BK339 := n1_
          have BK340 := n2_
          have BK357 := n3_
          have BK363 := n4_
          have BK369 := n5_
          have BK375 := n6_
          have BK381 := n7_
          have HB := n8_
          clear n0_ n1_ n2_ n3_ n4_ n5_ n6_ n7_ n8_
          have n0_ := Aside0.mk (Kd.R_drew HO_66.out)
          have n1_ := Aside0.mk (kD_ BK339.out)
          have n2_ := Aside0.mk (kD_ BK340.out)
          have n3_ := Aside0.mk (kD_ BK357.out)
          have n4_ := Aside0.mk (kD_ BK363.out)
          have n5_ := Aside0.mk (kD_ BK369.out)
          have n6_ := Aside0.mk (kD_ BK375.out)
          have n7_ := Aside0.mk (kD_ BK381.out)
          have n8_ := Aside0.mk (bD_ HB.out)
          clear HO_66
          clear BK339
          clear BK340
          clear BK357
          clear BK363
          clear BK369
          clear BK375
          clear BK381
          clear HB
          have HO_66 := n0_
          have BK339 := n1_
          have BK340 := n2_
          have BK357 := n3_
          have BK363 := n4_
          have BK369 := n5_
          have BK375 := n6_
          have BK381 := n7_
          have HB := n8_
          clear n0_ n1_ n2_ n3_ n4_ n5_ n6_ n7_ n8_
          refine start_ (n := 3) (S := fun w' => w'.cell? ⟨gb381, 0, none⟩ = some (.int .i64 ((rd_T24 y376 x68_2).f0)) ∧ w'.cell? ⟨gb381, 1, none⟩ = some (.int .u64 ((rd_T24 y376 x68_2).f1)) ∧ w'.cell? ⟨gb381, 2, none⟩ = some (.string ((rd_T24 y376 x68_2).f2)) ∧ w'.cell? ⟨gb381, 3, none⟩ = some (.int .i64 ((rd_T24 y376 x68_2).f3))) (ds := []) #[false, false, false] (by kernel_rfl) rfl rfl (cells4_ BK381.out) (fun hHeld => ?_)
          generalize w95.drew = w96 at HO_66 BK339 BK340 BK357 BK363 BK369 BK375 BK381 HB hHeld ⊢
          refine take_ (i := 0) (N := some 72) (v := ?_) (a' := ?_) (tf 3 1) rfl rfl (by kernel_rfl) (fun _ _ _ h => h) (Or.inl ⟨by rfl, ?_⟩) hHeld ?_ ?_
          rotate_left
          ·rintro w' ⟨s0, s1, s2, s3⟩
           go_simp
           with_reducible rfl
          rotate_left
          ·simp only [Act.put, sA_, sB_, sC_, i64_w, i32_w]
           rfl
          refine one_ (i := 1) (N := some 73) (tf 3 3) rfl rfl (by kernel_rfl) (by decide) (fun K hK => ?_)
          refine goes_ Tryd.func14 (by kernel_rfl) rfl #[.bool true] (by rfl) rfl rfl (by (try simp only [List.map_toArray, List.map_cons, List.map_nil]); first | done | rfl | (simp only [List.length_drop, List.length_take]; rfl)) ?_
          with_reducible refine (platformfwref08_Bool.calls true t382 t383 t384 t385 _ A85.out).mono ?_
          rintro e w97 ⟨rfl, hb⟩
          refine ⟨_, rfl, ?_⟩
          have n0_ := Aside0.mk (Kd.R_below (by (with_reducible repeat (first | apply Kd.R_alloc | apply Kd.R_drewN | apply Kd.R_drew)); exact HO_66.out) hb)
          have n1_ := Aside0.mk (blk_below (g := gb339) (o := .cells #[.int .i64 (wrap64 (1 + (wrap64 (Int.tmod a2 3)))), .int .u64 t342, .string t343, .int .i64 t344] 24 (0, 0)) (by (with_reducible repeat (first | apply kN_ | apply kD_ | apply kA_)); exact BK339.out) hb)
          have n2_ := Aside0.mk (blk_below (g := gb340) (o := .cells #[.int .i64 (wrap64 (1 + (wrap64 (Int.tmod a2 3)))), .int .u64 t346, .string t347, .int .i64 t348] 24 (0, 0)) (by (with_reducible repeat (first | apply kN_ | apply kD_ | apply kA_)); exact BK340.out) hb)
          have n3_ := Aside0.mk (blk_below (g := gb357) (o := .cells #[.int .i64 t352, .int .u64 t353, .string t354, .int .i64 t355] 24 (0, 0)) (by (with_reducible repeat (first | apply kN_ | apply kD_ | apply kA_)); exact BK357.out) hb)
          have n4_ := Aside0.mk (blk_below (g := gb363) (o := .cells #[.int .i64 t358, .int .u64 t359, .string t360, .int .i64 t361] 24 (0, 0)) (by (with_reducible repeat (first | apply kN_ | apply kD_ | apply kA_)); exact BK363.out) hb)
          have n5_ := Aside0.mk (blk_below (g := gb369) (o := .cells #[.int .i64 t364, .int .u64 t365, .string t366, .int .i64 t367] 24 (0, 0)) (by (with_reducible repeat (first | apply kN_ | apply kD_ | apply kA_)); exact BK369.out) hb)
          have n6_ := Aside0.mk (blk_below (g := gb375) (o := .cells #[.int .i64 t370, .int .u64 t371, .string t372, .int .i64 t373] 24 (0, 0)) (by (with_reducible repeat (first | apply kN_ | apply kD_ | apply kA_)); exact BK375.out) hb)
          have n7_ := Aside0.mk (blk_below (g := gb381) (o := .cells #[.int .i64 ((rd_T24 y376 x68_2).f0), .int .u64 ((rd_T24 y376 x68_2).f1), .string ((rd_T24 y376 x68_2).f2), .int .i64 ((rd_T24 y376 x68_2).f3)] 24 (0, 0)) (by (with_reducible repeat (first | apply kN_ | apply kD_ | apply kA_)); exact BK381.out) hb)
          have n8_ := Aside0.mk (below_step (by repeat (first | (with_reducible first | exact HB.out | apply bA_ | apply bN_ | apply bD_ | refine bS_ ?_ GE339.out | refine bS_ ?_ GE340.out | refine bS_ ?_ GE357.out | refine bS_ ?_ GE363.out | refine bS_ ?_ GE369.out | refine bS_ ?_ GE375.out | refine bS_ ?_ GE381.out) | exact HB.out)) hb)
          clear HO_66
          clear BK339
          clear BK340
          clear BK357
          clear BK363
          clear BK369
          clear BK375
          clear BK381
          clear HB
          have HO_66 := n0_
          have BK339 := n1_
          have BK340 := n2_
          have BK357 := n3_
          have BK363 := n4_
          have BK369 := n5_
          have BK375 := n6_
          have BK381 := n7_
          have HB := n8_
          clear n0_ n1_ n2_ n3_ n4_ n5_ n6_ n7_ n8_
          (try clear hb)
          (try clear hb2)
          (try clear hk)
          (try clear hi)
          refine hK.out _ _ (cells4_ BK381.out) (fun hHeld => ?_)
          clear hK K
          refine norm_ (a' := ?_) ?_ ?_
          rotate_left
          ·show Act.put _ (some 73) _ = _
           simp only [Act.put, sA_, sB_, sC_, i64_w, i32_w]
           rfl
          refine pure_ (i := 2) (N := some 74) (v := ?_) (a' := ?_) (tf 3 7) rfl rfl (by kernel_rfl) (fun _ _ _ h => h) (Or.inl ⟨by rfl, ?_⟩) ?_ ?_
          rotate_left
          ·intro w'
           go_simp
           with_reducible rfl
          rotate_left
          ·simp only [Act.put, sA_, sB_, sC_, i64_w, i32_w]
           rfl
          refine done_ (by kernel_rfl) ?_
          try go_wp2
          go_roundg k2
          case measure => have := HJ5.out; have := HK2.out; omega
          case rel => exact ⟨(wrap64 (x15_2 + 1)), (wrap64 (x68_2 + 1)), (by first | rfl | (simp; done) | (simp [*]; done)), (by first | rfl | (simp; done) | (simp [*]; done)), H', ⟨by have := HJ5.out; have := HK2.out; omega⟩, ⟨by (with_reducible repeat (first | apply Kd.R_alloc | apply Kd.R_drewN | apply Kd.R_drew)); exact Kd.R_mono HO_66.out (fun _ hk => ⟨hk.1, ⟨hk.2.1, ⟨hk.2.2.1, ⟨hk.2.2.2.1, ⟨hk.2.2.2.2.1, hk.2.2.2.2.2.1⟩⟩⟩⟩⟩)⟩, ⟨by (with_reducible repeat (first | apply kN_ | apply kD_ | apply kA_)); exact BK339.out⟩, ⟨by (with_reducible repeat (first | apply kN_ | apply kD_ | apply kA_)); exact BK340.out⟩, ⟨by (with_reducible repeat (first | apply kN_ | apply kD_ | apply kA_)); exact BK357.out⟩, ⟨by (with_reducible repeat (first | apply kN_ | apply kD_ | apply kA_)); exact BK363.out⟩, ⟨by (with_reducible repeat (first | apply kN_ | apply kD_ | apply kA_)); exact BK369.out⟩, ⟨by (with_reducible repeat (first | apply kN_ | apply kD_ | apply kA_)); exact BK375.out⟩, ⟨by repeat (first | (with_reducible first | exact HB.out | apply bA_ | apply bN_ | apply bD_ | refine bS_ ?_ GE339.out | refine bS_ ?_ GE340.out | refine bS_ ?_ GE357.out | refine bS_ ?_ GE363.out | refine bS_ ?_ GE369.out | refine bS_ ?_ GE375.out | refine bS_ ?_ GE381.out) | exact HB.out)⟩⟩
         ·rw [if_neg c86] at H
          have c86b0 : (((rd_T24 y376 x68_2).f0) == t382 && (((rd_T24 y376 x68_2).f1) == t383 && ((((rd_T24 y376 x68_2).f2).toList) == t384.toList && (((rd_T24 y376 x68_2).f3) == t385)))) = false := by simpa using c86
          (try (have c86b1 : decide (((rd_T24 y376 x68_2).f0) = t382 && (((rd_T24 y376 x68_2).f1) == t383 && ((((rd_T24 y376 x68_2).f2).toList) == t384.toList && (((rd_T24 y376 x68_2).f3) == t385)))) = false := by simpa using c86))
          (try (have c86b2 : (((rd_T24 y376 x68_2).f0) == t382 && (((rd_T24 y376 x68_2).f1) == t383 && ((((rd_T24 y376 x68_2).f2).toList) == t384.toList && (((rd_T24 y376 x68_2).f3) == t385)))) = false := by simpa using c86))
          (try (have c86b3 : ¬ (((rd_T24 y376 x68_2).f0) = t382 && (((rd_T24 y376 x68_2).f1) == t383 && ((((rd_T24 y376 x68_2).f2).toList) == t384.toList && (((rd_T24 y376 x68_2).f3) == t385)))) := by simpa using c86))
          clear c86
          replace H := Option.bind_eq_some_iff.mp H
          obtain ⟨⟨t386, t387, t388, t389⟩, A980, H⟩ := H
          replace H : (if (!(((rd_T24 y376 x68_2).f0) == t386) || (!(((rd_T24 y376 x68_2).f1) == t387) || (!((((rd_T24 y376 x68_2).f2).toList) == t388.toList) || (!(((rd_T24 y376 x68_2).f3) == t389))))) = true then (some false) else (platformfwlaw08_ValueComparison.l0 k2 t356 t362 t368 x15_2 y376 (y376.length : Int) (wrap64 (x68_2 + 1)) t364 t365 t366 t367 t370 t371 t372 t373)) = some r := H
          have A98 := Aside0.mk A980
          clear A980
          by_cases c99 : (!(((rd_T24 y376 x68_2).f0) == t386) || (!(((rd_T24 y376 x68_2).f1) == t387) || (!((((rd_T24 y376 x68_2).f2).toList) == t388.toList) || (!(((rd_T24 y376 x68_2).f3) == t389))))) = true
          ·rw [if_pos c99] at H
           have c99b0 : (!(((rd_T24 y376 x68_2).f0) == t386) || (!(((rd_T24 y376 x68_2).f1) == t387) || (!((((rd_T24 y376 x68_2).f2).toList) == t388.toList) || (!(((rd_T24 y376 x68_2).f3) == t389))))) = true := c99
           clear c99
           obtain rfl := Option.some.inj H
           exact absurd hr_.out (by simp)
          ·rw [if_neg c99] at H
           have c99b0 : (!(((rd_T24 y376 x68_2).f0) == t386) || (!(((rd_T24 y376 x68_2).f1) == t387) || (!((((rd_T24 y376 x68_2).f2).toList) == t388.toList) || (!(((rd_T24 y376 x68_2).f3) == t389))))) = false := by simpa using c99
           clear c99
           have H' := Aside0.mk H
           clear H
           have p380 : 0 ≤ (x68_2 : Int) := of_decide_eq_true (by first | (with_reducible assumption) | assumption)
           have q380 : x68_2 < (y376.length : Int) := of_decide_eq_true (by first | (with_reducible assumption) | assumption)
           obtain ⟨ad380, e380, hx380_0, hx380_1, hx380_2, hx380_3⟩ := at_T24 (Kd.R_reads' HO_66.out).2.2 x68_2 p380 q380
           cases e380
           replace p380 := eq_true p380
           replace q380 := eq_true q380
           try go_wp2_with (first | ((with_reducible refine gate_dst (N := 17) rfl ?_); refine box_event ?hg (N := 17) ?hd (cs := #[.int .i64 0, .int .u64 0, .string (⟨#[]⟩ : ByteArray), .int .i64 0]) (t := 24) ?hr ?_; (case hd => rfl); (case hg => rfl); (case hr => first | (go_simp; done) | (go_simp; rfl)); intro gb381 hg w100 hbox hb; have n0_ := Aside0.mk (Kd.R_below (Kd.R_elderB (by (with_reducible repeat (first | apply Kd.R_alloc | apply Kd.R_drewN | apply Kd.R_drew)); exact HO_66.out) gb381 (Nat.le_of_eq hg.symm)) hb); have n1_ := Aside0.mk (blk_below (g := gb339) (o := .cells #[.int .i64 (wrap64 (1 + (wrap64 (Int.tmod a2 3)))), .int .u64 t342, .string t343, .int .i64 t344] 24 (0, 0)) (by (with_reducible repeat (first | apply kN_ | apply kD_ | apply kA_)); exact BK339.out) hb); have n2_ := Aside0.mk (blk_below (g := gb340) (o := .cells #[.int .i64 (wrap64 (1 + (wrap64 (Int.tmod a2 3)))), .int .u64 t346, .string t347, .int .i64 t348] 24 (0, 0)) (by (with_reducible repeat (first | apply kN_ | apply kD_ | apply kA_)); exact BK340.out) hb); have n3_ := Aside0.mk (blk_below (g := gb357) (o := .cells #[.int .i64 t352, .int .u64 t353, .string t354, .int .i64 t355] 24 (0, 0)) (by (with_reducible repeat (first | apply kN_ | apply kD_ | apply kA_)); exact BK357.out) hb); have n4_ := Aside0.mk (blk_below (g := gb363) (o := .cells #[.int .i64 t358, .int .u64 t359, .string t360, .int .i64 t361] 24 (0, 0)) (by (with_reducible repeat (first | apply kN_ | apply kD_ | apply kA_)); exact BK363.out) hb); have n5_ := Aside0.mk (blk_below (g := gb369) (o := .cells #[.int .i64 t364, .int .u64 t365, .string t366, .int .i64 t367] 24 (0, 0)) (by (with_reducible repeat (first | apply kN_ | apply kD_ | apply kA_)); exact BK369.out) hb); have n6_ := Aside0.mk (blk_below (g := gb375) (o := .cells #[.int .i64 t370, .int .u64 t371, .string t372, .int .i64 t373] 24 (0, 0)) (by (with_reducible repeat (first | apply kN_ | apply kD_ | apply kA_)); exact BK375.out) hb); have n7_ := Aside0.mk (below_step (by repeat (first | (with_reducible first | exact HB.out | apply bA_ | apply bN_ | apply bD_ | refine bS_ ?_ GE339.out | refine bS_ ?_ GE340.out | refine bS_ ?_ GE357.out | refine bS_ ?_ GE363.out | refine bS_ ?_ GE369.out | refine bS_ ?_ GE375.out) | exact HB.out)) hb); have n8_ := Aside0.mk (hbox); have n9_ := Aside0.mk ((by rw [hg]; exact (below_size (by repeat (first | (with_reducible first | exact HB.out | apply bA_ | apply bN_ | apply bD_ | refine bS_ ?_ GE339.out | refine bS_ ?_ GE340.out | refine bS_ ?_ GE357.out | refine bS_ ?_ GE363.out | refine bS_ ?_ GE369.out | refine bS_ ?_ GE375.out) | exact HB.out))) : w.heap.size ≤ gb381)); have n10_ := Aside0.mk ((by rw [hg]; exact (below_size (by repeat (first | (with_reducible first | exact HB.out | apply bA_ | apply bN_ | apply bD_ | refine bS_ ?_ GE339.out | refine bS_ ?_ GE340.out | refine bS_ ?_ GE357.out | refine bS_ ?_ GE363.out | refine bS_ ?_ GE369.out | refine bS_ ?_ GE375.out) | exact HB.out))) : w.heap.size ≤ gb381)); have n11_ := Aside0.mk ((by rw [hg]; exact Nat.ne_of_lt (blk_lt (g := gb339) (o := .cells #[.int .i64 (wrap64 (1 + (wrap64 (Int.tmod a2 3)))), .int .u64 t342, .string t343, .int .i64 t344] 24 (0, 0)) (by (with_reducible repeat (first | apply kN_ | apply kD_ | apply kA_)); exact BK339.out)) : gb339 ≠ gb381)); have n12_ := Aside0.mk ((by rw [hg]; exact Nat.ne_of_gt (blk_lt (g := gb339) (o := .cells #[.int .i64 (wrap64 (1 + (wrap64 (Int.tmod a2 3)))), .int .u64 t342, .string t343, .int .i64 t344] 24 (0, 0)) (by (with_reducible repeat (first | apply kN_ | apply kD_ | apply kA_)); exact BK339.out)) : gb381 ≠ gb339)); have n13_ := Aside0.mk ((by rw [hg]; exact Nat.ne_of_lt (blk_lt (g := gb340) (o := .cells #[.int .i64 (wrap64 (1 + (wrap64 (Int.tmod a2 3)))), .int .u64 t346, .string t347, .int .i64 t348] 24 (0, 0)) (by (with_reducible repeat (first | apply kN_ | apply kD_ | apply kA_)); exact BK340.out)) : gb340 ≠ gb381)); have n14_ := Aside0.mk ((by rw [hg]; exact Nat.ne_of_gt (blk_lt (g := gb340) (o := .cells #[.int .i64 (wrap64 (1 + (wrap64 (Int.tmod a2 3)))), .int .u64 t346, .string t347, .int .i64 t348] 24 (0, 0)) (by (with_reducible repeat (first | apply kN_ | apply kD_ | apply kA_)); exact BK340.out)) : gb381 ≠ gb340)); have n15_ := Aside0.mk ((by rw [hg]; exact Nat.ne_of_lt (blk_lt (g := gb357) (o := .cells #[.int .i64 t352, .int .u64 t353, .string t354, .int .i64 t355] 24 (0, 0)) (by (with_reducible repeat (first | apply kN_ | apply kD_ | apply kA_)); exact BK357.out)) : gb357 ≠ gb381)); have n16_ := Aside0.mk ((by rw [hg]; exact Nat.ne_of_gt (blk_lt (g := gb357) (o := .cells #[.int .i64 t352, .int .u64 t353, .string t354, .int .i64 t355] 24 (0, 0)) (by (with_reducible repeat (first | apply kN_ | apply kD_ | apply kA_)); exact BK357.out)) : gb381 ≠ gb357)); have n17_ := Aside0.mk ((by rw [hg]; exact Nat.ne_of_lt (blk_lt (g := gb363) (o := .cells #[.int .i64 t358, .int .u64 t359, .string t360, .int .i64 t361] 24 (0, 0)) (by (with_reducible repeat (first | apply kN_ | apply kD_ | apply kA_)); exact BK363.out)) : gb363 ≠ gb381)); have n18_ := Aside0.mk ((by rw [hg]; exact Nat.ne_of_gt (blk_lt (g := gb363) (o := .cells #[.int .i64 t358, .int .u64 t359, .string t360, .int .i64 t361] 24 (0, 0)) (by (with_reducible repeat (first | apply kN_ | apply kD_ | apply kA_)); exact BK363.out)) : gb381 ≠ gb363)); have n19_ := Aside0.mk ((by rw [hg]; exact Nat.ne_of_lt (blk_lt (g := gb369) (o := .cells #[.int .i64 t364, .int .u64 t365, .string t366, .int .i64 t367] 24 (0, 0)) (by (with_reducible repeat (first | apply kN_ | apply kD_ | apply kA_)); exact BK369.out)) : gb369 ≠ gb381)); have n20_ := Aside0.mk ((by rw [hg]; exact Nat.ne_of_gt (blk_lt (g := gb369) (o := .cells #[.int .i64 t364, .int .u64 t365, .string t366, .int .i64 t367] 24 (0, 0)) (by (with_reducible repeat (first | apply kN_ | apply kD_ | apply kA_)); exact BK369.out)) : gb381 ≠ gb369)); have n21_ := Aside0.mk ((by rw [hg]; exact Nat.ne_of_lt (blk_lt (g := gb375) (o := .cells #[.int .i64 t370, .int .u64 t371, .string t372, .int .i64 t373] 24 (0, 0)) (by (with_reducible repeat (first | apply kN_ | apply kD_ | apply kA_)); exact BK375.out)) : gb375 ≠ gb381)); have n22_ := Aside0.mk ((by rw [hg]; exact Nat.ne_of_gt (blk_lt (g := gb375) (o := .cells #[.int .i64 t370, .int .u64 t371, .string t372, .int .i64 t373] 24 (0, 0)) (by (with_reducible repeat (first | apply kN_ | apply kD_ | apply kA_)); exact BK375.out)) : gb381 ≠ gb375)); clear HO_66; clear BK339; clear BK340; clear BK357; clear BK363; clear BK369; clear BK375; clear HB; have HO_66 := n0_; have BK339 := n1_; have BK340 := n2_; have BK357 := n3_; have BK363 := n4_; have BK369 := n5_; have BK375 := n6_; have HB := n7_; have BK381 := n8_; have GW381 := n9_; have GE381 := n10_; have NB339_381 := n11_; have NB381_339 := n12_; have NB340_381 := n13_; have NB381_340 := n14_; have NB357_381 := n15_; have NB381_357 := n16_; have NB363_381 := n17_; have NB381_363 := n18_; have NB369_381 := n19_; have NB381_369 := n20_; have NB375_381 := n21_; have NB381_375 := n22_; clear n0_ n1_ n2_ n3_ n4_ n5_ n6_ n7_ n8_ n9_ n10_ n11_ n12_ n13_ n14_ n15_ n16_ n17_ n18_ n19_ n20_ n21_ n22_; clear hb hbox hg; have hnb101 := NB381_339.out; have hnc101 := NB339_381.out; have hnb102 := NB381_340.out; have hnc102 := NB340_381.out; have hnb103 := NB381_357.out; have hnc103 := NB357_381.out; have hnb104 := NB381_363.out; have hnc104 := NB363_381.out; have hnb105 := NB381_369.out; have hnc105 := NB369_381.out; have hnb106 := NB381_375.out; have hnc106 := NB375_381.out; obtain ⟨hcz107_0, hcz107_1, hcz107_2, hcz107_3⟩ := cells4_ BK381.out; obtain ⟨hfz107_0, hfz107_1, hfz107_2, hfz107_3⟩ := froz4_ BK381.out))
           have n0_ : Aside0 (Kd.R k24 24 ((((w100.setCell ⟨gb381, 0, none⟩ (.int .i64 ((rd_T24 y376 x68_2).f0))).setCell ⟨gb381, 1, none⟩ (.int .u64 ((rd_T24 y376 x68_2).f1))).setCell ⟨gb381, 2, none⟩ (.string ((rd_T24 y376 x68_2).f2))).setCell ⟨gb381, 3, none⟩ (.int .i64 ((rd_T24 y376 x68_2).f3))) w.heap.size (fun k_ => k_ ≠ gb339 ∧ k_ ≠ gb340 ∧ k_ ≠ gb357 ∧ k_ ≠ gb363 ∧ k_ ≠ gb369 ∧ k_ ≠ gb375 ∧ k_ ≠ gb381) (.slice (some ad380) y376.length co81) y376) := ⟨by (with_reducible repeat (first | apply Kd.R_alloc | apply Kd.R_drewN | apply Kd.R_drew)); exact Kd.R_mono (Kd.R_far (p := ⟨gb381, 3, none⟩) (Kd.R_far (p := ⟨gb381, 2, none⟩) (Kd.R_far (p := ⟨gb381, 1, none⟩) (Kd.R_far (p := ⟨gb381, 0, none⟩) (Kd.R_mono HO_66.out (fun k_ hk => (⟨hk, hk.2⟩ : _ ∧ k_ ≠ gb381))) (fun _ hk => hk.2) (.int .i64 ((rd_T24 y376 x68_2).f0))) (fun _ hk => hk.2) (.int .u64 ((rd_T24 y376 x68_2).f1))) (fun _ hk => hk.2) (.string ((rd_T24 y376 x68_2).f2))) (fun _ hk => hk.2) (.int .i64 ((rd_T24 y376 x68_2).f3))) (fun _ hk => ⟨hk.1.1.1, ⟨hk.1.1.2.1, ⟨hk.1.1.2.2.1, ⟨hk.1.1.2.2.2.1, ⟨hk.1.1.2.2.2.2.1, ⟨hk.1.1.2.2.2.2.2, hk.1.2⟩⟩⟩⟩⟩⟩)⟩
           have n1_ : Aside0 (((((w100.setCell ⟨gb381, 0, none⟩ (.int .i64 ((rd_T24 y376 x68_2).f0))).setCell ⟨gb381, 1, none⟩ (.int .u64 ((rd_T24 y376 x68_2).f1))).setCell ⟨gb381, 2, none⟩ (.string ((rd_T24 y376 x68_2).f2))).setCell ⟨gb381, 3, none⟩ (.int .i64 ((rd_T24 y376 x68_2).f3))).heap[gb339]? = some (.cells #[.int .i64 (wrap64 (1 + (wrap64 (Int.tmod a2 3)))), .int .u64 t342, .string t343, .int .i64 t344] 24 (0, 0))) := ⟨by (with_reducible repeat (first | apply kN_ | apply kD_ | apply kA_)); refine blk_far ?_ NB339_381.out _; (with_reducible repeat (first | apply kN_ | apply kD_ | apply kA_)); refine blk_far ?_ NB339_381.out _; (with_reducible repeat (first | apply kN_ | apply kD_ | apply kA_)); refine blk_far ?_ NB339_381.out _; (with_reducible repeat (first | apply kN_ | apply kD_ | apply kA_)); refine blk_far ?_ NB339_381.out _; (with_reducible repeat (first | apply kN_ | apply kD_ | apply kA_)); exact BK339.out⟩
           have n2_ : Aside0 (((((w100.setCell ⟨gb381, 0, none⟩ (.int .i64 ((rd_T24 y376 x68_2).f0))).setCell ⟨gb381, 1, none⟩ (.int .u64 ((rd_T24 y376 x68_2).f1))).setCell ⟨gb381, 2, none⟩ (.string ((rd_T24 y376 x68_2).f2))).setCell ⟨gb381, 3, none⟩ (.int .i64 ((rd_T24 y376 x68_2).f3))).heap[gb340]? = some (.cells #[.int .i64 (wrap64 (1 + (wrap64 (Int.tmod a2 3)))), .int .u64 t346, .string t347, .int .i64 t348] 24 (0, 0))) := ⟨by (with_reducible repeat (first | apply kN_ | apply kD_ | apply kA_)); refine blk_far ?_ NB340_381.out _; (with_reducible repeat (first | apply kN_ | apply kD_ | apply kA_)); refine blk_far ?_ NB340_381.out _; (with_reducible repeat (first | apply kN_ | apply kD_ | apply kA_)); refine blk_far ?_ NB340_381.out _; (with_reducible repeat (first | apply kN_ | apply kD_ | apply kA_)); refine blk_far ?_ NB340_381.out _; (with_reducible repeat (first | apply kN_ | apply kD_ | apply kA_)); exact BK340.out⟩
           have n3_ : Aside0 (((((w100.setCell ⟨gb381, 0, none⟩ (.int .i64 ((rd_T24 y376 x68_2).f0))).setCell ⟨gb381, 1, none⟩ (.int .u64 ((rd_T24 y376 x68_2).f1))).setCell ⟨gb381, 2, none⟩ (.string ((rd_T24 y376 x68_2).f2))).setCell ⟨gb381, 3, none⟩ (.int .i64 ((rd_T24 y376 x68_2).f3))).heap[gb357]? = some (.cells #[.int .i64 t352, .int .u64 t353, .string t354, .int .i64 t355] 24 (0, 0))) := ⟨by (with_reducible repeat (first | apply kN_ | apply kD_ | apply kA_)); refine blk_far ?_ NB357_381.out _; (with_reducible repeat (first | apply kN_ | apply kD_ | apply kA_)); refine blk_far ?_ NB357_381.out _; (with_reducible repeat (first | apply kN_ | apply kD_ | apply kA_)); refine blk_far ?_ NB357_381.out _; (with_reducible repeat (first | apply kN_ | apply kD_ | apply kA_)); refine blk_far ?_ NB357_381.out _; (with_reducible repeat (first | apply kN_ | apply kD_ | apply kA_)); exact BK357.out⟩
           have n4_ : Aside0 (((((w100.setCell ⟨gb381, 0, none⟩ (.int .i64 ((rd_T24 y376 x68_2).f0))).setCell ⟨gb381, 1, none⟩ (.int .u64 ((rd_T24 y376 x68_2).f1))).setCell ⟨gb381, 2, none⟩ (.string ((rd_T24 y376 x68_2).f2))).setCell ⟨gb381, 3, none⟩ (.int .i64 ((rd_T24 y376 x68_2).f3))).heap[gb363]? = some (.cells #[.int .i64 t358, .int .u64 t359, .string t360, .int .i64 t361] 24 (0, 0))) := ⟨by (with_reducible repeat (first | apply kN_ | apply kD_ | apply kA_)); refine blk_far ?_ NB363_381.out _; (with_reducible repeat (first | apply kN_ | apply kD_ | apply kA_)); refine blk_far ?_ NB363_381.out _; (with_reducible repeat (first | apply kN_ | apply kD_ | apply kA_)); refine blk_far ?_ NB363_381.out _; (with_reducible repeat (first | apply kN_ | apply kD_ | apply kA_)); refine blk_far ?_ NB363_381.out _; (with_reducible repeat (first | apply kN_ | apply kD_ | apply kA_)); exact BK363.out⟩
           have n5_ : Aside0 (((((w100.setCell ⟨gb381, 0, none⟩ (.int .i64 ((rd_T24 y376 x68_2).f0))).setCell ⟨gb381, 1, none⟩ (.int .u64 ((rd_T24 y376 x68_2).f1))).setCell ⟨gb381, 2, none⟩ (.string ((rd_T24 y376 x68_2).f2))).setCell ⟨gb381, 3, none⟩ (.int .i64 ((rd_T24 y376 x68_2).f3))).heap[gb369]? = some (.cells #[.int .i64 t364, .int .u64 t365, .string t366, .int .i64 t367] 24 (0, 0))) := ⟨by (with_reducible repeat (first | apply kN_ | apply kD_ | apply kA_)); refine blk_far ?_ NB369_381.out _; (with_reducible repeat (first | apply kN_ | apply kD_ | apply kA_)); refine blk_far ?_ NB369_381.out _; (with_reducible repeat (first | apply kN_ | apply kD_ | apply kA_)); refine blk_far ?_ NB369_381.out _; (with_reducible repeat (first | apply kN_ | apply kD_ | apply kA_)); refine blk_far ?_ NB369_381.out _; (with_reducible repeat (first | apply kN_ | apply kD_ | apply kA_)); exact BK369.out⟩
           have n6_ : Aside0 (((((w100.setCell ⟨gb381, 0, none⟩ (.int .i64 ((rd_T24 y376 x68_2).f0))).setCell ⟨gb381, 1, none⟩ (.int .u64 ((rd_T24 y376 x68_2).f1))).setCell ⟨gb381, 2, none⟩ (.string ((rd_T24 y376 x68_2).f2))).setCell ⟨gb381, 3, none⟩ (.int .i64 ((rd_T24 y376 x68_2).f3))).heap[gb375]? = some (.cells #[.int .i64 t370, .int .u64 t371, .string t372, .int .i64 t373] 24 (0, 0))) := ⟨by (with_reducible repeat (first | apply kN_ | apply kD_ | apply kA_)); refine blk_far ?_ NB375_381.out _; (with_reducible repeat (first | apply kN_ | apply kD_ | apply kA_)); refine blk_far ?_ NB375_381.out _; (with_reducible repeat (first | apply kN_ | apply kD_ | apply kA_)); refine blk_far ?_ NB375_381.out _; (with_reducible repeat (first | apply kN_ | apply kD_ | apply kA_)); refine blk_far ?_ NB375_381.out _; (with_reducible repeat (first | apply kN_ | apply kD_ | apply kA_)); exact BK375.out⟩
           have n7_ : Aside0 (((((w100.setCell ⟨gb381, 0, none⟩ (.int .i64 ((rd_T24 y376 x68_2).f0))).setCell ⟨gb381, 1, none⟩ (.int .u64 ((rd_T24 y376 x68_2).f1))).setCell ⟨gb381, 2, none⟩ (.string ((rd_T24 y376 x68_2).f2))).setCell ⟨gb381, 3, none⟩ (.int .i64 ((rd_T24 y376 x68_2).f3))).heap[gb381]? = some (.cells #[.int .i64 ((rd_T24 y376 x68_2).f0), .int .u64 ((rd_T24 y376 x68_2).f1), .string ((rd_T24 y376 x68_2).f2), .int .i64 ((rd_T24 y376 x68_2).f3)] 24 (0, 0))) := ⟨by (with_reducible repeat (first | apply kN_ | apply kD_ | apply kA_)); refine blk_put (cs := #[.int .i64 ((rd_T24 y376 x68_2).f0), .int .u64 ((rd_T24 y376 x68_2).f1), .string ((rd_T24 y376 x68_2).f2), .int .i64 0]) ?_ 3 _ rfl; (with_reducible repeat (first | apply kN_ | apply kD_ | apply kA_)); refine blk_put (cs := #[.int .i64 ((rd_T24 y376 x68_2).f0), .int .u64 ((rd_T24 y376 x68_2).f1), .string (⟨#[]⟩ : ByteArray), .int .i64 0]) ?_ 2 _ rfl; (with_reducible repeat (first | apply kN_ | apply kD_ | apply kA_)); refine blk_put (cs := #[.int .i64 ((rd_T24 y376 x68_2).f0), .int .u64 0, .string (⟨#[]⟩ : ByteArray), .int .i64 0]) ?_ 1 _ rfl; (with_reducible repeat (first | apply kN_ | apply kD_ | apply kA_)); refine blk_put (cs := #[.int .i64 0, .int .u64 0, .string (⟨#[]⟩ : ByteArray), .int .i64 0]) ?_ 0 _ rfl; (with_reducible repeat (first | apply kN_ | apply kD_ | apply kA_)); exact BK381.out⟩
           have n8_ : Aside0 (Below w.heap.size w ((((w100.setCell ⟨gb381, 0, none⟩ (.int .i64 ((rd_T24 y376 x68_2).f0))).setCell ⟨gb381, 1, none⟩ (.int .u64 ((rd_T24 y376 x68_2).f1))).setCell ⟨gb381, 2, none⟩ (.string ((rd_T24 y376 x68_2).f2))).setCell ⟨gb381, 3, none⟩ (.int .i64 ((rd_T24 y376 x68_2).f3)))) := ⟨by repeat (first | (with_reducible first | exact HB.out | apply bA_ | apply bN_ | apply bD_ | refine bS_ ?_ GE339.out | refine bS_ ?_ GE340.out | refine bS_ ?_ GE357.out | refine bS_ ?_ GE363.out | refine bS_ ?_ GE369.out | refine bS_ ?_ GE375.out | refine bS_ ?_ GE381.out) | exact HB.out)⟩
           (try clear HO_66)
           (try clear BK339)
           (try clear BK340)
           (try clear BK357)
           (try clear BK363)
           (try clear BK369)
           (try clear BK375)
           (try clear BK381)
           (try clear HB)
           generalize ((((w100.setCell ⟨gb381, 0, none⟩ (.int .i64 ((rd_T24 y376 x68_2).f0))).setCell ⟨gb381, 1, none⟩ (.int .u64 ((rd_T24 y376 x68_2).f1))).setCell ⟨gb381, 2, none⟩ (.string ((rd_T24 y376 x68_2).f2))).setCell ⟨gb381, 3, none⟩ (.int .i64 ((rd_T24 y376 x68_2).f3))) = w108 at n0_ n1_ n2_ n3_ n4_ n5_ n6_ n7_ n8_ ⊢
           have HO_66 := n0_
           have BK339 := n1_
           have BK340 := n2_
           have BK357 := n3_
           have BK363 := n4_
           have BK369 := n5_
           have BK375 := n6_
           have BK381 := n7_
           have HB := n8_
           clear n0_ n1_ n2_ n3_ n4_ n5_ n6_ n7_ n8_
           have n0_ := Aside0.mk (Kd.R_drew HO_66.out)
           have n1_ := Aside0.mk (kD_ BK339.out)
           have n2_ := Aside0.mk (kD_ BK340.out)
           have n3_ := Aside0.mk (kD_ BK357.out)
           have n4_ := Aside0.mk (kD_ BK363.out)
           have n5_ := Aside0.mk (kD_ BK369.out)
           have n6_ := Aside0.mk (kD_ BK375.out)
           have n7_ := Aside0.mk (kD_ BK381.out)
           have n8_ := Aside0.mk (bD_ HB.out)
           clear HO_66
           clear BK339
           clear BK340
           clear BK357
           clear BK363
           clear BK369
           clear BK375
           clear BK381
           clear HB
           have HO_66 := n0_
           have BK339 := n1_
           have BK340 := n2_
           have BK357 := n3_
           have BK363 := n4_
           have BK369 := n5_
           have BK375 := n6_
           have BK381 := n7_
           have HB := n8_
           clear n0_ n1_ n2_ n3_ n4_ n5_ n6_ n7_ n8_
           refine start_ (n := 3) (S := fun w' => w'.cell? ⟨gb381, 0, none⟩ = some (.int .i64 ((rd_T24 y376 x68_2).f0)) ∧ w'.cell? ⟨gb381, 1, none⟩ = some (.int .u64 ((rd_T24 y376 x68_2).f1)) ∧ w'.cell? ⟨gb381, 2, none⟩ = some (.string ((rd_T24 y376 x68_2).f2)) ∧ w'.cell? ⟨gb381, 3, none⟩ = some (.int .i64 ((rd_T24 y376 x68_2).f3))) (ds := []) #[false, false, false] (by kernel_rfl) rfl rfl (cells4_ BK381.out) (fun hHeld => ?_)
           generalize w108.drew = w109 at HO_66 BK339 BK340 BK357 BK363 BK369 BK375 BK381 HB hHeld ⊢
           refine take_ (i := 0) (N := some 72) (v := ?_) (a' := ?_) (tf 3 1) rfl rfl (by kernel_rfl) (fun _ _ _ h => h) (Or.inl ⟨by rfl, ?_⟩) hHeld ?_ ?_
           rotate_left
           ·rintro w' ⟨s0, s1, s2, s3⟩
            go_simp
            with_reducible rfl
           rotate_left
           ·simp only [Act.put, sA_, sB_, sC_, i64_w, i32_w]
            rfl
           refine one_ (i := 1) (N := some 73) (tf 3 3) rfl rfl (by kernel_rfl) (by decide) (fun K hK => ?_)
           refine goes_ Tryd.func14 (by kernel_rfl) rfl #[.bool true] (by rfl) rfl rfl (by (try simp only [List.map_toArray, List.map_cons, List.map_nil]); first | done | rfl | (simp only [List.length_drop, List.length_take]; rfl)) ?_
           with_reducible refine (platformfwref08_Bool.calls true t382 t383 t384 t385 _ A85.out).mono ?_
           rintro e w110 ⟨rfl, hb⟩
           refine ⟨_, rfl, ?_⟩
           have n0_ := Aside0.mk (Kd.R_below (by (with_reducible repeat (first | apply Kd.R_alloc | apply Kd.R_drewN | apply Kd.R_drew)); exact HO_66.out) hb)
           have n1_ := Aside0.mk (blk_below (g := gb339) (o := .cells #[.int .i64 (wrap64 (1 + (wrap64 (Int.tmod a2 3)))), .int .u64 t342, .string t343, .int .i64 t344] 24 (0, 0)) (by (with_reducible repeat (first | apply kN_ | apply kD_ | apply kA_)); exact BK339.out) hb)
           have n2_ := Aside0.mk (blk_below (g := gb340) (o := .cells #[.int .i64 (wrap64 (1 + (wrap64 (Int.tmod a2 3)))), .int .u64 t346, .string t347, .int .i64 t348] 24 (0, 0)) (by (with_reducible repeat (first | apply kN_ | apply kD_ | apply kA_)); exact BK340.out) hb)
           have n3_ := Aside0.mk (blk_below (g := gb357) (o := .cells #[.int .i64 t352, .int .u64 t353, .string t354, .int .i64 t355] 24 (0, 0)) (by (with_reducible repeat (first | apply kN_ | apply kD_ | apply kA_)); exact BK357.out) hb)
           have n4_ := Aside0.mk (blk_below (g := gb363) (o := .cells #[.int .i64 t358, .int .u64 t359, .string t360, .int .i64 t361] 24 (0, 0)) (by (with_reducible repeat (first | apply kN_ | apply kD_ | apply kA_)); exact BK363.out) hb)
           have n5_ := Aside0.mk (blk_below (g := gb369) (o := .cells #[.int .i64 t364, .int .u64 t365, .string t366, .int .i64 t367] 24 (0, 0)) (by (with_reducible repeat (first | apply kN_ | apply kD_ | apply kA_)); exact BK369.out) hb)
           have n6_ := Aside0.mk (blk_below (g := gb375) (o := .cells #[.int .i64 t370, .int .u64 t371, .string t372, .int .i64 t373] 24 (0, 0)) (by (with_reducible repeat (first | apply kN_ | apply kD_ | apply kA_)); exact BK375.out) hb)
           have n7_ := Aside0.mk (blk_below (g := gb381) (o := .cells #[.int .i64 ((rd_T24 y376 x68_2).f0), .int .u64 ((rd_T24 y376 x68_2).f1), .string ((rd_T24 y376 x68_2).f2), .int .i64 ((rd_T24 y376 x68_2).f3)] 24 (0, 0)) (by (with_reducible repeat (first | apply kN_ | apply kD_ | apply kA_)); exact BK381.out) hb)
           have n8_ := Aside0.mk (below_step (by repeat (first | (with_reducible first | exact HB.out | apply bA_ | apply bN_ | apply bD_ | refine bS_ ?_ GE339.out | refine bS_ ?_ GE340.out | refine bS_ ?_ GE357.out | refine bS_ ?_ GE363.out | refine bS_ ?_ GE369.out | refine bS_ ?_ GE375.out | refine bS_ ?_ GE381.out) | exact HB.out)) hb)
           clear HO_66
           clear BK339
           clear BK340
           clear BK357
           clear BK363
           clear BK369
           clear BK375
           clear BK381
           clear HB
           have HO_66 := n0_
           have BK339 := n1_
           have BK340 := n2_
           have BK357 := n3_
           have BK363 := n4_
           have BK369 := n5_
           have BK375 := n6_
           have BK381 := n7_
           have HB := n8_
           clear n0_ n1_ n2_ n3_ n4_ n5_ n6_ n7_ n8_
           (try clear hb)
           (try clear hb2)
           (try clear hk)
           (try clear hi)
           refine hK.out _ _ (cells4_ BK381.out) (fun hHeld => ?_)
           clear hK K
           refine norm_ (a' := ?_) ?_ ?_
           rotate_left
           ·show Act.put _ (some 73) _ = _
            simp only [Act.put, sA_, sB_, sC_, i64_w, i32_w]
            rfl
           refine pure_ (i := 2) (N := some 74) (v := ?_) (a' := ?_) (tf 3 7) rfl rfl (by kernel_rfl) (fun _ _ _ h => h) (Or.inl ⟨by rfl, ?_⟩) ?_ ?_
           rotate_left
           ·intro w'
            go_simp
            with_reducible rfl
           rotate_left
           ·simp only [Act.put, sA_, sB_, sC_, i64_w, i32_w]
            rfl
           refine done_ (by kernel_rfl) ?_
           try go_wp2
           have n0_ := Aside0.mk (Kd.R_drew HO_66.out)
           have n1_ := Aside0.mk (kD_ BK339.out)
           have n2_ := Aside0.mk (kD_ BK340.out)
           have n3_ := Aside0.mk (kD_ BK357.out)
           have n4_ := Aside0.mk (kD_ BK363.out)
           have n5_ := Aside0.mk (kD_ BK369.out)
           have n6_ := Aside0.mk (kD_ BK375.out)
           have n7_ := Aside0.mk (kD_ BK381.out)
           have n8_ := Aside0.mk (bD_ HB.out)
           clear HO_66
           clear BK339
           clear BK340
           clear BK357
           clear BK363
           clear BK369
           clear BK375
           clear BK381
           clear HB
           have HO_66 := n0_
           have BK339 := n1_
           have BK340 := n2_
           have BK357 := n3_
           have BK363 := n4_
           have BK369 := n5_
           have BK375 := n6_
           have BK381 := n7_
           have HB := n8_
           clear n0_ n1_ n2_ n3_ n4_ n5_ n6_ n7_ n8_
           refine start_ (n := 3) (S := fun w' => w'.cell? ⟨gb381, 0, none⟩ = some (.int .i64 ((rd_T24 y376 x68_2).f0)) ∧ w'.cell? ⟨gb381, 1, none⟩ = some (.int .u64 ((rd_T24 y376 x68_2).f1)) ∧ w'.cell? ⟨gb381, 2, none⟩ = some (.string ((rd_T24 y376 x68_2).f2)) ∧ w'.cell? ⟨gb381, 3, none⟩ = some (.int .i64 ((rd_T24 y376 x68_2).f3))) (ds := []) #[false, false, false] (by kernel_rfl) rfl rfl (cells4_ BK381.out) (fun hHeld => ?_)
           generalize w110.drew = w111 at HO_66 BK339 BK340 BK357 BK363 BK369 BK375 BK381 HB hHeld ⊢
           refine take_ (i := 0) (N := some 77) (v := ?_) (a' := ?_) (tf 3 1) rfl rfl (by kernel_rfl) (fun _ _ _ h => h) (Or.inl ⟨by rfl, ?_⟩) hHeld ?_ ?_
           rotate_left
           ·rintro w' ⟨s0, s1, s2, s3⟩
            go_simp
            with_reducible rfl
           rotate_left
           ·simp only [Act.put, sA_, sB_, sC_, i64_w, i32_w]
            rfl
           refine one_ (i := 1) (N := some 78) (tf 3 3) rfl rfl (by kernel_rfl) (by decide) (fun K hK => ?_)
           refine goes_ Tryd.func14 (by kernel_rfl) rfl #[.bool false] (by rfl) rfl rfl (by (try simp only [List.map_toArray, List.map_cons, List.map_nil]); first | done | rfl | (simp only [List.length_drop, List.length_take]; rfl)) ?_
           with_reducible refine (platformfwref08_Bool.calls false t386 t387 t388 t389 _ A98.out).mono ?_
           rintro e w112 ⟨rfl, hb⟩
           refine ⟨_, rfl, ?_⟩
           have n0_ := Aside0.mk (Kd.R_below (by (with_reducible repeat (first | apply Kd.R_alloc | apply Kd.R_drewN | apply Kd.R_drew)); exact HO_66.out) hb)
           have n1_ := Aside0.mk (blk_below (g := gb339) (o := .cells #[.int .i64 (wrap64 (1 + (wrap64 (Int.tmod a2 3)))), .int .u64 t342, .string t343, .int .i64 t344] 24 (0, 0)) (by (with_reducible repeat (first | apply kN_ | apply kD_ | apply kA_)); exact BK339.out) hb)
           have n2_ := Aside0.mk (blk_below (g := gb340) (o := .cells #[.int .i64 (wrap64 (1 + (wrap64 (Int.tmod a2 3)))), .int .u64 t346, .string t347, .int .i64 t348] 24 (0, 0)) (by (with_reducible repeat (first | apply kN_ | apply kD_ | apply kA_)); exact BK340.out) hb)
           have n3_ := Aside0.mk (blk_below (g := gb357) (o := .cells #[.int .i64 t352, .int .u64 t353, .string t354, .int .i64 t355] 24 (0, 0)) (by (with_reducible repeat (first | apply kN_ | apply kD_ | apply kA_)); exact BK357.out) hb)
           have n4_ := Aside0.mk (blk_below (g := gb363) (o := .cells #[.int .i64 t358, .int .u64 t359, .string t360, .int .i64 t361] 24 (0, 0)) (by (with_reducible repeat (first | apply kN_ | apply kD_ | apply kA_)); exact BK363.out) hb)
           have n5_ := Aside0.mk (blk_below (g := gb369) (o := .cells #[.int .i64 t364, .int .u64 t365, .string t366, .int .i64 t367] 24 (0, 0)) (by (with_reducible repeat (first | apply kN_ | apply kD_ | apply kA_)); exact BK369.out) hb)
           have n6_ := Aside0.mk (blk_below (g := gb375) (o := .cells #[.int .i64 t370, .int .u64 t371, .string t372, .int .i64 t373] 24 (0, 0)) (by (with_reducible repeat (first | apply kN_ | apply kD_ | apply kA_)); exact BK375.out) hb)
           have n7_ := Aside0.mk (blk_below (g := gb381) (o := .cells #[.int .i64 ((rd_T24 y376 x68_2).f0), .int .u64 ((rd_T24 y376 x68_2).f1), .string ((rd_T24 y376 x68_2).f2), .int .i64 ((rd_T24 y376 x68_2).f3)] 24 (0, 0)) (by (with_reducible repeat (first | apply kN_ | apply kD_ | apply kA_)); exact BK381.out) hb)
           have n8_ := Aside0.mk (below_step (by repeat (first | (with_reducible first | exact HB.out | apply bA_ | apply bN_ | apply bD_ | refine bS_ ?_ GE339.out | refine bS_ ?_ GE340.out | refine bS_ ?_ GE357.out | refine bS_ ?_ GE363.out | refine bS_ ?_ GE369.out | refine bS_ ?_ GE375.out | refine bS_ ?_ GE381.out) | exact HB.out)) hb)
           clear HO_66
           clear BK339
           clear BK340
           clear BK357
           clear BK363
           clear BK369
           clear BK375
           clear BK381
           clear HB
           have HO_66 := n0_
           have BK339 := n1_
           have BK340 := n2_
           have BK357 := n3_
           have BK363 := n4_
           have BK369 := n5_
           have BK375 := n6_
           have BK381 := n7_
           have HB := n8_
           clear n0_ n1_ n2_ n3_ n4_ n5_ n6_ n7_ n8_
           (try clear hb)
           (try clear hb2)
           (try clear hk)
           (try clear hi)
           refine hK.out _ _ (cells4_ BK381.out) (fun hHeld => ?_)
           clear hK K
           refine norm_ (a' := ?_) ?_ ?_
           rotate_left
           ·show Act.put _ (some 78) _ = _
            simp only [Act.put, sA_, sB_, sC_, i64_w, i32_w]
            rfl
           refine pure_ (i := 2) (N := some 79) (v := ?_) (a' := ?_) (tf 3 7) rfl rfl (by kernel_rfl) (fun _ _ _ h => h) (Or.inl ⟨by rfl, ?_⟩) ?_ ?_
           rotate_left
           ·intro w'
            go_simp
            with_reducible rfl
           rotate_left
           ·simp only [Act.put, sA_, sB_, sC_, i64_w, i32_w]
            rfl
           refine done_ (by kernel_rfl) ?_
           try go_wp2
           go_roundg k2
           case measure => have := HJ5.out; have := HK2.out; omega
           case rel => exact ⟨(x15_2), (wrap64 (x68_2 + 1)), (by first | rfl | (simp; done) | (simp [*]; done)), (by first | rfl | (simp; done) | (simp [*]; done)), H', ⟨by have := HJ5.out; have := HK2.out; omega⟩, ⟨by (with_reducible repeat (first | apply Kd.R_alloc | apply Kd.R_drewN | apply Kd.R_drew)); exact Kd.R_mono HO_66.out (fun _ hk => ⟨hk.1, ⟨hk.2.1, ⟨hk.2.2.1, ⟨hk.2.2.2.1, ⟨hk.2.2.2.2.1, hk.2.2.2.2.2.1⟩⟩⟩⟩⟩)⟩, ⟨by (with_reducible repeat (first | apply kN_ | apply kD_ | apply kA_)); exact BK339.out⟩, ⟨by (with_reducible repeat (first | apply kN_ | apply kD_ | apply kA_)); exact BK340.out⟩, ⟨by (with_reducible repeat (first | apply kN_ | apply kD_ | apply kA_)); exact BK357.out⟩, ⟨by (with_reducible repeat (first | apply kN_ | apply kD_ | apply kA_)); exact BK363.out⟩, ⟨by (with_reducible repeat (first | apply kN_ | apply kD_ | apply kA_)); exact BK369.out⟩, ⟨by (with_reducible repeat (first | apply kN_ | apply kD_ | apply kA_)); exact BK375.out⟩, ⟨by repeat (first | (with_reducible first | exact HB.out | apply bA_ | apply bN_ | apply bD_ | refine bS_ ?_ GE339.out | refine bS_ ?_ GE340.out | refine bS_ ?_ GE357.out | refine bS_ ?_ GE363.out | refine bS_ ?_ GE369.out | refine bS_ ?_ GE375.out | refine bS_ ?_ GE381.out) | exact HB.out)⟩⟩
        ·rw [if_neg c84] at H
         exact absurd H (by simp)
       ·rw [if_neg c83] at H
        exact absurd H (by simp)
      ·rw [if_neg c82] at H
       have c82b0 : decide (x68_2 < (y376.length : Int)) = false := decide_eq_false c82
       clear c82
       replace H := Option.bind_eq_some_iff.mp H
       obtain ⟨t379, A1130, H⟩ := H
       replace H : (if t379 = true then (if t356 = 0 then (if t362 = 0 then (if t368 = 0 then (if x15_2 = 1 then (some (t370 == t364 && (t371 == t365 && (t372.toList == t366.toList && (t373 == t367))))) else (some false)) else (some false)) else (some false)) else (some false)) else (some false)) = some r := H
       have A113 := Aside0.mk A1130
       clear A1130
       by_cases c114 : t379 = true
       ·subst c114
        have H1 : (if t356 = 0 then (if t362 = 0 then (if t368 = 0 then (if x15_2 = 1 then (some (t370 == t364 && (t371 == t365 && (t372.toList == t366.toList && (t373 == t367))))) else (some false)) else (some false)) else (some false)) else (some false)) = some r := by rw [if_pos rfl] at H; exact H
        clear H
        have H := H1
        clear H1
        by_cases c115 : t356 = 0
        ·rw [if_pos c115] at H
         have c115b0 : (t356 == 0) = true := beq_iff_eq.mpr c115
         have c115b1 : (t356 != 0) = false := bne_eq_false_iff_eq.mpr c115
         clear c115
         by_cases c116 : t362 = 0
         ·rw [if_pos c116] at H
          have c116b0 : (t362 == 0) = true := beq_iff_eq.mpr c116
          have c116b1 : (t362 != 0) = false := bne_eq_false_iff_eq.mpr c116
          clear c116
          by_cases c117 : t368 = 0
          ·rw [if_pos c117] at H
           have c117b0 : (t368 == 0) = true := beq_iff_eq.mpr c117
           have c117b1 : (t368 != 0) = false := bne_eq_false_iff_eq.mpr c117
           clear c117
           by_cases c118 : x15_2 = 1
           ·rw [if_pos c118] at H
            have c118b0 : (x15_2 == 1) = true := beq_iff_eq.mpr c118
            have c118b1 : (x15_2 != 1) = false := bne_eq_false_iff_eq.mpr c118
            clear c118
            obtain rfl := Option.some.inj H
            go_wp2_with (first | ((with_reducible refine gate_callee (f := 12) rfl ?_); refine goesL_ (some 81) rfl rfl Tryd.func12 (by kernel_rfl) rfl #[] rfl (by (try simp only [List.map_toArray, List.map_cons, List.map_nil]); first | done | rfl | (simp only [List.length_drop, List.length_take]; rfl)) ?_; (with_reducible refine (platformfwlaw08_awake.calls k2  true _ ?hTT_ (by first | exact hr_ | exact ⟨rfl⟩) A113.out).mono ?_); (case hTT_ => exact tb_below HTT_.out (by repeat (first | (with_reducible first | exact HB.out | apply bA_ | apply bN_ | apply bD_ | refine bS_ ?_ GE339.out | refine bS_ ?_ GE340.out | refine bS_ ?_ GE357.out | refine bS_ ?_ GE363.out | refine bS_ ?_ GE369.out | refine bS_ ?_ GE375.out) | exact HB.out))); rintro e w119 ⟨rfl, hb⟩; refine ⟨_, rfl, ?_⟩; have n0_ := Aside0.mk (Kd.R_below (by (with_reducible repeat (first | apply Kd.R_alloc | apply Kd.R_drewN | apply Kd.R_drew)); exact HO_66.out) hb); have n1_ := Aside0.mk (blk_below (g := gb339) (o := .cells #[.int .i64 (wrap64 (1 + (wrap64 (Int.tmod a2 3)))), .int .u64 t342, .string t343, .int .i64 t344] 24 (0, 0)) (by (with_reducible repeat (first | apply kN_ | apply kD_ | apply kA_)); exact BK339.out) hb); have n2_ := Aside0.mk (blk_below (g := gb340) (o := .cells #[.int .i64 (wrap64 (1 + (wrap64 (Int.tmod a2 3)))), .int .u64 t346, .string t347, .int .i64 t348] 24 (0, 0)) (by (with_reducible repeat (first | apply kN_ | apply kD_ | apply kA_)); exact BK340.out) hb); have n3_ := Aside0.mk (blk_below (g := gb357) (o := .cells #[.int .i64 t352, .int .u64 t353, .string t354, .int .i64 t355] 24 (0, 0)) (by (with_reducible repeat (first | apply kN_ | apply kD_ | apply kA_)); exact BK357.out) hb); have n4_ := Aside0.mk (blk_below (g := gb363) (o := .cells #[.int .i64 t358, .int .u64 t359, .string t360, .int .i64 t361] 24 (0, 0)) (by (with_reducible repeat (first | apply kN_ | apply kD_ | apply kA_)); exact BK363.out) hb); have n5_ := Aside0.mk (blk_below (g := gb369) (o := .cells #[.int .i64 t364, .int .u64 t365, .string t366, .int .i64 t367] 24 (0, 0)) (by (with_reducible repeat (first | apply kN_ | apply kD_ | apply kA_)); exact BK369.out) hb); have n6_ := Aside0.mk (blk_below (g := gb375) (o := .cells #[.int .i64 t370, .int .u64 t371, .string t372, .int .i64 t373] 24 (0, 0)) (by (with_reducible repeat (first | apply kN_ | apply kD_ | apply kA_)); exact BK375.out) hb); have n7_ := Aside0.mk (below_step (by repeat (first | (with_reducible first | exact HB.out | apply bA_ | apply bN_ | apply bD_ | refine bS_ ?_ GE339.out | refine bS_ ?_ GE340.out | refine bS_ ?_ GE357.out | refine bS_ ?_ GE363.out | refine bS_ ?_ GE369.out | refine bS_ ?_ GE375.out) | exact HB.out)) hb); clear HO_66; clear BK339; clear BK340; clear BK357; clear BK363; clear BK369; clear BK375; clear HB; have HO_66 := n0_; have BK339 := n1_; have BK340 := n2_; have BK357 := n3_; have BK363 := n4_; have BK369 := n5_; have BK375 := n6_; have HB := n7_; clear n0_ n1_ n2_ n3_ n4_ n5_ n6_ n7_; (try clear hb); (try clear hb2); (try clear hk); (try clear hi); have hnb120 := NB375_339.out; have hnc120 := NB339_375.out; have hnb121 := NB375_340.out; have hnc121 := NB340_375.out; have hnb122 := NB375_357.out; have hnc122 := NB357_375.out; have hnb123 := NB375_363.out; have hnc123 := NB363_375.out; have hnb124 := NB375_369.out; have hnc124 := NB369_375.out; obtain ⟨hcz125_0, hcz125_1, hcz125_2, hcz125_3⟩ := cells4_ BK375.out; obtain ⟨hfz125_0, hfz125_1, hfz125_2, hfz125_3⟩ := froz4_ BK375.out; have hnb126 := NB369_339.out; have hnc126 := NB339_369.out; have hnb127 := NB369_340.out; have hnc127 := NB340_369.out; have hnb128 := NB369_357.out; have hnc128 := NB357_369.out; have hnb129 := NB369_363.out; have hnc129 := NB363_369.out; obtain ⟨hcz130_0, hcz130_1, hcz130_2, hcz130_3⟩ := cells4_ BK369.out; obtain ⟨hfz130_0, hfz130_1, hfz130_2, hfz130_3⟩ := froz4_ BK369.out))
            go_ret
            exact ⟨by first | rfl | (simp [errW_none, errW_some] <;> rfl) | (simp [*, errW_none, errW_some] <;> rfl), by repeat (first | (with_reducible first | exact HB.out | apply bA_ | apply bN_ | apply bD_ | refine bS_ ?_ GE339.out | refine bS_ ?_ GE340.out | refine bS_ ?_ GE357.out | refine bS_ ?_ GE363.out | refine bS_ ?_ GE369.out | refine bS_ ?_ GE375.out) | exact HB.out)⟩
           ·rw [if_neg c118] at H
            have c118b0 : (x15_2 == 1) = false := beq_eq_false_iff_ne.mpr c118
            have c118b1 : (x15_2 != 1) = true := bne_iff_ne.mpr c118
            obtain rfl := Option.some.inj H
            exact absurd hr_.out (by simp)
          ·rw [if_neg c117] at H
           have c117b0 : (t368 == 0) = false := beq_eq_false_iff_ne.mpr c117
           have c117b1 : (t368 != 0) = true := bne_iff_ne.mpr c117
           obtain rfl := Option.some.inj H
           exact absurd hr_.out (by simp)
         ·rw [if_neg c116] at H
          have c116b0 : (t362 == 0) = false := beq_eq_false_iff_ne.mpr c116
          have c116b1 : (t362 != 0) = true := bne_iff_ne.mpr c116
          obtain rfl := Option.some.inj H
          exact absurd hr_.out (by simp)
        ·rw [if_neg c115] at H
         have c115b0 : (t356 == 0) = false := beq_eq_false_iff_ne.mpr c115
         have c115b1 : (t356 != 0) = true := bne_iff_ne.mpr c115
         obtain rfl := Option.some.inj H
         exact absurd hr_.out (by simp)
       ·replace c114 := Bool.eq_false_iff.mpr c114
        subst c114
        have H1 : (some false) = some r := by rw [if_neg (show ¬ (false = true) by decide)] at H; exact H
        clear H
        have H := H1
        clear H1
        obtain rfl := Option.some.inj H
        exact absurd hr_.out (by simp)

end Go.Proofs.YtdmeglmmihaonaaDoor.PValueComparison
