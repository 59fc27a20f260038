-- Written by a program of this session's (wip/print_patch.py over the kit's print) out of the translation; Lean checks it.
import Derived.Test.YtmnmidclaaiffaaPFieldConvertsx0
import Derived.Test.YtmnmidclaaiffaaVFieldConvertsExt
namespace Go.Proofs.Ytmnmidclaaiffaa.PFieldConverts
open Go.RowKit Go.Proofs.Ytmnmidclaaiffaa.Ext Go.Proofs.YtmnmidclaaiffaaW.PrintWords Go.Proofs.YtmnmidclaaiffaaW.PrintLast Go.Proofs.YtmnmidclaaiffaaW.PrintMore
attribute [local go_sem] max2_int min2_int max_two min_two max_three min_three max_four min_four   -- for this text's walks alone
set_option linter.unusedVariables false
set_option linter.unusedSimpArgs false

/-! ### platformfwref09_ValidField: function 29 -/
mutual
def platformfwref09_ValidField.j0 : Nat → Bool → Int → Int → Int → Int → Int → Int → Int → Int → Int → Int → Int → Int → Option (Bool)
 | 0, _, _, _, _, _, _, _, _, _, _, _, _, _ => none
 | k + 1, x38, x196000, x196001, x196002, x196003, x196004, x196005, x196006, x196007, x196008, x197000, x197001, x197002 => if x38 = true then (some false) else (if x197000 = 3 then (if x197001 > 255 then (platformfwref09_ValidField.j1 k true x196000 x196001 x196002 x196003 x196004 x196005 x196006 x196007 x196008 x197000 x197001 x197002) else (if (IntKind.u64.wrap (x197001 + x197002)) > 256 then (platformfwref09_ValidField.j1 k true x196000 x196001 x196002 x196003 x196004 x196005 x196006 x196007 x196008 x197000 x197001 x197002) else (platformfwref09_ValidField.j1 k (x196005 != 1) x196000 x196001 x196002 x196003 x196004 x196005 x196006 x196007 x196008 x197000 x197001 x197002))) else (platformfwref09_ValidField.j1 k false x196000 x196001 x196002 x196003 x196004 x196005 x196006 x196007 x196008 x197000 x197001 x197002))
def platformfwref09_ValidField.j1 : Nat → Bool → Int → Int → Int → Int → Int → Int → Int → Int → Int → Int → Int → Int → Option (Bool)
 | 0, _, _, _, _, _, _, _, _, _, _, _, _, _ => none
 | k + 1, x59, x196000, x196001, x196002, x196003, x196004, x196005, x196006, x196007, x196008, x197000, x197001, x197002 => if x59 = true then (some false) else (if x196005 = 1 then (if (IntKind.u64.wrap (x196005)) = 0 then (none) else (if (Int.tmod x197001 (IntKind.u64.wrap (x196005))) = 0 then (if x196006 < 0 then (platformfwref09_ValidField.j2 k true x196000 x196001 x196002 x196003 x196004 x196005 x196006 x196007 x196008 x197000 x197001 x197002) else (platformfwref09_ValidField.j2 k (decide (x196006 > 2)) x196000 x196001 x196002 x196003 x196004 x196005 x196006 x196007 x196008 x197000 x197001 x197002)) else (platformfwref09_ValidField.j2 k true x196000 x196001 x196002 x196003 x196004 x196005 x196006 x196007 x196008 x197000 x197001 x197002))) else (if x196005 = 2 then (if (IntKind.u64.wrap (x196005)) = 0 then (none) else (if (Int.tmod x197001 (IntKind.u64.wrap (x196005))) = 0 then (if x196006 < 0 then (platformfwref09_ValidField.j2 k true x196000 x196001 x196002 x196003 x196004 x196005 x196006 x196007 x196008 x197000 x197001 x197002) else (platformfwref09_ValidField.j2 k (decide (x196006 > 2)) x196000 x196001 x196002 x196003 x196004 x196005 x196006 x196007 x196008 x197000 x197001 x197002)) else (platformfwref09_ValidField.j2 k true x196000 x196001 x196002 x196003 x196004 x196005 x196006 x196007 x196008 x197000 x197001 x197002))) else (if x196005 = 4 then (if (IntKind.u64.wrap (x196005)) = 0 then (none) else (if (Int.tmod x197001 (IntKind.u64.wrap (x196005))) = 0 then (if x196006 < 0 then (platformfwref09_ValidField.j2 k true x196000 x196001 x196002 x196003 x196004 x196005 x196006 x196007 x196008 x197000 x197001 x197002) else (platformfwref09_ValidField.j2 k (decide (x196006 > 2)) x196000 x196001 x196002 x196003 x196004 x196005 x196006 x196007 x196008 x197000 x197001 x197002)) else (platformfwref09_ValidField.j2 k true x196000 x196001 x196002 x196003 x196004 x196005 x196006 x196007 x196008 x197000 x197001 x197002))) else (if x196005 = 8 then (if (IntKind.u64.wrap (x196005)) = 0 then (none) else (if (Int.tmod x197001 (IntKind.u64.wrap (x196005))) = 0 then (if x196006 < 0 then (platformfwref09_ValidField.j2 k true x196000 x196001 x196002 x196003 x196004 x196005 x196006 x196007 x196008 x197000 x197001 x197002) else (platformfwref09_ValidField.j2 k (decide (x196006 > 2)) x196000 x196001 x196002 x196003 x196004 x196005 x196006 x196007 x196008 x197000 x197001 x197002)) else (platformfwref09_ValidField.j2 k true x196000 x196001 x196002 x196003 x196004 x196005 x196006 x196007 x196008 x197000 x197001 x197002))) else (platformfwref09_ValidField.j2 k true x196000 x196001 x196002 x196003 x196004 x196005 x196006 x196007 x196008 x197000 x197001 x197002)))))
def platformfwref09_ValidField.j2 : Nat → Bool → Int → Int → Int → Int → Int → Int → Int → Int → Int → Int → Int → Int → Option (Bool)
 | 0, _, _, _, _, _, _, _, _, _, _, _, _, _ => none
 | k + 1, x96, x196000, x196001, x196002, x196003, x196004, x196005, x196006, x196007, x196008, x197000, x197001, x197002 => if x96 = true then (some false) else (if x196003 < 0 then (some false) else (if x196003 > 8388608 then (some false) else (if x196004 < 1 then (some false) else (if x196004 > 256 then (some false) else (if (wrap64 (8 * x196005)) = 0 then (none) else (some (decide ((IntKind.u64.wrap (wrap64 ((wrap64 ((wrap64 (Int.tdiv (wrap64 ((wrap64 (x196003 + x196004)) - 1)) (wrap64 (8 * x196005)))) + 1)) * x196005))) ≤ x197002))))))))
end
def platformfwref09_ValidField.f (k : Nat) (a0_0 : Int) (a0_1 : Int) (a0_2 : Int) (a0_3 : Int) (a0_4 : Int) (a0_5 : Int) (a0_6 : Int) (a0_7 : Int) (a0_8 : Int) : Option (Bool) := if a0_0 = 0 then (if a0_2 < 1 then (platformfwref09_ValidField.j0 k true a0_0 a0_1 a0_2 a0_3 a0_4 a0_5 a0_6 a0_7 a0_8 a0_0 a0_1 a0_2) else (if a0_2 > 1048576 then (platformfwref09_ValidField.j0 k true a0_0 a0_1 a0_2 a0_3 a0_4 a0_5 a0_6 a0_7 a0_8 a0_0 a0_1 a0_2) else (platformfwref09_ValidField.j0 k (decide (a0_1 > (IntKind.u64.wrap (18446744073709551615 - (IntKind.u64.wrap (a0_2 - 1)))))) a0_0 a0_1 a0_2 a0_3 a0_4 a0_5 a0_6 a0_7 a0_8 a0_0 a0_1 a0_2))) else (if a0_0 = 1 then (if a0_2 < 1 then (platformfwref09_ValidField.j0 k true a0_0 a0_1 a0_2 a0_3 a0_4 a0_5 a0_6 a0_7 a0_8 a0_0 a0_1 a0_2) else (if a0_2 > 1048576 then (platformfwref09_ValidField.j0 k true a0_0 a0_1 a0_2 a0_3 a0_4 a0_5 a0_6 a0_7 a0_8 a0_0 a0_1 a0_2) else (platformfwref09_ValidField.j0 k (decide (a0_1 > (IntKind.u64.wrap (18446744073709551615 - (IntKind.u64.wrap (a0_2 - 1)))))) a0_0 a0_1 a0_2 a0_3 a0_4 a0_5 a0_6 a0_7 a0_8 a0_0 a0_1 a0_2))) else (if a0_0 = 3 then (if a0_2 < 1 then (platformfwref09_ValidField.j0 k true a0_0 a0_1 a0_2 a0_3 a0_4 a0_5 a0_6 a0_7 a0_8 a0_0 a0_1 a0_2) else (if a0_2 > 1048576 then (platformfwref09_ValidField.j0 k true a0_0 a0_1 a0_2 a0_3 a0_4 a0_5 a0_6 a0_7 a0_8 a0_0 a0_1 a0_2) else (platformfwref09_ValidField.j0 k (decide (a0_1 > (IntKind.u64.wrap (18446744073709551615 - (IntKind.u64.wrap (a0_2 - 1)))))) a0_0 a0_1 a0_2 a0_3 a0_4 a0_5 a0_6 a0_7 a0_8 a0_0 a0_1 a0_2))) else (platformfwref09_ValidField.j0 k true a0_0 a0_1 a0_2 a0_3 a0_4 a0_5 a0_6 a0_7 a0_8 a0_0 a0_1 a0_2)))
theorem platformfwref09_ValidField.mono_l : ∀ k, (∀ y0 y1 y2 y3 y4 y5 y6 y7 y8 y9 y10 y11 y12, LeO (platformfwref09_ValidField.j0 k y0 y1 y2 y3 y4 y5 y6 y7 y8 y9 y10 y11 y12) (platformfwref09_ValidField.j0 (k + 1) y0 y1 y2 y3 y4 y5 y6 y7 y8 y9 y10 y11 y12)) ∧ (∀ y0 y1 y2 y3 y4 y5 y6 y7 y8 y9 y10 y11 y12, LeO (platformfwref09_ValidField.j1 k y0 y1 y2 y3 y4 y5 y6 y7 y8 y9 y10 y11 y12) (platformfwref09_ValidField.j1 (k + 1) y0 y1 y2 y3 y4 y5 y6 y7 y8 y9 y10 y11 y12)) ∧ (∀ y0 y1 y2 y3 y4 y5 y6 y7 y8 y9 y10 y11 y12, LeO (platformfwref09_ValidField.j2 k y0 y1 y2 y3 y4 y5 y6 y7 y8 y9 y10 y11 y12) (platformfwref09_ValidField.j2 (k + 1) y0 y1 y2 y3 y4 y5 y6 y7 y8 y9 y10 y11 y12))
 | 0 => ⟨fun _ _ _ _ _ _ _ _ _ _ _ _ _ r h => by simp [platformfwref09_ValidField.j0] at h, fun _ _ _ _ _ _ _ _ _ _ _ _ _ r h => by simp [platformfwref09_ValidField.j1] at h, fun _ _ _ _ _ _ _ _ _ _ _ _ _ r h => by simp [platformfwref09_ValidField.j2] at h⟩
 | k + 1 => by
  obtain ⟨ih0, ih1, ih2⟩ := platformfwref09_ValidField.mono_l k
  refine ⟨?_, ?_, ?_⟩
  ·intro y0 y1 y2 y3 y4 y5 y6 y7 y8 y9 y10 y11 y12
   unfold platformfwref09_ValidField.j0
   repeat' first
   | (with_reducible exact ih0 _ _ _ _ _ _ _ _ _ _ _ _ _)
   | (with_reducible exact ih1 _ _ _ _ _ _ _ _ _ _ _ _ _)
   | (with_reducible exact ih2 _ _ _ _ _ _ _ _ _ _ _ _ _)
   | (with_reducible exact LeO.refl _)
   | (with_reducible exact LeO.none _)
   | (with_reducible refine LeO.ite ?_ ?_)
   | (with_reducible refine LeO.bind ?_ (fun _ => ?_))
   | exact ih0 _ _ _ _ _ _ _ _ _ _ _ _ _
   | exact ih1 _ _ _ _ _ _ _ _ _ _ _ _ _
   | exact ih2 _ _ _ _ _ _ _ _ _ _ _ _ _
   | exact LeO.none _
   | refine LeO.ite ?_ ?_
   | refine LeO.bind ?_ (fun _ => ?_)
  ·intro y0 y1 y2 y3 y4 y5 y6 y7 y8 y9 y10 y11 y12
   unfold platformfwref09_ValidField.j1
   repeat' first
   | (with_reducible exact ih0 _ _ _ _ _ _ _ _ _ _ _ _ _)
   | (with_reducible exact ih1 _ _ _ _ _ _ _ _ _ _ _ _ _)
   | (with_reducible exact ih2 _ _ _ _ _ _ _ _ _ _ _ _ _)
   | (with_reducible exact LeO.refl _)
   | (with_reducible exact LeO.none _)
   | (with_reducible refine LeO.ite ?_ ?_)
   | (with_reducible refine LeO.bind ?_ (fun _ => ?_))
   | exact ih0 _ _ _ _ _ _ _ _ _ _ _ _ _
   | exact ih1 _ _ _ _ _ _ _ _ _ _ _ _ _
   | exact ih2 _ _ _ _ _ _ _ _ _ _ _ _ _
   | exact LeO.none _
   | refine LeO.ite ?_ ?_
   | refine LeO.bind ?_ (fun _ => ?_)
  ·intro y0 y1 y2 y3 y4 y5 y6 y7 y8 y9 y10 y11 y12
   unfold platformfwref09_ValidField.j2
   repeat' first
   | (with_reducible exact ih0 _ _ _ _ _ _ _ _ _ _ _ _ _)
   | (with_reducible exact ih1 _ _ _ _ _ _ _ _ _ _ _ _ _)
   | (with_reducible exact ih2 _ _ _ _ _ _ _ _ _ _ _ _ _)
   | (with_reducible exact LeO.refl _)
   | (with_reducible exact LeO.none _)
   | (with_reducible refine LeO.ite ?_ ?_)
   | (with_reducible refine LeO.bind ?_ (fun _ => ?_))
   | exact ih0 _ _ _ _ _ _ _ _ _ _ _ _ _
   | exact ih1 _ _ _ _ _ _ _ _ _ _ _ _ _
   | exact ih2 _ _ _ _ _ _ _ _ _ _ _ _ _
   | exact LeO.none _
   | refine LeO.ite ?_ ?_
   | refine LeO.bind ?_ (fun _ => ?_)
theorem platformfwref09_ValidField.mono : ∀ a0 a1 a2 a3 a4 a5 a6 a7 a8 k, LeO (platformfwref09_ValidField.f k a0 a1 a2 a3 a4 a5 a6 a7 a8) (platformfwref09_ValidField.f (k + 1) a0 a1 a2 a3 a4 a5 a6 a7 a8) := by
 intro a0 a1 a2 a3 a4 a5 a6 a7 a8 k
 obtain ⟨ih0, ih1, ih2⟩ := platformfwref09_ValidField.mono_l k
 unfold platformfwref09_ValidField.f
 repeat' first
   | (with_reducible exact ih0 _ _ _ _ _ _ _ _ _ _ _ _ _)
   | (with_reducible exact ih1 _ _ _ _ _ _ _ _ _ _ _ _ _)
   | (with_reducible exact ih2 _ _ _ _ _ _ _ _ _ _ _ _ _)
   | (with_reducible exact LeO.refl _)
   | (with_reducible exact LeO.none _)
   | (with_reducible refine LeO.ite ?_ ?_)
   | (with_reducible refine LeO.bind ?_ (fun _ => ?_))
   | exact ih0 _ _ _ _ _ _ _ _ _ _ _ _ _
   | exact ih1 _ _ _ _ _ _ _ _ _ _ _ _ _
   | exact ih2 _ _ _ _ _ _ _ _ _ _ _ _ _
   | exact LeO.none _
   | refine LeO.ite ?_ ?_
   | refine LeO.bind ?_ (fun _ => ?_)
set_option maxHeartbeats 8000000 in
set_option maxRecDepth 100000 in
theorem platformfwref09_ValidField.calls (k : Nat) (a0_0 : Int) (a0_1 : Int) (a0_2 : Int) (a0_3 : Int) (a0_4 : Int) (a0_5 : Int) (a0_6 : Int) (a0_7 : Int) (a0_8 : Int) (r : Bool) (w : World) (h : platformfwref09_ValidField.f k a0_0 a0_1 a0_2 a0_3 a0_4 a0_5 a0_6 a0_7 a0_8 = some r) :
  Calls Try.prog 29 #[.agg #[.int .i64 a0_0, .int .u64 a0_1, .int .u64 a0_2, .int .i64 a0_3, .int .i64 a0_4, .int .i64 a0_5, .int .i64 a0_6, .int .i64 a0_7, .int .i64 a0_8]] w fun e w' => e = .returned (.bool r) ∧ Below w.heap.size w w' := by
 have hu26 := Try.underlying26
 have hu24 := Try.underlying24
 have HB := Aside0.mk (Below.refl w.heap.size w)
 have H : (if a0_0 = 0 then (if a0_2 < 1 then (platformfwref09_ValidField.j0 k true a0_0 a0_1 a0_2 a0_3 a0_4 a0_5 a0_6 a0_7 a0_8 a0_0 a0_1 a0_2) else (if a0_2 > 1048576 then (platformfwref09_ValidField.j0 k true a0_0 a0_1 a0_2 a0_3 a0_4 a0_5 a0_6 a0_7 a0_8 a0_0 a0_1 a0_2) else (platformfwref09_ValidField.j0 k (decide (a0_1 > (IntKind.u64.wrap (18446744073709551615 - (IntKind.u64.wrap (a0_2 - 1)))))) a0_0 a0_1 a0_2 a0_3 a0_4 a0_5 a0_6 a0_7 a0_8 a0_0 a0_1 a0_2))) else (if a0_0 = 1 then (if a0_2 < 1 then (platformfwref09_ValidField.j0 k true a0_0 a0_1 a0_2 a0_3 a0_4 a0_5 a0_6 a0_7 a0_8 a0_0 a0_1 a0_2) else (if a0_2 > 1048576 then (platformfwref09_ValidField.j0 k true a0_0 a0_1 a0_2 a0_3 a0_4 a0_5 a0_6 a0_7 a0_8 a0_0 a0_1 a0_2) else (platformfwref09_ValidField.j0 k (decide (a0_1 > (IntKind.u64.wrap (18446744073709551615 - (IntKind.u64.wrap (a0_2 - 1)))))) a0_0 a0_1 a0_2 a0_3 a0_4 a0_5 a0_6 a0_7 a0_8 a0_0 a0_1 a0_2))) else (if a0_0 = 3 then (if a0_2 < 1 then (platformfwref09_ValidField.j0 k true a0_0 a0_1 a0_2 a0_3 a0_4 a0_5 a0_6 a0_7 a0_8 a0_0 a0_1 a0_2) else (if a0_2 > 1048576 then (platformfwref09_ValidField.j0 k true a0_0 a0_1 a0_2 a0_3 a0_4 a0_5 a0_6 a0_7 a0_8 a0_0 a0_1 a0_2) else (platformfwref09_ValidField.j0 k (decide (a0_1 > (IntKind.u64.wrap (18446744073709551615 - (IntKind.u64.wrap (a0_2 - 1)))))) a0_0 a0_1 a0_2 a0_3 a0_4 a0_5 a0_6 a0_7 a0_8 a0_0 a0_1 a0_2))) else (platformfwref09_ValidField.j0 k true a0_0 a0_1 a0_2 a0_3 a0_4 a0_5 a0_6 a0_7 a0_8 a0_0 a0_1 a0_2)))) = some r := h
 clear h
 have HC2 := Aside0.mk H
 clear H
 go_enter Try.func29, Try.ntmps29
 go_upto_region 2 with (first | ((with_reducible refine gate_dst (N := 1) rfl ?_); refine box_event ?hg (N := 1) ?hd (cs := #[.int .i64 a0_0, .int .u64 a0_1, .int .u64 a0_2, .int .i64 a0_3, .int .i64 a0_4, .int .i64 a0_5, .int .i64 a0_6, .int .i64 a0_7, .int .i64 a0_8]) (t := 26) ?hr ?_; (case hd => rfl); (case hg => rfl); (case hr => first | (go_simp; done) | (go_simp; rfl)); intro gb195 hg w3 hbox hb; have n0_ := Aside0.mk (below_step (by repeat (first | (with_reducible first | exact HB.out | apply bA_ | apply bN_ | apply bD_) | exact HB.out)) hb); have n1_ := Aside0.mk (hbox); have n2_ := Aside0.mk ((by rw [hg]; exact (below_size (by repeat (first | (with_reducible first | exact HB.out | apply bA_ | apply bN_ | apply bD_) | exact HB.out))) : w.heap.size ≤ gb195)); have n3_ := Aside0.mk ((by rw [hg]; exact (below_size (by repeat (first | (with_reducible first | exact HB.out | apply bA_ | apply bN_ | apply bD_) | exact HB.out))) : w.heap.size ≤ gb195)); clear HB; have HB := n0_; have BK195 := n1_; have GW195 := n2_; have GE195 := n3_; clear n0_ n1_ n2_ n3_; clear hb hbox hg; obtain ⟨hcz4_0, hcz4_1, hcz4_2, hcz4_3, hcz4_4, hcz4_5, hcz4_6, hcz4_7, hcz4_8⟩ := cells9_ BK195.out; obtain ⟨hfz4_0, hfz4_1, hfz4_2, hfz4_3, hfz4_4, hfz4_5, hfz4_6, hfz4_7, hfz4_8⟩ := froz9_ BK195.out) | ((with_reducible refine gate_dst (N := 3) rfl ?_); refine box_event ?hg (N := 3) ?hd (cs := #[.int .i64 0, .int .u64 0, .int .u64 0]) (t := 24) ?hr ?_; (case hd => rfl); (case hg => rfl); (case hr => first | (go_simp; done) | (go_simp; rfl)); intro gb196 hg w5 hbox hb; have n0_ := Aside0.mk (blk_below (g := gb195) (o := .cells #[.int .i64 a0_0, .int .u64 a0_1, .int .u64 a0_2, .int .i64 a0_3, .int .i64 a0_4, .int .i64 a0_5, .int .i64 a0_6, .int .i64 a0_7, .int .i64 a0_8] 26 (0, 0)) (by (with_reducible repeat (first | refine kN_ ?_ _ | refine kD_ ?_ | refine kA_ ?_ _)); exact BK195.out) hb); have n1_ := Aside0.mk (below_step (by repeat (first | (with_reducible first | exact HB.out | apply bA_ | apply bN_ | apply bD_ | refine bS_ ?_ GE195.out) | exact HB.out)) hb); have n2_ := Aside0.mk (hbox); have n3_ := Aside0.mk ((by rw [hg]; exact (below_size (by repeat (first | (with_reducible first | exact HB.out | apply bA_ | apply bN_ | apply bD_ | refine bS_ ?_ GE195.out) | exact HB.out))) : w.heap.size ≤ gb196)); have n4_ := Aside0.mk ((by rw [hg]; exact (below_size (by repeat (first | (with_reducible first | exact HB.out | apply bA_ | apply bN_ | apply bD_ | refine bS_ ?_ GE195.out) | exact HB.out))) : w.heap.size ≤ gb196)); have n5_ := Aside0.mk ((by rw [hg]; exact Nat.ne_of_lt (blk_lt (g := gb195) (o := .cells #[.int .i64 a0_0, .int .u64 a0_1, .int .u64 a0_2, .int .i64 a0_3, .int .i64 a0_4, .int .i64 a0_5, .int .i64 a0_6, .int .i64 a0_7, .int .i64 a0_8] 26 (0, 0)) (by (with_reducible repeat (first | refine kN_ ?_ _ | refine kD_ ?_ | refine kA_ ?_ _)); exact BK195.out)) : gb195 ≠ gb196)); have n6_ := Aside0.mk ((by rw [hg]; exact Nat.ne_of_gt (blk_lt (g := gb195) (o := .cells #[.int .i64 a0_0, .int .u64 a0_1, .int .u64 a0_2, .int .i64 a0_3, .int .i64 a0_4, .int .i64 a0_5, .int .i64 a0_6, .int .i64 a0_7, .int .i64 a0_8] 26 (0, 0)) (by (with_reducible repeat (first | refine kN_ ?_ _ | refine kD_ ?_ | refine kA_ ?_ _)); exact BK195.out)) : gb196 ≠ gb195)); clear BK195; clear HB; have BK195 := n0_; have HB := n1_; have BK196 := n2_; have GW196 := n3_; have GE196 := n4_; have NB195_196 := n5_; have NB196_195 := n6_; clear n0_ n1_ n2_ n3_ n4_ n5_ n6_; clear hb hbox hg; have hnb6 := NB196_195.out; have hnc6 := NB195_196.out; obtain ⟨hcz7_0, hcz7_1, hcz7_2⟩ := cells3_ BK196.out; obtain ⟨hfz7_0, hfz7_1, hfz7_2⟩ := froz3_ BK196.out))
 (try simp only [Act.put, sA_, sB_, sC_])
 go_cut [38] (fun v38 wc => ∃ (kq : Nat) (x38_1 : Bool), v38 = .bool x38_1 ∧ Aside0 (platformfwref09_ValidField.j0 kq x38_1 a0_0 a0_1 a0_2 a0_3 a0_4 a0_5 a0_6 a0_7 a0_8 a0_0 a0_1 a0_2 = some r) ∧ Aside0 (kq ≤ k) ∧ Aside0 (wc.heap[gb195]? = some (.cells #[.int .i64 a0_0, .int .u64 a0_1, .int .u64 a0_2, .int .i64 a0_3, .int .i64 a0_4, .int .i64 a0_5, .int .i64 a0_6, .int .i64 a0_7, .int .i64 a0_8] 26 (0, 0))) ∧ Aside0 (wc.heap[gb196]? = some (.cells #[.int .i64 a0_0, .int .u64 a0_1, .int .u64 a0_2] 24 (0, 0))) ∧ Aside0 (Below w.heap.size w wc))
 case first =>
  have H := HC2.out
  clear HC2
  by_cases c8 : a0_0 = 0
  ·rw [if_pos c8] at H
   have c8b0 : (a0_0 == 0) = true := beq_iff_eq.mpr c8
   have c8b1 : (a0_0 != 0) = false := bne_eq_false_iff_eq.mpr c8
   clear c8
   (first | rw [c8b0] | (simp only [i64_w, i32_w]; rw [c8b0]) | skip)
   by_cases c9 : a0_2 < 1
   ·rw [if_pos c9] at H
    have c9b0 : decide (a0_2 < 1) = true := decide_eq_true c9
    clear c9
    have H' := Aside0.mk H
    clear H
    have hnb10 := NB196_195.out
    have hnc10 := NB195_196.out
    have hcz11_0 : w5.cell? ⟨gb196, 0, none⟩ = some (.int .i64 0) := (blk_cell BK196.out 0).trans rfl
    have hcz11_1 : w5.cell? ⟨gb196, 1, none⟩ = some (.int .u64 0) := (blk_cell BK196.out 1).trans rfl
    have hcz11_2 : w5.cell? ⟨gb196, 2, none⟩ = some (.int .u64 0) := (blk_cell BK196.out 2).trans rfl
    have hfz11_0 := blk_frozen BK196.out 0
    have hfz11_1 := blk_frozen BK196.out 1
    have hfz11_2 := blk_frozen BK196.out 2
    go_wp2
    go_meet
    case rel => exact ⟨_, (true), (by first | rfl | (simp; done) | (simp [*]; done)), H', ⟨by first | omega | exact Nat.le_refl _⟩, ⟨by (with_reducible repeat (first | refine kN_ ?_ _ | refine kD_ ?_ | refine kA_ ?_ _)); refine blk_far ?_ NB195_196.out _; (with_reducible repeat (first | refine kN_ ?_ _ | refine kD_ ?_ | refine kA_ ?_ _)); refine blk_far ?_ NB195_196.out _; (with_reducible repeat (first | refine kN_ ?_ _ | refine kD_ ?_ | refine kA_ ?_ _)); refine blk_far ?_ NB195_196.out _; (with_reducible repeat (first | refine kN_ ?_ _ | refine kD_ ?_ | refine kA_ ?_ _)); exact BK195.out⟩, ⟨by (with_reducible repeat (first | refine kN_ ?_ _ | refine kD_ ?_ | refine kA_ ?_ _)); refine blk_put (cs := #[.int .i64 a0_0, .int .u64 a0_1, .int .u64 0]) ?_ 2 _ rfl; (with_reducible repeat (first | refine kN_ ?_ _ | refine kD_ ?_ | refine kA_ ?_ _)); refine blk_put (cs := #[.int .i64 a0_0, .int .u64 0, .int .u64 0]) ?_ 1 _ rfl; (with_reducible repeat (first | refine kN_ ?_ _ | refine kD_ ?_ | refine kA_ ?_ _)); refine blk_put (cs := #[.int .i64 0, .int .u64 0, .int .u64 0]) ?_ 0 _ rfl; (with_reducible repeat (first | refine kN_ ?_ _ | refine kD_ ?_ | refine kA_ ?_ _)); exact BK196.out⟩, ⟨by repeat (first | (with_reducible first | exact HB.out | apply bA_ | apply bN_ | apply bD_ | refine bS_ ?_ GE195.out | refine bS_ ?_ GE196.out) | exact HB.out)⟩⟩
   ·rw [if_neg c9] at H
    have c9b0 : decide (a0_2 < 1) = false := decide_eq_false c9
    clear c9
    by_cases c12 : a0_2 > 1048576
    ·rw [if_pos c12] at H
     have c12b0 : decide (1048576 < a0_2) = true := decide_eq_true c12
     clear c12
     have H' := Aside0.mk H
     clear H
     have hnb13 := NB196_195.out
     have hnc13 := NB195_196.out
     have hcz14_0 : w5.cell? ⟨gb196, 0, none⟩ = some (.int .i64 0) := (blk_cell BK196.out 0).trans rfl
     have hcz14_1 : w5.cell? ⟨gb196, 1, none⟩ = some (.int .u64 0) := (blk_cell BK196.out 1).trans rfl
     have hcz14_2 : w5.cell? ⟨gb196, 2, none⟩ = some (.int .u64 0) := (blk_cell BK196.out 2).trans rfl
     have hfz14_0 := blk_frozen BK196.out 0
     have hfz14_1 := blk_frozen BK196.out 1
     have hfz14_2 := blk_frozen BK196.out 2
     go_wp2
     go_meet
     case rel => exact ⟨_, (true), (by first | rfl | (simp; done) | (simp [*]; done)), H', ⟨by first | omega | exact Nat.le_refl _⟩, ⟨by (with_reducible repeat (first | refine kN_ ?_ _ | refine kD_ ?_ | refine kA_ ?_ _)); refine blk_far ?_ NB195_196.out _; (with_reducible repeat (first | refine kN_ ?_ _ | refine kD_ ?_ | refine kA_ ?_ _)); refine blk_far ?_ NB195_196.out _; (with_reducible repeat (first | refine kN_ ?_ _ | refine kD_ ?_ | refine kA_ ?_ _)); refine blk_far ?_ NB195_196.out _; (with_reducible repeat (first | refine kN_ ?_ _ | refine kD_ ?_ | refine kA_ ?_ _)); exact BK195.out⟩, ⟨by (with_reducible repeat (first | refine kN_ ?_ _ | refine kD_ ?_ | refine kA_ ?_ _)); refine blk_put (cs := #[.int .i64 a0_0, .int .u64 a0_1, .int .u64 0]) ?_ 2 _ rfl; (with_reducible repeat (first | refine kN_ ?_ _ | refine kD_ ?_ | refine kA_ ?_ _)); refine blk_put (cs := #[.int .i64 a0_0, .int .u64 0, .int .u64 0]) ?_ 1 _ rfl; (with_reducible repeat (first | refine kN_ ?_ _ | refine kD_ ?_ | refine kA_ ?_ _)); refine blk_put (cs := #[.int .i64 0, .int .u64 0, .int .u64 0]) ?_ 0 _ rfl; (with_reducible repeat (first | refine kN_ ?_ _ | refine kD_ ?_ | refine kA_ ?_ _)); exact BK196.out⟩, ⟨by repeat (first | (with_reducible first | exact HB.out | apply bA_ | apply bN_ | apply bD_ | refine bS_ ?_ GE195.out | refine bS_ ?_ GE196.out) | exact HB.out)⟩⟩
    ·rw [if_neg c12] at H
     have c12b0 : decide (1048576 < a0_2) = false := decide_eq_false c12
     clear c12
     have H' := Aside0.mk H
     clear H
     have hnb15 := NB196_195.out
     have hnc15 := NB195_196.out
     have hcz16_0 : w5.cell? ⟨gb196, 0, none⟩ = some (.int .i64 0) := (blk_cell BK196.out 0).trans rfl
     have hcz16_1 : w5.cell? ⟨gb196, 1, none⟩ = some (.int .u64 0) := (blk_cell BK196.out 1).trans rfl
     have hcz16_2 : w5.cell? ⟨gb196, 2, none⟩ = some (.int .u64 0) := (blk_cell BK196.out 2).trans rfl
     have hfz16_0 := blk_frozen BK196.out 0
     have hfz16_1 := blk_frozen BK196.out 1
     have hfz16_2 := blk_frozen BK196.out 2
     go_wp2
     go_meet
     case rel => exact ⟨_, (decide (a0_1 > (IntKind.u64.wrap (18446744073709551615 - (IntKind.u64.wrap (a0_2 - 1)))))), (by first | rfl | (simp; done) | (simp [*]; done)), H', ⟨by first | omega | exact Nat.le_refl _⟩, ⟨by (with_reducible repeat (first | refine kN_ ?_ _ | refine kD_ ?_ | refine kA_ ?_ _)); refine blk_far ?_ NB195_196.out _; (with_reducible repeat (first | refine kN_ ?_ _ | refine kD_ ?_ | refine kA_ ?_ _)); refine blk_far ?_ NB195_196.out _; (with_reducible repeat (first | refine kN_ ?_ _ | refine kD_ ?_ | refine kA_ ?_ _)); refine blk_far ?_ NB195_196.out _; (with_reducible repeat (first | refine kN_ ?_ _ | refine kD_ ?_ | refine kA_ ?_ _)); exact BK195.out⟩, ⟨by (with_reducible repeat (first | refine kN_ ?_ _ | refine kD_ ?_ | refine kA_ ?_ _)); refine blk_put (cs := #[.int .i64 a0_0, .int .u64 a0_1, .int .u64 0]) ?_ 2 _ rfl; (with_reducible repeat (first | refine kN_ ?_ _ | refine kD_ ?_ | refine kA_ ?_ _)); refine blk_put (cs := #[.int .i64 a0_0, .int .u64 0, .int .u64 0]) ?_ 1 _ rfl; (with_reducible repeat (first | refine kN_ ?_ _ | refine kD_ ?_ | refine kA_ ?_ _)); refine blk_put (cs := #[.int .i64 0, .int .u64 0, .int .u64 0]) ?_ 0 _ rfl; (with_reducible repeat (first | refine kN_ ?_ _ | refine kD_ ?_ | refine kA_ ?_ _)); exact BK196.out⟩, ⟨by repeat (first | (with_reducible first | exact HB.out | apply bA_ | apply bN_ | apply bD_ | refine bS_ ?_ GE195.out | refine bS_ ?_ GE196.out) | exact HB.out)⟩⟩
  ·rw [if_neg c8] at H
   have c8b0 : (a0_0 == 0) = false := beq_eq_false_iff_ne.mpr c8
   have c8b1 : (a0_0 != 0) = true := bne_iff_ne.mpr c8
   (first | rw [c8b0] | (simp only [i64_w, i32_w]; rw [c8b0]) | skip)
   by_cases c17 : a0_0 = 1
   ·rw [if_pos c17] at H
    have c17b0 : (a0_0 == 1) = true := beq_iff_eq.mpr c17
    have c17b1 : (a0_0 != 1) = false := bne_eq_false_iff_eq.mpr c17
    clear c17
    by_cases c18 : a0_2 < 1
    ·rw [if_pos c18] at H
     have c18b0 : decide (a0_2 < 1) = true := decide_eq_true c18
     clear c18
     have H' := Aside0.mk H
     clear H
     have hnb19 := NB196_195.out
     have hnc19 := NB195_196.out
     have hcz20_0 : w5.cell? ⟨gb196, 0, none⟩ = some (.int .i64 0) := (blk_cell BK196.out 0).trans rfl
     have hcz20_1 : w5.cell? ⟨gb196, 1, none⟩ = some (.int .u64 0) := (blk_cell BK196.out 1).trans rfl
     have hcz20_2 : w5.cell? ⟨gb196, 2, none⟩ = some (.int .u64 0) := (blk_cell BK196.out 2).trans rfl
     have hfz20_0 := blk_frozen BK196.out 0
     have hfz20_1 := blk_frozen BK196.out 1
     have hfz20_2 := blk_frozen BK196.out 2
     go_wp2
     go_meet
     case rel => exact ⟨_, (true), (by first | rfl | (simp; done) | (simp [*]; done)), H', ⟨by first | omega | exact Nat.le_refl _⟩, ⟨by (with_reducible repeat (first | refine kN_ ?_ _ | refine kD_ ?_ | refine kA_ ?_ _)); refine blk_far ?_ NB195_196.out _; (with_reducible repeat (first | refine kN_ ?_ _ | refine kD_ ?_ | refine kA_ ?_ _)); refine blk_far ?_ NB195_196.out _; (with_reducible repeat (first | refine kN_ ?_ _ | refine kD_ ?_ | refine kA_ ?_ _)); refine blk_far ?_ NB195_196.out _; (with_reducible repeat (first | refine kN_ ?_ _ | refine kD_ ?_ | refine kA_ ?_ _)); exact BK195.out⟩, ⟨by (with_reducible repeat (first | refine kN_ ?_ _ | refine kD_ ?_ | refine kA_ ?_ _)); refine blk_put (cs := #[.int .i64 a0_0, .int .u64 a0_1, .int .u64 0]) ?_ 2 _ rfl; (with_reducible repeat (first | refine kN_ ?_ _ | refine kD_ ?_ | refine kA_ ?_ _)); refine blk_put (cs := #[.int .i64 a0_0, .int .u64 0, .int .u64 0]) ?_ 1 _ rfl; (with_reducible repeat (first | refine kN_ ?_ _ | refine kD_ ?_ | refine kA_ ?_ _)); refine blk_put (cs := #[.int .i64 0, .int .u64 0, .int .u64 0]) ?_ 0 _ rfl; (with_reducible repeat (first | refine kN_ ?_ _ | refine kD_ ?_ | refine kA_ ?_ _)); exact BK196.out⟩, ⟨by repeat (first | (with_reducible first | exact HB.out | apply bA_ | apply bN_ | apply bD_ | refine bS_ ?_ GE195.out | refine bS_ ?_ GE196.out) | exact HB.out)⟩⟩
    ·rw [if_neg c18] at H
     have c18b0 : decide (a0_2 < 1) = false := decide_eq_false c18
     clear c18
     by_cases c21 : a0_2 > 1048576
     ·rw [if_pos c21] at H
      have c21b0 : decide (1048576 < a0_2) = true := decide_eq_true c21
      clear c21
      have H' := Aside0.mk H
      clear H
      have hnb22 := NB196_195.out
      have hnc22 := NB195_196.out
      have hcz23_0 : w5.cell? ⟨gb196, 0, none⟩ = some (.int .i64 0) := (blk_cell BK196.out 0).trans rfl
      have hcz23_1 : w5.cell? ⟨gb196, 1, none⟩ = some (.int .u64 0) := (blk_cell BK196.out 1).trans rfl
      have hcz23_2 : w5.cell? ⟨gb196, 2, none⟩ = some (.int .u64 0) := (blk_cell BK196.out 2).trans rfl
      have hfz23_0 := blk_frozen BK196.out 0
      have hfz23_1 := blk_frozen BK196.out 1
      have hfz23_2 := blk_frozen BK196.out 2
      go_wp2
      go_meet
      case rel => exact ⟨_, (true), (by first | rfl | (simp; done) | (simp [*]; done)), H', ⟨by first | omega | exact Nat.le_refl _⟩, ⟨by (with_reducible repeat (first | refine kN_ ?_ _ | refine kD_ ?_ | refine kA_ ?_ _)); refine blk_far ?_ NB195_196.out _; (with_reducible repeat (first | refine kN_ ?_ _ | refine kD_ ?_ | refine kA_ ?_ _)); refine blk_far ?_ NB195_196.out _; (with_reducible repeat (first | refine kN_ ?_ _ | refine kD_ ?_ | refine kA_ ?_ _)); refine blk_far ?_ NB195_196.out _; (with_reducible repeat (first | refine kN_ ?_ _ | refine kD_ ?_ | refine kA_ ?_ _)); exact BK195.out⟩, ⟨by (with_reducible repeat (first | refine kN_ ?_ _ | refine kD_ ?_ | refine kA_ ?_ _)); refine blk_put (cs := #[.int .i64 a0_0, .int .u64 a0_1, .int .u64 0]) ?_ 2 _ rfl; (with_reducible repeat (first | refine kN_ ?_ _ | refine kD_ ?_ | refine kA_ ?_ _)); refine blk_put (cs := #[.int .i64 a0_0, .int .u64 0, .int .u64 0]) ?_ 1 _ rfl; (with_reducible repeat (first | refine kN_ ?_ _ | refine kD_ ?_ | refine kA_ ?_ _)); refine blk_put (cs := #[.int .i64 0, .int .u64 0, .int .u64 0]) ?_ 0 _ rfl; (with_reducible repeat (first | refine kN_ ?_ _ | refine kD_ ?_ | refine kA_ ?_ _)); exact BK196.out⟩, ⟨by repeat (first | (with_reducible first | exact HB.out | apply bA_ | apply bN_ | apply bD_ | refine bS_ ?_ GE195.out | refine bS_ ?_ GE196.out) | exact HB.out)⟩⟩
     ·rw [if_neg c21] at H
      have c21b0 : decide (1048576 < a0_2) = false := decide_eq_false c21
      clear c21
      have H' := Aside0.mk H
      clear H
      have hnb24 := NB196_195.out
      have hnc24 := NB195_196.out
      have hcz25_0 : w5.cell? ⟨gb196, 0, none⟩ = some (.int .i64 0) := (blk_cell BK196.out 0).trans rfl
      have hcz25_1 : w5.cell? ⟨gb196, 1, none⟩ = some (.int .u64 0) := (blk_cell BK196.out 1).trans rfl
      have hcz25_2 : w5.cell? ⟨gb196, 2, none⟩ = some (.int .u64 0) := (blk_cell BK196.out 2).trans rfl
      have hfz25_0 := blk_frozen BK196.out 0
      have hfz25_1 := blk_frozen BK196.out 1
      have hfz25_2 := blk_frozen BK196.out 2
      go_wp2
      go_meet
      case rel => exact ⟨_, (decide (a0_1 > (IntKind.u64.wrap (18446744073709551615 - (IntKind.u64.wrap (a0_2 - 1)))))), (by first | rfl | (simp; done) | (simp [*]; done)), H', ⟨by first | omega | exact Nat.le_refl _⟩, ⟨by (with_reducible repeat (first | refine kN_ ?_ _ | refine kD_ ?_ | refine kA_ ?_ _)); refine blk_far ?_ NB195_196.out _; (with_reducible repeat (first | refine kN_ ?_ _ | refine kD_ ?_ | refine kA_ ?_ _)); refine blk_far ?_ NB195_196.out _; (with_reducible repeat (first | refine kN_ ?_ _ | refine kD_ ?_ | refine kA_ ?_ _)); refine blk_far ?_ NB195_196.out _; (with_reducible repeat (first | refine kN_ ?_ _ | refine kD_ ?_ | refine kA_ ?_ _)); exact BK195.out⟩, ⟨by (with_reducible repeat (first | refine kN_ ?_ _ | refine kD_ ?_ | refine kA_ ?_ _)); refine blk_put (cs := #[.int .i64 a0_0, .int .u64 a0_1, .int .u64 0]) ?_ 2 _ rfl; (with_reducible repeat (first | refine kN_ ?_ _ | refine kD_ ?_ | refine kA_ ?_ _)); refine blk_put (cs := #[.int .i64 a0_0, .int .u64 0, .int .u64 0]) ?_ 1 _ rfl; (with_reducible repeat (first | refine kN_ ?_ _ | refine kD_ ?_ | refine kA_ ?_ _)); refine blk_put (cs := #[.int .i64 0, .int .u64 0, .int .u64 0]) ?_ 0 _ rfl; (with_reducible repeat (first | refine kN_ ?_ _ | refine kD_ ?_ | refine kA_ ?_ _)); exact BK196.out⟩, ⟨by repeat (first | (with_reducible first | exact HB.out | apply bA_ | apply bN_ | apply bD_ | refine bS_ ?_ GE195.out | refine bS_ ?_ GE196.out) | exact HB.out)⟩⟩
   ·rw [if_neg c17] at H
    have c17b0 : (a0_0 == 1) = false := beq_eq_false_iff_ne.mpr c17
    have c17b1 : (a0_0 != 1) = true := bne_iff_ne.mpr c17
    by_cases c26 : a0_0 = 3
    ·rw [if_pos c26] at H
     have c26b0 : (a0_0 == 3) = true := beq_iff_eq.mpr c26
     have c26b1 : (a0_0 != 3) = false := bne_eq_false_iff_eq.mpr c26
     clear c26
     by_cases c27 : a0_2 < 1
     ·rw [if_pos c27] at H
      have c27b0 : decide (a0_2 < 1) = true := decide_eq_true c27
      clear c27
      have H' := Aside0.mk H
      clear H
      have hnb28 := NB196_195.out
      have hnc28 := NB195_196.out
      have hcz29_0 : w5.cell? ⟨gb196, 0, none⟩ = some (.int .i64 0) := (blk_cell BK196.out 0).trans rfl
      have hcz29_1 : w5.cell? ⟨gb196, 1, none⟩ = some (.int .u64 0) := (blk_cell BK196.out 1).trans rfl
      have hcz29_2 : w5.cell? ⟨gb196, 2, none⟩ = some (.int .u64 0) := (blk_cell BK196.out 2).trans rfl
      have hfz29_0 := blk_frozen BK196.out 0
      have hfz29_1 := blk_frozen BK196.out 1
      have hfz29_2 := blk_frozen BK196.out 2
      go_wp2
      go_meet
      case rel => exact ⟨_, (true), (by first | rfl | (simp; done) | (simp [*]; done)), H', ⟨by first | omega | exact Nat.le_refl _⟩, ⟨by (with_reducible repeat (first | refine kN_ ?_ _ | refine kD_ ?_ | refine kA_ ?_ _)); refine blk_far ?_ NB195_196.out _; (with_reducible repeat (first | refine kN_ ?_ _ | refine kD_ ?_ | refine kA_ ?_ _)); refine blk_far ?_ NB195_196.out _; (with_reducible repeat (first | refine kN_ ?_ _ | refine kD_ ?_ | refine kA_ ?_ _)); refine blk_far ?_ NB195_196.out _; (with_reducible repeat (first | refine kN_ ?_ _ | refine kD_ ?_ | refine kA_ ?_ _)); exact BK195.out⟩, ⟨by (with_reducible repeat (first | refine kN_ ?_ _ | refine kD_ ?_ | refine kA_ ?_ _)); refine blk_put (cs := #[.int .i64 a0_0, .int .u64 a0_1, .int .u64 0]) ?_ 2 _ rfl; (with_reducible repeat (first | refine kN_ ?_ _ | refine kD_ ?_ | refine kA_ ?_ _)); refine blk_put (cs := #[.int .i64 a0_0, .int .u64 0, .int .u64 0]) ?_ 1 _ rfl; (with_reducible repeat (first | refine kN_ ?_ _ | refine kD_ ?_ | refine kA_ ?_ _)); refine blk_put (cs := #[.int .i64 0, .int .u64 0, .int .u64 0]) ?_ 0 _ rfl; (with_reducible repeat (first | refine kN_ ?_ _ | refine kD_ ?_ | refine kA_ ?_ _)); exact BK196.out⟩, ⟨by repeat (first | (with_reducible first | exact HB.out | apply bA_ | apply bN_ | apply bD_ | refine bS_ ?_ GE195.out | refine bS_ ?_ GE196.out) | exact HB.out)⟩⟩
     ·rw [if_neg c27] at H
      have c27b0 : decide (a0_2 < 1) = false := decide_eq_false c27
      clear c27
      by_cases c30 : a0_2 > 1048576
      ·rw [if_pos c30] at H
       have c30b0 : decide (1048576 < a0_2) = true := decide_eq_true c30
       clear c30
       have H' := Aside0.mk H
       clear H
       have hnb31 := NB196_195.out
       have hnc31 := NB195_196.out
       have hcz32_0 : w5.cell? ⟨gb196, 0, none⟩ = some (.int .i64 0) := (blk_cell BK196.out 0).trans rfl
       have hcz32_1 : w5.cell? ⟨gb196, 1, none⟩ = some (.int .u64 0) := (blk_cell BK196.out 1).trans rfl
       have hcz32_2 : w5.cell? ⟨gb196, 2, none⟩ = some (.int .u64 0) := (blk_cell BK196.out 2).trans rfl
       have hfz32_0 := blk_frozen BK196.out 0
       have hfz32_1 := blk_frozen BK196.out 1
       have hfz32_2 := blk_frozen BK196.out 2
       go_wp2
       go_meet
       case rel => exact ⟨_, (true), (by first | rfl | (simp; done) | (simp [*]; done)), H', ⟨by first | omega | exact Nat.le_refl _⟩, ⟨by (with_reducible repeat (first | refine kN_ ?_ _ | refine kD_ ?_ | refine kA_ ?_ _)); refine blk_far ?_ NB195_196.out _; (with_reducible repeat (first | refine kN_ ?_ _ | refine kD_ ?_ | refine kA_ ?_ _)); refine blk_far ?_ NB195_196.out _; (with_reducible repeat (first | refine kN_ ?_ _ | refine kD_ ?_ | refine kA_ ?_ _)); refine blk_far ?_ NB195_196.out _; (with_reducible repeat (first | refine kN_ ?_ _ | refine kD_ ?_ | refine kA_ ?_ _)); exact BK195.out⟩, ⟨by (with_reducible repeat (first | refine kN_ ?_ _ | refine kD_ ?_ | refine kA_ ?_ _)); refine blk_put (cs := #[.int .i64 a0_0, .int .u64 a0_1, .int .u64 0]) ?_ 2 _ rfl; (with_reducible repeat (first | refine kN_ ?_ _ | refine kD_ ?_ | refine kA_ ?_ _)); refine blk_put (cs := #[.int .i64 a0_0, .int .u64 0, .int .u64 0]) ?_ 1 _ rfl; (with_reducible repeat (first | refine kN_ ?_ _ | refine kD_ ?_ | refine kA_ ?_ _)); refine blk_put (cs := #[.int .i64 0, .int .u64 0, .int .u64 0]) ?_ 0 _ rfl; (with_reducible repeat (first | refine kN_ ?_ _ | refine kD_ ?_ | refine kA_ ?_ _)); exact BK196.out⟩, ⟨by repeat (first | (with_reducible first | exact HB.out | apply bA_ | apply bN_ | apply bD_ | refine bS_ ?_ GE195.out | refine bS_ ?_ GE196.out) | exact HB.out)⟩⟩
      ·rw [if_neg c30] at H
       have c30b0 : decide (1048576 < a0_2) = false := decide_eq_false c30
       clear c30
       have H' := Aside0.mk H
       clear H
       have hnb33 := NB196_195.out
       have hnc33 := NB195_196.out
       have hcz34_0 : w5.cell? ⟨gb196, 0, none⟩ = some (.int .i64 0) := (blk_cell BK196.out 0).trans rfl
       have hcz34_1 : w5.cell? ⟨gb196, 1, none⟩ = some (.int .u64 0) := (blk_cell BK196.out 1).trans rfl
       have hcz34_2 : w5.cell? ⟨gb196, 2, none⟩ = some (.int .u64 0) := (blk_cell BK196.out 2).trans rfl
       have hfz34_0 := blk_frozen BK196.out 0
       have hfz34_1 := blk_frozen BK196.out 1
       have hfz34_2 := blk_frozen BK196.out 2
       go_wp2
       go_meet
       case rel => exact ⟨_, (decide (a0_1 > (IntKind.u64.wrap (18446744073709551615 - (IntKind.u64.wrap (a0_2 - 1)))))), (by first | rfl | (simp; done) | (simp [*]; done)), H', ⟨by first | omega | exact Nat.le_refl _⟩, ⟨by (with_reducible repeat (first | refine kN_ ?_ _ | refine kD_ ?_ | refine kA_ ?_ _)); refine blk_far ?_ NB195_196.out _; (with_reducible repeat (first | refine kN_ ?_ _ | refine kD_ ?_ | refine kA_ ?_ _)); refine blk_far ?_ NB195_196.out _; (with_reducible repeat (first | refine kN_ ?_ _ | refine kD_ ?_ | refine kA_ ?_ _)); refine blk_far ?_ NB195_196.out _; (with_reducible repeat (first | refine kN_ ?_ _ | refine kD_ ?_ | refine kA_ ?_ _)); exact BK195.out⟩, ⟨by (with_reducible repeat (first | refine kN_ ?_ _ | refine kD_ ?_ | refine kA_ ?_ _)); refine blk_put (cs := #[.int .i64 a0_0, .int .u64 a0_1, .int .u64 0]) ?_ 2 _ rfl; (with_reducible repeat (first | refine kN_ ?_ _ | refine kD_ ?_ | refine kA_ ?_ _)); refine blk_put (cs := #[.int .i64 a0_0, .int .u64 0, .int .u64 0]) ?_ 1 _ rfl; (with_reducible repeat (first | refine kN_ ?_ _ | refine kD_ ?_ | refine kA_ ?_ _)); refine blk_put (cs := #[.int .i64 0, .int .u64 0, .int .u64 0]) ?_ 0 _ rfl; (with_reducible repeat (first | refine kN_ ?_ _ | refine kD_ ?_ | refine kA_ ?_ _)); exact BK196.out⟩, ⟨by repeat (first | (with_reducible first | exact HB.out | apply bA_ | apply bN_ | apply bD_ | refine bS_ ?_ GE195.out | refine bS_ ?_ GE196.out) | exact HB.out)⟩⟩
    ·rw [if_neg c26] at H
     have c26b0 : (a0_0 == 3) = false := beq_eq_false_iff_ne.mpr c26
     have c26b1 : (a0_0 != 3) = true := bne_iff_ne.mpr c26
     have H' := Aside0.mk H
     clear H
     have hnb35 := NB196_195.out
     have hnc35 := NB195_196.out
     have hcz36_0 : w5.cell? ⟨gb196, 0, none⟩ = some (.int .i64 0) := (blk_cell BK196.out 0).trans rfl
     have hcz36_1 : w5.cell? ⟨gb196, 1, none⟩ = some (.int .u64 0) := (blk_cell BK196.out 1).trans rfl
     have hcz36_2 : w5.cell? ⟨gb196, 2, none⟩ = some (.int .u64 0) := (blk_cell BK196.out 2).trans rfl
     have hfz36_0 := blk_frozen BK196.out 0
     have hfz36_1 := blk_frozen BK196.out 1
     have hfz36_2 := blk_frozen BK196.out 2
     go_wp2
     go_meet
     case rel => exact ⟨_, (true), (by first | rfl | (simp; done) | (simp [*]; done)), H', ⟨by first | omega | exact Nat.le_refl _⟩, ⟨by (with_reducible repeat (first | refine kN_ ?_ _ | refine kD_ ?_ | refine kA_ ?_ _)); refine blk_far ?_ NB195_196.out _; (with_reducible repeat (first | refine kN_ ?_ _ | refine kD_ ?_ | refine kA_ ?_ _)); refine blk_far ?_ NB195_196.out _; (with_reducible repeat (first | refine kN_ ?_ _ | refine kD_ ?_ | refine kA_ ?_ _)); refine blk_far ?_ NB195_196.out _; (with_reducible repeat (first | refine kN_ ?_ _ | refine kD_ ?_ | refine kA_ ?_ _)); exact BK195.out⟩, ⟨by (with_reducible repeat (first | refine kN_ ?_ _ | refine kD_ ?_ | refine kA_ ?_ _)); refine blk_put (cs := #[.int .i64 a0_0, .int .u64 a0_1, .int .u64 0]) ?_ 2 _ rfl; (with_reducible repeat (first | refine kN_ ?_ _ | refine kD_ ?_ | refine kA_ ?_ _)); refine blk_put (cs := #[.int .i64 a0_0, .int .u64 0, .int .u64 0]) ?_ 1 _ rfl; (with_reducible repeat (first | refine kN_ ?_ _ | refine kD_ ?_ | refine kA_ ?_ _)); refine blk_put (cs := #[.int .i64 0, .int .u64 0, .int .u64 0]) ?_ 0 _ rfl; (with_reducible repeat (first | refine kN_ ?_ _ | refine kD_ ?_ | refine kA_ ?_ _)); exact BK196.out⟩, ⟨by repeat (first | (with_reducible first | exact HB.out | apply bA_ | apply bN_ | apply bD_ | refine bS_ ?_ GE195.out | refine bS_ ?_ GE196.out) | exact HB.out)⟩⟩
 case rest =>
  clear HC2
  try clear c1
  try clear c2
  try clear p2
  try clear c3
  try clear c6
  try clear c8
  try clear c8b0
  try clear c8b1
  try clear c9
  try clear c9b0
  try clear c10
  try clear c12
  try clear c12b0
  try clear c13
  try clear c15
  try clear c17
  try clear c17b0
  try clear c17b1
  try clear c18
  try clear c18b0
  try clear c19
  try clear c21
  try clear c21b0
  try clear c22
  try clear c24
  try clear c26
  try clear c26b0
  try clear c26b1
  try clear c27
  try clear c27b0
  try clear c28
  try clear c29
  try clear c30
  try clear c30b0
  try clear c31
  try clear c33
  try clear c35
  try clear hcz11_0 hcz11_1 hcz11_2
  try clear hcz14_0 hcz14_1 hcz14_2
  try clear hcz16_0 hcz16_1 hcz16_2
  try clear hcz20_0 hcz20_1 hcz20_2
  try clear hcz23_0 hcz23_1 hcz23_2
  try clear hcz25_0 hcz25_1 hcz25_2
  try clear hcz29_0 hcz29_1 hcz29_2
  try clear hcz32_0 hcz32_1 hcz32_2
  try clear hcz34_0 hcz34_1 hcz34_2
  try clear hcz36_0 hcz36_1 hcz36_2
  try clear hcz4_0 hcz4_1 hcz4_2 hcz4_3 hcz4_4 hcz4_5 hcz4_6 hcz4_7 hcz4_8
  try clear hcz7_0 hcz7_1 hcz7_2
  try clear hfz11_0 hfz11_1 hfz11_2
  try clear hfz14_0 hfz14_1 hfz14_2
  try clear hfz16_0 hfz16_1 hfz16_2
  try clear hfz20_0 hfz20_1 hfz20_2
  try clear hfz23_0 hfz23_1 hfz23_2
  try clear hfz25_0 hfz25_1 hfz25_2
  try clear hfz29_0 hfz29_1 hfz29_2
  try clear hfz32_0 hfz32_1 hfz32_2
  try clear hfz34_0 hfz34_1 hfz34_2
  try clear hfz36_0 hfz36_1 hfz36_2
  try clear hfz4_0 hfz4_1 hfz4_2 hfz4_3 hfz4_4 hfz4_5 hfz4_6 hfz4_7 hfz4_8
  try clear hfz7_0 hfz7_1 hfz7_2
  obtain ⟨kq, x38_1, rfl, HA, HJ1, BK195, BK196, HB⟩ := hcut
  cases kq with
  | zero => exact absurd HA.out (by simp [platformfwref09_ValidField.j0])
  | succ kj1 =>
   have H := HA.out
   clear HA
   simp only [platformfwref09_ValidField.j0] at H
   by_cases c37 : x38_1 = true
   ·subst c37
    have H1 : (some false) = some r := by rw [if_pos rfl] at H; exact H
    clear H
    have H := H1
    clear H1
    obtain rfl := Option.some.inj H
    go_wp2
    go_ret
    exact ⟨by first | rfl | (simp [errW_none, errW_some] <;> rfl) | (simp [*, errW_none, errW_some] <;> rfl), by repeat (first | (with_reducible first | exact HB.out | apply bA_ | apply bN_ | apply bD_ | refine bS_ ?_ GE195.out | refine bS_ ?_ GE196.out) | exact HB.out)⟩
   ·replace c37 := Bool.eq_false_iff.mpr c37
    subst c37
    have H1 : (if a0_0 = 3 then (if a0_1 > 255 then (platformfwref09_ValidField.j1 kj1 true a0_0 a0_1 a0_2 a0_3 a0_4 a0_5 a0_6 a0_7 a0_8 a0_0 a0_1 a0_2) else (if (IntKind.u64.wrap (a0_1 + a0_2)) > 256 then (platformfwref09_ValidField.j1 kj1 true a0_0 a0_1 a0_2 a0_3 a0_4 a0_5 a0_6 a0_7 a0_8 a0_0 a0_1 a0_2) else (platformfwref09_ValidField.j1 kj1 (a0_5 != 1) a0_0 a0_1 a0_2 a0_3 a0_4 a0_5 a0_6 a0_7 a0_8 a0_0 a0_1 a0_2))) else (platformfwref09_ValidField.j1 kj1 false a0_0 a0_1 a0_2 a0_3 a0_4 a0_5 a0_6 a0_7 a0_8 a0_0 a0_1 a0_2)) = some r := by rw [if_neg (show ¬ (false = true) by decide)] at H; exact H
    clear H
    have H := H1
    clear H1
    have HC38 := Aside0.mk H
    clear H
    go_upto_region 4 with (fail)
    go_cut [59] (fun v59 wc => ∃ (kq : Nat) (x59_37 : Bool), v59 = .bool x59_37 ∧ Aside0 (platformfwref09_ValidField.j1 kq x59_37 a0_0 a0_1 a0_2 a0_3 a0_4 a0_5 a0_6 a0_7 a0_8 a0_0 a0_1 a0_2 = some r) ∧ Aside0 (kq ≤ kj1) ∧ Aside0 (wc.heap[gb195]? = some (.cells #[.int .i64 a0_0, .int .u64 a0_1, .int .u64 a0_2, .int .i64 a0_3, .int .i64 a0_4, .int .i64 a0_5, .int .i64 a0_6, .int .i64 a0_7, .int .i64 a0_8] 26 (0, 0))) ∧ Aside0 (wc.heap[gb196]? = some (.cells #[.int .i64 a0_0, .int .u64 a0_1, .int .u64 a0_2] 24 (0, 0))) ∧ Aside0 (Below w.heap.size w wc))
    case first =>
     have H := HC38.out
     clear HC38
     by_cases c39 : a0_0 = 3
     ·rw [if_pos c39] at H
      have c39b0 : (a0_0 == 3) = true := beq_iff_eq.mpr c39
      have c39b1 : (a0_0 != 3) = false := bne_eq_false_iff_eq.mpr c39
      clear c39
      (first | rw [c39b0] | (simp only [i64_w, i32_w]; rw [c39b0]) | skip)
      by_cases c40 : a0_1 > 255
      ·rw [if_pos c40] at H
       have c40b0 : decide (255 < a0_1) = true := decide_eq_true c40
       clear c40
       have H' := Aside0.mk H
       clear H
       have hnb41 := NB196_195.out
       have hnc41 := NB195_196.out
       obtain ⟨hcz42_0, hcz42_1, hcz42_2⟩ := cells3_ BK196.out
       obtain ⟨hfz42_0, hfz42_1, hfz42_2⟩ := froz3_ BK196.out
       go_wp2
       go_meet
       case rel => exact ⟨_, (true), (by first | rfl | (simp; done) | (simp [*]; done)), H', ⟨by have := HJ1.out; first | omega | exact Nat.le_refl _⟩, ⟨by (with_reducible repeat (first | refine kN_ ?_ _ | refine kD_ ?_ | refine kA_ ?_ _)); exact BK195.out⟩, ⟨by (with_reducible repeat (first | refine kN_ ?_ _ | refine kD_ ?_ | refine kA_ ?_ _)); exact BK196.out⟩, ⟨by repeat (first | (with_reducible first | exact HB.out | apply bA_ | apply bN_ | apply bD_ | refine bS_ ?_ GE195.out | refine bS_ ?_ GE196.out) | exact HB.out)⟩⟩
      ·rw [if_neg c40] at H
       have c40b0 : decide (255 < a0_1) = false := decide_eq_false c40
       clear c40
       by_cases c43 : (IntKind.u64.wrap (a0_1 + a0_2)) > 256
       ·rw [if_pos c43] at H
        have c43b0 : decide (256 < (IntKind.u64.wrap (a0_1 + a0_2))) = true := decide_eq_true c43
        clear c43
        have H' := Aside0.mk H
        clear H
        have hnb44 := NB196_195.out
        have hnc44 := NB195_196.out
        obtain ⟨hcz45_0, hcz45_1, hcz45_2⟩ := cells3_ BK196.out
        obtain ⟨hfz45_0, hfz45_1, hfz45_2⟩ := froz3_ BK196.out
        go_wp2
        go_meet
        case rel => exact ⟨_, (true), (by first | rfl | (simp; done) | (simp [*]; done)), H', ⟨by have := HJ1.out; first | omega | exact Nat.le_refl _⟩, ⟨by (with_reducible repeat (first | refine kN_ ?_ _ | refine kD_ ?_ | refine kA_ ?_ _)); exact BK195.out⟩, ⟨by (with_reducible repeat (first | refine kN_ ?_ _ | refine kD_ ?_ | refine kA_ ?_ _)); exact BK196.out⟩, ⟨by repeat (first | (with_reducible first | exact HB.out | apply bA_ | apply bN_ | apply bD_ | refine bS_ ?_ GE195.out | refine bS_ ?_ GE196.out) | exact HB.out)⟩⟩
       ·rw [if_neg c43] at H
        have c43b0 : decide (256 < (IntKind.u64.wrap (a0_1 + a0_2))) = false := decide_eq_false c43
        clear c43
        have H' := Aside0.mk H
        clear H
        have hnb46 := NB196_195.out
        have hnc46 := NB195_196.out
        obtain ⟨hcz47_0, hcz47_1, hcz47_2⟩ := cells3_ BK196.out
        obtain ⟨hfz47_0, hfz47_1, hfz47_2⟩ := froz3_ BK196.out
        obtain ⟨hcz48_0, hcz48_1, hcz48_2, hcz48_3, hcz48_4, hcz48_5, hcz48_6, hcz48_7, hcz48_8⟩ := cells9_ BK195.out
        obtain ⟨hfz48_0, hfz48_1, hfz48_2, hfz48_3, hfz48_4, hfz48_5, hfz48_6, hfz48_7, hfz48_8⟩ := froz9_ BK195.out
        go_wp2
        go_meet
        case rel => exact ⟨_, ((a0_5 != 1)), (by first | rfl | (simp; done) | (simp [*]; done)), H', ⟨by have := HJ1.out; first | omega | exact Nat.le_refl _⟩, ⟨by (with_reducible repeat (first | refine kN_ ?_ _ | refine kD_ ?_ | refine kA_ ?_ _)); exact BK195.out⟩, ⟨by (with_reducible repeat (first | refine kN_ ?_ _ | refine kD_ ?_ | refine kA_ ?_ _)); exact BK196.out⟩, ⟨by repeat (first | (with_reducible first | exact HB.out | apply bA_ | apply bN_ | apply bD_ | refine bS_ ?_ GE195.out | refine bS_ ?_ GE196.out) | exact HB.out)⟩⟩
     ·rw [if_neg c39] at H
      have c39b0 : (a0_0 == 3) = false := beq_eq_false_iff_ne.mpr c39
      have c39b1 : (a0_0 != 3) = true := bne_iff_ne.mpr c39
      (first | rw [c39b0] | (simp only [i64_w, i32_w]; rw [c39b0]) | skip)
      have H' := Aside0.mk H
      clear H
      have hnb49 := NB196_195.out
      have hnc49 := NB195_196.out
      obtain ⟨hcz50_0, hcz50_1, hcz50_2⟩ := cells3_ BK196.out
      obtain ⟨hfz50_0, hfz50_1, hfz50_2⟩ := froz3_ BK196.out
      go_wp2
      go_meet
      case rel => exact ⟨_, (false), (by first | rfl | (simp; done) | (simp [*]; done)), H', ⟨by have := HJ1.out; first | omega | exact Nat.le_refl _⟩, ⟨by (with_reducible repeat (first | refine kN_ ?_ _ | refine kD_ ?_ | refine kA_ ?_ _)); exact BK195.out⟩, ⟨by (with_reducible repeat (first | refine kN_ ?_ _ | refine kD_ ?_ | refine kA_ ?_ _)); exact BK196.out⟩, ⟨by repeat (first | (with_reducible first | exact HB.out | apply bA_ | apply bN_ | apply bD_ | refine bS_ ?_ GE195.out | refine bS_ ?_ GE196.out) | exact HB.out)⟩⟩
    case rest =>
     clear HC38
     try clear c1
     try clear c2
     try clear p2
     try clear c3
     try clear c4
     try clear c6
     try clear c8
     try clear c8b0
     try clear c8b1
     try clear c9
     try clear c9b0
     try clear c10
     try clear c12
     try clear c12b0
     try clear c13
     try clear c15
     try clear c17
     try clear c17b0
     try clear c17b1
     try clear c18
     try clear c18b0
     try clear c19
     try clear c21
     try clear c21b0
     try clear c22
     try clear c24
     try clear c26
     try clear c26b0
     try clear c26b1
     try clear c27
     try clear c27b0
     try clear c28
     try clear c29
     try clear c30
     try clear c30b0
     try clear c31
     try clear c33
     try clear c35
     try clear c37
     try clear c39
     try clear c39b0
     try clear c39b1
     try clear c40
     try clear c40b0
     try clear c41
     try clear c43
     try clear c43b0
     try clear c44
     try clear c46
     try clear c49
     try clear hcz11_0 hcz11_1 hcz11_2
     try clear hcz14_0 hcz14_1 hcz14_2
     try clear hcz16_0 hcz16_1 hcz16_2
     try clear hcz20_0 hcz20_1 hcz20_2
     try clear hcz23_0 hcz23_1 hcz23_2
     try clear hcz25_0 hcz25_1 hcz25_2
     try clear hcz29_0 hcz29_1 hcz29_2
     try clear hcz32_0 hcz32_1 hcz32_2
     try clear hcz34_0 hcz34_1 hcz34_2
     try clear hcz36_0 hcz36_1 hcz36_2
     try clear hcz42_0 hcz42_1 hcz42_2
     try clear hcz45_0 hcz45_1 hcz45_2
     try clear hcz47_0 hcz47_1 hcz47_2
     try clear hcz48_0 hcz48_1 hcz48_2 hcz48_3 hcz48_4 hcz48_5 hcz48_6 hcz48_7 hcz48_8
     try clear hcz4_0 hcz4_1 hcz4_2 hcz4_3 hcz4_4 hcz4_5 hcz4_6 hcz4_7 hcz4_8
     try clear hcz50_0 hcz50_1 hcz50_2
     try clear hcz7_0 hcz7_1 hcz7_2
     try clear hfz11_0 hfz11_1 hfz11_2
     try clear hfz14_0 hfz14_1 hfz14_2
     try clear hfz16_0 hfz16_1 hfz16_2
     try clear hfz20_0 hfz20_1 hfz20_2
     try clear hfz23_0 hfz23_1 hfz23_2
     try clear hfz25_0 hfz25_1 hfz25_2
     try clear hfz29_0 hfz29_1 hfz29_2
     try clear hfz32_0 hfz32_1 hfz32_2
     try clear hfz34_0 hfz34_1 hfz34_2
     try clear hfz36_0 hfz36_1 hfz36_2
     try clear hfz42_0 hfz42_1 hfz42_2
     try clear hfz45_0 hfz45_1 hfz45_2
     try clear hfz47_0 hfz47_1 hfz47_2
     try clear hfz48_0 hfz48_1 hfz48_2 hfz48_3 hfz48_4 hfz48_5 hfz48_6 hfz48_7 hfz48_8
     try clear hfz4_0 hfz4_1 hfz4_2 hfz4_3 hfz4_4 hfz4_5 hfz4_6 hfz4_7 hfz4_8
     try clear hfz50_0 hfz50_1 hfz50_2
     try clear hfz7_0 hfz7_1 hfz7_2
     try clear p2
     obtain ⟨kq, x59_37, rfl, HA, HJ37, BK195, BK196, HB⟩ := hcut
     cases kq with
     | zero => exact absurd HA.out (by simp [platformfwref09_ValidField.j1])
     | succ kj37 =>
      have H := HA.out
      clear HA
      simp only [platformfwref09_ValidField.j1] at H
      by_cases c51 : x59_37 = true
      ·subst c51
       have H1 : (some false) = some r := by rw [if_pos rfl] at H; exact H
       clear H
       have H := H1
       clear H1
       obtain rfl := Option.some.inj H
       go_wp2
       go_ret
       exact ⟨by first | rfl | (simp [errW_none, errW_some] <;> rfl) | (simp [*, errW_none, errW_some] <;> rfl), by repeat (first | (with_reducible first | exact HB.out | apply bA_ | apply bN_ | apply bD_ | refine bS_ ?_ GE195.out | refine bS_ ?_ GE196.out) | exact HB.out)⟩
      ·replace c51 := Bool.eq_false_iff.mpr c51
       subst c51
       have H1 : (if a0_5 = 1 then (if (IntKind.u64.wrap (a0_5)) = 0 then (none) else (if (Int.tmod a0_1 (IntKind.u64.wrap (a0_5))) = 0 then (if a0_6 < 0 then (platformfwref09_ValidField.j2 kj37 true a0_0 a0_1 a0_2 a0_3 a0_4 a0_5 a0_6 a0_7 a0_8 a0_0 a0_1 a0_2) else (platformfwref09_ValidField.j2 kj37 (decide (a0_6 > 2)) a0_0 a0_1 a0_2 a0_3 a0_4 a0_5 a0_6 a0_7 a0_8 a0_0 a0_1 a0_2)) else (platformfwref09_ValidField.j2 kj37 true a0_0 a0_1 a0_2 a0_3 a0_4 a0_5 a0_6 a0_7 a0_8 a0_0 a0_1 a0_2))) else (if a0_5 = 2 then (if (IntKind.u64.wrap (a0_5)) = 0 then (none) else (if (Int.tmod a0_1 (IntKind.u64.wrap (a0_5))) = 0 then (if a0_6 < 0 then (platformfwref09_ValidField.j2 kj37 true a0_0 a0_1 a0_2 a0_3 a0_4 a0_5 a0_6 a0_7 a0_8 a0_0 a0_1 a0_2) else (platformfwref09_ValidField.j2 kj37 (decide (a0_6 > 2)) a0_0 a0_1 a0_2 a0_3 a0_4 a0_5 a0_6 a0_7 a0_8 a0_0 a0_1 a0_2)) else (platformfwref09_ValidField.j2 kj37 true a0_0 a0_1 a0_2 a0_3 a0_4 a0_5 a0_6 a0_7 a0_8 a0_0 a0_1 a0_2))) else (if a0_5 = 4 then (if (IntKind.u64.wrap (a0_5)) = 0 then (none) else (if (Int.tmod a0_1 (IntKind.u64.wrap (a0_5))) = 0 then (if a0_6 < 0 then (platformfwref09_ValidField.j2 kj37 true a0_0 a0_1 a0_2 a0_3 a0_4 a0_5 a0_6 a0_7 a0_8 a0_0 a0_1 a0_2) else (platformfwref09_ValidField.j2 kj37 (decide (a0_6 > 2)) a0_0 a0_1 a0_2 a0_3 a0_4 a0_5 a0_6 a0_7 a0_8 a0_0 a0_1 a0_2)) else (platformfwref09_ValidField.j2 kj37 true a0_0 a0_1 a0_2 a0_3 a0_4 a0_5 a0_6 a0_7 a0_8 a0_0 a0_1 a0_2))) else (if a0_5 = 8 then (if (IntKind.u64.wrap (a0_5)) = 0 then (none) else (if (Int.tmod a0_1 (IntKind.u64.wrap (a0_5))) = 0 then (if a0_6 < 0 then (platformfwref09_ValidField.j2 kj37 true a0_0 a0_1 a0_2 a0_3 a0_4 a0_5 a0_6 a0_7 a0_8 a0_0 a0_1 a0_2) else (platformfwref09_ValidField.j2 kj37 (decide (a0_6 > 2)) a0_0 a0_1 a0_2 a0_3 a0_4 a0_5 a0_6 a0_7 a0_8 a0_0 a0_1 a0_2)) else (platformfwref09_ValidField.j2 kj37 true a0_0 a0_1 a0_2 a0_3 a0_4 a0_5 a0_6 a0_7 a0_8 a0_0 a0_1 a0_2))) else (platformfwref09_ValidField.j2 kj37 true a0_0 a0_1 a0_2 a0_3 a0_4 a0_5 a0_6 a0_7 a0_8 a0_0 a0_1 a0_2))))) = some r := by rw [if_neg (show ¬ (false = true) by decide)] at H; exact H
       clear H
       have H := H1
       clear H1
       have HC52 := Aside0.mk H
       clear H
       go_upto_region 6 with (fail)
       go_cut [96] (fun v96 wc => ∃ (kq : Nat) (x96_51 : Bool), v96 = .bool x96_51 ∧ Aside0 (platformfwref09_ValidField.j2 kq x96_51 a0_0 a0_1 a0_2 a0_3 a0_4 a0_5 a0_6 a0_7 a0_8 a0_0 a0_1 a0_2 = some r) ∧ Aside0 (kq ≤ kj37) ∧ Aside0 (wc.heap[gb195]? = some (.cells #[.int .i64 a0_0, .int .u64 a0_1, .int .u64 a0_2, .int .i64 a0_3, .int .i64 a0_4, .int .i64 a0_5, .int .i64 a0_6, .int .i64 a0_7, .int .i64 a0_8] 26 (0, 0))) ∧ Aside0 (wc.heap[gb196]? = some (.cells #[.int .i64 a0_0, .int .u64 a0_1, .int .u64 a0_2] 24 (0, 0))) ∧ Aside0 (Below w.heap.size w wc))
       case first =>
        have H := HC52.out
        clear HC52
        by_cases c53 : a0_5 = 1
        ·rw [if_pos c53] at H
         have c53b0 : (a0_5 == 1) = true := beq_iff_eq.mpr c53
         have c53b1 : (a0_5 != 1) = false := bne_eq_false_iff_eq.mpr c53
         clear c53
         (first | rw [c53b0] | (simp only [i64_w, i32_w]; rw [c53b0]) | skip)
         by_cases c54 : (IntKind.u64.wrap (a0_5)) = 0
         ·rw [if_pos c54] at H
          exact absurd H (by simp)
         ·rw [if_neg c54] at H
          have c54b0 : ((IntKind.u64.wrap (a0_5)) == 0) = false := beq_eq_false_iff_ne.mpr c54
          have c54b1 : ((IntKind.u64.wrap (a0_5)) != 0) = true := bne_iff_ne.mpr c54
          by_cases c55 : (Int.tmod a0_1 (IntKind.u64.wrap (a0_5))) = 0
          ·rw [if_pos c55] at H
           have c55b0 : ((Int.tmod a0_1 (IntKind.u64.wrap (a0_5))) == 0) = true := beq_iff_eq.mpr c55
           have c55b1 : ((Int.tmod a0_1 (IntKind.u64.wrap (a0_5))) != 0) = false := bne_eq_false_iff_eq.mpr c55
           clear c55
           by_cases c56 : a0_6 < 0
           ·rw [if_pos c56] at H
            have c56b0 : decide (a0_6 < 0) = true := decide_eq_true c56
            clear c56
            have H' := Aside0.mk H
            clear H
            have hnb57 := NB195_196.out
            have hnc57 := NB196_195.out
            obtain ⟨hcz58_0, hcz58_1, hcz58_2, hcz58_3, hcz58_4, hcz58_5, hcz58_6, hcz58_7, hcz58_8⟩ := cells9_ BK195.out
            obtain ⟨hfz58_0, hfz58_1, hfz58_2, hfz58_3, hfz58_4, hfz58_5, hfz58_6, hfz58_7, hfz58_8⟩ := froz9_ BK195.out
            obtain ⟨hcz59_0, hcz59_1, hcz59_2⟩ := cells3_ BK196.out
            obtain ⟨hfz59_0, hfz59_1, hfz59_2⟩ := froz3_ BK196.out
            go_wp2
            go_meet
            case rel => exact ⟨_, (true), (by first | rfl | (simp; done) | (simp [*]; done)), H', ⟨by have := HJ1.out; have := HJ37.out; first | omega | exact Nat.le_refl _⟩, ⟨by (with_reducible repeat (first | refine kN_ ?_ _ | refine kD_ ?_ | refine kA_ ?_ _)); exact BK195.out⟩, ⟨by (with_reducible repeat (first | refine kN_ ?_ _ | refine kD_ ?_ | refine kA_ ?_ _)); exact BK196.out⟩, ⟨by repeat (first | (with_reducible first | exact HB.out | apply bA_ | apply bN_ | apply bD_ | refine bS_ ?_ GE195.out | refine bS_ ?_ GE196.out) | exact HB.out)⟩⟩
           ·rw [if_neg c56] at H
            have c56b0 : decide (a0_6 < 0) = false := decide_eq_false c56
            clear c56
            have H' := Aside0.mk H
            clear H
            have hnb60 := NB195_196.out
            have hnc60 := NB196_195.out
            obtain ⟨hcz61_0, hcz61_1, hcz61_2, hcz61_3, hcz61_4, hcz61_5, hcz61_6, hcz61_7, hcz61_8⟩ := cells9_ BK195.out
            obtain ⟨hfz61_0, hfz61_1, hfz61_2, hfz61_3, hfz61_4, hfz61_5, hfz61_6, hfz61_7, hfz61_8⟩ := froz9_ BK195.out
            obtain ⟨hcz62_0, hcz62_1, hcz62_2⟩ := cells3_ BK196.out
            obtain ⟨hfz62_0, hfz62_1, hfz62_2⟩ := froz3_ BK196.out
            go_wp2
            go_meet
            case rel => exact ⟨_, (decide (a0_6 > 2)), (by first | rfl | (simp; done) | (simp [*]; done)), H', ⟨by have := HJ1.out; have := HJ37.out; first | omega | exact Nat.le_refl _⟩, ⟨by (with_reducible repeat (first | refine kN_ ?_ _ | refine kD_ ?_ | refine kA_ ?_ _)); exact BK195.out⟩, ⟨by (with_reducible repeat (first | refine kN_ ?_ _ | refine kD_ ?_ | refine kA_ ?_ _)); exact BK196.out⟩, ⟨by repeat (first | (with_reducible first | exact HB.out | apply bA_ | apply bN_ | apply bD_ | refine bS_ ?_ GE195.out | refine bS_ ?_ GE196.out) | exact HB.out)⟩⟩
          ·rw [if_neg c55] at H
           have c55b0 : ((Int.tmod a0_1 (IntKind.u64.wrap (a0_5))) == 0) = false := beq_eq_false_iff_ne.mpr c55
           have c55b1 : ((Int.tmod a0_1 (IntKind.u64.wrap (a0_5))) != 0) = true := bne_iff_ne.mpr c55
           have H' := Aside0.mk H
           clear H
           have hnb63 := NB195_196.out
           have hnc63 := NB196_195.out
           obtain ⟨hcz64_0, hcz64_1, hcz64_2, hcz64_3, hcz64_4, hcz64_5, hcz64_6, hcz64_7, hcz64_8⟩ := cells9_ BK195.out
           obtain ⟨hfz64_0, hfz64_1, hfz64_2, hfz64_3, hfz64_4, hfz64_5, hfz64_6, hfz64_7, hfz64_8⟩ := froz9_ BK195.out
           obtain ⟨hcz65_0, hcz65_1, hcz65_2⟩ := cells3_ BK196.out
           obtain ⟨hfz65_0, hfz65_1, hfz65_2⟩ := froz3_ BK196.out
           go_wp2
           go_meet
           case rel => exact ⟨_, (true), (by first | rfl | (simp; done) | (simp [*]; done)), H', ⟨by have := HJ1.out; have := HJ37.out; first | omega | exact Nat.le_refl _⟩, ⟨by (with_reducible repeat (first | refine kN_ ?_ _ | refine kD_ ?_ | refine kA_ ?_ _)); exact BK195.out⟩, ⟨by (with_reducible repeat (first | refine kN_ ?_ _ | refine kD_ ?_ | refine kA_ ?_ _)); exact BK196.out⟩, ⟨by repeat (first | (with_reducible first | exact HB.out | apply bA_ | apply bN_ | apply bD_ | refine bS_ ?_ GE195.out | refine bS_ ?_ GE196.out) | exact HB.out)⟩⟩
        ·rw [if_neg c53] at H
         have c53b0 : (a0_5 == 1) = false := beq_eq_false_iff_ne.mpr c53
         have c53b1 : (a0_5 != 1) = true := bne_iff_ne.mpr c53
         (first | rw [c53b0] | (simp only [i64_w, i32_w]; rw [c53b0]) | skip)
         by_cases c66 : a0_5 = 2
         ·rw [if_pos c66] at H
          have c66b0 : (a0_5 == 2) = true := beq_iff_eq.mpr c66
          have c66b1 : (a0_5 != 2) = false := bne_eq_false_iff_eq.mpr c66
          clear c66
          by_cases c67 : (IntKind.u64.wrap (a0_5)) = 0
          ·rw [if_pos c67] at H
           exact absurd H (by simp)
          ·rw [if_neg c67] at H
           have c67b0 : ((IntKind.u64.wrap (a0_5)) == 0) = false := beq_eq_false_iff_ne.mpr c67
           have c67b1 : ((IntKind.u64.wrap (a0_5)) != 0) = true := bne_iff_ne.mpr c67
           by_cases c68 : (Int.tmod a0_1 (IntKind.u64.wrap (a0_5))) = 0
           ·rw [if_pos c68] at H
            have c68b0 : ((Int.tmod a0_1 (IntKind.u64.wrap (a0_5))) == 0) = true := beq_iff_eq.mpr c68
            have c68b1 : ((Int.tmod a0_1 (IntKind.u64.wrap (a0_5))) != 0) = false := bne_eq_false_iff_eq.mpr c68
            clear c68
            by_cases c69 : a0_6 < 0
            ·rw [if_pos c69] at H
             have c69b0 : decide (a0_6 < 0) = true := decide_eq_true c69
             clear c69
             have H' := Aside0.mk H
             clear H
             have hnb70 := NB195_196.out
             have hnc70 := NB196_195.out
             obtain ⟨hcz71_0, hcz71_1, hcz71_2, hcz71_3, hcz71_4, hcz71_5, hcz71_6, hcz71_7, hcz71_8⟩ := cells9_ BK195.out
             obtain ⟨hfz71_0, hfz71_1, hfz71_2, hfz71_3, hfz71_4, hfz71_5, hfz71_6, hfz71_7, hfz71_8⟩ := froz9_ BK195.out
             obtain ⟨hcz72_0, hcz72_1, hcz72_2⟩ := cells3_ BK196.out
             obtain ⟨hfz72_0, hfz72_1, hfz72_2⟩ := froz3_ BK196.out
             go_wp2
             go_meet
             case rel => exact ⟨_, (true), (by first | rfl | (simp; done) | (simp [*]; done)), H', ⟨by have := HJ1.out; have := HJ37.out; first | omega | exact Nat.le_refl _⟩, ⟨by (with_reducible repeat (first | refine kN_ ?_ _ | refine kD_ ?_ | refine kA_ ?_ _)); exact BK195.out⟩, ⟨by (with_reducible repeat (first | refine kN_ ?_ _ | refine kD_ ?_ | refine kA_ ?_ _)); exact BK196.out⟩, ⟨by repeat (first | (with_reducible first | exact HB.out | apply bA_ | apply bN_ | apply bD_ | refine bS_ ?_ GE195.out | refine bS_ ?_ GE196.out) | exact HB.out)⟩⟩
            ·rw [if_neg c69] at H
             have c69b0 : decide (a0_6 < 0) = false := decide_eq_false c69
             clear c69
             have H' := Aside0.mk H
             clear H
             have hnb73 := NB195_196.out
             have hnc73 := NB196_195.out
             obtain ⟨hcz74_0, hcz74_1, hcz74_2, hcz74_3, hcz74_4, hcz74_5, hcz74_6, hcz74_7, hcz74_8⟩ := cells9_ BK195.out
             obtain ⟨hfz74_0, hfz74_1, hfz74_2, hfz74_3, hfz74_4, hfz74_5, hfz74_6, hfz74_7, hfz74_8⟩ := froz9_ BK195.out
             obtain ⟨hcz75_0, hcz75_1, hcz75_2⟩ := cells3_ BK196.out
             obtain ⟨hfz75_0, hfz75_1, hfz75_2⟩ := froz3_ BK196.out
             go_wp2
             go_meet
             case rel => exact ⟨_, (decide (a0_6 > 2)), (by first | rfl | (simp; done) | (simp [*]; done)), H', ⟨by have := HJ1.out; have := HJ37.out; first | omega | exact Nat.le_refl _⟩, ⟨by (with_reducible repeat (first | refine kN_ ?_ _ | refine kD_ ?_ | refine kA_ ?_ _)); exact BK195.out⟩, ⟨by (with_reducible repeat (first | refine kN_ ?_ _ | refine kD_ ?_ | refine kA_ ?_ _)); exact BK196.out⟩, ⟨by repeat (first | (with_reducible first | exact HB.out | apply bA_ | apply bN_ | apply bD_ | refine bS_ ?_ GE195.out | refine bS_ ?_ GE196.out) | exact HB.out)⟩⟩
           ·rw [if_neg c68] at H
            have c68b0 : ((Int.tmod a0_1 (IntKind.u64.wrap (a0_5))) == 0) = false := beq_eq_false_iff_ne.mpr c68
            have c68b1 : ((Int.tmod a0_1 (IntKind.u64.wrap (a0_5))) != 0) = true := bne_iff_ne.mpr c68
            have H' := Aside0.mk H
            clear H
            have hnb76 := NB195_196.out
            have hnc76 := NB196_195.out
            obtain ⟨hcz77_0, hcz77_1, hcz77_2, hcz77_3, hcz77_4, hcz77_5, hcz77_6, hcz77_7, hcz77_8⟩ := cells9_ BK195.out
            obtain ⟨hfz77_0, hfz77_1, hfz77_2, hfz77_3, hfz77_4, hfz77_5, hfz77_6, hfz77_7, hfz77_8⟩ := froz9_ BK195.out
            obtain ⟨hcz78_0, hcz78_1, hcz78_2⟩ := cells3_ BK196.out
            obtain ⟨hfz78_0, hfz78_1, hfz78_2⟩ := froz3_ BK196.out
            go_wp2
            go_meet
            case rel => exact ⟨_, (true), (by first | rfl | (simp; done) | (simp [*]; done)), H', ⟨by have := HJ1.out; have := HJ37.out; first | omega | exact Nat.le_refl _⟩, ⟨by (with_reducible repeat (first | refine kN_ ?_ _ | refine kD_ ?_ | refine kA_ ?_ _)); exact BK195.out⟩, ⟨by (with_reducible repeat (first | refine kN_ ?_ _ | refine kD_ ?_ | refine kA_ ?_ _)); exact BK196.out⟩, ⟨by repeat (first | (with_reducible first | exact HB.out | apply bA_ | apply bN_ | apply bD_ | refine bS_ ?_ GE195.out | refine bS_ ?_ GE196.out) | exact HB.out)⟩⟩
         ·rw [if_neg c66] at H
          have c66b0 : (a0_5 == 2) = false := beq_eq_false_iff_ne.mpr c66
          have c66b1 : (a0_5 != 2) = true := bne_iff_ne.mpr c66
          by_cases c79 : a0_5 = 4
          ·rw [if_pos c79] at H
           have c79b0 : (a0_5 == 4) = true := beq_iff_eq.mpr c79
           have c79b1 : (a0_5 != 4) = false := bne_eq_false_iff_eq.mpr c79
           clear c79
           by_cases c80 : (IntKind.u64.wrap (a0_5)) = 0
           ·rw [if_pos c80] at H
            exact absurd H (by simp)
           ·rw [if_neg c80] at H
            have c80b0 : ((IntKind.u64.wrap (a0_5)) == 0) = false := beq_eq_false_iff_ne.mpr c80
            have c80b1 : ((IntKind.u64.wrap (a0_5)) != 0) = true := bne_iff_ne.mpr c80
            by_cases c81 : (Int.tmod a0_1 (IntKind.u64.wrap (a0_5))) = 0
            ·rw [if_pos c81] at H
             have c81b0 : ((Int.tmod a0_1 (IntKind.u64.wrap (a0_5))) == 0) = true := beq_iff_eq.mpr c81
             have c81b1 : ((Int.tmod a0_1 (IntKind.u64.wrap (a0_5))) != 0) = false := bne_eq_false_iff_eq.mpr c81
             clear c81
             by_cases c82 : a0_6 < 0
             ·rw [if_pos c82] at H
              have c82b0 : decide (a0_6 < 0) = true := decide_eq_true c82
              clear c82
              have H' := Aside0.mk H
              clear H
              have hnb83 := NB195_196.out
              have hnc83 := NB196_195.out
              obtain ⟨hcz84_0, hcz84_1, hcz84_2, hcz84_3, hcz84_4, hcz84_5, hcz84_6, hcz84_7, hcz84_8⟩ := cells9_ BK195.out
              obtain ⟨hfz84_0, hfz84_1, hfz84_2, hfz84_3, hfz84_4, hfz84_5, hfz84_6, hfz84_7, hfz84_8⟩ := froz9_ BK195.out
              obtain ⟨hcz85_0, hcz85_1, hcz85_2⟩ := cells3_ BK196.out
              obtain ⟨hfz85_0, hfz85_1, hfz85_2⟩ := froz3_ BK196.out
              go_wp2
              go_meet
              case rel => exact ⟨_, (true), (by first | rfl | (simp; done) | (simp [*]; done)), H', ⟨by have := HJ1.out; have := HJ37.out; first | omega | exact Nat.le_refl _⟩, ⟨by (with_reducible repeat (first | refine kN_ ?_ _ | refine kD_ ?_ | refine kA_ ?_ _)); exact BK195.out⟩, ⟨by (with_reducible repeat (first | refine kN_ ?_ _ | refine kD_ ?_ | refine kA_ ?_ _)); exact BK196.out⟩, ⟨by repeat (first | (with_reducible first | exact HB.out | apply bA_ | apply bN_ | apply bD_ | refine bS_ ?_ GE195.out | refine bS_ ?_ GE196.out) | exact HB.out)⟩⟩
             ·rw [if_neg c82] at H
              have c82b0 : decide (a0_6 < 0) = false := decide_eq_false c82
              clear c82
              have H' := Aside0.mk H
              clear H
              have hnb86 := NB195_196.out
              have hnc86 := NB196_195.out
              obtain ⟨hcz87_0, hcz87_1, hcz87_2, hcz87_3, hcz87_4, hcz87_5, hcz87_6, hcz87_7, hcz87_8⟩ := cells9_ BK195.out
              obtain ⟨hfz87_0, hfz87_1, hfz87_2, hfz87_3, hfz87_4, hfz87_5, hfz87_6, hfz87_7, hfz87_8⟩ := froz9_ BK195.out
              obtain ⟨hcz88_0, hcz88_1, hcz88_2⟩ := cells3_ BK196.out
              obtain ⟨hfz88_0, hfz88_1, hfz88_2⟩ := froz3_ BK196.out
              go_wp2
              go_meet
              case rel => exact ⟨_, (decide (a0_6 > 2)), (by first | rfl | (simp; done) | (simp [*]; done)), H', ⟨by have := HJ1.out; have := HJ37.out; first | omega | exact Nat.le_refl _⟩, ⟨by (with_reducible repeat (first | refine kN_ ?_ _ | refine kD_ ?_ | refine kA_ ?_ _)); exact BK195.out⟩, ⟨by (with_reducible repeat (first | refine kN_ ?_ _ | refine kD_ ?_ | refine kA_ ?_ _)); exact BK196.out⟩, ⟨by repeat (first | (with_reducible first | exact HB.out | apply bA_ | apply bN_ | apply bD_ | refine bS_ ?_ GE195.out | refine bS_ ?_ GE196.out) | exact HB.out)⟩⟩
            ·rw [if_neg c81] at H
             have c81b0 : ((Int.tmod a0_1 (IntKind.u64.wrap (a0_5))) == 0) = false := beq_eq_false_iff_ne.mpr c81
             have c81b1 : ((Int.tmod a0_1 (IntKind.u64.wrap (a0_5))) != 0) = true := bne_iff_ne.mpr c81
             have H' := Aside0.mk H
             clear H
             have hnb89 := NB195_196.out
             have hnc89 := NB196_195.out
             obtain ⟨hcz90_0, hcz90_1, hcz90_2, hcz90_3, hcz90_4, hcz90_5, hcz90_6, hcz90_7, hcz90_8⟩ := cells9_ BK195.out
             obtain ⟨hfz90_0, hfz90_1, hfz90_2, hfz90_3, hfz90_4, hfz90_5, hfz90_6, hfz90_7, hfz90_8⟩ := froz9_ BK195.out
             obtain ⟨hcz91_0, hcz91_1, hcz91_2⟩ := cells3_ BK196.out
             obtain ⟨hfz91_0, hfz91_1, hfz91_2⟩ := froz3_ BK196.out
             go_wp2
             go_meet
             case rel => exact ⟨_, (true), (by first | rfl | (simp; done) | (simp [*]; done)), H', ⟨by have := HJ1.out; have := HJ37.out; first | omega | exact Nat.le_refl _⟩, ⟨by (with_reducible repeat (first | refine kN_ ?_ _ | refine kD_ ?_ | refine kA_ ?_ _)); exact BK195.out⟩, ⟨by (with_reducible repeat (first | refine kN_ ?_ _ | refine kD_ ?_ | refine kA_ ?_ _)); exact BK196.out⟩, ⟨by repeat (first | (with_reducible first | exact HB.out | apply bA_ | apply bN_ | apply bD_ | refine bS_ ?_ GE195.out | refine bS_ ?_ GE196.out) | exact HB.out)⟩⟩
          ·rw [if_neg c79] at H
           have c79b0 : (a0_5 == 4) = false := beq_eq_false_iff_ne.mpr c79
           have c79b1 : (a0_5 != 4) = true := bne_iff_ne.mpr c79
           by_cases c92 : a0_5 = 8
           ·rw [if_pos c92] at H
            have c92b0 : (a0_5 == 8) = true := beq_iff_eq.mpr c92
            have c92b1 : (a0_5 != 8) = false := bne_eq_false_iff_eq.mpr c92
            clear c92
            by_cases c93 : (IntKind.u64.wrap (a0_5)) = 0
            ·rw [if_pos c93] at H
             exact absurd H (by simp)
            ·rw [if_neg c93] at H
             have c93b0 : ((IntKind.u64.wrap (a0_5)) == 0) = false := beq_eq_false_iff_ne.mpr c93
             have c93b1 : ((IntKind.u64.wrap (a0_5)) != 0) = true := bne_iff_ne.mpr c93
             by_cases c94 : (Int.tmod a0_1 (IntKind.u64.wrap (a0_5))) = 0
             ·rw [if_pos c94] at H
              have c94b0 : ((Int.tmod a0_1 (IntKind.u64.wrap (a0_5))) == 0) = true := beq_iff_eq.mpr c94
              have c94b1 : ((Int.tmod a0_1 (IntKind.u64.wrap (a0_5))) != 0) = false := bne_eq_false_iff_eq.mpr c94
              clear c94
              by_cases c95 : a0_6 < 0
              ·rw [if_pos c95] at H
               have c95b0 : decide (a0_6 < 0) = true := decide_eq_true c95
               clear c95
               have H' := Aside0.mk H
               clear H
               have hnb96 := NB195_196.out
               have hnc96 := NB196_195.out
               obtain ⟨hcz97_0, hcz97_1, hcz97_2, hcz97_3, hcz97_4, hcz97_5, hcz97_6, hcz97_7, hcz97_8⟩ := cells9_ BK195.out
               obtain ⟨hfz97_0, hfz97_1, hfz97_2, hfz97_3, hfz97_4, hfz97_5, hfz97_6, hfz97_7, hfz97_8⟩ := froz9_ BK195.out
               obtain ⟨hcz98_0, hcz98_1, hcz98_2⟩ := cells3_ BK196.out
               obtain ⟨hfz98_0, hfz98_1, hfz98_2⟩ := froz3_ BK196.out
               go_wp2
               go_meet
               case rel => exact ⟨_, (true), (by first | rfl | (simp; done) | (simp [*]; done)), H', ⟨by have := HJ1.out; have := HJ37.out; first | omega | exact Nat.le_refl _⟩, ⟨by (with_reducible repeat (first | refine kN_ ?_ _ | refine kD_ ?_ | refine kA_ ?_ _)); exact BK195.out⟩, ⟨by (with_reducible repeat (first | refine kN_ ?_ _ | refine kD_ ?_ | refine kA_ ?_ _)); exact BK196.out⟩, ⟨by repeat (first | (with_reducible first | exact HB.out | apply bA_ | apply bN_ | apply bD_ | refine bS_ ?_ GE195.out | refine bS_ ?_ GE196.out) | exact HB.out)⟩⟩
              ·rw [if_neg c95] at H
               have c95b0 : decide (a0_6 < 0) = false := decide_eq_false c95
               clear c95
               have H' := Aside0.mk H
               clear H
               have hnb99 := NB195_196.out
               have hnc99 := NB196_195.out
               obtain ⟨hcz100_0, hcz100_1, hcz100_2, hcz100_3, hcz100_4, hcz100_5, hcz100_6, hcz100_7, hcz100_8⟩ := cells9_ BK195.out
               obtain ⟨hfz100_0, hfz100_1, hfz100_2, hfz100_3, hfz100_4, hfz100_5, hfz100_6, hfz100_7, hfz100_8⟩ := froz9_ BK195.out
               obtain ⟨hcz101_0, hcz101_1, hcz101_2⟩ := cells3_ BK196.out
               obtain ⟨hfz101_0, hfz101_1, hfz101_2⟩ := froz3_ BK196.out
               go_wp2
               go_meet
               case rel => exact ⟨_, (decide (a0_6 > 2)), (by first | rfl | (simp; done) | (simp [*]; done)), H', ⟨by have := HJ1.out; have := HJ37.out; first | omega | exact Nat.le_refl _⟩, ⟨by (with_reducible repeat (first | refine kN_ ?_ _ | refine kD_ ?_ | refine kA_ ?_ _)); exact BK195.out⟩, ⟨by (with_reducible repeat (first | refine kN_ ?_ _ | refine kD_ ?_ | refine kA_ ?_ _)); exact BK196.out⟩, ⟨by repeat (first | (with_reducible first | exact HB.out | apply bA_ | apply bN_ | apply bD_ | refine bS_ ?_ GE195.out | refine bS_ ?_ GE196.out) | exact HB.out)⟩⟩
             ·rw [if_neg c94] at H
              have c94b0 : ((Int.tmod a0_1 (IntKind.u64.wrap (a0_5))) == 0) = false := beq_eq_false_iff_ne.mpr c94
              have c94b1 : ((Int.tmod a0_1 (IntKind.u64.wrap (a0_5))) != 0) = true := bne_iff_ne.mpr c94
              have H' := Aside0.mk H
              clear H
              have hnb102 := NB195_196.out
              have hnc102 := NB196_195.out
              obtain ⟨hcz103_0, hcz103_1, hcz103_2, hcz103_3, hcz103_4, hcz103_5, hcz103_6, hcz103_7, hcz103_8⟩ := cells9_ BK195.out
              obtain ⟨hfz103_0, hfz103_1, hfz103_2, hfz103_3, hfz103_4, hfz103_5, hfz103_6, hfz103_7, hfz103_8⟩ := froz9_ BK195.out
              obtain ⟨hcz104_0, hcz104_1, hcz104_2⟩ := cells3_ BK196.out
              obtain ⟨hfz104_0, hfz104_1, hfz104_2⟩ := froz3_ BK196.out
              go_wp2
              go_meet
              case rel => exact ⟨_, (true), (by first | rfl | (simp; done) | (simp [*]; done)), H', ⟨by have := HJ1.out; have := HJ37.out; first | omega | exact Nat.le_refl _⟩, ⟨by (with_reducible repeat (first | refine kN_ ?_ _ | refine kD_ ?_ | refine kA_ ?_ _)); exact BK195.out⟩, ⟨by (with_reducible repeat (first | refine kN_ ?_ _ | refine kD_ ?_ | refine kA_ ?_ _)); exact BK196.out⟩, ⟨by repeat (first | (with_reducible first | exact HB.out | apply bA_ | apply bN_ | apply bD_ | refine bS_ ?_ GE195.out | refine bS_ ?_ GE196.out) | exact HB.out)⟩⟩
           ·rw [if_neg c92] at H
            have c92b0 : (a0_5 == 8) = false := beq_eq_false_iff_ne.mpr c92
            have c92b1 : (a0_5 != 8) = true := bne_iff_ne.mpr c92
            have H' := Aside0.mk H
            clear H
            have hnb105 := NB195_196.out
            have hnc105 := NB196_195.out
            obtain ⟨hcz106_0, hcz106_1, hcz106_2, hcz106_3, hcz106_4, hcz106_5, hcz106_6, hcz106_7, hcz106_8⟩ := cells9_ BK195.out
            obtain ⟨hfz106_0, hfz106_1, hfz106_2, hfz106_3, hfz106_4, hfz106_5, hfz106_6, hfz106_7, hfz106_8⟩ := froz9_ BK195.out
            go_wp2
            go_meet
            case rel => exact ⟨_, (true), (by first | rfl | (simp; done) | (simp [*]; done)), H', ⟨by have := HJ1.out; have := HJ37.out; first | omega | exact Nat.le_refl _⟩, ⟨by (with_reducible repeat (first | refine kN_ ?_ _ | refine kD_ ?_ | refine kA_ ?_ _)); exact BK195.out⟩, ⟨by (with_reducible repeat (first | refine kN_ ?_ _ | refine kD_ ?_ | refine kA_ ?_ _)); exact BK196.out⟩, ⟨by repeat (first | (with_reducible first | exact HB.out | apply bA_ | apply bN_ | apply bD_ | refine bS_ ?_ GE195.out | refine bS_ ?_ GE196.out) | exact HB.out)⟩⟩
       case rest =>
        clear HC52
        try clear c1
        try clear c2
        try clear p2
        try clear c3
        try clear c4
        try clear c5
        try clear c6
        try clear c7
        try clear c8
        try clear c8b0
        try clear c8b1
        try clear c9
        try clear c9b0
        try clear c10
        try clear c12
        try clear c12b0
        try clear c13
        try clear c15
        try clear c17
        try clear c17b0
        try clear c17b1
        try clear c18
        try clear c18b0
        try clear c19
        try clear c21
        try clear c21b0
        try clear c22
        try clear c24
        try clear c26
        try clear c26b0
        try clear c26b1
        try clear c27
        try clear c27b0
        try clear c28
        try clear c29
        try clear c30
        try clear c30b0
        try clear c31
        try clear c33
        try clear c35
        try clear c37
        try clear c39
        try clear c39b0
        try clear c39b1
        try clear c40
        try clear c40b0
        try clear c41
        try clear c43
        try clear c43b0
        try clear c44
        try clear c46
        try clear c49
        try clear c51
        try clear c53
        try clear c53b0
        try clear c53b1
        try clear c54
        try clear c54b0
        try clear c54b1
        try clear c55
        try clear c55b0
        try clear c55b1
        try clear c56
        try clear c56b0
        try clear c57
        try clear c60
        try clear c63
        try clear c66
        try clear c66b0
        try clear c66b1
        try clear c67
        try clear c67b0
        try clear c67b1
        try clear c68
        try clear c68b0
        try clear c68b1
        try clear c69
        try clear c69b0
        try clear c70
        try clear c73
        try clear c76
        try clear c79
        try clear c79b0
        try clear c79b1
        try clear c80
        try clear c80b0
        try clear c80b1
        try clear c81
        try clear c81b0
        try clear c81b1
        try clear c82
        try clear c82b0
        try clear c83
        try clear c86
        try clear c89
        try clear c92
        try clear c92b0
        try clear c92b1
        try clear c93
        try clear c93b0
        try clear c93b1
        try clear c94
        try clear c94b0
        try clear c94b1
        try clear c95
        try clear c95b0
        try clear c96
        try clear c99
        try clear c102
        try clear c105
        try clear hcz100_0 hcz100_1 hcz100_2 hcz100_3 hcz100_4 hcz100_5 hcz100_6 hcz100_7 hcz100_8
        try clear hcz101_0 hcz101_1 hcz101_2
        try clear hcz103_0 hcz103_1 hcz103_2 hcz103_3 hcz103_4 hcz103_5 hcz103_6 hcz103_7 hcz103_8
        try clear hcz104_0 hcz104_1 hcz104_2
        try clear hcz106_0 hcz106_1 hcz106_2 hcz106_3 hcz106_4 hcz106_5 hcz106_6 hcz106_7 hcz106_8
        try clear hcz11_0 hcz11_1 hcz11_2
        try clear hcz14_0 hcz14_1 hcz14_2
        try clear hcz16_0 hcz16_1 hcz16_2
        try clear hcz20_0 hcz20_1 hcz20_2
        try clear hcz23_0 hcz23_1 hcz23_2
        try clear hcz25_0 hcz25_1 hcz25_2
        try clear hcz29_0 hcz29_1 hcz29_2
        try clear hcz32_0 hcz32_1 hcz32_2
        try clear hcz34_0 hcz34_1 hcz34_2
        try clear hcz36_0 hcz36_1 hcz36_2
        try clear hcz42_0 hcz42_1 hcz42_2
        try clear hcz45_0 hcz45_1 hcz45_2
        try clear hcz47_0 hcz47_1 hcz47_2
        try clear hcz48_0 hcz48_1 hcz48_2 hcz48_3 hcz48_4 hcz48_5 hcz48_6 hcz48_7 hcz48_8
        try clear hcz4_0 hcz4_1 hcz4_2 hcz4_3 hcz4_4 hcz4_5 hcz4_6 hcz4_7 hcz4_8
        try clear hcz50_0 hcz50_1 hcz50_2
        try clear hcz58_0 hcz58_1 hcz58_2 hcz58_3 hcz58_4 hcz58_5 hcz58_6 hcz58_7 hcz58_8
        try clear hcz59_0 hcz59_1 hcz59_2
        try clear hcz61_0 hcz61_1 hcz61_2 hcz61_3 hcz61_4 hcz61_5 hcz61_6 hcz61_7 hcz61_8
        try clear hcz62_0 hcz62_1 hcz62_2
        try clear hcz64_0 hcz64_1 hcz64_2 hcz64_3 hcz64_4 hcz64_5 hcz64_6 hcz64_7 hcz64_8
        try clear hcz65_0 hcz65_1 hcz65_2
        try clear hcz71_0 hcz71_1 hcz71_2 hcz71_3 hcz71_4 hcz71_5 hcz71_6 hcz71_7 hcz71_8
        try clear hcz72_0 hcz72_1 hcz72_2
        try clear hcz74_0 hcz74_1 hcz74_2 hcz74_3 hcz74_4 hcz74_5 hcz74_6 hcz74_7 hcz74_8
        try clear hcz75_0 hcz75_1 hcz75_2
        try clear hcz77_0 hcz77_1 hcz77_2 hcz77_3 hcz77_4 hcz77_5 hcz77_6 hcz77_7 hcz77_8
        try clear hcz78_0 hcz78_1 hcz78_2
        try clear hcz7_0 hcz7_1 hcz7_2
        try clear hcz84_0 hcz84_1 hcz84_2 hcz84_3 hcz84_4 hcz84_5 hcz84_6 hcz84_7 hcz84_8
        try clear hcz85_0 hcz85_1 hcz85_2
        try clear hcz87_0 hcz87_1 hcz87_2 hcz87_3 hcz87_4 hcz87_5 hcz87_6 hcz87_7 hcz87_8
        try clear hcz88_0 hcz88_1 hcz88_2
        try clear hcz90_0 hcz90_1 hcz90_2 hcz90_3 hcz90_4 hcz90_5 hcz90_6 hcz90_7 hcz90_8
        try clear hcz91_0 hcz91_1 hcz91_2
        try clear hcz97_0 hcz97_1 hcz97_2 hcz97_3 hcz97_4 hcz97_5 hcz97_6 hcz97_7 hcz97_8
        try clear hcz98_0 hcz98_1 hcz98_2
        try clear hfz100_0 hfz100_1 hfz100_2 hfz100_3 hfz100_4 hfz100_5 hfz100_6 hfz100_7 hfz100_8
        try clear hfz101_0 hfz101_1 hfz101_2
        try clear hfz103_0 hfz103_1 hfz103_2 hfz103_3 hfz103_4 hfz103_5 hfz103_6 hfz103_7 hfz103_8
        try clear hfz104_0 hfz104_1 hfz104_2
        try clear hfz106_0 hfz106_1 hfz106_2 hfz106_3 hfz106_4 hfz106_5 hfz106_6 hfz106_7 hfz106_8
        try clear hfz11_0 hfz11_1 hfz11_2
        try clear hfz14_0 hfz14_1 hfz14_2
        try clear hfz16_0 hfz16_1 hfz16_2
        try clear hfz20_0 hfz20_1 hfz20_2
        try clear hfz23_0 hfz23_1 hfz23_2
        try clear hfz25_0 hfz25_1 hfz25_2
        try clear hfz29_0 hfz29_1 hfz29_2
        try clear hfz32_0 hfz32_1 hfz32_2
        try clear hfz34_0 hfz34_1 hfz34_2
        try clear hfz36_0 hfz36_1 hfz36_2
        try clear hfz42_0 hfz42_1 hfz42_2
        try clear hfz45_0 hfz45_1 hfz45_2
        try clear hfz47_0 hfz47_1 hfz47_2
        try clear hfz48_0 hfz48_1 hfz48_2 hfz48_3 hfz48_4 hfz48_5 hfz48_6 hfz48_7 hfz48_8
        try clear hfz4_0 hfz4_1 hfz4_2 hfz4_3 hfz4_4 hfz4_5 hfz4_6 hfz4_7 hfz4_8
        try clear hfz50_0 hfz50_1 hfz50_2
        try clear hfz58_0 hfz58_1 hfz58_2 hfz58_3 hfz58_4 hfz58_5 hfz58_6 hfz58_7 hfz58_8
        try clear hfz59_0 hfz59_1 hfz59_2
        try clear hfz61_0 hfz61_1 hfz61_2 hfz61_3 hfz61_4 hfz61_5 hfz61_6 hfz61_7 hfz61_8
        try clear hfz62_0 hfz62_1 hfz62_2
        try clear hfz64_0 hfz64_1 hfz64_2 hfz64_3 hfz64_4 hfz64_5 hfz64_6 hfz64_7 hfz64_8
        try clear hfz65_0 hfz65_1 hfz65_2
        try clear hfz71_0 hfz71_1 hfz71_2 hfz71_3 hfz71_4 hfz71_5 hfz71_6 hfz71_7 hfz71_8
        try clear hfz72_0 hfz72_1 hfz72_2
        try clear hfz74_0 hfz74_1 hfz74_2 hfz74_3 hfz74_4 hfz74_5 hfz74_6 hfz74_7 hfz74_8
        try clear hfz75_0 hfz75_1 hfz75_2
        try clear hfz77_0 hfz77_1 hfz77_2 hfz77_3 hfz77_4 hfz77_5 hfz77_6 hfz77_7 hfz77_8
        try clear hfz78_0 hfz78_1 hfz78_2
        try clear hfz7_0 hfz7_1 hfz7_2
        try clear hfz84_0 hfz84_1 hfz84_2 hfz84_3 hfz84_4 hfz84_5 hfz84_6 hfz84_7 hfz84_8
        try clear hfz85_0 hfz85_1 hfz85_2
        try clear hfz87_0 hfz87_1 hfz87_2 hfz87_3 hfz87_4 hfz87_5 hfz87_6 hfz87_7 hfz87_8
        try clear hfz88_0 hfz88_1 hfz88_2
        try clear hfz90_0 hfz90_1 hfz90_2 hfz90_3 hfz90_4 hfz90_5 hfz90_6 hfz90_7 hfz90_8
        try clear hfz91_0 hfz91_1 hfz91_2
        try clear hfz97_0 hfz97_1 hfz97_2 hfz97_3 hfz97_4 hfz97_5 hfz97_6 hfz97_7 hfz97_8
        try clear hfz98_0 hfz98_1 hfz98_2
        try clear p2
        obtain ⟨kq, x96_51, rfl, HA, HJ51, BK195, BK196, HB⟩ := hcut
        cases kq with
        | zero => exact absurd HA.out (by simp [platformfwref09_ValidField.j2])
        | succ kj51 =>
         have H := HA.out
         clear HA
         simp only [platformfwref09_ValidField.j2] at H
         by_cases c107 : x96_51 = true
         ·subst c107
          have H1 : (some false) = some r := by rw [if_pos rfl] at H; exact H
          clear H
          have H := H1
          clear H1
          obtain rfl := Option.some.inj H
          go_wp2
          go_ret
          exact ⟨by first | rfl | (simp [errW_none, errW_some] <;> rfl) | (simp [*, errW_none, errW_some] <;> rfl), by repeat (first | (with_reducible first | exact HB.out | apply bA_ | apply bN_ | apply bD_ | refine bS_ ?_ GE195.out | refine bS_ ?_ GE196.out) | exact HB.out)⟩
         ·replace c107 := Bool.eq_false_iff.mpr c107
          subst c107
          have H1 : (if a0_3 < 0 then (some false) else (if a0_3 > 8388608 then (some false) else (if a0_4 < 1 then (some false) else (if a0_4 > 256 then (some false) else (if (wrap64 (8 * a0_5)) = 0 then (none) else (some (decide ((IntKind.u64.wrap (wrap64 ((wrap64 ((wrap64 (Int.tdiv (wrap64 ((wrap64 (a0_3 + a0_4)) - 1)) (wrap64 (8 * a0_5)))) + 1)) * a0_5))) ≤ a0_2)))))))) = some r := by rw [if_neg (show ¬ (false = true) by decide)] at H; exact H
          clear H
          have H := H1
          clear H1
          by_cases c108 : a0_3 < 0
          ·rw [if_pos c108] at H
           have c108b0 : decide (a0_3 < 0) = true := decide_eq_true c108
           clear c108
           obtain rfl := Option.some.inj H
           have hnb109 := NB195_196.out
           have hnc109 := NB196_195.out
           obtain ⟨hcz110_0, hcz110_1, hcz110_2, hcz110_3, hcz110_4, hcz110_5, hcz110_6, hcz110_7, hcz110_8⟩ := cells9_ BK195.out
           obtain ⟨hfz110_0, hfz110_1, hfz110_2, hfz110_3, hfz110_4, hfz110_5, hfz110_6, hfz110_7, hfz110_8⟩ := froz9_ BK195.out
           go_wp2
           go_ret
           exact ⟨by first | rfl | (simp [errW_none, errW_some] <;> rfl) | (simp [*, errW_none, errW_some] <;> rfl), by repeat (first | (with_reducible first | exact HB.out | apply bA_ | apply bN_ | apply bD_ | refine bS_ ?_ GE195.out | refine bS_ ?_ GE196.out) | exact HB.out)⟩
          ·rw [if_neg c108] at H
           have c108b0 : decide (a0_3 < 0) = false := decide_eq_false c108
           clear c108
           by_cases c111 : a0_3 > 8388608
           ·rw [if_pos c111] at H
            have c111b0 : decide (8388608 < a0_3) = true := decide_eq_true c111
            clear c111
            obtain rfl := Option.some.inj H
            have hnb112 := NB195_196.out
            have hnc112 := NB196_195.out
            obtain ⟨hcz113_0, hcz113_1, hcz113_2, hcz113_3, hcz113_4, hcz113_5, hcz113_6, hcz113_7, hcz113_8⟩ := cells9_ BK195.out
            obtain ⟨hfz113_0, hfz113_1, hfz113_2, hfz113_3, hfz113_4, hfz113_5, hfz113_6, hfz113_7, hfz113_8⟩ := froz9_ BK195.out
            go_wp2
            go_ret
            exact ⟨by first | rfl | (simp [errW_none, errW_some] <;> rfl) | (simp [*, errW_none, errW_some] <;> rfl), by repeat (first | (with_reducible first | exact HB.out | apply bA_ | apply bN_ | apply bD_ | refine bS_ ?_ GE195.out | refine bS_ ?_ GE196.out) | exact HB.out)⟩
           ·rw [if_neg c111] at H
            have c111b0 : decide (8388608 < a0_3) = false := decide_eq_false c111
            clear c111
            by_cases c114 : a0_4 < 1
            ·rw [if_pos c114] at H
             have c114b0 : decide (a0_4 < 1) = true := decide_eq_true c114
             clear c114
             obtain rfl := Option.some.inj H
             have hnb115 := NB195_196.out
             have hnc115 := NB196_195.out
             obtain ⟨hcz116_0, hcz116_1, hcz116_2, hcz116_3, hcz116_4, hcz116_5, hcz116_6, hcz116_7, hcz116_8⟩ := cells9_ BK195.out
             obtain ⟨hfz116_0, hfz116_1, hfz116_2, hfz116_3, hfz116_4, hfz116_5, hfz116_6, hfz116_7, hfz116_8⟩ := froz9_ BK195.out
             go_wp2
             go_ret
             exact ⟨by first | rfl | (simp [errW_none, errW_some] <;> rfl) | (simp [*, errW_none, errW_some] <;> rfl), by repeat (first | (with_reducible first | exact HB.out | apply bA_ | apply bN_ | apply bD_ | refine bS_ ?_ GE195.out | refine bS_ ?_ GE196.out) | exact HB.out)⟩
            ·rw [if_neg c114] at H
             have c114b0 : decide (a0_4 < 1) = false := decide_eq_false c114
             clear c114
             by_cases c117 : a0_4 > 256
             ·rw [if_pos c117] at H
              have c117b0 : decide (256 < a0_4) = true := decide_eq_true c117
              clear c117
              obtain rfl := Option.some.inj H
              have hnb118 := NB195_196.out
              have hnc118 := NB196_195.out
              obtain ⟨hcz119_0, hcz119_1, hcz119_2, hcz119_3, hcz119_4, hcz119_5, hcz119_6, hcz119_7, hcz119_8⟩ := cells9_ BK195.out
              obtain ⟨hfz119_0, hfz119_1, hfz119_2, hfz119_3, hfz119_4, hfz119_5, hfz119_6, hfz119_7, hfz119_8⟩ := froz9_ BK195.out
              go_wp2
              go_ret
              exact ⟨by first | rfl | (simp [errW_none, errW_some] <;> rfl) | (simp [*, errW_none, errW_some] <;> rfl), by repeat (first | (with_reducible first | exact HB.out | apply bA_ | apply bN_ | apply bD_ | refine bS_ ?_ GE195.out | refine bS_ ?_ GE196.out) | exact HB.out)⟩
             ·rw [if_neg c117] at H
              have c117b0 : decide (256 < a0_4) = false := decide_eq_false c117
              clear c117
              by_cases c120 : (wrap64 (8 * a0_5)) = 0
              ·rw [if_pos c120] at H
               exact absurd H (by simp)
              ·rw [if_neg c120] at H
               have c120b0 : ((wrap64 (8 * a0_5)) == 0) = false := beq_eq_false_iff_ne.mpr c120
               have c120b1 : ((wrap64 (8 * a0_5)) != 0) = true := bne_iff_ne.mpr c120
               obtain rfl := Option.some.inj H
               have hnb121 := NB195_196.out
               have hnc121 := NB196_195.out
               obtain ⟨hcz122_0, hcz122_1, hcz122_2, hcz122_3, hcz122_4, hcz122_5, hcz122_6, hcz122_7, hcz122_8⟩ := cells9_ BK195.out
               obtain ⟨hfz122_0, hfz122_1, hfz122_2, hfz122_3, hfz122_4, hfz122_5, hfz122_6, hfz122_7, hfz122_8⟩ := froz9_ BK195.out
               obtain ⟨hcz123_0, hcz123_1, hcz123_2⟩ := cells3_ BK196.out
               obtain ⟨hfz123_0, hfz123_1, hfz123_2⟩ := froz3_ BK196.out
               go_wp2
               go_ret
               exact ⟨by first | rfl | (simp [errW_none, errW_some] <;> rfl) | (simp [*, errW_none, errW_some] <;> rfl), by repeat (first | (with_reducible first | exact HB.out | apply bA_ | apply bN_ | apply bD_ | refine bS_ ?_ GE195.out | refine bS_ ?_ GE196.out) | exact HB.out)⟩

end Go.Proofs.Ytmnmidclaaiffaa.PFieldConverts
