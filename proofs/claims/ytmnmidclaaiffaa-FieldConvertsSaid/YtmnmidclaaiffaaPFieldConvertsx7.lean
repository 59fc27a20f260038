-- Written by a program of this session's (wip/print_patch.py over the kit's print) out of the translation; Lean checks it.
import Derived.Test.YtmnmidclaaiffaaPFieldConvertsx0
import Derived.Test.YtmnmidclaaiffaaPFieldConvertsx5
import Derived.Test.YtmnmidclaaiffaaPFieldConvertsx6
import Derived.Test.YtmnmidclaaiffaaVFieldConvertsExt
namespace Go.Proofs.Ytmnmidclaaiffaa.PFieldConverts
open Go.RowKit Go.Proofs.Ytmnmidclaaiffaa.Ext Go.Proofs.YtmnmidclaaiffaaW.PrintWords Go.Proofs.YtmnmidclaaiffaaW.PrintLast Go.Proofs.YtmnmidclaaiffaaW.PrintMore
attribute [local go_sem] max2_int min2_int max_two min_two max_three min_three max_four min_four   -- for this text's walks alone
set_option linter.unusedVariables false
set_option linter.unusedSimpArgs false

/-! ### field_Insert: function 22 -/
mutual
def field_Insert.l0 : Nat → ByteArray → List Int → List Int → List Int → Int → Int → Int → Int → Int → Int → Int → Int → Int → Int → Int → Option (List Int)
 | 0, _, _, _, _, _, _, _, _, _, _, _, _, _, _, _ => none
 | k + 1, x1, x2, x8, x21, x22, x23, x151000, x151001, x151002, x151003, x151004, x151005, x151006, x151007, x151008 => if x23 < x22 then (if 0 ≤ x23 then (if x23 < (x21.length : Int) then (if x151006 = 0 then (if x23 < (x2.length : Int) then ((field_full.f x151000 x151001 x151002 x151003 x151004 x151005 x151006 x151007 x151008).bind fun t156 => (if x8.length < 17592186044416 then (field_Insert.l0 k x1 x2 (x8 ++ [Go.bits .andNot .u64 (Go.bits .and .u64 (rd x2 x23) t156) (rd x21 x23)]) x21 x22 (wrap64 (x23 + 1)) x151000 x151001 x151002 x151003 x151004 x151005 x151006 x151007 x151008) else (none))) else (none)) else (if x151006 = 1 then ((field_full.f x151000 x151001 x151002 x151003 x151004 x151005 x151006 x151007 x151008).bind fun t160 => (if x8.length < 17592186044416 then (field_Insert.l0 k x1 x2 (x8 ++ [Go.bits .andNot .u64 t160 (rd x21 x23)]) x21 x22 (wrap64 (x23 + 1)) x151000 x151001 x151002 x151003 x151004 x151005 x151006 x151007 x151008) else (none))) else (if x8.length < 17592186044416 then (field_Insert.l0 k x1 x2 (x8 ++ [0]) x21 x22 (wrap64 (x23 + 1)) x151000 x151001 x151002 x151003 x151004 x151005 x151006 x151007 x151008) else (none)))) else (none)) else (none)) else (if (x8.length : Int) > 0 then (field_Insert.l1 k x1 x8 x151004 0 x151000 x151001 x151002 x151003 x151004 x151005 x151006 x151007 x151008) else (some x8))
def field_Insert.l1 : Nat → ByteArray → List Int → Int → Int → Int → Int → Int → Int → Int → Int → Int → Int → Int → Option (List Int)
 | 0, _, _, _, _, _, _, _, _, _, _, _, _, _ => none
 | k + 1, x1, x8, x61, x62, x151000, x151001, x151002, x151003, x151004, x151005, x151006, x151007, x151008 => if x62 < x61 then ((field_position.f x151000 x151001 x151002 x151003 x151004 x151005 x151006 x151007 x151008 x62).bind fun bt167 => (if 0 ≤ bt167.1 then (if bt167.1 < (x8.length : Int) then ((field_bit.f x1 x62).bind fun t170 => (if 0 ≤ bt167.2 then (field_Insert.l1 k x1 (x8.set (bt167.1 : Int).toNat (Go.bits .or .u64 (rd x8 bt167.1) (shl .u64 t170 bt167.2))) x61 (wrap64 (x62 + 1)) x151000 x151001 x151002 x151003 x151004 x151005 x151006 x151007 x151008) else (none))) else (none)) else (none))) else (some x8)
end
def field_Insert.f (k : Nat) (a0_0 : Int) (a0_1 : Int) (a0_2 : Int) (a0_3 : Int) (a0_4 : Int) (a0_5 : Int) (a0_6 : Int) (a0_7 : Int) (a0_8 : Int) (a1 : ByteArray) (l2 : List Int) : Option (List Int) := (field_Masks.f k a0_0 a0_1 a0_2 a0_3 a0_4 a0_5 a0_6 a0_7 a0_8).bind fun t151 => (if (l2.length : Int) = (t151.length : Int) then (field_Insert.l0 k a1 l2 ([] : List Int) t151 (t151.length : Int) 0 a0_0 a0_1 a0_2 a0_3 a0_4 a0_5 a0_6 a0_7 a0_8) else (some ([] : List Int)))
theorem field_Insert.mono_l : ∀ k, (∀ y0 y1 y2 y3 y4 y5 y6 y7 y8 y9 y10 y11 y12 y13 y14, LeO (field_Insert.l0 k y0 y1 y2 y3 y4 y5 y6 y7 y8 y9 y10 y11 y12 y13 y14) (field_Insert.l0 (k + 1) y0 y1 y2 y3 y4 y5 y6 y7 y8 y9 y10 y11 y12 y13 y14)) ∧ (∀ y0 y1 y2 y3 y4 y5 y6 y7 y8 y9 y10 y11 y12, LeO (field_Insert.l1 k y0 y1 y2 y3 y4 y5 y6 y7 y8 y9 y10 y11 y12) (field_Insert.l1 (k + 1) y0 y1 y2 y3 y4 y5 y6 y7 y8 y9 y10 y11 y12))
 | 0 => ⟨fun _ _ _ _ _ _ _ _ _ _ _ _ _ _ _ r h => by simp [field_Insert.l0] at h, fun _ _ _ _ _ _ _ _ _ _ _ _ _ r h => by simp [field_Insert.l1] at h⟩
 | k + 1 => by
  obtain ⟨ih0, ih1⟩ := field_Insert.mono_l k
  refine ⟨?_, ?_⟩
  ·intro y0 y1 y2 y3 y4 y5 y6 y7 y8 y9 y10 y11 y12 y13 y14
   unfold field_Insert.l0
   repeat' first
   | (with_reducible exact ih0 _ _ _ _ _ _ _ _ _ _ _ _ _ _ _)
   | (with_reducible exact ih1 _ _ _ _ _ _ _ _ _ _ _ _ _)
   | (with_reducible exact field_Masks.mono _ _ _ _ _ _ _ _ _ _)
   | (with_reducible exact LeO.refl _)
   | (with_reducible exact LeO.none _)
   | (with_reducible refine LeO.ite ?_ ?_)
   | (with_reducible refine LeO.bind ?_ (fun _ => ?_))
   | exact ih0 _ _ _ _ _ _ _ _ _ _ _ _ _ _ _
   | exact ih1 _ _ _ _ _ _ _ _ _ _ _ _ _
   | exact field_Masks.mono _ _ _ _ _ _ _ _ _ _
   | exact LeO.none _
   | refine LeO.ite ?_ ?_
   | refine LeO.bind ?_ (fun _ => ?_)
  ·intro y0 y1 y2 y3 y4 y5 y6 y7 y8 y9 y10 y11 y12
   unfold field_Insert.l1
   repeat' first
   | (with_reducible exact ih0 _ _ _ _ _ _ _ _ _ _ _ _ _ _ _)
   | (with_reducible exact ih1 _ _ _ _ _ _ _ _ _ _ _ _ _)
   | (with_reducible exact field_Masks.mono _ _ _ _ _ _ _ _ _ _)
   | (with_reducible exact LeO.refl _)
   | (with_reducible exact LeO.none _)
   | (with_reducible refine LeO.ite ?_ ?_)
   | (with_reducible refine LeO.bind ?_ (fun _ => ?_))
   | exact ih0 _ _ _ _ _ _ _ _ _ _ _ _ _ _ _
   | exact ih1 _ _ _ _ _ _ _ _ _ _ _ _ _
   | exact field_Masks.mono _ _ _ _ _ _ _ _ _ _
   | exact LeO.none _
   | refine LeO.ite ?_ ?_
   | refine LeO.bind ?_ (fun _ => ?_)
theorem field_Insert.mono : ∀ a0 a1 a2 a3 a4 a5 a6 a7 a8 a9 a10 k, LeO (field_Insert.f k a0 a1 a2 a3 a4 a5 a6 a7 a8 a9 a10) (field_Insert.f (k + 1) a0 a1 a2 a3 a4 a5 a6 a7 a8 a9 a10) := by
 intro a0 a1 a2 a3 a4 a5 a6 a7 a8 a9 a10 k
 obtain ⟨ih0, ih1⟩ := field_Insert.mono_l k
 unfold field_Insert.f
 repeat' first
   | (with_reducible exact ih0 _ _ _ _ _ _ _ _ _ _ _ _ _ _ _)
   | (with_reducible exact ih1 _ _ _ _ _ _ _ _ _ _ _ _ _)
   | (with_reducible exact field_Masks.mono _ _ _ _ _ _ _ _ _ _)
   | (with_reducible exact LeO.refl _)
   | (with_reducible exact LeO.none _)
   | (with_reducible refine LeO.ite ?_ ?_)
   | (with_reducible refine LeO.bind ?_ (fun _ => ?_))
   | exact ih0 _ _ _ _ _ _ _ _ _ _ _ _ _ _ _
   | exact ih1 _ _ _ _ _ _ _ _ _ _ _ _ _
   | exact field_Masks.mono _ _ _ _ _ _ _ _ _ _
   | exact LeO.none _
   | refine LeO.ite ?_ ?_
   | refine LeO.bind ?_ (fun _ => ?_)
def field_Insert.T11 : Bool × List (List Nat × List Nat) := (true, [([], []), ([], []), ([], []), ([1, 2], [1, 2]), ([3], [3]), ([], []), ([5], [5]), ([4, 6], [4, 6]), ([], []), ([7, 8], [7, 8]), ([9], [9]), ([0, 10, 6], [0, 10]), ([11, 11, 0, 1, 2, 3, 4, 5, 6, 7, 8, 9, 10, 11], [0, 11])])
def field_Insert.B11 : List Nat := [0, 0, 0, 6, 14, 0, 32, 126, 0, 510, 1022, 2047, 4095]
theorem field_Insert.tab11 : rtab .any (opsOf Try.f22 11) = field_Insert.T11 := by kernel_rfl
theorem field_Insert.bits11 : waitsOk field_Insert.T11.2 field_Insert.B11 = true := by kernel_rfl
def field_Insert.T20 : Bool × List (List Nat × List Nat) := (true, [([], []), ([], []), ([0, 1], [0, 1]), ([2], [2]), ([], []), ([], []), ([4, 5], [4, 5]), ([], []), ([6, 7], [6, 7]), ([3, 8], [3, 8]), ([0, 1, 0, 1, 2, 3, 4, 5, 6, 7, 8, 9], [0, 1]), ([10, 9, 6, 0, 1, 2, 3, 4, 5, 6, 7, 8, 9], [9, 10])])
def field_Insert.B20 : List Nat := [0, 0, 3, 7, 0, 0, 48, 0, 240, 511, 1023, 2047]
theorem field_Insert.tab20 : rtab .any (opsOf Try.f22 20) = field_Insert.T20 := by kernel_rfl
theorem field_Insert.bits20 : waitsOk field_Insert.T20.2 field_Insert.B20 = true := by kernel_rfl
set_option maxHeartbeats 8000000 in
set_option maxRecDepth 100000 in
theorem field_Insert.calls (k : Nat) (a0_0 : Int) (a0_1 : Int) (a0_2 : Int) (a0_3 : Int) (a0_4 : Int) (a0_5 : Int) (a0_6 : Int) (a0_7 : Int) (a0_8 : Int) (a1 : ByteArray) (A2 : Option Addr) (c2 : Nat) (l2 : List Int) (r : List Int) (w : World) (hr2 : Kd.C (Kd.int .u64) w A2 l2.length l2) (hc2 : l2.length ≤ c2) (h : field_Insert.f k a0_0 a0_1 a0_2 a0_3 a0_4 a0_5 a0_6 a0_7 a0_8 a1 l2 = some r) :
  Calls Try.prog 22 #[.agg #[.int .i64 a0_0, .int .u64 a0_1, .int .u64 a0_2, .int .i64 a0_3, .int .i64 a0_4, .int .i64 a0_5, .int .i64 a0_6, .int .i64 a0_7, .int .i64 a0_8], .string a1, .slice A2 l2.length c2] w fun e w' => ∃ v0_ : Value, e = .returned (v0_) ∧ Kd.R (Kd.int .u64) 22 w' w.heap.size (fun _ => True) v0_ r ∧ Below w.heap.size w w' := by
 have hu26 := Try.underlying26
 have HR2 := Aside0.mk hr2
 have HC2 := Aside0.mk hc2
 clear hr2 hc2
 have HB := Aside0.mk (Below.refl w.heap.size w)
 have H : ((field_Masks.f k a0_0 a0_1 a0_2 a0_3 a0_4 a0_5 a0_6 a0_7 a0_8).bind fun t151 => (if (l2.length : Int) = (t151.length : Int) then (field_Insert.l0 k a1 l2 ([] : List Int) t151 (t151.length : Int) 0 a0_0 a0_1 a0_2 a0_3 a0_4 a0_5 a0_6 a0_7 a0_8) else (some ([] : List Int)))) = some r := h
 clear h
 replace H := Option.bind_eq_some_iff.mp H
 obtain ⟨t151, A40, H⟩ := H
 replace H : (if (l2.length : Int) = (t151.length : Int) then (field_Insert.l0 k a1 l2 ([] : List Int) t151 (t151.length : Int) 0 a0_0 a0_1 a0_2 a0_3 a0_4 a0_5 a0_6 a0_7 a0_8) else (some ([] : List Int))) = some r := H
 have A4 := Aside0.mk A40
 clear A40
 by_cases c5 : (l2.length : Int) = (t151.length : Int)
 ·rw [if_pos c5] at H
  have c5b0 : ((l2.length : Int) == (t151.length : Int)) = true := beq_iff_eq.mpr c5
  have c5b1 : ((l2.length : Int) != (t151.length : Int)) = false := bne_eq_false_iff_eq.mpr c5
  have c5b2 : (l2.length == t151.length) = true := by first | simpa using c5 | (simp at c5 ⊢; omega)
  clear c5
  have H' := Aside0.mk H
  clear H
  go_enter Try.func22, Try.ntmps22
  go_wp2_with (first | ((with_reducible refine gate_dst (N := 3) rfl ?_); refine box_event ?hg (N := 3) ?hd (cs := #[.int .i64 a0_0, .int .u64 a0_1, .int .u64 a0_2, .int .i64 a0_3, .int .i64 a0_4, .int .i64 a0_5, .int .i64 a0_6, .int .i64 a0_7, .int .i64 a0_8]) (t := 26) ?hr ?_; (case hd => rfl); (case hg => rfl); (case hr => first | (go_simp; done) | (go_simp; rfl)); intro gb150 hg w6 hbox hb; have n0_ := Aside0.mk (below_step (by repeat (first | (with_reducible first | exact HB.out | apply bA_ | apply bN_ | apply bD_) | exact HB.out)) hb); have n1_ := Aside0.mk (hbox); have n2_ := Aside0.mk ((by rw [hg]; exact (below_size (by repeat (first | (with_reducible first | exact HB.out | apply bA_ | apply bN_ | apply bD_) | exact HB.out))) : w.heap.size ≤ gb150)); have n3_ := Aside0.mk ((by rw [hg]; exact (below_size (by repeat (first | (with_reducible first | exact HB.out | apply bA_ | apply bN_ | apply bD_) | exact HB.out))) : w.heap.size ≤ gb150)); clear HB; have HB := n0_; have BK150 := n1_; have GW150 := n2_; have GE150 := n3_; clear n0_ n1_ n2_ n3_; clear hb hbox hg; obtain ⟨hcz7_0, hcz7_1, hcz7_2, hcz7_3, hcz7_4, hcz7_5, hcz7_6, hcz7_7, hcz7_8⟩ := cells9_ BK150.out; obtain ⟨hfz7_0, hfz7_1, hfz7_2, hfz7_3, hfz7_4, hfz7_5, hfz7_6, hfz7_7, hfz7_8⟩ := froz9_ BK150.out) | ((with_reducible refine gate_callee (f := 35) rfl ?_); refine goesL_ (some 15) rfl rfl Try.func35 (by kernel_rfl) rfl #[.agg #[.int .i64 a0_0, .int .u64 a0_1, .int .u64 a0_2, .int .i64 a0_3, .int .i64 a0_4, .int .i64 a0_5, .int .i64 a0_6, .int .i64 a0_7, .int .i64 a0_8]] rfl (by (try simp only [List.map_toArray, List.map_cons, List.map_nil]); first | done | rfl | (simp only [List.length_drop, List.length_take]; rfl)) ?_; (with_reducible refine (field_Masks.calls k a0_0 a0_1 a0_2 a0_3 a0_4 a0_5 a0_6 a0_7 a0_8 t151 _ A4.out).mono ?_); rintro e w8 ⟨v152, rfl, ho0, hb⟩; refine ⟨_, rfl, ?_⟩; have n0_ := Aside0.mk (Kd.R_lower ho0 (below_size (by repeat (first | (with_reducible first | exact HB.out | apply bA_ | apply bN_ | apply bD_ | refine bS_ ?_ GE150.out) | exact HB.out)))); have n1_ := Aside0.mk (blk_below (g := gb150) (o := .cells #[.int .i64 a0_0, .int .u64 a0_1, .int .u64 a0_2, .int .i64 a0_3, .int .i64 a0_4, .int .i64 a0_5, .int .i64 a0_6, .int .i64 a0_7, .int .i64 a0_8] 26 (0, 0)) (by (with_reducible repeat (first | refine kN_ ?_ _ | refine kD_ ?_ | refine kA_ ?_ _)); exact BK150.out) hb); have n2_ := Aside0.mk (below_step (by repeat (first | (with_reducible first | exact HB.out | apply bA_ | apply bN_ | apply bD_ | refine bS_ ?_ GE150.out) | exact HB.out)) hb); clear BK150; clear HB; have HO153 := n0_; have BK150 := n1_; have HB := n2_; clear n0_ n1_ n2_; (try clear hb); (try clear hb2); (try clear hk); (try clear hi); (try clear ho0); obtain ⟨Ao9, co9, eo9⟩ := Kd.R_slice HO153.out; subst eo9))
  go_loopg [8, 23] k (fun kq v8 v23 w' => ∃ (x8_1 : List Int) (x23_1 : Int), v23 = .int .i64 x23_1 ∧ Aside0 (field_Insert.l0 kq a1 l2 x8_1 t151 (t151.length : Int) x23_1 a0_0 a0_1 a0_2 a0_3 a0_4 a0_5 a0_6 a0_7 a0_8 = some r) ∧ Aside0 (kq ≤ k) ∧ Aside0 (Kd.R (Kd.int .u64) 22 w' w.heap.size (fun k_ => some k_ ≠ ((.slice Ao9 t151.length co9) : Value).ownBlock) v8 x8_1) ∧ Aside0 (Kd.R (Kd.int .u64) 22 w' w.heap.size (fun k_ => some k_ ≠ (v8 : Value).ownBlock) (.slice Ao9 t151.length co9) t151) ∧ Aside0 (w'.heap[gb150]? = some (.cells #[.int .i64 a0_0, .int .u64 a0_1, .int .u64 a0_2, .int .i64 a0_3, .int .i64 a0_4, .int .i64 a0_5, .int .i64 a0_6, .int .i64 a0_7, .int .i64 a0_8] 26 (0, 0))) ∧ Aside0 (Below w.heap.size w w'))
  case atStart => exact ⟨(([] : List Int)), (0), (by first | rfl | (simp; done) | (simp [*]; done)), H', ⟨Nat.le_refl _⟩, ⟨by first | exact Kd.R_nil _ _ _ _ _ | exact Kd.N_nil _ _ _ _ _ | exact Kd.V_nil _ _ _ _ _ | exact Kd.Q_nil _ _ _ _ _ | exact Kd.S_nil _ _ _ _ _⟩, ⟨by (with_reducible repeat (first | apply Kd.R_alloc | apply Kd.R_drewN | apply Kd.R_drew)); exact Kd.R_mono HO153.out (fun _ hk => (by simp [Value.ownBlock]))⟩, ⟨by (with_reducible repeat (first | refine kN_ ?_ _ | refine kD_ ?_ | refine kA_ ?_ _)); exact BK150.out⟩, ⟨by repeat (first | (with_reducible first | exact HB.out | apply bA_ | apply bN_ | apply bD_ | refine bS_ ?_ GE150.out) | exact HB.out)⟩⟩
  case round =>
   clear H'
   try clear c2
   try clear p2
   try clear c3
   try clear c5
   try clear c5b0
   try clear c5b1
   try clear c5b2
   try clear hcz7_0 hcz7_1 hcz7_2 hcz7_3 hcz7_4 hcz7_5 hcz7_6 hcz7_7 hcz7_8
   try clear hfz7_0 hfz7_1 hfz7_2 hfz7_3 hfz7_4 hfz7_5 hfz7_6 hfz7_7 hfz7_8
   obtain ⟨x8_1, x23_1, rfl, HA, HK1, HO_8, HO_21, BK150, HB⟩ := hrel
   cases gk with
   | zero => exact absurd HA.out (by simp [field_Insert.l0])
   | succ k1 =>
    have H := HA.out
    clear HA
    simp only [field_Insert.l0] at H
    by_cases c10 : x23_1 < (t151.length : Int)
    ·rw [if_pos c10] at H
     have c10b0 : decide (x23_1 < (t151.length : Int)) = true := decide_eq_true c10
     clear c10
     by_cases c11 : 0 ≤ x23_1
     ·rw [if_pos c11] at H
      have c11b0 : decide (0 ≤ x23_1) = true := decide_eq_true c11
      clear c11
      by_cases c12 : x23_1 < (t151.length : Int)
      ·rw [if_pos c12] at H
       have c12b0 : decide (x23_1 < (t151.length : Int)) = true := decide_eq_true c12
       clear c12
       by_cases c13 : a0_6 = 0
       ·rw [if_pos c13] at H
        have c13b0 : (a0_6 == 0) = true := beq_iff_eq.mpr c13
        have c13b1 : (a0_6 != 0) = false := bne_eq_false_iff_eq.mpr c13
        clear c13
        by_cases c14 : x23_1 < (l2.length : Int)
        ·rw [if_pos c14] at H
         have c14b0 : decide (x23_1 < (l2.length : Int)) = true := decide_eq_true c14
         clear c14
         replace H := Option.bind_eq_some_iff.mp H
         obtain ⟨t156, A150, H⟩ := H
         replace H : (if x8_1.length < 17592186044416 then (field_Insert.l0 k1 a1 l2 (x8_1 ++ [Go.bits .andNot .u64 (Go.bits .and .u64 (rd l2 x23_1) t156) (rd t151 x23_1)]) t151 (t151.length : Int) (wrap64 (x23_1 + 1)) a0_0 a0_1 a0_2 a0_3 a0_4 a0_5 a0_6 a0_7 a0_8) else (none)) = some r := H
         have A15 := Aside0.mk A150
         clear A150
         by_cases c16 : x8_1.length < 17592186044416
         ·rw [if_pos c16] at H
          have LMc16 := Aside0.mk c16
          clear c16
          obtain ⟨y157, hy157⟩ : ∃ y_ : List Int, y_ = (x8_1 ++ [Go.bits .andNot .u64 (Go.bits .and .u64 (rd l2 x23_1) t156) (rd t151 x23_1)]) := ⟨_, rfl⟩
          replace H : (field_Insert.l0 k1 a1 l2 y157 t151 (t151.length : Int) (wrap64 (x23_1 + 1)) a0_0 a0_1 a0_2 a0_3 a0_4 a0_5 a0_6 a0_7 a0_8) = some r := by first | (rw [hy157]; with_reducible exact H) | (have H2_ := (Option.bind_some _ _).symm.trans H; rw [hy157]; with_reducible exact H2_) | (have H2_ := (Option.bind_some _ _).symm.trans H; with_reducible exact H2_) | with_reducible exact H | (rw [hy157]; exact H) | exact H
          have Ny157 := Aside0.mk hy157
          clear hy157
          have H' := Aside0.mk H
          clear H
          have p154 : 0 ≤ (x23_1 : Int) := of_decide_eq_true (by first | (with_reducible assumption) | assumption)
          have q154 : x23_1 < (t151.length : Int) := of_decide_eq_true (by first | (with_reducible assumption) | assumption)
          obtain ⟨ad154, e154, hx154_0⟩ := Kd.at_int (Kd.R_reads' HO_21.out).2.2 x23_1 p154 q154
          cases e154
          replace p154 := eq_true p154
          replace q154 := eq_true q154
          obtain ⟨hcz17_0, hcz17_1, hcz17_2, hcz17_3, hcz17_4, hcz17_5, hcz17_6, hcz17_7, hcz17_8⟩ := cells9_ BK150.out
          obtain ⟨hfz17_0, hfz17_1, hfz17_2, hfz17_3, hfz17_4, hfz17_5, hfz17_6, hfz17_7, hfz17_8⟩ := froz9_ BK150.out
          try go_wp2
          have n0_ := Aside0.mk (Kd.R_drew HO_8.out)
          have n1_ := Aside0.mk (Kd.R_drew HO_21.out)
          have n2_ := Aside0.mk (kD_ BK150.out)
          have n3_ := Aside0.mk (bD_ HB.out)
          clear HO_8
          clear HO_21
          clear BK150
          clear HB
          have HO_8 := n0_
          have HO_21 := n1_
          have BK150 := n2_
          have HB := n3_
          clear n0_ n1_ n2_ n3_
          have p155 : 0 ≤ (x23_1 : Int) := of_decide_eq_true (by first | (with_reducible assumption) | assumption)
          have q155 : x23_1 < (l2.length : Int) := of_decide_eq_true (by first | (with_reducible assumption) | assumption)
          obtain ⟨ad155, e155, hx155_0⟩ := Kd.at_int HR2.out x23_1 p155 q155
          have hw155_0 := hx155_0
          cases e155
          replace hx155_0 := (HB.out.cell (World.block_lt_of_cell? w _ hx155_0)).trans hx155_0
          replace p155 := eq_true p155
          replace q155 := eq_true q155
          refine start_ (n := 13) (S := fun w' => w'.cell? ⟨gb150, 0, none⟩ = some (.int .i64 a0_0) ∧ w'.cell? ⟨gb150, 1, none⟩ = some (.int .u64 a0_1) ∧ w'.cell? ⟨gb150, 2, none⟩ = some (.int .u64 a0_2) ∧ w'.cell? ⟨gb150, 3, none⟩ = some (.int .i64 a0_3) ∧ w'.cell? ⟨gb150, 4, none⟩ = some (.int .i64 a0_4) ∧ w'.cell? ⟨gb150, 5, none⟩ = some (.int .i64 a0_5) ∧ w'.cell? ⟨gb150, 6, none⟩ = some (.int .i64 a0_6) ∧ w'.cell? ⟨gb150, 7, none⟩ = some (.int .i64 a0_7) ∧ w'.cell? ⟨gb150, 8, none⟩ = some (.int .i64 a0_8) ∧ w'.cell? (ad155.add (x23_1).toNat) = some (.int .u64 (rd l2 x23_1))) (ds := []) #[false, false, false, false, false, false, false, false, false, false, false, false, false] (by kernel_rfl) rfl rfl ⟨(blk_cell BK150.out 0).trans rfl, (blk_cell BK150.out 1).trans rfl, (blk_cell BK150.out 2).trans rfl, (blk_cell BK150.out 3).trans rfl, (blk_cell BK150.out 4).trans rfl, (blk_cell BK150.out 5).trans rfl, (blk_cell BK150.out 6).trans rfl, (blk_cell BK150.out 7).trans rfl, (blk_cell BK150.out 8).trans rfl, ((HB.out.cell (World.block_lt_of_cell? w _ hw155_0)).trans hw155_0)⟩ (fun hHeld => ?_); refine with_tabW field_Insert.tab11 field_Insert.bits11 (fun HT_ HW_ => ?_)
          generalize wr.drew = w18 at HO_8 HO_21 BK150 HB hx155_0 hHeld ⊢
          refine pure_ (i := 0) (N := some 35) (v := ?_) (a' := ?_) (tf 13 1) rfl rfl (any_of HT_.out (by kernel_rfl)) (fun _ _ _ h => h) (Or.inl ⟨by rfl, ?_⟩) ?_ ?_
          rotate_left
          ·intro w'
           go_simp
           with_reducible rfl
          rotate_left
          ·simp only [Act.put, sA_, sB_, sC_, i64_w, i32_w]
           rfl
          refine pure_ (i := 1) (N := some 36) (v := ?_) (a' := ?_) (tf 13 3) rfl rfl (any_of HT_.out (by kernel_rfl)) (fun _ _ _ h => h) (Or.inl ⟨by rfl, ?_⟩) ?_ ?_
          rotate_left
          ·intro w'
           go_simp
           with_reducible rfl
          rotate_left
          ·simp only [Act.put, sA_, sB_, sC_, i64_w, i32_w]
           rfl
          refine pure_ (i := 2) (N := some 37) (v := ?_) (a' := ?_) (tf 13 7) rfl rfl (any_of HT_.out (by kernel_rfl)) (fun _ _ _ h => h) (Or.inl ⟨by rfl, ?_⟩) ?_ ?_
          rotate_left
          ·intro w'
           go_simp
           with_reducible rfl
          rotate_left
          ·simp only [Act.put, sA_, sB_, sC_, i64_w, i32_w]
           rfl
          refine pure_ (i := 3) (N := some 38) (v := ?_) (a' := ?_) (tf 13 15) rfl rfl (any_of HT_.out (by kernel_rfl)) (fun _ _ _ h => h) (Or.inl ⟨by rfl, ?_⟩) ?_ ?_
          rotate_left
          ·intro w'
           go_simp
           with_reducible rfl
          rotate_left
          ·simp only [Act.put, sA_, sB_, sC_, i64_w, i32_w]
           rfl
          refine pure_ (i := 8) (N := some 43) (v := ?_) (a' := ?_) (tf 13 271) rfl rfl (any_of HT_.out (by kernel_rfl)) (fun _ _ _ h => h) (Or.inl ⟨by rfl, ?_⟩) ?_ ?_
          rotate_left
          ·intro w'
           go_simp
           with_reducible rfl
          rotate_left
          ·simp only [Act.put, sA_, sB_, sC_, i64_w, i32_w]
           rfl
          refine take_ (i := 4) (N := some 39) (v := ?_) (a' := ?_) (tf 13 287) rfl rfl (take_ofW HT_.out HW_.out (by kernel_rfl)) (fun _ _ _ h => h) (Or.inl ⟨by rfl, ?_⟩) hHeld ?_ ?_
          rotate_left
          ·rintro w' ⟨s0, s1, s2, s3, s4, s5, s6, s7, s8, s9⟩
           go_simp
           with_reducible rfl
          rotate_left
          ·simp only [Act.put, sA_, sB_, sC_, i64_w, i32_w]
           rfl
          refine take_ (i := 5) (N := some 40) (v := ?_) (a' := ?_) (tf 13 319) rfl rfl (take_ofW HT_.out HW_.out (by kernel_rfl)) (fun _ _ _ h => h) (Or.inl ⟨by rfl, ?_⟩) hHeld ?_ ?_
          rotate_left
          ·rintro w' ⟨s0, s1, s2, s3, s4, s5, s6, s7, s8, s9⟩
           go_simp
           with_reducible rfl
          rotate_left
          ·simp only [Act.put, sA_, sB_, sC_, i64_w, i32_w]
           rfl
          refine one_ (i := 6) (N := some 41) (tf 13 383) rfl rfl (one_of HT_.out (by kernel_rfl)) (by decide) (fun K hK => ?_)
          refine goes_ Try.func58 (by kernel_rfl) rfl #[.agg #[.int .i64 a0_0, .int .u64 a0_1, .int .u64 a0_2, .int .i64 a0_3, .int .i64 a0_4, .int .i64 a0_5, .int .i64 a0_6, .int .i64 a0_7, .int .i64 a0_8]] (by rfl) rfl rfl (by (try simp only [List.map_toArray, List.map_cons, List.map_nil]); first | done | rfl | (simp only [List.length_drop, List.length_take]; rfl)) ?_
          with_reducible refine (field_full.calls a0_0 a0_1 a0_2 a0_3 a0_4 a0_5 a0_6 a0_7 a0_8 t156 _ A15.out).mono ?_
          rintro e w19 ⟨rfl, hb⟩
          refine ⟨_, rfl, ?_⟩
          have n0_ := Aside0.mk (Kd.R_below (by (with_reducible repeat (first | apply Kd.R_alloc | apply Kd.R_drewN | apply Kd.R_drew)); exact HO_8.out) hb)
          have n1_ := Aside0.mk (Kd.R_below (by (with_reducible repeat (first | apply Kd.R_alloc | apply Kd.R_drewN | apply Kd.R_drew)); exact HO_21.out) hb)
          have n2_ := Aside0.mk (blk_below (g := gb150) (o := .cells #[.int .i64 a0_0, .int .u64 a0_1, .int .u64 a0_2, .int .i64 a0_3, .int .i64 a0_4, .int .i64 a0_5, .int .i64 a0_6, .int .i64 a0_7, .int .i64 a0_8] 26 (0, 0)) (by (with_reducible repeat (first | refine kN_ ?_ _ | refine kD_ ?_ | refine kA_ ?_ _)); exact BK150.out) hb)
          have n3_ := Aside0.mk (below_step (by repeat (first | (with_reducible first | exact HB.out | apply bA_ | apply bN_ | apply bD_ | refine bS_ ?_ GE150.out) | exact HB.out)) hb)
          clear HO_8
          clear HO_21
          clear BK150
          clear HB
          have HO_8 := n0_
          have HO_21 := n1_
          have BK150 := n2_
          have HB := n3_
          clear n0_ n1_ n2_ n3_
          (try clear hb)
          (try clear hb2)
          (try clear hk)
          (try clear hi)
          refine hK.out _ _ ⟨(blk_cell BK150.out 0).trans rfl, (blk_cell BK150.out 1).trans rfl, (blk_cell BK150.out 2).trans rfl, (blk_cell BK150.out 3).trans rfl, (blk_cell BK150.out 4).trans rfl, (blk_cell BK150.out 5).trans rfl, (blk_cell BK150.out 6).trans rfl, (blk_cell BK150.out 7).trans rfl, (blk_cell BK150.out 8).trans rfl, ((HB.out.cell (World.block_lt_of_cell? w _ hw155_0)).trans hw155_0)⟩ (fun hHeld => ?_)
          clear hK K
          refine norm_ (a' := ?_) ?_ ?_
          rotate_left
          ·show Act.put _ (some 41) _ = _
           simp only [Act.put, sA_, sB_, sC_, i64_w, i32_w]
           rfl
          refine pure_ (i := 7) (N := some 42) (v := ?_) (a' := ?_) (tf 13 511) rfl rfl (any_of HT_.out (by kernel_rfl)) (fun _ _ _ h => h) (Or.inl ⟨by rfl, ?_⟩) ?_ ?_
          rotate_left
          ·intro w'
           go_simp
           with_reducible rfl
          rotate_left
          ·simp only [Act.put, sA_, sB_, sC_, i64_w, i32_w]
           rfl
          refine pure_ (i := 9) (N := some 44) (v := ?_) (a' := ?_) (tf 13 1023) rfl rfl (any_of HT_.out (by kernel_rfl)) (fun _ _ _ h => h) (Or.inl ⟨by rfl, ?_⟩) ?_ ?_
          rotate_left
          ·intro w'
           go_simp
           with_reducible rfl
          rotate_left
          ·simp only [Act.put, sA_, sB_, sC_, i64_w, i32_w]
           rfl
          refine one_ (i := 10) (N := some 45) (tf 13 2047) rfl rfl (one_of HT_.out (by kernel_rfl)) (by decide) (fun K hK => ?_)
          refine value_ (w1 := ?_) (v := ?_) (by rfl) rfl ?_ ?_
          rotate_left 2
          ·go_simp
           constructor
           ·rfl
           ·rfl
          refine hK.out _ _ ⟨(blk_cell (kA_ BK150.out _) 0).trans rfl, (blk_cell (kA_ BK150.out _) 1).trans rfl, (blk_cell (kA_ BK150.out _) 2).trans rfl, (blk_cell (kA_ BK150.out _) 3).trans rfl, (blk_cell (kA_ BK150.out _) 4).trans rfl, (blk_cell (kA_ BK150.out _) 5).trans rfl, (blk_cell (kA_ BK150.out _) 6).trans rfl, (blk_cell (kA_ BK150.out _) 7).trans rfl, (blk_cell (kA_ BK150.out _) 8).trans rfl, (World.cell?_alloc_lt _ _ _ (World.block_lt_of_cell? _ _ (((HB.out.cell (World.block_lt_of_cell? w _ hw155_0)).trans hw155_0)))).trans (((HB.out.cell (World.block_lt_of_cell? w _ hw155_0)).trans hw155_0))⟩ (fun hHeld => ?_)
          clear hK K
          refine norm_ (a' := ?_) ?_ ?_
          rotate_left
          ·show Act.put _ (some 45) _ = _
           simp only [Act.put, sA_, sB_, sC_, i64_w, i32_w]
           rfl
          refine one_ (i := 11) (N := some 46) (tf 13 4095) rfl rfl (one_of HT_.out (by kernel_rfl)) (by decide) (fun K hK => ?_)
          refine Kd.R_append_step (Kd.int .u64) (w0 := w) w.heap.size (by rfl) (.tmp 35) (.tmp 45) 27 22 (.int .u64 0) 8 rfl Try.underlying27 info22 rfl (by decide) (by omega) u8 x8_1 (Go.bits .andNot .u64 (Go.bits .and .u64 (rd l2 x23_1) t156) (rd t151 x23_1)) [.int .u64 (Go.bits .andNot .u64 (Go.bits .and .u64 (rd l2 x23_1) t156) (rd t151 x23_1))] (fun k_ => some k_ ≠ (.slice (some ad154) t151.length co9 : Value).ownBlock) (fun _ => False) rfl rfl ?aP (fun _ hk => hk.elim) ?aF ?aO ?aB ?aS ?aL ?_
          (case aP => exact rfl)
          (case aB => exact (by repeat (first | (with_reducible first | exact HB.out | apply bA_ | apply bN_ | apply bD_ | refine bS_ ?_ GE150.out) | exact HB.out)))
          (case aF => exact (fun k_ hk => Kd.fresh' (Kd.R_lt (by (with_reducible repeat (first | apply Kd.R_alloc | apply Kd.R_drewN | apply Kd.R_drew)); exact HO_21.out)) k_ hk))
          (case aO => exact (by (with_reducible repeat (first | apply Kd.R_alloc | apply Kd.R_drewN | apply Kd.R_drew)); exact HO_8.out))
          (case aS => exact (below_size (by repeat (first | (with_reducible first | exact HB.out | apply bA_ | apply bN_ | apply bD_ | refine bS_ ?_ GE150.out) | exact HB.out))))
          (case aL => have := LMc16.out; omega)
          intro v158 w20 ho hb hg hat
          rw [← Ny157.out] at ho
          have n0_ := Aside0.mk (Kd.R_after (ok := (fun _ => True)) (by (with_reducible repeat (first | apply Kd.R_alloc | apply Kd.R_drewN | apply Kd.R_drew)); exact Kd.R_mono HO_21.out (fun _ hk => ⟨trivial, hk⟩)) hg hat)
          have n1_ := Aside0.mk (blk_grown (g := gb150) (o := .cells #[.int .i64 a0_0, .int .u64 a0_1, .int .u64 a0_2, .int .i64 a0_3, .int .i64 a0_4, .int .i64 a0_5, .int .i64 a0_6, .int .i64 a0_7, .int .i64 a0_8] 26 (0, 0)) (by (with_reducible repeat (first | refine kN_ ?_ _ | refine kD_ ?_ | refine kA_ ?_ _)); exact BK150.out) hg (Kd.R_ne HO_8.out BK150.out (by decide)))
          have n2_ := Aside0.mk (hb)
          have n3_ := Aside0.mk (ho)
          clear HO_21
          clear BK150
          clear HB
          clear HO_8
          have HO_21 := n0_
          have BK150 := n1_
          have HB := n2_
          have HO159 := n3_
          clear n0_ n1_ n2_ n3_
          clear ho hb hg hat
          refine hK.out _ _ ⟨(blk_cell BK150.out 0).trans rfl, (blk_cell BK150.out 1).trans rfl, (blk_cell BK150.out 2).trans rfl, (blk_cell BK150.out 3).trans rfl, (blk_cell BK150.out 4).trans rfl, (blk_cell BK150.out 5).trans rfl, (blk_cell BK150.out 6).trans rfl, (blk_cell BK150.out 7).trans rfl, (blk_cell BK150.out 8).trans rfl, ((HB.out.cell (World.block_lt_of_cell? w _ hw155_0)).trans hw155_0)⟩ (fun hHeld => ?_)
          clear hK K
          refine norm_ (a' := ?_) ?_ ?_
          rotate_left
          ·show Act.put _ (some 46) _ = _
           simp only [Act.put, sA_, sB_, sC_, i64_w, i32_w]
           rfl
          refine pure_ (i := 12) (N := some 8) (v := ?_) (a' := ?_) (tf 13 8191) rfl rfl (any_of HT_.out (by kernel_rfl)) (fun _ _ _ h => h) (Or.inl ⟨by rfl, ?_⟩) ?_ ?_
          rotate_left
          ·intro w'
           go_simp
           with_reducible rfl
          rotate_left
          ·simp only [Act.put, sA_, sB_, sC_, i64_w, i32_w]
           rfl
          refine done_ (done_of HT_.out (by kernel_rfl)) ?_
          try go_wp2
          go_roundg k1
          case measure => have := HK1.out; omega
          case rel => exact ⟨(y157), (wrap64 (x23_1 + 1)), (by first | rfl | (simp; done) | (simp [*]; done)), H', ⟨by have := HK1.out; omega⟩, ⟨by (with_reducible repeat (first | apply Kd.R_alloc | apply Kd.R_drewN | apply Kd.R_drew)); exact HO159.out⟩, ⟨by (with_reducible repeat (first | apply Kd.R_alloc | apply Kd.R_drewN | apply Kd.R_drew)); exact Kd.R_mono HO_21.out (fun _ hk => hk.2)⟩, ⟨by (with_reducible repeat (first | refine kN_ ?_ _ | refine kD_ ?_ | refine kA_ ?_ _)); exact BK150.out⟩, ⟨by repeat (first | (with_reducible first | exact HB.out | apply bA_ | apply bN_ | apply bD_ | refine bS_ ?_ GE150.out) | exact HB.out)⟩⟩
         ·rw [if_neg c16] at H
          exact absurd H (by simp)
        ·rw [if_neg c14] at H
         exact absurd H (by simp)
       ·rw [if_neg c13] at H
        have c13b0 : (a0_6 == 0) = false := beq_eq_false_iff_ne.mpr c13
        have c13b1 : (a0_6 != 0) = true := bne_iff_ne.mpr c13
        by_cases c21 : a0_6 = 1
        ·rw [if_pos c21] at H
         have c21b0 : (a0_6 == 1) = true := beq_iff_eq.mpr c21
         have c21b1 : (a0_6 != 1) = false := bne_eq_false_iff_eq.mpr c21
         clear c21
         replace H := Option.bind_eq_some_iff.mp H
         obtain ⟨t160, A220, H⟩ := H
         replace H : (if x8_1.length < 17592186044416 then (field_Insert.l0 k1 a1 l2 (x8_1 ++ [Go.bits .andNot .u64 t160 (rd t151 x23_1)]) t151 (t151.length : Int) (wrap64 (x23_1 + 1)) a0_0 a0_1 a0_2 a0_3 a0_4 a0_5 a0_6 a0_7 a0_8) else (none)) = some r := H
         have A22 := Aside0.mk A220
         clear A220
         by_cases c23 : x8_1.length < 17592186044416
         ·rw [if_pos c23] at H
          have LMc23 := Aside0.mk c23
          clear c23
          obtain ⟨y161, hy161⟩ : ∃ y_ : List Int, y_ = (x8_1 ++ [Go.bits .andNot .u64 t160 (rd t151 x23_1)]) := ⟨_, rfl⟩
          replace H : (field_Insert.l0 k1 a1 l2 y161 t151 (t151.length : Int) (wrap64 (x23_1 + 1)) a0_0 a0_1 a0_2 a0_3 a0_4 a0_5 a0_6 a0_7 a0_8) = some r := by first | (rw [hy161]; with_reducible exact H) | (have H2_ := (Option.bind_some _ _).symm.trans H; rw [hy161]; with_reducible exact H2_) | (have H2_ := (Option.bind_some _ _).symm.trans H; with_reducible exact H2_) | with_reducible exact H | (rw [hy161]; exact H) | exact H
          have Ny161 := Aside0.mk hy161
          clear hy161
          have H' := Aside0.mk H
          clear H
          have p154 : 0 ≤ (x23_1 : Int) := of_decide_eq_true (by first | (with_reducible assumption) | assumption)
          have q154 : x23_1 < (t151.length : Int) := of_decide_eq_true (by first | (with_reducible assumption) | assumption)
          obtain ⟨ad154, e154, hx154_0⟩ := Kd.at_int (Kd.R_reads' HO_21.out).2.2 x23_1 p154 q154
          cases e154
          replace p154 := eq_true p154
          replace q154 := eq_true q154
          obtain ⟨hcz24_0, hcz24_1, hcz24_2, hcz24_3, hcz24_4, hcz24_5, hcz24_6, hcz24_7, hcz24_8⟩ := cells9_ BK150.out
          obtain ⟨hfz24_0, hfz24_1, hfz24_2, hfz24_3, hfz24_4, hfz24_5, hfz24_6, hfz24_7, hfz24_8⟩ := froz9_ BK150.out
          go_wp2_with (first | ((with_reducible refine gate_callee (f := 58) rfl ?_); refine goesL_ (some 51) rfl rfl Try.func58 (by kernel_rfl) rfl #[.agg #[.int .i64 a0_0, .int .u64 a0_1, .int .u64 a0_2, .int .i64 a0_3, .int .i64 a0_4, .int .i64 a0_5, .int .i64 a0_6, .int .i64 a0_7, .int .i64 a0_8]] rfl (by (try simp only [List.map_toArray, List.map_cons, List.map_nil]); first | done | rfl | (simp only [List.length_drop, List.length_take]; rfl)) ?_; (with_reducible refine (field_full.calls a0_0 a0_1 a0_2 a0_3 a0_4 a0_5 a0_6 a0_7 a0_8 t160 _ A22.out).mono ?_); rintro e w25 ⟨rfl, hb⟩; refine ⟨_, rfl, ?_⟩; have n0_ := Aside0.mk (Kd.R_below (by (with_reducible repeat (first | apply Kd.R_alloc | apply Kd.R_drewN | apply Kd.R_drew)); exact HO_8.out) hb); have n1_ := Aside0.mk (Kd.R_below (by (with_reducible repeat (first | apply Kd.R_alloc | apply Kd.R_drewN | apply Kd.R_drew)); exact HO_21.out) hb); have n2_ := Aside0.mk (blk_below (g := gb150) (o := .cells #[.int .i64 a0_0, .int .u64 a0_1, .int .u64 a0_2, .int .i64 a0_3, .int .i64 a0_4, .int .i64 a0_5, .int .i64 a0_6, .int .i64 a0_7, .int .i64 a0_8] 26 (0, 0)) (by (with_reducible repeat (first | refine kN_ ?_ _ | refine kD_ ?_ | refine kA_ ?_ _)); exact BK150.out) hb); have n3_ := Aside0.mk (below_step (by repeat (first | (with_reducible first | exact HB.out | apply bA_ | apply bN_ | apply bD_ | refine bS_ ?_ GE150.out) | exact HB.out)) hb); clear HO_8; clear HO_21; clear BK150; clear HB; have HO_8 := n0_; have HO_21 := n1_; have BK150 := n2_; have HB := n3_; clear n0_ n1_ n2_ n3_; (try clear hb); (try clear hb2); (try clear hk); (try clear hi)) | ((with_reducible refine gate_builtin (b := .append) (xs := #[.tmp 49, .tmp 54]) rfl ?_); at_builtin; refine Kd.R_append (Kd.int .u64) (w0 := w) w.heap.size rfl (.tmp 49) (.tmp 54) 27 22 (.int .u64 0) 8 rfl Try.underlying27 info22 rfl (by decide) (by omega) u8 x8_1 (Go.bits .andNot .u64 t160 (rd t151 x23_1)) [.int .u64 (Go.bits .andNot .u64 t160 (rd t151 x23_1))] (fun k_ => some k_ ≠ (.slice (some ad154) t151.length co9 : Value).ownBlock) (fun _ => False) rfl rfl ?aP (fun _ hk => hk.elim) ?aF ?aO ?aB ?aS ?aL ?_; (case aP => exact rfl); (case aB => exact (by repeat (first | (with_reducible first | exact HB.out | apply bA_ | apply bN_ | apply bD_ | refine bS_ ?_ GE150.out) | exact HB.out))); (case aF => exact (fun k_ hk => Kd.fresh' (Kd.R_lt (by (with_reducible repeat (first | apply Kd.R_alloc | apply Kd.R_drewN | apply Kd.R_drew)); exact HO_21.out)) k_ hk)); (case aO => exact (by (with_reducible repeat (first | apply Kd.R_alloc | apply Kd.R_drewN | apply Kd.R_drew)); exact HO_8.out)); (case aS => exact (below_size (by repeat (first | (with_reducible first | exact HB.out | apply bA_ | apply bN_ | apply bD_ | refine bS_ ?_ GE150.out) | exact HB.out)))); (case aL => have := LMc23.out; omega); intro v162 w26 ho hb hg hat; rw [← Ny161.out] at ho; have n0_ := Aside0.mk (Kd.R_after (ok := (fun _ => True)) (by (with_reducible repeat (first | apply Kd.R_alloc | apply Kd.R_drewN | apply Kd.R_drew)); exact Kd.R_mono HO_21.out (fun _ hk => ⟨trivial, hk⟩)) hg hat); have n1_ := Aside0.mk (blk_grown (g := gb150) (o := .cells #[.int .i64 a0_0, .int .u64 a0_1, .int .u64 a0_2, .int .i64 a0_3, .int .i64 a0_4, .int .i64 a0_5, .int .i64 a0_6, .int .i64 a0_7, .int .i64 a0_8] 26 (0, 0)) (by (with_reducible repeat (first | refine kN_ ?_ _ | refine kD_ ?_ | refine kA_ ?_ _)); exact BK150.out) hg (Kd.R_ne HO_8.out BK150.out (by decide))); have n2_ := Aside0.mk (hb); have n3_ := Aside0.mk (ho); clear HO_21; clear BK150; clear HB; clear HO_8; have HO_21 := n0_; have BK150 := n1_; have HB := n2_; have HO163 := n3_; clear n0_ n1_ n2_ n3_; clear ho hb hg hat))
          go_roundg k1
          case measure => have := HK1.out; omega
          case rel => exact ⟨(y161), (wrap64 (x23_1 + 1)), (by first | rfl | (simp; done) | (simp [*]; done)), H', ⟨by have := HK1.out; omega⟩, ⟨by (with_reducible repeat (first | apply Kd.R_alloc | apply Kd.R_drewN | apply Kd.R_drew)); exact HO163.out⟩, ⟨by (with_reducible repeat (first | apply Kd.R_alloc | apply Kd.R_drewN | apply Kd.R_drew)); exact Kd.R_mono HO_21.out (fun _ hk => hk.2)⟩, ⟨by (with_reducible repeat (first | refine kN_ ?_ _ | refine kD_ ?_ | refine kA_ ?_ _)); exact BK150.out⟩, ⟨by repeat (first | (with_reducible first | exact HB.out | apply bA_ | apply bN_ | apply bD_ | refine bS_ ?_ GE150.out) | exact HB.out)⟩⟩
         ·rw [if_neg c23] at H
          exact absurd H (by simp)
        ·rw [if_neg c21] at H
         have c21b0 : (a0_6 == 1) = false := beq_eq_false_iff_ne.mpr c21
         have c21b1 : (a0_6 != 1) = true := bne_iff_ne.mpr c21
         by_cases c27 : x8_1.length < 17592186044416
         ·rw [if_pos c27] at H
          have LMc27 := Aside0.mk c27
          clear c27
          obtain ⟨y164, hy164⟩ : ∃ y_ : List Int, y_ = (x8_1 ++ [0]) := ⟨_, rfl⟩
          replace H : (field_Insert.l0 k1 a1 l2 y164 t151 (t151.length : Int) (wrap64 (x23_1 + 1)) a0_0 a0_1 a0_2 a0_3 a0_4 a0_5 a0_6 a0_7 a0_8) = some r := by first | (rw [hy164]; with_reducible exact H) | (have H2_ := (Option.bind_some _ _).symm.trans H; rw [hy164]; with_reducible exact H2_) | (have H2_ := (Option.bind_some _ _).symm.trans H; with_reducible exact H2_) | with_reducible exact H | (rw [hy164]; exact H) | exact H
          have Ny164 := Aside0.mk hy164
          clear hy164
          have H' := Aside0.mk H
          clear H
          have p154 : 0 ≤ (x23_1 : Int) := of_decide_eq_true (by first | (with_reducible assumption) | assumption)
          have q154 : x23_1 < (t151.length : Int) := of_decide_eq_true (by first | (with_reducible assumption) | assumption)
          obtain ⟨ad154, e154, hx154_0⟩ := Kd.at_int (Kd.R_reads' HO_21.out).2.2 x23_1 p154 q154
          cases e154
          replace p154 := eq_true p154
          replace q154 := eq_true q154
          obtain ⟨hcz28_0, hcz28_1, hcz28_2, hcz28_3, hcz28_4, hcz28_5, hcz28_6, hcz28_7, hcz28_8⟩ := cells9_ BK150.out
          obtain ⟨hfz28_0, hfz28_1, hfz28_2, hfz28_3, hfz28_4, hfz28_5, hfz28_6, hfz28_7, hfz28_8⟩ := froz9_ BK150.out
          go_wp2_with (first | ((with_reducible refine gate_builtin (b := .append) (xs := #[.tmp 30, .tmp 31]) rfl ?_); at_builtin; refine Kd.R_append (Kd.int .u64) (w0 := w) w.heap.size rfl (.tmp 30) (.tmp 31) 27 22 (.int .u64 0) 8 rfl Try.underlying27 info22 rfl (by decide) (by omega) u8 x8_1 0 [.int .u64 0] (fun k_ => some k_ ≠ (.slice (some ad154) t151.length co9 : Value).ownBlock) (fun _ => False) rfl rfl ?aP (fun _ hk => hk.elim) ?aF ?aO ?aB ?aS ?aL ?_; (case aP => exact rfl); (case aB => exact (by repeat (first | (with_reducible first | exact HB.out | apply bA_ | apply bN_ | apply bD_ | refine bS_ ?_ GE150.out) | exact HB.out))); (case aF => exact (fun k_ hk => Kd.fresh' (Kd.R_lt (by (with_reducible repeat (first | apply Kd.R_alloc | apply Kd.R_drewN | apply Kd.R_drew)); exact HO_21.out)) k_ hk)); (case aO => exact (by (with_reducible repeat (first | apply Kd.R_alloc | apply Kd.R_drewN | apply Kd.R_drew)); exact HO_8.out)); (case aS => exact (below_size (by repeat (first | (with_reducible first | exact HB.out | apply bA_ | apply bN_ | apply bD_ | refine bS_ ?_ GE150.out) | exact HB.out)))); (case aL => have := LMc27.out; omega); intro v165 w29 ho hb hg hat; rw [← Ny164.out] at ho; have n0_ := Aside0.mk (Kd.R_after (ok := (fun _ => True)) (by (with_reducible repeat (first | apply Kd.R_alloc | apply Kd.R_drewN | apply Kd.R_drew)); exact Kd.R_mono HO_21.out (fun _ hk => ⟨trivial, hk⟩)) hg hat); have n1_ := Aside0.mk (blk_grown (g := gb150) (o := .cells #[.int .i64 a0_0, .int .u64 a0_1, .int .u64 a0_2, .int .i64 a0_3, .int .i64 a0_4, .int .i64 a0_5, .int .i64 a0_6, .int .i64 a0_7, .int .i64 a0_8] 26 (0, 0)) (by (with_reducible repeat (first | refine kN_ ?_ _ | refine kD_ ?_ | refine kA_ ?_ _)); exact BK150.out) hg (Kd.R_ne HO_8.out BK150.out (by decide))); have n2_ := Aside0.mk (hb); have n3_ := Aside0.mk (ho); clear HO_21; clear BK150; clear HB; clear HO_8; have HO_21 := n0_; have BK150 := n1_; have HB := n2_; have HO166 := n3_; clear n0_ n1_ n2_ n3_; clear ho hb hg hat))
          go_roundg k1
          case measure => have := HK1.out; omega
          case rel => exact ⟨(y164), (wrap64 (x23_1 + 1)), (by first | rfl | (simp; done) | (simp [*]; done)), H', ⟨by have := HK1.out; omega⟩, ⟨by (with_reducible repeat (first | apply Kd.R_alloc | apply Kd.R_drewN | apply Kd.R_drew)); exact HO166.out⟩, ⟨by (with_reducible repeat (first | apply Kd.R_alloc | apply Kd.R_drewN | apply Kd.R_drew)); exact Kd.R_mono HO_21.out (fun _ hk => hk.2)⟩, ⟨by (with_reducible repeat (first | refine kN_ ?_ _ | refine kD_ ?_ | refine kA_ ?_ _)); exact BK150.out⟩, ⟨by repeat (first | (with_reducible first | exact HB.out | apply bA_ | apply bN_ | apply bD_ | refine bS_ ?_ GE150.out) | exact HB.out)⟩⟩
         ·rw [if_neg c27] at H
          exact absurd H (by simp)
      ·rw [if_neg c12] at H
       exact absurd H (by simp)
     ·rw [if_neg c11] at H
      exact absurd H (by simp)
    ·rw [if_neg c10] at H
     have c10b0 : decide (x23_1 < (t151.length : Int)) = false := decide_eq_false c10
     clear c10
     by_cases c30 : (x8_1.length : Int) > 0
     ·rw [if_pos c30] at H
      have c30b0 : decide (0 < (x8_1.length : Int)) = true := decide_eq_true c30
      have c30b1 : decide (0 < x8_1.length) = true := decide_eq_true (by omega)
      clear c30
      have H' := Aside0.mk H
      clear H
      obtain ⟨Ao31, co31, eo31⟩ := Kd.R_slice HO_8.out
      subst eo31
      obtain ⟨hcz32_0, hcz32_1, hcz32_2, hcz32_3, hcz32_4, hcz32_5, hcz32_6, hcz32_7, hcz32_8⟩ := cells9_ BK150.out
      obtain ⟨hfz32_0, hfz32_1, hfz32_2, hfz32_3, hfz32_4, hfz32_5, hfz32_6, hfz32_7, hfz32_8⟩ := froz9_ BK150.out
      go_wp2
      go_loopg [62] k1 (fun kq v62 w' => ∃ (x8_2 : List Int) (x62_2 : Int), v62 = .int .i64 x62_2 ∧ Aside0 (field_Insert.l1 kq a1 x8_2 a0_4 x62_2 a0_0 a0_1 a0_2 a0_3 a0_4 a0_5 a0_6 a0_7 a0_8 = some r) ∧ Aside0 (kq ≤ k1) ∧ Aside0 (Kd.R (Kd.int .u64) 22 w' w.heap.size (fun _ => True) (.slice Ao31 x8_1.length co31) x8_2) ∧ Aside0 (w'.heap[gb150]? = some (.cells #[.int .i64 a0_0, .int .u64 a0_1, .int .u64 a0_2, .int .i64 a0_3, .int .i64 a0_4, .int .i64 a0_5, .int .i64 a0_6, .int .i64 a0_7, .int .i64 a0_8] 26 (0, 0))) ∧ Aside0 (Below w.heap.size w w'))
      case atStart => exact ⟨(x8_1), (0), (by first | rfl | (simp; done) | (simp [*]; done)), H', ⟨Nat.le_refl _⟩, ⟨by (with_reducible repeat (first | apply Kd.R_alloc | apply Kd.R_drewN | apply Kd.R_drew)); exact Kd.R_mono HO_8.out (fun _ hk => trivial)⟩, ⟨by (with_reducible repeat (first | refine kN_ ?_ _ | refine kD_ ?_ | refine kA_ ?_ _)); exact BK150.out⟩, ⟨by repeat (first | (with_reducible first | exact HB.out | apply bA_ | apply bN_ | apply bD_ | refine bS_ ?_ GE150.out) | exact HB.out)⟩⟩
      case round =>
       clear H'
       try clear c1
       try clear p1
       try clear q1
       try clear hx1
       try clear c2
       try clear p2
       try clear c3
       try clear c5
       try clear c5b0
       try clear c5b1
       try clear c5b2
       try clear p6
       try clear c10
       try clear c10b0
       try clear c11
       try clear c11b0
       try clear c12
       try clear c12b0
       try clear c13
       try clear c13b0
       try clear c13b1
       try clear c14
       try clear c14b0
       try clear p15
       try clear q15
       try clear hx15
       try clear c16
       try clear c21
       try clear c21b0
       try clear c21b1
       try clear c22
       try clear c23
       try clear c27
       try clear c30
       try clear c30b0
       try clear c30b1
       try clear hcz17_0 hcz17_1 hcz17_2 hcz17_3 hcz17_4 hcz17_5 hcz17_6 hcz17_7 hcz17_8
       try clear hcz24_0 hcz24_1 hcz24_2 hcz24_3 hcz24_4 hcz24_5 hcz24_6 hcz24_7 hcz24_8
       try clear hcz28_0 hcz28_1 hcz28_2 hcz28_3 hcz28_4 hcz28_5 hcz28_6 hcz28_7 hcz28_8
       try clear hcz32_0 hcz32_1 hcz32_2 hcz32_3 hcz32_4 hcz32_5 hcz32_6 hcz32_7 hcz32_8
       try clear hcz7_0 hcz7_1 hcz7_2 hcz7_3 hcz7_4 hcz7_5 hcz7_6 hcz7_7 hcz7_8
       try clear hfz17_0 hfz17_1 hfz17_2 hfz17_3 hfz17_4 hfz17_5 hfz17_6 hfz17_7 hfz17_8
       try clear hfz24_0 hfz24_1 hfz24_2 hfz24_3 hfz24_4 hfz24_5 hfz24_6 hfz24_7 hfz24_8
       try clear hfz28_0 hfz28_1 hfz28_2 hfz28_3 hfz28_4 hfz28_5 hfz28_6 hfz28_7 hfz28_8
       try clear hfz32_0 hfz32_1 hfz32_2 hfz32_3 hfz32_4 hfz32_5 hfz32_6 hfz32_7 hfz32_8
       try clear hfz7_0 hfz7_1 hfz7_2 hfz7_3 hfz7_4 hfz7_5 hfz7_6 hfz7_7 hfz7_8
       try clear hx154_0
       try clear hx155_0
       try clear p154
       try clear p155
       try clear p2
       try clear q154
       try clear q155
       obtain ⟨x8_2, x62_2, rfl, HA, HK2, HO_8, BK150, HB⟩ := hrel
       have hl8_2 := (Kd.R_reads' HO_8.out).1
       rw [hl8_2] at HO_8
       (try simp only [hl8_2])
       (try simp only [hl8_2] at BK150)
       cases gk with
       | zero => exact absurd HA.out (by simp [field_Insert.l1])
       | succ k2 =>
        have H := HA.out
        clear HA
        simp only [field_Insert.l1] at H
        by_cases c33 : x62_2 < a0_4
        ·rw [if_pos c33] at H
         have c33b0 : decide (x62_2 < a0_4) = true := decide_eq_true c33
         clear c33
         replace H := Option.bind_eq_some_iff.mp H
         obtain ⟨⟨t167, t168⟩, A340, H⟩ := H
         replace H : (if 0 ≤ t167 then (if t167 < (x8_2.length : Int) then ((field_bit.f a1 x62_2).bind fun t170 => (if 0 ≤ t168 then (field_Insert.l1 k2 a1 (x8_2.set (t167 : Int).toNat (Go.bits .or .u64 (rd x8_2 t167) (shl .u64 t170 t168))) a0_4 (wrap64 (x62_2 + 1)) a0_0 a0_1 a0_2 a0_3 a0_4 a0_5 a0_6 a0_7 a0_8) else (none))) else (none)) else (none)) = some r := H
         have A34 := Aside0.mk A340
         clear A340
         by_cases c35 : 0 ≤ t167
         ·rw [if_pos c35] at H
          have c35b0 : decide (0 ≤ t167) = true := decide_eq_true c35
          clear c35
          by_cases c36 : t167 < (x8_2.length : Int)
          ·rw [if_pos c36] at H
           have c36b0 : decide (t167 < (x8_2.length : Int)) = true := decide_eq_true c36
           clear c36
           replace H := Option.bind_eq_some_iff.mp H
           obtain ⟨t170, A370, H⟩ := H
           replace H : (if 0 ≤ t168 then (field_Insert.l1 k2 a1 (x8_2.set (t167 : Int).toNat (Go.bits .or .u64 (rd x8_2 t167) (shl .u64 t170 t168))) a0_4 (wrap64 (x62_2 + 1)) a0_0 a0_1 a0_2 a0_3 a0_4 a0_5 a0_6 a0_7 a0_8) else (none)) = some r := H
           have A37 := Aside0.mk A370
           clear A370
           by_cases c38 : 0 ≤ t168
           ·rw [if_pos c38] at H
            have c38b0 := eq_true c38
            have c38b1 : decide (0 ≤ t168) = true := decide_eq_true c38
            clear c38
            obtain ⟨ji39, hji39⟩ : ∃ j_ : Int, (shl .u64 t170 t168) = j_ := ⟨_, rfl⟩
            replace H : (field_Insert.l1 k2 a1 (x8_2.set (t167 : Int).toNat (Go.bits .or .u64 (rd x8_2 t167) (ji39))) a0_4 (wrap64 (x62_2 + 1)) a0_0 a0_1 a0_2 a0_3 a0_4 a0_5 a0_6 a0_7 a0_8) = some r := by first | (rw [hji39] at H; exact H) | (simp only [hji39] at H ⊢; exact H)
            (try rw [hji39] at A34)
            (try rw [hji39] at A37)
            have hji39_ : (IntKind.u64.wrap (t170 * 2 ^ min t168.toNat 64)) = ji39 := hji39
            have hji39z : t168 ≤ 64 → (IntKind.u64.wrap (t170 * 2 ^ t168.toNat)) = ji39 := shl_small hji39
            obtain ⟨y171, hy171⟩ : ∃ y_ : List Int, y_ = (x8_2.set (t167 : Int).toNat (Go.bits .or .u64 (rd x8_2 t167) (ji39))) := ⟨_, rfl⟩
            replace H : (field_Insert.l1 k2 a1 y171 a0_4 (wrap64 (x62_2 + 1)) a0_0 a0_1 a0_2 a0_3 a0_4 a0_5 a0_6 a0_7 a0_8) = some r := by first | (rw [hy171]; with_reducible exact H) | (have H2_ := (Option.bind_some _ _).symm.trans H; rw [hy171]; with_reducible exact H2_) | (have H2_ := (Option.bind_some _ _).symm.trans H; with_reducible exact H2_) | with_reducible exact H | (rw [hy171]; exact H) | exact H
            have Ny171 := Aside0.mk hy171
            clear hy171
            have H' := Aside0.mk H
            clear H
            obtain ⟨hcz41_0, hcz41_1, hcz41_2, hcz41_3, hcz41_4, hcz41_5, hcz41_6, hcz41_7, hcz41_8⟩ := cells9_ BK150.out
            obtain ⟨hfz41_0, hfz41_1, hfz41_2, hfz41_3, hfz41_4, hfz41_5, hfz41_6, hfz41_7, hfz41_8⟩ := froz9_ BK150.out
            try go_wp2_with (first | ((with_reducible refine gate_callee (f := 57) rfl ?_); refine goesL_ (some 68) rfl rfl Try.func57 (by kernel_rfl) rfl #[.agg #[.int .i64 a0_0, .int .u64 a0_1, .int .u64 a0_2, .int .i64 a0_3, .int .i64 a0_4, .int .i64 a0_5, .int .i64 a0_6, .int .i64 a0_7, .int .i64 a0_8], .int .i64 x62_2] rfl (by (try simp only [List.map_toArray, List.map_cons, List.map_nil]); first | done | rfl | (simp only [List.length_drop, List.length_take]; rfl)) ?_; (with_reducible refine (field_position.calls a0_0 a0_1 a0_2 a0_3 a0_4 a0_5 a0_6 a0_7 a0_8 x62_2 t167 t168 _ A34.out).mono ?_); rintro e w42 ⟨rfl, hb⟩; refine ⟨_, rfl, ?_⟩; have n0_ := Aside0.mk (Kd.R_below (by (with_reducible repeat (first | apply Kd.R_alloc | apply Kd.R_drewN | apply Kd.R_drew)); exact HO_8.out) hb); have n1_ := Aside0.mk (blk_below (g := gb150) (o := .cells #[.int .i64 a0_0, .int .u64 a0_1, .int .u64 a0_2, .int .i64 a0_3, .int .i64 a0_4, .int .i64 a0_5, .int .i64 a0_6, .int .i64 a0_7, .int .i64 a0_8] 26 (0, 0)) (by (with_reducible repeat (first | refine kN_ ?_ _ | refine kD_ ?_ | refine kA_ ?_ _)); exact BK150.out) hb); have n2_ := Aside0.mk (below_step (by repeat (first | (with_reducible first | exact HB.out | apply bA_ | apply bN_ | apply bD_ | refine bS_ ?_ GE150.out) | exact HB.out)) hb); clear HO_8; clear BK150; clear HB; have HO_8 := n0_; have BK150 := n1_; have HB := n2_; clear n0_ n1_ n2_; (try clear hb); (try clear hb2); (try clear hk); (try clear hi)))
            have n0_ := Aside0.mk (Kd.R_drew HO_8.out)
            have n1_ := Aside0.mk (kD_ BK150.out)
            have n2_ := Aside0.mk (bD_ HB.out)
            clear HO_8
            clear BK150
            clear HB
            have HO_8 := n0_
            have BK150 := n1_
            have HB := n2_
            clear n0_ n1_ n2_
            have p169 : 0 ≤ (t167 : Int) := of_decide_eq_true (by first | (with_reducible assumption) | assumption)
            have q169 : t167 < (x8_2.length : Int) := of_decide_eq_true (by first | (with_reducible assumption) | assumption)
            obtain ⟨ad169, e169, hx169_0⟩ := Kd.at_int (Kd.R_reads' HO_8.out).2.2 t167 p169 q169
            cases e169
            replace p169 := eq_true p169
            replace q169 := eq_true q169
            refine start_ (n := 12) (S := fun w' => w'.cell? (ad169.add (t167).toNat) = some (.int .u64 (rd x8_2 t167))) (ds := [11]) #[false, false, false, false, false, false, false, false, false, false, false, false] (by kernel_rfl) rfl rfl (hx169_0) (fun hHeld => ?_); refine with_tabW field_Insert.tab20 field_Insert.bits20 (fun HT_ HW_ => ?_)
            generalize w42.drew = w43 at HO_8 BK150 HB hx169_0 hHeld ⊢
            refine pure_ (i := 0) (N := some 71) (v := ?_) (a' := ?_) (tf 12 1) rfl rfl (any_of HT_.out (by kernel_rfl)) (fun _ _ _ h => h) (Or.inl ⟨by rfl, ?_⟩) ?_ ?_
            rotate_left
            ·intro w'
             go_simp
             with_reducible rfl
            rotate_left
            ·simp only [Act.put, sA_, sB_, sC_, i64_w, i32_w]
             rfl
            refine pure_ (i := 1) (N := some 72) (v := ?_) (a' := ?_) (tf 12 3) rfl rfl (any_of HT_.out (by kernel_rfl)) (fun _ _ _ h => h) (Or.inl ⟨by rfl, ?_⟩) ?_ ?_
            rotate_left
            ·intro w'
             go_simp
             with_reducible rfl
            rotate_left
            ·simp only [Act.put, sA_, sB_, sC_, i64_w, i32_w]
             rfl
            refine pure_ (i := 2) (N := some 73) (v := ?_) (a' := ?_) (tf 12 7) rfl rfl (any_of HT_.out (by kernel_rfl)) (fun _ _ _ h => h) (Or.inl ⟨by rfl, ?_⟩) ?_ ?_
            rotate_left
            ·intro w'
             go_simp
             with_reducible rfl
            rotate_left
            ·simp only [Act.put, sA_, sB_, sC_, i64_w, i32_w]
             rfl
            refine pure_ (i := 4) (N := some 75) (v := ?_) (a' := ?_) (tf 12 23) rfl rfl (any_of HT_.out (by kernel_rfl)) (fun _ _ _ h => h) (Or.inl ⟨by rfl, ?_⟩) ?_ ?_
            rotate_left
            ·intro w'
             go_simp
             with_reducible rfl
            rotate_left
            ·simp only [Act.put, sA_, sB_, sC_, i64_w, i32_w]
             rfl
            refine pure_ (i := 5) (N := some 76) (v := ?_) (a' := ?_) (tf 12 55) rfl rfl (any_of HT_.out (by kernel_rfl)) (fun _ _ _ h => h) (Or.inl ⟨by rfl, ?_⟩) ?_ ?_
            rotate_left
            ·intro w'
             go_simp
             with_reducible rfl
            rotate_left
            ·simp only [Act.put, sA_, sB_, sC_, i64_w, i32_w]
             rfl
            refine pure_ (i := 7) (N := some 78) (v := ?_) (a' := ?_) (tf 12 183) rfl rfl (any_of HT_.out (by kernel_rfl)) (fun _ _ _ h => h) (Or.inl ⟨by rfl, ?_⟩) ?_ ?_
            rotate_left
            ·intro w'
             go_simp
             with_reducible rfl
            rotate_left
            ·simp only [Act.put, sA_, sB_, sC_, i64_w, i32_w]
             rfl
            refine take_ (i := 3) (N := some 74) (v := ?_) (a' := ?_) (tf 12 191) rfl rfl (take_ofW HT_.out HW_.out (by kernel_rfl)) (fun _ _ _ h => h) (Or.inl ⟨by rfl, ?_⟩) hHeld ?_ ?_
            rotate_left
            ·intro w' s0
             go_simp
             with_reducible rfl
            rotate_left
            ·simp only [Act.put, sA_, sB_, sC_, i64_w, i32_w]
             rfl
            refine one_ (i := 6) (N := some 77) (tf 12 255) rfl rfl (one_of HT_.out (by kernel_rfl)) (by decide) (fun K hK => ?_)
            refine goes_ Try.func59 (by kernel_rfl) rfl #[.string a1, .int .i64 x62_2] (by rfl) rfl rfl (by (try simp only [List.map_toArray, List.map_cons, List.map_nil]); first | done | rfl | (simp only [List.length_drop, List.length_take]; rfl)) ?_
            with_reducible refine (field_bit.calls a1 x62_2 t170 _ A37.out).mono ?_
            rintro e w' ⟨rfl, ⟨nd, rfl⟩⟩
            refine ⟨_, rfl, ?_⟩
            have p40 : 0 ≤ (t167 : Int) := of_decide_eq_true (by first | (with_reducible assumption) | assumption)
            have q40 : (t167 : Int) < ((x8_2.length : Int) : Int) := of_decide_eq_true (by first | (with_reducible assumption) | assumption)
            obtain ⟨go40, co40, eo40, gb40, gl40, cl40, HG40⟩ := Kd.R_form HO_8.out (by omega)
            (first | cases eo40 | (injection eo40 with ea_ en_ ec_; (first | subst ea_ | (injection ea_ with ea_; subst ea_)); subst ec_; clear en_))
            have GB40 := Aside0.mk gb40
            have GG40 := Aside0.mk HG40
            clear gb40 gl40 HG40
            (first | simp only [add_plain] at hx169_0 | skip)
            obtain ⟨hx40_0, hf40_0⟩ := Kd.R_celln 0 HO_8.out (t167 : Int) p40 q40
            replace p40 := eq_true p40
            replace q40 := eq_true q40
            have HP44 := Kd.R_putn HO_8.out (t167 : Int) (Go.bits .or .u64 (rd x8_2 t167) (ji39))
            rw [← Ny171.out] at HP44
            have HQ44 := Aside0.mk HP44
            clear HP44
            refine hK.out _ _ (hHeld) (fun hHeld => ?_)
            clear hK K
            refine norm_ (a' := ?_) ?_ ?_
            rotate_left
            ·show Act.put _ (some 77) _ = _
             simp only [Act.put, sA_, sB_, sC_, i64_w, i32_w]
             rfl
            refine pure_ (i := 8) (N := some 79) (v := ?_) (a' := ?_) (tf 12 511) rfl rfl (any_of HT_.out (by kernel_rfl)) (fun _ _ _ h => h) (Or.inl ⟨by rfl, ?_⟩) ?_ ?_
            rotate_left
            ·intro w'
             go_simp
             with_reducible rfl
            rotate_left
            ·simp only [Act.put, sA_, sB_, sC_, i64_w, i32_w]
             rfl
            refine pure_ (i := 9) (N := some 80) (v := ?_) (a' := ?_) (tf 12 1023) rfl rfl (any_of HT_.out (by kernel_rfl)) (fun _ _ _ h => h) (Or.inl ⟨by rfl, ?_⟩) ?_ ?_
            rotate_left
            ·intro w'
             go_simp
             with_reducible rfl
            rotate_left
            ·simp only [Act.put, sA_, sB_, sC_, i64_w, i32_w]
             rfl
            refine pure_ (i := 10) (N := some 81) (v := ?_) (a' := ?_) (tf 12 2047) rfl rfl (any_of HT_.out (by kernel_rfl)) (fun _ _ _ h => h) (Or.inl ⟨by rfl, ?_⟩) ?_ ?_
            rotate_left
            ·intro w'
             go_simp
             with_reducible rfl
            rotate_left
            ·simp only [Act.put, sA_, sB_, sC_, i64_w, i32_w]
             rfl
            refine last_ (i := 11) (N := none) (tf 12 4095) rfl rfl (one_of HT_.out (by kernel_rfl)) (by decide) (fun K hK => ?_)
            refine skip_ (w1 := ?_) (by rfl) rfl ?_ ?_
            rotate_left
            ·go_simp
             rfl
            refine hK.out _ _ ?_
            clear hK K
            refine done_ (done_of HT_.out (by kernel_rfl)) ?_
            try go_wp2
            (try simp only [← hl8_2])
            go_roundg k2
            case measure => have := HK1.out; have := HK2.out; omega
            case rel => exact ⟨(y171), (wrap64 (x62_2 + 1)), (by first | rfl | (simp; done) | (simp [*]; done)), H', ⟨by have := HK1.out; have := HK2.out; omega⟩, ⟨by (try simp only [hl8_2]); (with_reducible repeat (first | apply Kd.R_alloc | apply Kd.R_drewN | apply Kd.R_drew)); exact HQ44.out⟩, ⟨by (try simp only [hl8_2]); (with_reducible repeat (first | refine kN_ ?_ _ | refine kD_ ?_ | refine kA_ ?_ _)); refine blk_far ?_ (by have h_ := Kd.R_ne HO_8.out BK150.out (by decide); intro e_; exact h_ (by rw [e_]; rfl)) _; (with_reducible repeat (first | refine kN_ ?_ _ | refine kD_ ?_ | refine kA_ ?_ _)); exact BK150.out⟩, ⟨by repeat (first | (with_reducible first | exact HB.out | apply bA_ | apply bN_ | apply bD_ | refine bS_ ?_ GB40.out | refine bS_ ?_ GE150.out) | exact HB.out)⟩⟩
           ·rw [if_neg c38] at H
            exact absurd H (by simp)
          ·rw [if_neg c36] at H
           exact absurd H (by simp)
         ·rw [if_neg c35] at H
          exact absurd H (by simp)
        ·rw [if_neg c33] at H
         have c33b0 : decide (x62_2 < a0_4) = false := decide_eq_false c33
         clear c33
         obtain rfl := Option.some.inj H
         go_wp2
         go_ret
         exact ⟨_, by first | rfl | (simp [errW_none, errW_some] <;> rfl) | (simp [*, errW_none, errW_some] <;> rfl), by (with_reducible repeat (first | apply Kd.R_alloc | apply Kd.R_drewN | apply Kd.R_drew)); exact HO_8.out, by repeat (first | (with_reducible first | exact HB.out | apply bA_ | apply bN_ | apply bD_ | refine bS_ ?_ GE150.out) | exact HB.out)⟩
     ·rw [if_neg c30] at H
      have c30b0 : decide (0 < (x8_1.length : Int)) = false := decide_eq_false c30
      have c30b1 : decide (0 < x8_1.length) = false := decide_eq_false (by omega)
      clear c30
      obtain rfl := Option.some.inj H
      obtain ⟨Ao45, co45, eo45⟩ := Kd.R_slice HO_8.out
      subst eo45
      go_wp2
      go_ret
      exact ⟨_, by first | rfl | (simp [errW_none, errW_some] <;> rfl) | (simp [*, errW_none, errW_some] <;> rfl), by (with_reducible repeat (first | apply Kd.R_alloc | apply Kd.R_drewN | apply Kd.R_drew)); exact Kd.R_mono HO_8.out (fun _ hk => trivial), by repeat (first | (with_reducible first | exact HB.out | apply bA_ | apply bN_ | apply bD_ | refine bS_ ?_ GE150.out) | exact HB.out)⟩
 ·rw [if_neg c5] at H
  have c5b0 : ((l2.length : Int) == (t151.length : Int)) = false := beq_eq_false_iff_ne.mpr c5
  have c5b1 : ((l2.length : Int) != (t151.length : Int)) = true := bne_iff_ne.mpr c5
  have c5b2 : (l2.length == t151.length) = false := by first | simpa using c5 | (simp at c5 ⊢; omega)
  obtain rfl := Option.some.inj H
  go_enter Try.func22, Try.ntmps22
  go_wp2_with (first | ((with_reducible refine gate_dst (N := 3) rfl ?_); refine box_event ?hg (N := 3) ?hd (cs := #[.int .i64 a0_0, .int .u64 a0_1, .int .u64 a0_2, .int .i64 a0_3, .int .i64 a0_4, .int .i64 a0_5, .int .i64 a0_6, .int .i64 a0_7, .int .i64 a0_8]) (t := 26) ?hr ?_; (case hd => rfl); (case hg => rfl); (case hr => first | (go_simp; done) | (go_simp; rfl)); intro gb150 hg w46 hbox hb; have n0_ := Aside0.mk (below_step (by repeat (first | (with_reducible first | exact HB.out | apply bA_ | apply bN_ | apply bD_) | exact HB.out)) hb); have n1_ := Aside0.mk (hbox); have n2_ := Aside0.mk ((by rw [hg]; exact (below_size (by repeat (first | (with_reducible first | exact HB.out | apply bA_ | apply bN_ | apply bD_) | exact HB.out))) : w.heap.size ≤ gb150)); have n3_ := Aside0.mk ((by rw [hg]; exact (below_size (by repeat (first | (with_reducible first | exact HB.out | apply bA_ | apply bN_ | apply bD_) | exact HB.out))) : w.heap.size ≤ gb150)); clear HB; have HB := n0_; have BK150 := n1_; have GW150 := n2_; have GE150 := n3_; clear n0_ n1_ n2_ n3_; clear hb hbox hg; obtain ⟨hcz47_0, hcz47_1, hcz47_2, hcz47_3, hcz47_4, hcz47_5, hcz47_6, hcz47_7, hcz47_8⟩ := cells9_ BK150.out; obtain ⟨hfz47_0, hfz47_1, hfz47_2, hfz47_3, hfz47_4, hfz47_5, hfz47_6, hfz47_7, hfz47_8⟩ := froz9_ BK150.out) | ((with_reducible refine gate_callee (f := 35) rfl ?_); refine goesL_ (some 15) rfl rfl Try.func35 (by kernel_rfl) rfl #[.agg #[.int .i64 a0_0, .int .u64 a0_1, .int .u64 a0_2, .int .i64 a0_3, .int .i64 a0_4, .int .i64 a0_5, .int .i64 a0_6, .int .i64 a0_7, .int .i64 a0_8]] rfl (by (try simp only [List.map_toArray, List.map_cons, List.map_nil]); first | done | rfl | (simp only [List.length_drop, List.length_take]; rfl)) ?_; (with_reducible refine (field_Masks.calls k a0_0 a0_1 a0_2 a0_3 a0_4 a0_5 a0_6 a0_7 a0_8 t151 _ A4.out).mono ?_); rintro e w48 ⟨v152, rfl, ho0, hb⟩; refine ⟨_, rfl, ?_⟩; have n0_ := Aside0.mk (Kd.R_lower ho0 (below_size (by repeat (first | (with_reducible first | exact HB.out | apply bA_ | apply bN_ | apply bD_ | refine bS_ ?_ GE150.out) | exact HB.out)))); have n1_ := Aside0.mk (blk_below (g := gb150) (o := .cells #[.int .i64 a0_0, .int .u64 a0_1, .int .u64 a0_2, .int .i64 a0_3, .int .i64 a0_4, .int .i64 a0_5, .int .i64 a0_6, .int .i64 a0_7, .int .i64 a0_8] 26 (0, 0)) (by (with_reducible repeat (first | refine kN_ ?_ _ | refine kD_ ?_ | refine kA_ ?_ _)); exact BK150.out) hb); have n2_ := Aside0.mk (below_step (by repeat (first | (with_reducible first | exact HB.out | apply bA_ | apply bN_ | apply bD_ | refine bS_ ?_ GE150.out) | exact HB.out)) hb); clear BK150; clear HB; have HO153 := n0_; have BK150 := n1_; have HB := n2_; clear n0_ n1_ n2_; (try clear hb); (try clear hb2); (try clear hk); (try clear hi); (try clear ho0); obtain ⟨Ao49, co49, eo49⟩ := Kd.R_slice HO153.out; subst eo49))
  go_ret
  exact ⟨_, by first | rfl | (simp [errW_none, errW_some] <;> rfl) | (simp [*, errW_none, errW_some] <;> rfl), by first | exact Kd.R_nil _ _ _ _ _ | exact Kd.N_nil _ _ _ _ _ | exact Kd.V_nil _ _ _ _ _ | exact Kd.Q_nil _ _ _ _ _ | exact Kd.S_nil _ _ _ _ _, by repeat (first | (with_reducible first | exact HB.out | apply bA_ | apply bN_ | apply bD_ | refine bS_ ?_ GE150.out) | exact HB.out)⟩

end Go.Proofs.Ytmnmidclaaiffaa.PFieldConverts
