-- Written by a program of this session's (wip/print_patch.py over the kit's print) out of the translation; Lean checks it.
import Derived.Test.YtmnmidclaaiffabPBytecodePathsx0
import Derived.Test.YtmnmidclaaiffabPBytecodePathsx7
import Derived.Test.YtmnmidclaaiffabPBytecodePathsx8
import Derived.Test.YtmnmidclaaiffabExtP
namespace Go.Proofs.Ytmnmidclaaiffab.PBytecodePaths
open Go.RowKit Go.Proofs.Ytmnmidclaaiffab.Ext Go.Proofs.YtmnmidclaaiffabW.PrintWords Go.Proofs.YtmnmidclaaiffabW.PrintLast Go.Proofs.YtmnmidclaaiffabW.PrintMore
attribute [local go_sem] max2_int min2_int max_two min_two max_three min_three max_four min_four   -- for this text's walks alone
set_option linter.unusedVariables false
set_option linter.unusedSimpArgs false

/-! ### bytecode_Path: function 8 -/
mutual
def bytecode_Path.j2 : Nat → ByteArray → Int → Bool → Int → Option (Bool × Int × List ByteArray × Int × Int)
 | 0, _, _, _, _ => none
 | k + 1, x0, x6, x189000, x189001 => if x189001 > 32 then (some (false, 0, ([] : List ByteArray), 0, 3)) else (if 0 ≤ x6 then (if x6 ≤ (x0.size : Int) then ((bytecode_segments.f k (x0.extract (x6 : Int).toNat x0.size) x189000 x189001 ([] : List ByteArray)).bind fun bt189 => (if bt189.2.2 = 0 then (bytecode_Path.l1 k x0 (wrap64 (x6 + bt189.2.1)) bt189.1 0 x189000 x189001 ([] : List ByteArray)) else (some (false, 0, ([] : List ByteArray), 0, bt189.2.2)))) else (none)) else (none))
def bytecode_Path.l1 : Nat → ByteArray → Int → Int → Int → Bool → Int → List ByteArray → Option (Bool × Int × List ByteArray × Int × Int)
 | 0, _, _, _, _, _, _, _ => none
 | k + 1, x0, x6, x59, x60, x189000, x189001, x189002 => if x60 < x59 then (if 0 ≤ x6 then (if x6 ≤ (x0.size : Int) then ((bytecode_segment.f k (x0.extract (x6 : Int).toNat x0.size)).bind fun bt192 => (if bt192.2 = 0 then (if x189002.length < 8796093022208 then (bytecode_Path.l1 k x0 (wrap64 (x6 + 4)) x59 (wrap64 (x60 + 1)) x189000 x189001 (x189002 ++ [bt192.1])) else (none)) else (some (false, 0, ([] : List ByteArray), 0, bt192.2)))) else (none)) else (none)) else (some (x189000, x189001, x189002, x6, 0))
def bytecode_Path.j0 : Nat → ByteArray → Int → Bool → Bool → Int → Option (Bool × Int × List ByteArray × Int × Int)
 | 0, _, _, _, _, _ => none
 | k + 1, x0, x6, x30, x189000, x189001 => if x30 = true then (bytecode_Path.j2 k x0 1 true x189001) else (bytecode_Path.l0 k x0 x6 x189000 x189001)
def bytecode_Path.l0 : Nat → ByteArray → Int → Bool → Int → Option (Bool × Int × List ByteArray × Int × Int)
 | 0, _, _, _, _ => none
 | k + 1, x0, x6, x189000, x189001 => if x6 < (x0.size : Int) then (if 0 ≤ x6 then (if (bt x0 x6) = 94 then (if x6 ≤ 32 then (bytecode_Path.l0 k x0 (wrap64 (x6 + 1)) x189000 x189001) else (bytecode_Path.j2 k x0 x6 x189000 x6)) else (bytecode_Path.j2 k x0 x6 x189000 x6)) else (none)) else (bytecode_Path.j2 k x0 x6 x189000 x6)
end
def bytecode_Path.f (k : Nat) (a0 : ByteArray) : Option (Bool × Int × List ByteArray × Int × Int) := if a0.toList = ([] : List UInt8) then (bytecode_Path.j0 k a0 0 false false 0) else (if 0 < (a0.size : Int) then (bytecode_Path.j0 k a0 0 ((bt a0 0) == 92) false 0) else (none))
theorem bytecode_Path.mono_l : ∀ k, (∀ y0 y1 y2 y3, LeO (bytecode_Path.j2 k y0 y1 y2 y3) (bytecode_Path.j2 (k + 1) y0 y1 y2 y3)) ∧ (∀ y0 y1 y2 y3 y4 y5 y6, LeO (bytecode_Path.l1 k y0 y1 y2 y3 y4 y5 y6) (bytecode_Path.l1 (k + 1) y0 y1 y2 y3 y4 y5 y6)) ∧ (∀ y0 y1 y2 y3 y4, LeO (bytecode_Path.j0 k y0 y1 y2 y3 y4) (bytecode_Path.j0 (k + 1) y0 y1 y2 y3 y4)) ∧ (∀ y0 y1 y2 y3, LeO (bytecode_Path.l0 k y0 y1 y2 y3) (bytecode_Path.l0 (k + 1) y0 y1 y2 y3))
 | 0 => ⟨fun _ _ _ _ r h => by simp [bytecode_Path.j2] at h, fun _ _ _ _ _ _ _ r h => by simp [bytecode_Path.l1] at h, fun _ _ _ _ _ r h => by simp [bytecode_Path.j0] at h, fun _ _ _ _ r h => by simp [bytecode_Path.l0] at h⟩
 | k + 1 => by
  obtain ⟨ih0, ih1, ih2, ih3⟩ := bytecode_Path.mono_l k
  refine ⟨?_, ?_, ?_, ?_⟩
  ·intro y0 y1 y2 y3
   unfold bytecode_Path.j2
   repeat' first
   | (with_reducible exact ih0 _ _ _ _)
   | (with_reducible exact ih1 _ _ _ _ _ _ _)
   | (with_reducible exact ih2 _ _ _ _ _)
   | (with_reducible exact ih3 _ _ _ _)
   | (with_reducible exact bytecode_segment.mono _ _)
   | (with_reducible exact bytecode_segments.mono _ _ _ _ _)
   | (with_reducible exact LeO.refl _)
   | (with_reducible exact LeO.none _)
   | (with_reducible refine LeO.ite ?_ ?_)
   | (with_reducible refine LeO.bind ?_ (fun _ => ?_))
   | exact ih0 _ _ _ _
   | exact ih1 _ _ _ _ _ _ _
   | exact ih2 _ _ _ _ _
   | exact ih3 _ _ _ _
   | exact bytecode_segment.mono _ _
   | exact bytecode_segments.mono _ _ _ _ _
   | exact LeO.none _
   | refine LeO.ite ?_ ?_
   | refine LeO.bind ?_ (fun _ => ?_)
  ·intro y0 y1 y2 y3 y4 y5 y6
   unfold bytecode_Path.l1
   repeat' first
   | (with_reducible exact ih0 _ _ _ _)
   | (with_reducible exact ih1 _ _ _ _ _ _ _)
   | (with_reducible exact ih2 _ _ _ _ _)
   | (with_reducible exact ih3 _ _ _ _)
   | (with_reducible exact bytecode_segment.mono _ _)
   | (with_reducible exact bytecode_segments.mono _ _ _ _ _)
   | (with_reducible exact LeO.refl _)
   | (with_reducible exact LeO.none _)
   | (with_reducible refine LeO.ite ?_ ?_)
   | (with_reducible refine LeO.bind ?_ (fun _ => ?_))
   | exact ih0 _ _ _ _
   | exact ih1 _ _ _ _ _ _ _
   | exact ih2 _ _ _ _ _
   | exact ih3 _ _ _ _
   | exact bytecode_segment.mono _ _
   | exact bytecode_segments.mono _ _ _ _ _
   | exact LeO.none _
   | refine LeO.ite ?_ ?_
   | refine LeO.bind ?_ (fun _ => ?_)
  ·intro y0 y1 y2 y3 y4
   unfold bytecode_Path.j0
   repeat' first
   | (with_reducible exact ih0 _ _ _ _)
   | (with_reducible exact ih1 _ _ _ _ _ _ _)
   | (with_reducible exact ih2 _ _ _ _ _)
   | (with_reducible exact ih3 _ _ _ _)
   | (with_reducible exact bytecode_segment.mono _ _)
   | (with_reducible exact bytecode_segments.mono _ _ _ _ _)
   | (with_reducible exact LeO.refl _)
   | (with_reducible exact LeO.none _)
   | (with_reducible refine LeO.ite ?_ ?_)
   | (with_reducible refine LeO.bind ?_ (fun _ => ?_))
   | exact ih0 _ _ _ _
   | exact ih1 _ _ _ _ _ _ _
   | exact ih2 _ _ _ _ _
   | exact ih3 _ _ _ _
   | exact bytecode_segment.mono _ _
   | exact bytecode_segments.mono _ _ _ _ _
   | exact LeO.none _
   | refine LeO.ite ?_ ?_
   | refine LeO.bind ?_ (fun _ => ?_)
  ·intro y0 y1 y2 y3
   unfold bytecode_Path.l0
   repeat' first
   | (with_reducible exact ih0 _ _ _ _)
   | (with_reducible exact ih1 _ _ _ _ _ _ _)
   | (with_reducible exact ih2 _ _ _ _ _)
   | (with_reducible exact ih3 _ _ _ _)
   | (with_reducible exact bytecode_segment.mono _ _)
   | (with_reducible exact bytecode_segments.mono _ _ _ _ _)
   | (with_reducible exact LeO.refl _)
   | (with_reducible exact LeO.none _)
   | (with_reducible refine LeO.ite ?_ ?_)
   | (with_reducible refine LeO.bind ?_ (fun _ => ?_))
   | exact ih0 _ _ _ _
   | exact ih1 _ _ _ _ _ _ _
   | exact ih2 _ _ _ _ _
   | exact ih3 _ _ _ _
   | exact bytecode_segment.mono _ _
   | exact bytecode_segments.mono _ _ _ _ _
   | exact LeO.none _
   | refine LeO.ite ?_ ?_
   | refine LeO.bind ?_ (fun _ => ?_)
theorem bytecode_Path.mono : ∀ a0 k, LeO (bytecode_Path.f k a0) (bytecode_Path.f (k + 1) a0) := by
 intro a0 k
 obtain ⟨ih0, ih1, ih2, ih3⟩ := bytecode_Path.mono_l k
 unfold bytecode_Path.f
 repeat' first
   | (with_reducible exact ih0 _ _ _ _)
   | (with_reducible exact ih1 _ _ _ _ _ _ _)
   | (with_reducible exact ih2 _ _ _ _ _)
   | (with_reducible exact ih3 _ _ _ _)
   | (with_reducible exact bytecode_segment.mono _ _)
   | (with_reducible exact bytecode_segments.mono _ _ _ _ _)
   | (with_reducible exact LeO.refl _)
   | (with_reducible exact LeO.none _)
   | (with_reducible refine LeO.ite ?_ ?_)
   | (with_reducible refine LeO.bind ?_ (fun _ => ?_))
   | exact ih0 _ _ _ _
   | exact ih1 _ _ _ _ _ _ _
   | exact ih2 _ _ _ _ _
   | exact ih3 _ _ _ _
   | exact bytecode_segment.mono _ _
   | exact bytecode_segments.mono _ _ _ _ _
   | exact LeO.none _
   | refine LeO.ite ?_ ?_
   | refine LeO.bind ?_ (fun _ => ?_)
def bytecode_Path.T10 : Bool × List (List Nat × List Nat) := (true, [([], []), ([], []), ([0, 1], [0, 1]), ([], []), ([2, 3], [2, 3]), ([4], [4]), ([5], [5]), ([5], [5]), ([5], [5]), ([6, 4, 0, 1, 2, 3, 4, 5, 6], [6]), ([7, 9, 0, 1, 2, 3, 4, 5, 6, 7, 9], [7]), ([8, 10, 0, 1, 2, 3, 4, 5, 6, 7, 8, 9, 10], [8])])
def bytecode_Path.B10 : List Nat := [0, 0, 3, 0, 15, 31, 63, 63, 63, 127, 767, 2047]
theorem bytecode_Path.tab10 : rtab .any (opsOf Try.f8 10) = bytecode_Path.T10 := by kernel_rfl
theorem bytecode_Path.bits10 : waitsOk bytecode_Path.T10.2 bytecode_Path.B10 = true := by kernel_rfl
set_option maxHeartbeats 8000000 in
set_option maxRecDepth 100000 in
theorem bytecode_Path.calls (k : Nat) (a0 : ByteArray) (r1 : Bool) (r2 : Int) (r3 : List ByteArray) (r4 : Int) (r5 : Int) (w : World) (h : bytecode_Path.f k a0 = some (r1, r2, r3, r4, r5)) :
  Calls Try.prog 8 #[.string a0] w fun e w' => ∃ v2_ : Value, e = .returned (.tuple #[.agg #[.bool r1, .int .i64 r2, v2_], .int .i64 r4, .int .i64 r5]) ∧ Kd.R Kd.string 9 w' w.heap.size (fun _ => True) v2_ r3 ∧ Below w.heap.size w w' := by
 have hu24 := Try.underlying24
 have HB := Aside0.mk (Below.refl w.heap.size w)
 have H : (if a0.toList = ([] : List UInt8) then (bytecode_Path.j0 k a0 0 false false 0) else (if 0 < (a0.size : Int) then (bytecode_Path.j0 k a0 0 ((bt a0 0) == 92) false 0) else (none))) = some (r1, r2, r3, r4, r5) := h
 clear h
 have HC2 := Aside0.mk H
 clear H
 go_enter Try.func8, Try.ntmps8
 go_upto_block 0 with (first | ((with_reducible refine gate_dst (N := 2) rfl ?_); refine box_event ?hg (N := 2) ?hd (cs := #[.bool false, .int .i64 0, .slice none 0 0]) (t := 24) ?hr ?_; (case hd => rfl); (case hg => rfl); (case hr => first | (go_simp; done) | (go_simp; rfl)); intro gb187 hg w3 hbox hb; have n0_ := Aside0.mk (below_step (by repeat (first | (with_reducible first | exact HB.out | apply bA_ | apply bN_ | apply bD_) | exact HB.out)) hb); have n1_ := Aside0.mk (hbox); have n2_ := Aside0.mk ((by rw [hg]; exact (below_size (by repeat (first | (with_reducible first | exact HB.out | apply bA_ | apply bN_ | apply bD_) | exact HB.out))) : w.heap.size ≤ gb187)); have n3_ := Aside0.mk ((by rw [hg]; exact (below_size (by repeat (first | (with_reducible first | exact HB.out | apply bA_ | apply bN_ | apply bD_) | exact HB.out))) : w.heap.size ≤ gb187)); clear HB; have HB := n0_; have BK187 := n1_; have GW187 := n2_; have GE187 := n3_; clear n0_ n1_ n2_ n3_; clear hb hbox hg) | ((with_reducible refine gate_dst (N := 5) rfl ?_); refine box_event ?hg (N := 5) ?hd (cs := #[.bool false, .int .i64 0, .slice none 0 0]) (t := 24) ?hr ?_; (case hd => rfl); (case hg => rfl); (case hr => first | (go_simp; done) | (go_simp; rfl)); intro gb188 hg w4 hbox hb; have n0_ := Aside0.mk (blk_below (g := gb187) (o := .cells #[.bool false, .int .i64 0, .slice none 0 0] 24 (0, 0)) (by (with_reducible repeat (first | refine kN_ ?_ _ | refine kD_ ?_ | refine kA_ ?_ _)); exact BK187.out) hb); have n1_ := Aside0.mk (below_step (by repeat (first | (with_reducible first | exact HB.out | apply bA_ | apply bN_ | apply bD_ | refine bS_ ?_ GE187.out) | exact HB.out)) hb); have n2_ := Aside0.mk (hbox); have n3_ := Aside0.mk ((by rw [hg]; exact (below_size (by repeat (first | (with_reducible first | exact HB.out | apply bA_ | apply bN_ | apply bD_ | refine bS_ ?_ GE187.out) | exact HB.out))) : w.heap.size ≤ gb188)); have n4_ := Aside0.mk ((by rw [hg]; exact (below_size (by repeat (first | (with_reducible first | exact HB.out | apply bA_ | apply bN_ | apply bD_ | refine bS_ ?_ GE187.out) | exact HB.out))) : w.heap.size ≤ gb188)); have n5_ := Aside0.mk ((by rw [hg]; exact Nat.ne_of_lt (blk_lt (g := gb187) (o := .cells #[.bool false, .int .i64 0, .slice none 0 0] 24 (0, 0)) (by (with_reducible repeat (first | refine kN_ ?_ _ | refine kD_ ?_ | refine kA_ ?_ _)); exact BK187.out)) : gb187 ≠ gb188)); have n6_ := Aside0.mk ((by rw [hg]; exact Nat.ne_of_gt (blk_lt (g := gb187) (o := .cells #[.bool false, .int .i64 0, .slice none 0 0] 24 (0, 0)) (by (with_reducible repeat (first | refine kN_ ?_ _ | refine kD_ ?_ | refine kA_ ?_ _)); exact BK187.out)) : gb188 ≠ gb187)); clear BK187; clear HB; have BK187 := n0_; have HB := n1_; have BK188 := n2_; have GW188 := n3_; have GE188 := n4_; have NB187_188 := n5_; have NB188_187 := n6_; clear n0_ n1_ n2_ n3_ n4_ n5_ n6_; clear hb hbox hg))
 (try simp only [Act.put, sA_, sB_, sC_])
 go_cut [6] (fun v6 wc => ∃ (kq : Nat) (x6_1 : Int) (x189000_1 : Bool) (x189001_1 : Int), v6 = .int .i64 x6_1 ∧ Aside0 (bytecode_Path.j2 kq a0 x6_1 x189000_1 x189001_1 = some (r1, r2, r3, r4, r5)) ∧ Aside0 (kq ≤ k) ∧ Aside0 (wc.heap[gb187]? = some (.cells #[.bool false, .int .i64 0, (.slice none 0 0)] 24 (0, 0))) ∧ Aside0 (wc.heap[gb188]? = some (.cells #[.bool x189000_1, .int .i64 x189001_1, (.slice none 0 0)] 24 (0, 0))) ∧ Aside0 (Below w.heap.size w wc))
 case first =>
  have H := HC2.out
  clear HC2
  have HC5 := Aside0.mk H
  clear H
  go_upto_region 6 with (fail)
  go_cut [30] (fun v30 wc => ∃ (kq : Nat) (x30_4 : Bool), v30 = .bool x30_4 ∧ Aside0 (bytecode_Path.j0 kq a0 0 x30_4 false 0 = some (r1, r2, r3, r4, r5)) ∧ Aside0 (kq ≤ k) ∧ Aside0 (wc.heap[gb187]? = some (.cells #[.bool false, .int .i64 0, (.slice none 0 0)] 24 (0, 0))) ∧ Aside0 (wc.heap[gb188]? = some (.cells #[.bool false, .int .i64 0, (.slice none 0 0)] 24 (0, 0))) ∧ Aside0 (Below w.heap.size w wc))
  case first =>
   have H := HC5.out
   clear HC5
   by_cases c6 : a0.toList = ([] : List UInt8)
   ·rw [if_pos c6] at H
    have c6b0 : (a0.toList == ([] : List UInt8)) = true := beq_iff_eq.mpr c6
    have c6b1 : (a0.toList != ([] : List UInt8)) = false := bne_eq_false_iff_eq.mpr c6
    clear c6
    (first | rw [c6b0] | (simp only [i64_w, i32_w]; rw [c6b0]) | skip)
    have H' := Aside0.mk H
    clear H
    go_wp2
    go_meet
    case rel => exact ⟨_, (false), (by first | rfl | (simp; done) | (simp [*]; done)), H', ⟨by first | omega | exact Nat.le_refl _⟩, ⟨by (with_reducible repeat (first | refine kN_ ?_ _ | refine kD_ ?_ | refine kA_ ?_ _)); exact BK187.out⟩, ⟨by (with_reducible repeat (first | refine kN_ ?_ _ | refine kD_ ?_ | refine kA_ ?_ _)); exact BK188.out⟩, ⟨by repeat (first | (with_reducible first | exact HB.out | apply bA_ | apply bN_ | apply bD_ | refine bS_ ?_ GE187.out | refine bS_ ?_ GE188.out) | exact HB.out)⟩⟩
   ·rw [if_neg c6] at H
    have c6b0 : (a0.toList == ([] : List UInt8)) = false := beq_eq_false_iff_ne.mpr c6
    have c6b1 : (a0.toList != ([] : List UInt8)) = true := bne_iff_ne.mpr c6
    (first | rw [c6b0] | (simp only [i64_w, i32_w]; rw [c6b0]) | skip)
    by_cases c7 : 0 < (a0.size : Int)
    ·rw [if_pos c7] at H
     have c7b0 : decide (0 < (a0.size : Int)) = true := decide_eq_true c7
     have c7b1 : decide (0 < a0.size) = true := decide_eq_true (by omega)
     clear c7
     have H' := Aside0.mk H
     clear H
     have p8 : 0 ≤ (0 : Int) := (by omega)
     have q8 : 0 < a0.size := (by have : (0 : Int) < (a0.size : Int) := of_decide_eq_true (by first | (with_reducible assumption) | assumption); omega)
     have hx8 : ∀ h : 0 < a0.size, ((a0[0]'h).toNat : Int) = bt a0 0 := bt_at a0 0
     clear p8
     have qi8 : (0 < (a0.size : Int)) = True := eq_true (of_decide_eq_true (by first | (with_reducible assumption) | assumption))
     replace q8 := eq_true q8
     go_wp2
     go_meet
     case rel => exact ⟨_, (((bt a0 0) == 92)), (by first | rfl | (simp; done) | (simp [*]; done)), H', ⟨by first | omega | exact Nat.le_refl _⟩, ⟨by (with_reducible repeat (first | refine kN_ ?_ _ | refine kD_ ?_ | refine kA_ ?_ _)); exact BK187.out⟩, ⟨by (with_reducible repeat (first | refine kN_ ?_ _ | refine kD_ ?_ | refine kA_ ?_ _)); exact BK188.out⟩, ⟨by repeat (first | (with_reducible first | exact HB.out | apply bA_ | apply bN_ | apply bD_ | refine bS_ ?_ GE187.out | refine bS_ ?_ GE188.out) | exact HB.out)⟩⟩
    ·rw [if_neg c7] at H
     exact absurd H (by simp)
  case rest =>
   clear HC5
   try clear p2
   try clear c6
   try clear c6b0
   try clear c6b1
   try clear c7
   try clear c7b0
   try clear c7b1
   try clear c8
   try clear p8
   try clear q8
   try clear hx8
   try clear qi8
   try clear p8
   try clear q8
   obtain ⟨kq, x30_4, rfl, HA, HJ4, BK187, BK188, HB⟩ := hcut
   cases kq with
   | zero => exact absurd HA.out (by simp [bytecode_Path.j0])
   | succ kj4 =>
    have H := HA.out
    clear HA
    simp only [bytecode_Path.j0] at H
    by_cases c9 : x30_4 = true
    ·subst c9
     have H1 : (bytecode_Path.j2 kj4 a0 1 true 0) = some (r1, r2, r3, r4, r5) := by rw [if_pos rfl] at H; exact H
     clear H
     have H := H1
     clear H1
     have H' := Aside0.mk H
     clear H
     have hnb10 := NB188_187.out
     have hnc10 := NB187_188.out
     obtain ⟨hcz11_0, hcz11_1, hcz11_2⟩ := cells3_ BK188.out
     obtain ⟨hfz11_0, hfz11_1, hfz11_2⟩ := froz3_ BK188.out
     go_wp2
     go_meet
     case rel => exact ⟨_, (1), (true), (0), (by first | rfl | (simp; done) | (simp [*]; done)), H', ⟨by have := HJ4.out; first | omega | exact Nat.le_refl _⟩, ⟨by (with_reducible repeat (first | refine kN_ ?_ _ | refine kD_ ?_ | refine kA_ ?_ _)); refine blk_far ?_ NB187_188.out _; (with_reducible repeat (first | refine kN_ ?_ _ | refine kD_ ?_ | refine kA_ ?_ _)); exact BK187.out⟩, ⟨by (with_reducible repeat (first | refine kN_ ?_ _ | refine kD_ ?_ | refine kA_ ?_ _)); refine blk_put (cs := #[.bool false, .int .i64 0, .slice none 0 0]) ?_ 0 _ rfl; (with_reducible repeat (first | refine kN_ ?_ _ | refine kD_ ?_ | refine kA_ ?_ _)); exact BK188.out⟩, ⟨by repeat (first | (with_reducible first | exact HB.out | apply bA_ | apply bN_ | apply bD_ | refine bS_ ?_ GE187.out | refine bS_ ?_ GE188.out) | exact HB.out)⟩⟩
    ·replace c9 := Bool.eq_false_iff.mpr c9
     subst c9
     have H1 : (bytecode_Path.l0 kj4 a0 0 false 0) = some (r1, r2, r3, r4, r5) := by rw [if_neg (show ¬ (false = true) by decide)] at H; exact H
     clear H
     have H := H1
     clear H1
     have H' := Aside0.mk H
     clear H
     go_wp2
     go_loopg [6] kj4 (fun kq v6 w' => ∃ (x6_2 : Int), v6 = .int .i64 x6_2 ∧ Aside0 (bytecode_Path.l0 kq a0 x6_2 false 0 = some (r1, r2, r3, r4, r5)) ∧ Aside0 (kq ≤ kj4) ∧ Aside0 (w'.heap[gb187]? = some (.cells #[.bool false, .int .i64 0, (.slice none 0 0)] 24 (0, 0))) ∧ Aside0 (w'.heap[gb188]? = some (.cells #[.bool false, .int .i64 0, (.slice none 0 0)] 24 (0, 0))) ∧ Aside0 (Below w.heap.size w w'))
     case atStart => exact ⟨(0), (by first | rfl | (simp; done) | (simp [*]; done)), H', ⟨Nat.le_refl _⟩, ⟨by (with_reducible repeat (first | refine kN_ ?_ _ | refine kD_ ?_ | refine kA_ ?_ _)); exact BK187.out⟩, ⟨by (with_reducible repeat (first | refine kN_ ?_ _ | refine kD_ ?_ | refine kA_ ?_ _)); exact BK188.out⟩, ⟨by repeat (first | (with_reducible first | exact HB.out | apply bA_ | apply bN_ | apply bD_ | refine bS_ ?_ GE187.out | refine bS_ ?_ GE188.out) | exact HB.out)⟩⟩
     case round =>
      clear H'
      try clear c1
      try clear p2
      try clear c6
      try clear c6b0
      try clear c6b1
      try clear c7
      try clear c7b0
      try clear c7b1
      try clear c8
      try clear p8
      try clear q8
      try clear hx8
      try clear qi8
      try clear c9
      try clear c10
      try clear hcz11_0 hcz11_1 hcz11_2
      try clear hfz11_0 hfz11_1 hfz11_2
      try clear p2
      try clear p8
      try clear q8
      obtain ⟨x6_2, rfl, HA, HK2, BK187, BK188, HB⟩ := hrel
      cases gk with
      | zero => exact absurd HA.out (by simp [bytecode_Path.l0])
      | succ k2 =>
       have H := HA.out
       clear HA
       simp only [bytecode_Path.l0] at H
       by_cases c12 : x6_2 < (a0.size : Int)
       ·rw [if_pos c12] at H
        have c12b0 : decide (x6_2 < (a0.size : Int)) = true := decide_eq_true c12
        clear c12
        by_cases c13 : 0 ≤ x6_2
        ·rw [if_pos c13] at H
         have c13b0 : decide (0 ≤ x6_2) = true := decide_eq_true c13
         clear c13
         by_cases c15 : (bt a0 x6_2) = 94
         ·rw [if_pos c15] at H
          have c15b0 : ((bt a0 x6_2) == 94) = true := beq_iff_eq.mpr c15
          have c15b1 : ((bt a0 x6_2) != 94) = false := bne_eq_false_iff_eq.mpr c15
          clear c15
          by_cases c16 : x6_2 ≤ 32
          ·rw [if_pos c16] at H
           have c16b0 : decide (x6_2 ≤ 32) = true := decide_eq_true c16
           clear c16
           have H' := Aside0.mk H
           clear H
           have p14 : 0 ≤ (x6_2 : Int) := of_decide_eq_true (by first | (with_reducible assumption) | assumption)
           have q14 : x6_2 < (a0.size : Int) := of_decide_eq_true (by first | (with_reducible assumption) | assumption)
           have hx14 := bt_at a0 x6_2
           replace p14 := eq_true p14
           replace q14 := eq_true q14
           go_wp2
           go_roundg k2
           case measure => have := HJ4.out; have := HK2.out; omega
           case rel => exact ⟨(wrap64 (x6_2 + 1)), (by first | rfl | (simp; done) | (simp [*]; done)), H', ⟨by have := HJ4.out; have := HK2.out; omega⟩, ⟨by (with_reducible repeat (first | refine kN_ ?_ _ | refine kD_ ?_ | refine kA_ ?_ _)); exact BK187.out⟩, ⟨by (with_reducible repeat (first | refine kN_ ?_ _ | refine kD_ ?_ | refine kA_ ?_ _)); exact BK188.out⟩, ⟨by repeat (first | (with_reducible first | exact HB.out | apply bA_ | apply bN_ | apply bD_ | refine bS_ ?_ GE187.out | refine bS_ ?_ GE188.out) | exact HB.out)⟩⟩
          ·rw [if_neg c16] at H
           have c16b0 : decide (x6_2 ≤ 32) = false := decide_eq_false c16
           clear c16
           have H' := Aside0.mk H
           clear H
           have p14 : 0 ≤ (x6_2 : Int) := of_decide_eq_true (by first | (with_reducible assumption) | assumption)
           have q14 : x6_2 < (a0.size : Int) := of_decide_eq_true (by first | (with_reducible assumption) | assumption)
           have hx14 := bt_at a0 x6_2
           replace p14 := eq_true p14
           replace q14 := eq_true q14
           have hnb17 := NB188_187.out
           have hnc17 := NB187_188.out
           obtain ⟨hcz18_0, hcz18_1, hcz18_2⟩ := cells3_ BK188.out
           obtain ⟨hfz18_0, hfz18_1, hfz18_2⟩ := froz3_ BK188.out
           go_wp2
           go_meet
           case rel => exact ⟨_, (x6_2), (false), (x6_2), (by first | rfl | (simp; done) | (simp [*]; done)), H', ⟨by have := HJ4.out; have := HK2.out; first | omega | exact Nat.le_refl _⟩, ⟨by (with_reducible repeat (first | refine kN_ ?_ _ | refine kD_ ?_ | refine kA_ ?_ _)); refine blk_far ?_ NB187_188.out _; (with_reducible repeat (first | refine kN_ ?_ _ | refine kD_ ?_ | refine kA_ ?_ _)); exact BK187.out⟩, ⟨by (with_reducible repeat (first | refine kN_ ?_ _ | refine kD_ ?_ | refine kA_ ?_ _)); refine blk_put (cs := #[.bool false, .int .i64 0, .slice none 0 0]) ?_ 1 _ rfl; (with_reducible repeat (first | refine kN_ ?_ _ | refine kD_ ?_ | refine kA_ ?_ _)); exact BK188.out⟩, ⟨by repeat (first | (with_reducible first | exact HB.out | apply bA_ | apply bN_ | apply bD_ | refine bS_ ?_ GE187.out | refine bS_ ?_ GE188.out) | exact HB.out)⟩⟩
         ·rw [if_neg c15] at H
          have c15b0 : ((bt a0 x6_2) == 94) = false := beq_eq_false_iff_ne.mpr c15
          have c15b1 : ((bt a0 x6_2) != 94) = true := bne_iff_ne.mpr c15
          have H' := Aside0.mk H
          clear H
          have p14 : 0 ≤ (x6_2 : Int) := of_decide_eq_true (by first | (with_reducible assumption) | assumption)
          have q14 : x6_2 < (a0.size : Int) := of_decide_eq_true (by first | (with_reducible assumption) | assumption)
          have hx14 := bt_at a0 x6_2
          replace p14 := eq_true p14
          replace q14 := eq_true q14
          have hnb19 := NB188_187.out
          have hnc19 := NB187_188.out
          obtain ⟨hcz20_0, hcz20_1, hcz20_2⟩ := cells3_ BK188.out
          obtain ⟨hfz20_0, hfz20_1, hfz20_2⟩ := froz3_ BK188.out
          go_wp2
          go_meet
          case rel => exact ⟨_, (x6_2), (false), (x6_2), (by first | rfl | (simp; done) | (simp [*]; done)), H', ⟨by have := HJ4.out; have := HK2.out; first | omega | exact Nat.le_refl _⟩, ⟨by (with_reducible repeat (first | refine kN_ ?_ _ | refine kD_ ?_ | refine kA_ ?_ _)); refine blk_far ?_ NB187_188.out _; (with_reducible repeat (first | refine kN_ ?_ _ | refine kD_ ?_ | refine kA_ ?_ _)); exact BK187.out⟩, ⟨by (with_reducible repeat (first | refine kN_ ?_ _ | refine kD_ ?_ | refine kA_ ?_ _)); refine blk_put (cs := #[.bool false, .int .i64 0, .slice none 0 0]) ?_ 1 _ rfl; (with_reducible repeat (first | refine kN_ ?_ _ | refine kD_ ?_ | refine kA_ ?_ _)); exact BK188.out⟩, ⟨by repeat (first | (with_reducible first | exact HB.out | apply bA_ | apply bN_ | apply bD_ | refine bS_ ?_ GE187.out | refine bS_ ?_ GE188.out) | exact HB.out)⟩⟩
        ·rw [if_neg c13] at H
         exact absurd H (by simp)
       ·rw [if_neg c12] at H
        have c12b0 : decide (x6_2 < (a0.size : Int)) = false := decide_eq_false c12
        clear c12
        have H' := Aside0.mk H
        clear H
        have hnb21 := NB188_187.out
        have hnc21 := NB187_188.out
        obtain ⟨hcz22_0, hcz22_1, hcz22_2⟩ := cells3_ BK188.out
        obtain ⟨hfz22_0, hfz22_1, hfz22_2⟩ := froz3_ BK188.out
        go_wp2
        go_meet
        case rel => exact ⟨_, (x6_2), (false), (x6_2), (by first | rfl | (simp; done) | (simp [*]; done)), H', ⟨by have := HJ4.out; have := HK2.out; first | omega | exact Nat.le_refl _⟩, ⟨by (with_reducible repeat (first | refine kN_ ?_ _ | refine kD_ ?_ | refine kA_ ?_ _)); refine blk_far ?_ NB187_188.out _; (with_reducible repeat (first | refine kN_ ?_ _ | refine kD_ ?_ | refine kA_ ?_ _)); exact BK187.out⟩, ⟨by (with_reducible repeat (first | refine kN_ ?_ _ | refine kD_ ?_ | refine kA_ ?_ _)); refine blk_put (cs := #[.bool false, .int .i64 0, .slice none 0 0]) ?_ 1 _ rfl; (with_reducible repeat (first | refine kN_ ?_ _ | refine kD_ ?_ | refine kA_ ?_ _)); exact BK188.out⟩, ⟨by repeat (first | (with_reducible first | exact HB.out | apply bA_ | apply bN_ | apply bD_ | refine bS_ ?_ GE187.out | refine bS_ ?_ GE188.out) | exact HB.out)⟩⟩
 case rest =>
  clear HC2
  try clear c1
  try clear p1
  try clear q1
  try clear hx1
  try clear c2
  try clear p2
  try clear c6
  try clear c6b0
  try clear c6b1
  try clear p6
  try clear c7
  try clear c7b0
  try clear c7b1
  try clear c8
  try clear p8
  try clear q8
  try clear hx8
  try clear qi8
  try clear c9
  try clear c10
  try clear c12
  try clear c12b0
  try clear c13
  try clear c13b0
  try clear p14
  try clear q14
  try clear hx14
  try clear c15
  try clear c15b0
  try clear c15b1
  try clear c16
  try clear c16b0
  try clear c17
  try clear c19
  try clear c21
  try clear hcz11_0 hcz11_1 hcz11_2
  try clear hcz18_0 hcz18_1 hcz18_2
  try clear hcz20_0 hcz20_1 hcz20_2
  try clear hcz22_0 hcz22_1 hcz22_2
  try clear hfz11_0 hfz11_1 hfz11_2
  try clear hfz18_0 hfz18_1 hfz18_2
  try clear hfz20_0 hfz20_1 hfz20_2
  try clear hfz22_0 hfz22_1 hfz22_2
  try clear p14
  try clear p2
  try clear p8
  try clear q14
  try clear q8
  obtain ⟨kq, x6_1, x189000_1, x189001_1, rfl, HA, HJ1, BK187, BK188, HB⟩ := hcut
  cases kq with
  | zero => exact absurd HA.out (by simp [bytecode_Path.j2])
  | succ kj1 =>
   have H := HA.out
   clear HA
   simp only [bytecode_Path.j2] at H
   by_cases c23 : x189001_1 > 32
   ·rw [if_pos c23] at H
    have c23b0 : decide (32 < x189001_1) = true := decide_eq_true c23
    clear c23
    simp only [Option.some.injEq, Prod.mk.injEq] at H
    obtain ⟨rfl, rfl, rfl, rfl, rfl⟩ := H
    have hnb24 := NB188_187.out
    have hnc24 := NB187_188.out
    obtain ⟨hcz25_0, hcz25_1, hcz25_2⟩ := cells3_ BK188.out
    obtain ⟨hfz25_0, hfz25_1, hfz25_2⟩ := froz3_ BK188.out
    obtain ⟨hcz26_0, hcz26_1, hcz26_2⟩ := cells3_ BK187.out
    obtain ⟨hfz26_0, hfz26_1, hfz26_2⟩ := froz3_ BK187.out
    go_wp2
    refine bodyPost_ret (results_ctt rfl _ _ gb187 24 #[.bool false, .int .i64 0, .slice none 0 0] (0, 0) _ rfl (by (with_reducible repeat (first | refine kN_ ?_ _ | refine kD_ ?_ | refine kA_ ?_ _)); refine blk_put (cs := #[.bool false, .int .i64 0, .slice none 0 0]) ?_ 2 _ rfl; (with_reducible repeat (first | refine kN_ ?_ _ | refine kD_ ?_ | refine kA_ ?_ _)); refine blk_put (cs := #[.bool false, .int .i64 0, .slice none 0 0]) ?_ 1 _ rfl; (with_reducible repeat (first | refine kN_ ?_ _ | refine kD_ ?_ | refine kA_ ?_ _)); refine blk_put (cs := #[.bool false, .int .i64 0, .slice none 0 0]) ?_ 0 _ rfl; (with_reducible repeat (first | refine kN_ ?_ _ | refine kD_ ?_ | refine kA_ ?_ _)); exact BK187.out) Try.underlying24 rfl (by kernel_rfl)) rfl ?_
    exact ⟨_, by first | rfl | (simp [errW_none, errW_some] <;> rfl) | (simp [*, errW_none, errW_some] <;> rfl), by first | exact Kd.R_nil _ _ _ _ _ | exact Kd.N_nil _ _ _ _ _ | exact Kd.V_nil _ _ _ _ _ | exact Kd.Q_nil _ _ _ _ _ | exact Kd.S_nil _ _ _ _ _, by repeat (first | (with_reducible first | exact HB.out | apply bA_ | apply bN_ | apply bD_ | refine bS_ ?_ GE187.out | refine bS_ ?_ GE188.out) | exact HB.out)⟩
   ·rw [if_neg c23] at H
    have c23b0 : decide (32 < x189001_1) = false := decide_eq_false c23
    clear c23
    by_cases c27 : 0 ≤ x6_1
    ·rw [if_pos c27] at H
     have c27b0 := eq_true c27
     have c27b1 : decide (0 ≤ x6_1) = true := decide_eq_true c27
     clear c27
     by_cases c28 : x6_1 ≤ (a0.size : Int)
     ·rw [if_pos c28] at H
      have c28b0 := eq_true c28
      have c28b1 : decide (x6_1 ≤ (a0.size : Int)) = true := decide_eq_true c28
      clear c28
      replace H := Option.bind_eq_some_iff.mp H
      obtain ⟨⟨t189, t190, t191⟩, A290, H⟩ := H
      replace H : (if t191 = 0 then (bytecode_Path.l1 kj1 a0 (wrap64 (x6_1 + t190)) t189 0 x189000_1 x189001_1 ([] : List ByteArray)) else (some (false, 0, ([] : List ByteArray), 0, t191))) = some (r1, r2, r3, r4, r5) := H
      have A29 := Aside0.mk A290
      clear A290
      by_cases c30 : t191 = 0
      ·rw [if_pos c30] at H
       have c30b0 : (t191 == 0) = true := beq_iff_eq.mpr c30
       have c30b1 : (t191 != 0) = false := bne_eq_false_iff_eq.mpr c30
       clear c30
       have H' := Aside0.mk H
       clear H
       have hnb31 := NB188_187.out
       have hnc31 := NB187_188.out
       obtain ⟨hcz32_0, hcz32_1, hcz32_2⟩ := cells3_ BK188.out
       obtain ⟨hfz32_0, hfz32_1, hfz32_2⟩ := froz3_ BK188.out
       try go_wp2
       have n0_ := Aside0.mk (kD_ BK187.out)
       have n1_ := Aside0.mk (kD_ BK188.out)
       have n2_ := Aside0.mk (bD_ HB.out)
       clear BK187
       clear BK188
       clear HB
       have BK187 := n0_
       have BK188 := n1_
       have HB := n2_
       clear n0_ n1_ n2_
       refine start_ (n := 12) (S := fun w' => w'.cell? ⟨gb188, 0, none⟩ = some (.bool x189000_1) ∧ w'.cell? ⟨gb188, 1, none⟩ = some (.int .i64 x189001_1) ∧ w'.cell? ⟨gb188, 2, none⟩ = some (.slice none 0 0)) (ds := []) #[false, false, false, false, false, false, false, false, false, false, false, false] (by kernel_rfl) rfl rfl (cells3_ BK188.out) (fun hHeld => ?_); refine with_tabW bytecode_Path.tab10 bytecode_Path.bits10 (fun HT_ HW_ => ?_)
       generalize wc.drew = w33 at BK187 BK188 HB hHeld ⊢
       refine pure_ (i := 0) (N := some 44) (v := ?_) (a' := ?_) (tf 12 1) rfl rfl (any_of HT_.out (by kernel_rfl)) (fun _ _ _ h => h) (Or.inl ⟨by rfl, ?_⟩) ?_ ?_
       rotate_left
       ·intro w'
        go_simp
        with_reducible rfl
       rotate_left
       ·simp only [Act.put, sA_, sB_, sC_, i64_w, i32_w]
        rfl
       refine pure_ (i := 1) (N := some 45) (v := ?_) (a' := ?_) (tf 12 3) rfl rfl (any_of HT_.out (by kernel_rfl)) (fun _ _ _ h => h) (Or.inl ⟨by rfl, ?_⟩) ?_ ?_
       rotate_left
       ·intro w'
        go_simp
        with_reducible rfl
       rotate_left
       ·simp only [Act.put, sA_, sB_, sC_, i64_w, i32_w]
        rfl
       refine pure_ (i := 2) (N := some 46) (v := ?_) (a' := ?_) (tf 12 7) rfl rfl (any_of HT_.out (by kernel_rfl)) (fun _ _ _ h => h) (Or.inl ⟨by rfl, ?_⟩) ?_ ?_
       rotate_left
       ·intro w'
        go_simp
        with_reducible rfl
       rotate_left
       ·simp only [Act.put, sA_, sB_, sC_, i64_w, i32_w]
        rfl
       refine take_ (i := 3) (N := some 47) (v := ?_) (a' := ?_) (tf 12 15) rfl rfl (take_ofW HT_.out HW_.out (by kernel_rfl)) (fun _ _ _ h => h) (Or.inl ⟨by rfl, ?_⟩) hHeld ?_ ?_
       rotate_left
       ·rintro w' ⟨s0, s1, s2⟩
        go_simp
        with_reducible rfl
       rotate_left
       ·simp only [Act.put, sA_, sB_, sC_, i64_w, i32_w]
        rfl
       refine one_ (i := 4) (N := some 48) (tf 12 31) rfl rfl (one_of HT_.out (by kernel_rfl)) (by decide) (fun K hK => ?_)
       refine goes_ Try.func18 (by kernel_rfl) rfl #[.string (a0.extract (x6_1 : Int).toNat a0.size), .agg #[.bool x189000_1, .int .i64 x189001_1, .slice none 0 0]] (by rfl) rfl rfl (by (try simp only [List.map_toArray, List.map_cons, List.map_nil]); first | done | rfl | (simp only [List.length_drop, List.length_take]; rfl)) ?_
       refine (bytecode_segments.calls kj1 (a0.extract (x6_1 : Int).toNat a0.size) x189000_1 x189001_1 _ _ ([] : List ByteArray) t189 t190 t191 _ ?side1 ?side2 A29.out).mono ?_
       (case side1 => exact Kd.C_nil _ _)
       (case side2 => exact Nat.le_refl _)
       rintro e w34 ⟨rfl, hb⟩
       refine ⟨_, rfl, ?_⟩
       have n0_ := Aside0.mk (blk_below (g := gb187) (o := .cells #[.bool false, .int .i64 0, .slice none 0 0] 24 (0, 0)) (by (with_reducible repeat (first | refine kN_ ?_ _ | refine kD_ ?_ | refine kA_ ?_ _)); exact BK187.out) hb)
       have n1_ := Aside0.mk (blk_below (g := gb188) (o := .cells #[.bool x189000_1, .int .i64 x189001_1, .slice none 0 0] 24 (0, 0)) (by (with_reducible repeat (first | refine kN_ ?_ _ | refine kD_ ?_ | refine kA_ ?_ _)); exact BK188.out) hb)
       have n2_ := Aside0.mk (below_step (by repeat (first | (with_reducible first | exact HB.out | apply bA_ | apply bN_ | apply bD_ | refine bS_ ?_ GE187.out | refine bS_ ?_ GE188.out) | exact HB.out)) hb)
       clear BK187
       clear BK188
       clear HB
       have BK187 := n0_
       have BK188 := n1_
       have HB := n2_
       clear n0_ n1_ n2_
       (try clear hb)
       (try clear hb2)
       (try clear hk)
       (try clear hi)
       refine hK.out _ _ (cells3_ BK188.out) (fun hHeld => ?_)
       clear hK K
       refine norm_ (a' := ?_) ?_ ?_
       rotate_left
       ·show Act.put _ (some 48) _ = _
        simp only [Act.put, sA_, sB_, sC_, i64_w, i32_w]
        rfl
       refine pure_ (i := 5) (N := some 43) (v := ?_) (a' := ?_) (tf 12 63) rfl rfl (any_of HT_.out (by kernel_rfl)) (fun _ _ _ h => h) (Or.inl ⟨by rfl, ?_⟩) ?_ ?_
       rotate_left
       ·intro w'
        go_simp
        with_reducible rfl
       rotate_left
       ·simp only [Act.put, sA_, sB_, sC_, i64_w, i32_w]
        rfl
       refine pure_ (i := 6) (N := some 49) (v := ?_) (a' := ?_) (tf 12 127) rfl rfl (any_of HT_.out (by kernel_rfl)) (fun _ _ _ h => h) (Or.inl ⟨by rfl, ?_⟩) ?_ ?_
       rotate_left
       ·intro w'
        go_simp
        with_reducible rfl
       rotate_left
       ·simp only [Act.put, sA_, sB_, sC_, i64_w, i32_w]
        rfl
       refine pure_ (i := 7) (N := some 50) (v := ?_) (a' := ?_) (tf 12 255) rfl rfl (any_of HT_.out (by kernel_rfl)) (fun _ _ _ h => h) (Or.inl ⟨by rfl, ?_⟩) ?_ ?_
       rotate_left
       ·intro w'
        go_simp
        with_reducible rfl
       rotate_left
       ·simp only [Act.put, sA_, sB_, sC_, i64_w, i32_w]
        rfl
       refine pure_ (i := 8) (N := some 51) (v := ?_) (a' := ?_) (tf 12 511) rfl rfl (any_of HT_.out (by kernel_rfl)) (fun _ _ _ h => h) (Or.inl ⟨by rfl, ?_⟩) ?_ ?_
       rotate_left
       ·intro w'
        go_simp
        with_reducible rfl
       rotate_left
       ·simp only [Act.put, sA_, sB_, sC_, i64_w, i32_w]
        rfl
       refine pure_ (i := 9) (N := some 7) (v := ?_) (a' := ?_) (tf 12 1023) rfl rfl (any_of HT_.out (by kernel_rfl)) (fun _ _ _ h => h) (Or.inl ⟨by rfl, ?_⟩) ?_ ?_
       rotate_left
       ·intro w'
        go_simp
        with_reducible rfl
       rotate_left
       ·simp only [Act.put, sA_, sB_, sC_, i64_w, i32_w]
        rfl
       refine pure_ (i := 10) (N := some 8) (v := ?_) (a' := ?_) (tf 12 2047) rfl rfl (any_of HT_.out (by kernel_rfl)) (fun _ _ _ h => h) (Or.inl ⟨by rfl, ?_⟩) ?_ ?_
       rotate_left
       ·intro w'
        go_simp
        with_reducible rfl
       rotate_left
       ·simp only [Act.put, sA_, sB_, sC_, i64_w, i32_w]
        rfl
       refine pure_ (i := 11) (N := some 9) (v := ?_) (a' := ?_) (tf 12 4095) rfl rfl (any_of HT_.out (by kernel_rfl)) (fun _ _ _ h => h) (Or.inl ⟨by rfl, ?_⟩) ?_ ?_
       rotate_left
       ·intro w'
        go_simp
        with_reducible rfl
       rotate_left
       ·simp only [Act.put, sA_, sB_, sC_, i64_w, i32_w]
        rfl
       refine done_ (done_of HT_.out (by kernel_rfl)) ?_
       try go_wp2
       go_loopg [6, 60] kj1 (fun kq v6 v60 w' => ∃ (x6_2 : Int) (x60_2 : Int) (x188000_2 : Bool) (x188001_2 : Int) (x189002_2 : List ByteArray) (u189002 : Value), v6 = .int .i64 x6_2 ∧ v60 = .int .i64 x60_2 ∧ Aside0 (bytecode_Path.l1 kq a0 x6_2 t189 x60_2 x189000_1 x189001_1 x189002_2 = some (r1, r2, r3, r4, r5)) ∧ Aside0 (kq ≤ kj1) ∧ Aside0 (Kd.R Kd.string 9 w' w.heap.size (fun _ => True) u189002 x189002_2) ∧ Aside0 (w'.heap[gb187]? = some (.cells #[.bool x188000_2, .int .i64 x188001_2, (.slice none 0 0)] 24 (0, 0))) ∧ Aside0 (w'.heap[gb188]? = some (.cells #[.bool x189000_1, .int .i64 x189001_1, u189002] 24 (0, 0))) ∧ Aside0 (Below w.heap.size w w'))
       case atStart => exact ⟨(wrap64 (x6_1 + t190)), (0), (false), (0), (([] : List ByteArray)), (.slice none 0 0), (by first | rfl | (simp; done) | (simp [*]; done)), (by first | rfl | (simp; done) | (simp [*]; done)), H', ⟨Nat.le_refl _⟩, ⟨by first | exact Kd.R_nil _ _ _ _ _ | exact Kd.N_nil _ _ _ _ _ | exact Kd.V_nil _ _ _ _ _ | exact Kd.Q_nil _ _ _ _ _ | exact Kd.S_nil _ _ _ _ _⟩, ⟨by (with_reducible repeat (first | refine kN_ ?_ _ | refine kD_ ?_ | refine kA_ ?_ _)); exact BK187.out⟩, ⟨by (with_reducible repeat (first | refine kN_ ?_ _ | refine kD_ ?_ | refine kA_ ?_ _)); exact BK188.out⟩, ⟨by repeat (first | (with_reducible first | exact HB.out | apply bA_ | apply bN_ | apply bD_ | refine bS_ ?_ GE187.out | refine bS_ ?_ GE188.out) | exact HB.out)⟩⟩
       case round =>
        clear H'
        try clear c1
        try clear p1
        try clear q1
        try clear hx1
        try clear c2
        try clear p2
        try clear c3
        try clear c6
        try clear c6b0
        try clear c6b1
        try clear p6
        try clear c7
        try clear c7b0
        try clear c7b1
        try clear c8
        try clear p8
        try clear q8
        try clear hx8
        try clear qi8
        try clear c9
        try clear c10
        try clear c12
        try clear c12b0
        try clear c13
        try clear c13b0
        try clear p14
        try clear q14
        try clear hx14
        try clear c15
        try clear c15b0
        try clear c15b1
        try clear c16
        try clear c16b0
        try clear c17
        try clear c18
        try clear c19
        try clear c21
        try clear c23
        try clear c23b0
        try clear c24
        try clear c27
        try clear c27b0
        try clear c27b1
        try clear c28
        try clear c28b0
        try clear c28b1
        try clear c30
        try clear c30b0
        try clear c30b1
        try clear c31
        try clear hcz11_0 hcz11_1 hcz11_2
        try clear hcz18_0 hcz18_1 hcz18_2
        try clear hcz20_0 hcz20_1 hcz20_2
        try clear hcz22_0 hcz22_1 hcz22_2
        try clear hcz25_0 hcz25_1 hcz25_2
        try clear hcz26_0 hcz26_1 hcz26_2
        try clear hcz32_0 hcz32_1 hcz32_2
        try clear hfz11_0 hfz11_1 hfz11_2
        try clear hfz18_0 hfz18_1 hfz18_2
        try clear hfz20_0 hfz20_1 hfz20_2
        try clear hfz22_0 hfz22_1 hfz22_2
        try clear hfz25_0 hfz25_1 hfz25_2
        try clear hfz26_0 hfz26_1 hfz26_2
        try clear hfz32_0 hfz32_1 hfz32_2
        try clear p1
        try clear p14
        try clear p2
        try clear p6
        try clear p8
        try clear q1
        try clear q14
        try clear q8
        obtain ⟨x6_2, x60_2, x188000_2, x188001_2, x189002_2, u189002, rfl, rfl, HA, HK2, HO_189002, BK187, BK188, HB⟩ := hrel
        cases gk with
        | zero => exact absurd HA.out (by simp [bytecode_Path.l1])
        | succ k2 =>
         have H := HA.out
         clear HA
         simp only [bytecode_Path.l1] at H
         by_cases c35 : x60_2 < t189
         ·rw [if_pos c35] at H
          have c35b0 : decide (x60_2 < t189) = true := decide_eq_true c35
          clear c35
          by_cases c36 : 0 ≤ x6_2
          ·rw [if_pos c36] at H
           have c36b0 := eq_true c36
           have c36b1 : decide (0 ≤ x6_2) = true := decide_eq_true c36
           clear c36
           by_cases c37 : x6_2 ≤ (a0.size : Int)
           ·rw [if_pos c37] at H
            have c37b0 := eq_true c37
            have c37b1 : decide (x6_2 ≤ (a0.size : Int)) = true := decide_eq_true c37
            clear c37
            replace H := Option.bind_eq_some_iff.mp H
            obtain ⟨⟨t192, t193⟩, A380, H⟩ := H
            replace H : (if t193 = 0 then (if x189002_2.length < 8796093022208 then (bytecode_Path.l1 k2 a0 (wrap64 (x6_2 + 4)) t189 (wrap64 (x60_2 + 1)) x189000_1 x189001_1 (x189002_2 ++ [t192])) else (none)) else (some (false, 0, ([] : List ByteArray), 0, t193))) = some (r1, r2, r3, r4, r5) := H
            have A38 := Aside0.mk A380
            clear A380
            by_cases c39 : t193 = 0
            ·rw [if_pos c39] at H
             have c39b0 : (t193 == 0) = true := beq_iff_eq.mpr c39
             have c39b1 : (t193 != 0) = false := bne_eq_false_iff_eq.mpr c39
             clear c39
             by_cases c40 : x189002_2.length < 8796093022208
             ·rw [if_pos c40] at H
              have LMc40 := Aside0.mk c40
              clear c40
              obtain ⟨y194, hy194⟩ : ∃ y_ : List ByteArray, y_ = (x189002_2 ++ [t192]) := ⟨_, rfl⟩
              replace H : (bytecode_Path.l1 k2 a0 (wrap64 (x6_2 + 4)) t189 (wrap64 (x60_2 + 1)) x189000_1 x189001_1 y194) = some (r1, r2, r3, r4, r5) := by first | (rw [hy194]; with_reducible exact H) | (have H2_ := (Option.bind_some _ _).symm.trans H; rw [hy194]; with_reducible exact H2_) | (have H2_ := (Option.bind_some _ _).symm.trans H; with_reducible exact H2_) | with_reducible exact H | (rw [hy194]; exact H) | exact H
              have Ny194 := Aside0.mk hy194
              clear hy194
              have H' := Aside0.mk H
              clear H
              go_wp2_with (first | ((with_reducible refine gate_callee (f := 19) rfl ?_); refine goesL_ (some 66) rfl rfl Try.func19 (by kernel_rfl) rfl #[.string (a0.extract (x6_2 : Int).toNat a0.size)] rfl (by (try simp only [List.map_toArray, List.map_cons, List.map_nil]); first | done | rfl | (simp only [List.length_drop, List.length_take]; rfl)) ?_; (with_reducible refine (bytecode_segment.calls k2 (a0.extract (x6_2 : Int).toNat a0.size) t192 t193 _ A38.out).mono ?_); rintro e w41 ⟨rfl, hb⟩; refine ⟨_, rfl, ?_⟩; have n0_ := Aside0.mk (Kd.R_below (by (with_reducible repeat (first | apply Kd.R_alloc | apply Kd.R_drewN | apply Kd.R_drew)); exact HO_189002.out) hb); have n1_ := Aside0.mk (blk_below (g := gb187) (o := .cells #[.bool x188000_2, .int .i64 x188001_2, .slice none 0 0] 24 (0, 0)) (by (with_reducible repeat (first | refine kN_ ?_ _ | refine kD_ ?_ | refine kA_ ?_ _)); exact BK187.out) hb); have n2_ := Aside0.mk (blk_below (g := gb188) (o := .cells #[.bool x189000_1, .int .i64 x189001_1, u189002] 24 (0, 0)) (by (with_reducible repeat (first | refine kN_ ?_ _ | refine kD_ ?_ | refine kA_ ?_ _)); exact BK188.out) hb); have n3_ := Aside0.mk (below_step (by repeat (first | (with_reducible first | exact HB.out | apply bA_ | apply bN_ | apply bD_ | refine bS_ ?_ GE187.out | refine bS_ ?_ GE188.out) | exact HB.out)) hb); clear HO_189002; clear BK187; clear BK188; clear HB; have HO_189002 := n0_; have BK187 := n1_; have BK188 := n2_; have HB := n3_; clear n0_ n1_ n2_ n3_; (try clear hb); (try clear hb2); (try clear hk); (try clear hi); have hnb42 := NB188_187.out; have hnc42 := NB187_188.out; obtain ⟨hcz43_0, hcz43_1, hcz43_2⟩ := cells3_ BK188.out; obtain ⟨hfz43_0, hfz43_1, hfz43_2⟩ := froz3_ BK188.out) | ((with_reducible refine gate_builtin (b := .append) (xs := #[.tmp 74, .tmp 76]) rfl ?_); at_builtin; refine Kd.R_append Kd.string (w0 := w) w.heap.size rfl (.tmp 74) (.tmp 76) 22 9 (.string ⟨#[]⟩) 16 rfl Try.underlying22 info9 rfl (by decide) (by omega) u189002 x189002_2 t192 [.string t192] (fun _ => True) (fun _ => False) rfl rfl ?aP (fun _ hk => hk.elim) ?aF ?aO ?aB ?aS ?aL ?_; (case aP => exact rfl); (case aB => exact (by repeat (first | (with_reducible first | exact HB.out | apply bA_ | apply bN_ | apply bD_ | refine bS_ ?_ GE187.out | refine bS_ ?_ GE188.out) | exact HB.out))); (case aF => exact (fun _ _ => trivial)); (case aO => exact (by (with_reducible repeat (first | apply Kd.R_alloc | apply Kd.R_drewN | apply Kd.R_drew)); exact HO_189002.out)); (case aS => exact (below_size (by repeat (first | (with_reducible first | exact HB.out | apply bA_ | apply bN_ | apply bD_ | refine bS_ ?_ GE187.out | refine bS_ ?_ GE188.out) | exact HB.out)))); (case aL => have := LMc40.out; omega); intro v195 w44 ho hb hg hat; rw [← Ny194.out] at ho; have n0_ := Aside0.mk (blk_grown (g := gb187) (o := .cells #[.bool x188000_2, .int .i64 x188001_2, .slice none 0 0] 24 (0, 0)) (by (with_reducible repeat (first | refine kN_ ?_ _ | refine kD_ ?_ | refine kA_ ?_ _)); exact BK187.out) hg (Kd.R_ne HO_189002.out BK187.out (by decide))); have n1_ := Aside0.mk (blk_grown (g := gb188) (o := .cells #[.bool x189000_1, .int .i64 x189001_1, u189002] 24 (0, 0)) (by (with_reducible repeat (first | refine kN_ ?_ _ | refine kD_ ?_ | refine kA_ ?_ _)); exact BK188.out) hg (Kd.R_ne HO_189002.out BK188.out (by decide))); have n2_ := Aside0.mk (hb); have n3_ := Aside0.mk (ho); clear BK187; clear BK188; clear HB; clear HO_189002; have BK187 := n0_; have BK188 := n1_; have HB := n2_; have HO196 := n3_; clear n0_ n1_ n2_ n3_; clear ho hb hg hat; obtain ⟨Ao45, co45, eo45⟩ := Kd.R_slice HO196.out; subst eo45; obtain ⟨hcz46_0, hcz46_1, hcz46_2⟩ := cells3_ BK188.out; obtain ⟨hfz46_0, hfz46_1, hfz46_2⟩ := froz3_ BK188.out))
              go_roundg k2
              case measure => have := HJ1.out; have := HK2.out; omega
              case rel => exact ⟨(wrap64 (x6_2 + 4)), (wrap64 (x60_2 + 1)), (x188000_2), (x188001_2), (y194), (.slice Ao45 y194.length co45), (by first | rfl | (simp; done) | (simp [*]; done)), (by first | rfl | (simp; done) | (simp [*]; done)), H', ⟨by have := HJ1.out; have := HK2.out; omega⟩, ⟨by (with_reducible repeat (first | apply Kd.R_alloc | apply Kd.R_drewN | apply Kd.R_drew)); exact Kd.R_mono (Kd.R_far (p := ⟨gb188, 2, none⟩) (Kd.R_types HO196.out BK188.out (by decide)) (fun _ hk => hk.2) (.slice Ao45 y194.length co45)) (fun _ hk => trivial)⟩, ⟨by (with_reducible repeat (first | refine kN_ ?_ _ | refine kD_ ?_ | refine kA_ ?_ _)); refine blk_far ?_ NB187_188.out _; (with_reducible repeat (first | refine kN_ ?_ _ | refine kD_ ?_ | refine kA_ ?_ _)); exact BK187.out⟩, ⟨by (with_reducible repeat (first | refine kN_ ?_ _ | refine kD_ ?_ | refine kA_ ?_ _)); refine blk_put (cs := #[.bool x189000_1, .int .i64 x189001_1, u189002]) ?_ 2 _ rfl; (with_reducible repeat (first | refine kN_ ?_ _ | refine kD_ ?_ | refine kA_ ?_ _)); exact BK188.out⟩, ⟨by repeat (first | (with_reducible first | exact HB.out | apply bA_ | apply bN_ | apply bD_ | refine bS_ ?_ GE187.out | refine bS_ ?_ GE188.out) | exact HB.out)⟩⟩
             ·rw [if_neg c40] at H
              exact absurd H (by simp)
            ·rw [if_neg c39] at H
             have c39b0 : (t193 == 0) = false := beq_eq_false_iff_ne.mpr c39
             have c39b1 : (t193 != 0) = true := bne_iff_ne.mpr c39
             simp only [Option.some.injEq, Prod.mk.injEq] at H
             obtain ⟨rfl, rfl, rfl, rfl, rfl⟩ := H
             go_wp2_with (first | ((with_reducible refine gate_callee (f := 19) rfl ?_); refine goesL_ (some 66) rfl rfl Try.func19 (by kernel_rfl) rfl #[.string (a0.extract (x6_2 : Int).toNat a0.size)] rfl (by (try simp only [List.map_toArray, List.map_cons, List.map_nil]); first | done | rfl | (simp only [List.length_drop, List.length_take]; rfl)) ?_; (with_reducible refine (bytecode_segment.calls k2 (a0.extract (x6_2 : Int).toNat a0.size) t192 t193 _ A38.out).mono ?_); rintro e w47 ⟨rfl, hb⟩; refine ⟨_, rfl, ?_⟩; have n0_ := Aside0.mk (Kd.R_below (by (with_reducible repeat (first | apply Kd.R_alloc | apply Kd.R_drewN | apply Kd.R_drew)); exact HO_189002.out) hb); have n1_ := Aside0.mk (blk_below (g := gb187) (o := .cells #[.bool x188000_2, .int .i64 x188001_2, .slice none 0 0] 24 (0, 0)) (by (with_reducible repeat (first | refine kN_ ?_ _ | refine kD_ ?_ | refine kA_ ?_ _)); exact BK187.out) hb); have n2_ := Aside0.mk (blk_below (g := gb188) (o := .cells #[.bool x189000_1, .int .i64 x189001_1, u189002] 24 (0, 0)) (by (with_reducible repeat (first | refine kN_ ?_ _ | refine kD_ ?_ | refine kA_ ?_ _)); exact BK188.out) hb); have n3_ := Aside0.mk (below_step (by repeat (first | (with_reducible first | exact HB.out | apply bA_ | apply bN_ | apply bD_ | refine bS_ ?_ GE187.out | refine bS_ ?_ GE188.out) | exact HB.out)) hb); clear HO_189002; clear BK187; clear BK188; clear HB; have HO_189002 := n0_; have BK187 := n1_; have BK188 := n2_; have HB := n3_; clear n0_ n1_ n2_ n3_; (try clear hb); (try clear hb2); (try clear hk); (try clear hi); have hnb48 := NB187_188.out; have hnc48 := NB188_187.out; obtain ⟨hcz49_0, hcz49_1, hcz49_2⟩ := cells3_ BK187.out; obtain ⟨hfz49_0, hfz49_1, hfz49_2⟩ := froz3_ BK187.out))
             refine bodyPost_ret (results_ctt rfl _ _ gb187 24 #[.bool false, .int .i64 0, .slice none 0 0] (0, 0) _ rfl (by (with_reducible repeat (first | refine kN_ ?_ _ | refine kD_ ?_ | refine kA_ ?_ _)); refine blk_put (cs := #[.bool false, .int .i64 0, .slice none 0 0]) ?_ 2 _ rfl; (with_reducible repeat (first | refine kN_ ?_ _ | refine kD_ ?_ | refine kA_ ?_ _)); refine blk_put (cs := #[.bool false, .int .i64 x188001_2, .slice none 0 0]) ?_ 1 _ rfl; (with_reducible repeat (first | refine kN_ ?_ _ | refine kD_ ?_ | refine kA_ ?_ _)); refine blk_put (cs := #[.bool x188000_2, .int .i64 x188001_2, .slice none 0 0]) ?_ 0 _ rfl; (with_reducible repeat (first | refine kN_ ?_ _ | refine kD_ ?_ | refine kA_ ?_ _)); exact BK187.out) Try.underlying24 rfl (by kernel_rfl)) rfl ?_
             exact ⟨_, by first | rfl | (simp [errW_none, errW_some] <;> rfl) | (simp [*, errW_none, errW_some] <;> rfl), by first | exact Kd.R_nil _ _ _ _ _ | exact Kd.N_nil _ _ _ _ _ | exact Kd.V_nil _ _ _ _ _ | exact Kd.Q_nil _ _ _ _ _ | exact Kd.S_nil _ _ _ _ _, by repeat (first | (with_reducible first | exact HB.out | apply bA_ | apply bN_ | apply bD_ | refine bS_ ?_ GE187.out | refine bS_ ?_ GE188.out) | exact HB.out)⟩
           ·rw [if_neg c37] at H
            exact absurd H (by simp)
          ·rw [if_neg c36] at H
           exact absurd H (by simp)
         ·rw [if_neg c35] at H
          have c35b0 : decide (x60_2 < t189) = false := decide_eq_false c35
          clear c35
          simp only [Option.some.injEq, Prod.mk.injEq] at H
          obtain ⟨rfl, rfl, rfl, rfl, rfl⟩ := H
          have hnb50 := NB188_187.out
          have hnc50 := NB187_188.out
          obtain ⟨hcz51_0, hcz51_1, hcz51_2⟩ := cells3_ BK188.out
          obtain ⟨hfz51_0, hfz51_1, hfz51_2⟩ := froz3_ BK188.out
          obtain ⟨hcz52_0, hcz52_1, hcz52_2⟩ := cells3_ BK187.out
          obtain ⟨hfz52_0, hfz52_1, hfz52_2⟩ := froz3_ BK187.out
          obtain ⟨Ao53, co53, eo53⟩ := Kd.R_slice HO_189002.out
          subst eo53
          go_wp2
          refine bodyPost_ret (results_ctt rfl _ _ gb187 24 #[.bool x189000_1, .int .i64 x189001_1, .slice Ao53 x189002_2.length co53] (0, 0) _ rfl (by (with_reducible repeat (first | refine kN_ ?_ _ | refine kD_ ?_ | refine kA_ ?_ _)); refine blk_put (cs := #[.bool x189000_1, .int .i64 x189001_1, .slice none 0 0]) ?_ 2 _ rfl; (with_reducible repeat (first | refine kN_ ?_ _ | refine kD_ ?_ | refine kA_ ?_ _)); refine blk_put (cs := #[.bool x189000_1, .int .i64 x188001_2, .slice none 0 0]) ?_ 1 _ rfl; (with_reducible repeat (first | refine kN_ ?_ _ | refine kD_ ?_ | refine kA_ ?_ _)); refine blk_put (cs := #[.bool x188000_2, .int .i64 x188001_2, .slice none 0 0]) ?_ 0 _ rfl; (with_reducible repeat (first | refine kN_ ?_ _ | refine kD_ ?_ | refine kA_ ?_ _)); exact BK187.out) Try.underlying24 rfl (by kernel_rfl)) rfl ?_
          exact ⟨_, by first | rfl | (simp [errW_none, errW_some] <;> rfl) | (simp [*, errW_none, errW_some] <;> rfl), by (with_reducible repeat (first | apply Kd.R_alloc | apply Kd.R_drewN | apply Kd.R_drew)); exact Kd.R_mono (Kd.R_far (p := ⟨gb187, 2, none⟩) (Kd.R_far (p := ⟨gb187, 1, none⟩) (Kd.R_far (p := ⟨gb187, 0, none⟩) (Kd.R_types HO_189002.out BK187.out (by decide)) (fun _ hk => hk.2) (.bool x189000_1)) (fun _ hk => hk.2) (.int .i64 x189001_1)) (fun _ hk => hk.2) (.slice Ao53 x189002_2.length co53)) (fun _ hk => trivial), by repeat (first | (with_reducible first | exact HB.out | apply bA_ | apply bN_ | apply bD_ | refine bS_ ?_ GE187.out | refine bS_ ?_ GE188.out) | exact HB.out)⟩
      ·rw [if_neg c30] at H
       have c30b0 : (t191 == 0) = false := beq_eq_false_iff_ne.mpr c30
       have c30b1 : (t191 != 0) = true := bne_iff_ne.mpr c30
       simp only [Option.some.injEq, Prod.mk.injEq] at H
       obtain ⟨rfl, rfl, rfl, rfl, rfl⟩ := H
       have hnb54 := NB188_187.out
       have hnc54 := NB187_188.out
       obtain ⟨hcz55_0, hcz55_1, hcz55_2⟩ := cells3_ BK188.out
       obtain ⟨hfz55_0, hfz55_1, hfz55_2⟩ := froz3_ BK188.out
       try go_wp2
       have n0_ := Aside0.mk (kD_ BK187.out)
       have n1_ := Aside0.mk (kD_ BK188.out)
       have n2_ := Aside0.mk (bD_ HB.out)
       clear BK187
       clear BK188
       clear HB
       have BK187 := n0_
       have BK188 := n1_
       have HB := n2_
       clear n0_ n1_ n2_
       refine start_ (n := 12) (S := fun w' => w'.cell? ⟨gb188, 0, none⟩ = some (.bool x189000_1) ∧ w'.cell? ⟨gb188, 1, none⟩ = some (.int .i64 x189001_1) ∧ w'.cell? ⟨gb188, 2, none⟩ = some (.slice none 0 0)) (ds := []) #[false, false, false, false, false, false, false, false, false, false, false, false] (by kernel_rfl) rfl rfl (cells3_ BK188.out) (fun hHeld => ?_); refine with_tabW bytecode_Path.tab10 bytecode_Path.bits10 (fun HT_ HW_ => ?_)
       generalize wc.drew = w56 at BK187 BK188 HB hHeld ⊢
       refine pure_ (i := 0) (N := some 44) (v := ?_) (a' := ?_) (tf 12 1) rfl rfl (any_of HT_.out (by kernel_rfl)) (fun _ _ _ h => h) (Or.inl ⟨by rfl, ?_⟩) ?_ ?_
       rotate_left
       ·intro w'
        go_simp
        with_reducible rfl
       rotate_left
       ·simp only [Act.put, sA_, sB_, sC_, i64_w, i32_w]
        rfl
       refine pure_ (i := 1) (N := some 45) (v := ?_) (a' := ?_) (tf 12 3) rfl rfl (any_of HT_.out (by kernel_rfl)) (fun _ _ _ h => h) (Or.inl ⟨by rfl, ?_⟩) ?_ ?_
       rotate_left
       ·intro w'
        go_simp
        with_reducible rfl
       rotate_left
       ·simp only [Act.put, sA_, sB_, sC_, i64_w, i32_w]
        rfl
       refine pure_ (i := 2) (N := some 46) (v := ?_) (a' := ?_) (tf 12 7) rfl rfl (any_of HT_.out (by kernel_rfl)) (fun _ _ _ h => h) (Or.inl ⟨by rfl, ?_⟩) ?_ ?_
       rotate_left
       ·intro w'
        go_simp
        with_reducible rfl
       rotate_left
       ·simp only [Act.put, sA_, sB_, sC_, i64_w, i32_w]
        rfl
       refine take_ (i := 3) (N := some 47) (v := ?_) (a' := ?_) (tf 12 15) rfl rfl (take_ofW HT_.out HW_.out (by kernel_rfl)) (fun _ _ _ h => h) (Or.inl ⟨by rfl, ?_⟩) hHeld ?_ ?_
       rotate_left
       ·rintro w' ⟨s0, s1, s2⟩
        go_simp
        with_reducible rfl
       rotate_left
       ·simp only [Act.put, sA_, sB_, sC_, i64_w, i32_w]
        rfl
       refine one_ (i := 4) (N := some 48) (tf 12 31) rfl rfl (one_of HT_.out (by kernel_rfl)) (by decide) (fun K hK => ?_)
       refine goes_ Try.func18 (by kernel_rfl) rfl #[.string (a0.extract (x6_1 : Int).toNat a0.size), .agg #[.bool x189000_1, .int .i64 x189001_1, .slice none 0 0]] (by rfl) rfl rfl (by (try simp only [List.map_toArray, List.map_cons, List.map_nil]); first | done | rfl | (simp only [List.length_drop, List.length_take]; rfl)) ?_
       refine (bytecode_segments.calls kj1 (a0.extract (x6_1 : Int).toNat a0.size) x189000_1 x189001_1 _ _ ([] : List ByteArray) t189 t190 t191 _ ?side1 ?side2 A29.out).mono ?_
       (case side1 => exact Kd.C_nil _ _)
       (case side2 => exact Nat.le_refl _)
       rintro e w57 ⟨rfl, hb⟩
       refine ⟨_, rfl, ?_⟩
       have n0_ := Aside0.mk (blk_below (g := gb187) (o := .cells #[.bool false, .int .i64 0, .slice none 0 0] 24 (0, 0)) (by (with_reducible repeat (first | refine kN_ ?_ _ | refine kD_ ?_ | refine kA_ ?_ _)); exact BK187.out) hb)
       have n1_ := Aside0.mk (blk_below (g := gb188) (o := .cells #[.bool x189000_1, .int .i64 x189001_1, .slice none 0 0] 24 (0, 0)) (by (with_reducible repeat (first | refine kN_ ?_ _ | refine kD_ ?_ | refine kA_ ?_ _)); exact BK188.out) hb)
       have n2_ := Aside0.mk (below_step (by repeat (first | (with_reducible first | exact HB.out | apply bA_ | apply bN_ | apply bD_ | refine bS_ ?_ GE187.out | refine bS_ ?_ GE188.out) | exact HB.out)) hb)
       clear BK187
       clear BK188
       clear HB
       have BK187 := n0_
       have BK188 := n1_
       have HB := n2_
       clear n0_ n1_ n2_
       (try clear hb)
       (try clear hb2)
       (try clear hk)
       (try clear hi)
       refine hK.out _ _ (cells3_ BK188.out) (fun hHeld => ?_)
       clear hK K
       refine norm_ (a' := ?_) ?_ ?_
       rotate_left
       ·show Act.put _ (some 48) _ = _
        simp only [Act.put, sA_, sB_, sC_, i64_w, i32_w]
        rfl
       refine pure_ (i := 5) (N := some 43) (v := ?_) (a' := ?_) (tf 12 63) rfl rfl (any_of HT_.out (by kernel_rfl)) (fun _ _ _ h => h) (Or.inl ⟨by rfl, ?_⟩) ?_ ?_
       rotate_left
       ·intro w'
        go_simp
        with_reducible rfl
       rotate_left
       ·simp only [Act.put, sA_, sB_, sC_, i64_w, i32_w]
        rfl
       refine pure_ (i := 6) (N := some 49) (v := ?_) (a' := ?_) (tf 12 127) rfl rfl (any_of HT_.out (by kernel_rfl)) (fun _ _ _ h => h) (Or.inl ⟨by rfl, ?_⟩) ?_ ?_
       rotate_left
       ·intro w'
        go_simp
        with_reducible rfl
       rotate_left
       ·simp only [Act.put, sA_, sB_, sC_, i64_w, i32_w]
        rfl
       refine pure_ (i := 7) (N := some 50) (v := ?_) (a' := ?_) (tf 12 255) rfl rfl (any_of HT_.out (by kernel_rfl)) (fun _ _ _ h => h) (Or.inl ⟨by rfl, ?_⟩) ?_ ?_
       rotate_left
       ·intro w'
        go_simp
        with_reducible rfl
       rotate_left
       ·simp only [Act.put, sA_, sB_, sC_, i64_w, i32_w]
        rfl
       refine pure_ (i := 8) (N := some 51) (v := ?_) (a' := ?_) (tf 12 511) rfl rfl (any_of HT_.out (by kernel_rfl)) (fun _ _ _ h => h) (Or.inl ⟨by rfl, ?_⟩) ?_ ?_
       rotate_left
       ·intro w'
        go_simp
        with_reducible rfl
       rotate_left
       ·simp only [Act.put, sA_, sB_, sC_, i64_w, i32_w]
        rfl
       refine pure_ (i := 9) (N := some 7) (v := ?_) (a' := ?_) (tf 12 1023) rfl rfl (any_of HT_.out (by kernel_rfl)) (fun _ _ _ h => h) (Or.inl ⟨by rfl, ?_⟩) ?_ ?_
       rotate_left
       ·intro w'
        go_simp
        with_reducible rfl
       rotate_left
       ·simp only [Act.put, sA_, sB_, sC_, i64_w, i32_w]
        rfl
       refine pure_ (i := 10) (N := some 8) (v := ?_) (a' := ?_) (tf 12 2047) rfl rfl (any_of HT_.out (by kernel_rfl)) (fun _ _ _ h => h) (Or.inl ⟨by rfl, ?_⟩) ?_ ?_
       rotate_left
       ·intro w'
        go_simp
        with_reducible rfl
       rotate_left
       ·simp only [Act.put, sA_, sB_, sC_, i64_w, i32_w]
        rfl
       refine pure_ (i := 11) (N := some 9) (v := ?_) (a' := ?_) (tf 12 4095) rfl rfl (any_of HT_.out (by kernel_rfl)) (fun _ _ _ h => h) (Or.inl ⟨by rfl, ?_⟩) ?_ ?_
       rotate_left
       ·intro w'
        go_simp
        with_reducible rfl
       rotate_left
       ·simp only [Act.put, sA_, sB_, sC_, i64_w, i32_w]
        rfl
       refine done_ (done_of HT_.out (by kernel_rfl)) ?_
       obtain ⟨hcz58_0, hcz58_1, hcz58_2⟩ := cells3_ BK187.out
       obtain ⟨hfz58_0, hfz58_1, hfz58_2⟩ := froz3_ BK187.out
       try go_wp2
       refine bodyPost_ret (results_ctt rfl _ _ gb187 24 #[.bool false, .int .i64 0, .slice none 0 0] (0, 0) _ rfl (by (with_reducible repeat (first | refine kN_ ?_ _ | refine kD_ ?_ | refine kA_ ?_ _)); refine blk_put (cs := #[.bool false, .int .i64 0, .slice none 0 0]) ?_ 2 _ rfl; (with_reducible repeat (first | refine kN_ ?_ _ | refine kD_ ?_ | refine kA_ ?_ _)); refine blk_put (cs := #[.bool false, .int .i64 0, .slice none 0 0]) ?_ 1 _ rfl; (with_reducible repeat (first | refine kN_ ?_ _ | refine kD_ ?_ | refine kA_ ?_ _)); refine blk_put (cs := #[.bool false, .int .i64 0, .slice none 0 0]) ?_ 0 _ rfl; (with_reducible repeat (first | refine kN_ ?_ _ | refine kD_ ?_ | refine kA_ ?_ _)); exact BK187.out) Try.underlying24 rfl (by kernel_rfl)) rfl ?_
       exact ⟨_, by first | rfl | (simp [errW_none, errW_some] <;> rfl) | (simp [*, errW_none, errW_some] <;> rfl), by first | exact Kd.R_nil _ _ _ _ _ | exact Kd.N_nil _ _ _ _ _ | exact Kd.V_nil _ _ _ _ _ | exact Kd.Q_nil _ _ _ _ _ | exact Kd.S_nil _ _ _ _ _, by repeat (first | (with_reducible first | exact HB.out | apply bA_ | apply bN_ | apply bD_ | refine bS_ ?_ GE187.out | refine bS_ ?_ GE188.out) | exact HB.out)⟩
     ·rw [if_neg c28] at H
      exact absurd H (by simp)
    ·rw [if_neg c27] at H
     exact absurd H (by simp)

end Go.Proofs.Ytmnmidclaaiffab.PBytecodePaths
