-- Written by a program of this session's (wip/print_patch.py over the kit's print) out of the translation; Lean checks it.
import Derived.Test.YtmnmidclaaiffaaPFieldMovesx0
import Derived.Test.YtmnmidclaaiffaaPFieldMovesx4
import Derived.Test.YtmnmidclaaiffaaPFieldMovesx9
import Derived.Test.YtmnmidclaaiffaaPFieldMovesx10
import Derived.Test.YtmnmidclaaiffaaExt
namespace Go.Proofs.Ytmnmidclaaiffaa.PFieldMoves
open Go.RowKit Go.Proofs.Ytmnmidclaaiffaa.Ext Go.Proofs.YtmnmidclaaiffaaW.PrintWords Go.Proofs.YtmnmidclaaiffaaW.PrintLast Go.Proofs.YtmnmidclaaiffaaW.PrintMore
attribute [local go_sem] max2_int min2_int max_two min_two max_three min_three max_four min_four   -- for this text's walks alone
set_option linter.unusedVariables false
set_option linter.unusedSimpArgs false

/-! ### platformfwref09_Insert: function 23 -/
mutual
def platformfwref09_Insert.j0 : Nat → ByteArray → List Int → Int → Int → Bool → Int → Int → Int → Int → Int → Int → Int → Int → Int → Option (List Int)
 | 0, _, _, _, _, _, _, _, _, _, _, _, _, _, _ => none
 | k + 1, x1, x2, x7, x8, x26, x217000, x217001, x217002, x217003, x217004, x217005, x217006, x217007, x217008 => if x26 = true then (some ([] : List Int)) else ((platformfwref09_Masks.f k x217000 x217001 x217002 x217003 x217004 x217005 x217006 x217007 x217008).bind fun t219 => (if 0 ≤ x8 then (if (x8 : Int).toNat ≤ 35184372088832 then (platformfwref09_Insert.l0 k x1 x2 x7 x8 t219 (List.replicate (x8 : Int).toNat 0) 0 x217000 x217001 x217002 x217003 x217004 x217005 x217006 x217007 x217008) else (none)) else (none)))
def platformfwref09_Insert.l0 : Nat → ByteArray → List Int → Int → Int → List Int → List Int → Int → Int → Int → Int → Int → Int → Int → Int → Int → Int → Option (List Int)
 | 0, _, _, _, _, _, _, _, _, _, _, _, _, _, _, _, _ => none
 | k + 1, x1, x2, x7, x8, x9, x10, x11, x217000, x217001, x217002, x217003, x217004, x217005, x217006, x217007, x217008 => if x11 < x8 then (if x217006 = 0 then (if 0 ≤ x11 then (if x11 < (x2.length : Int) then ((platformfwref09_Ones.f x217005).bind fun t226 => (if x11 < (x9.length : Int) then (if x11 < (x10.length : Int) then (platformfwref09_Insert.l0 k x1 x2 x7 x8 x9 (x10.set (x11 : Int).toNat (Go.bits .andNot .u64 (Go.bits .and .u64 (rd x2 x11) t226) (rd x9 x11))) (wrap64 (x11 + 1)) x217000 x217001 x217002 x217003 x217004 x217005 x217006 x217007 x217008) else (none)) else (none))) else (none)) else (none)) else (if x217006 = 1 then ((platformfwref09_Ones.f x217005).bind fun t229 => (if 0 ≤ x11 then (if x11 < (x9.length : Int) then (if x11 < (x10.length : Int) then (platformfwref09_Insert.l0 k x1 x2 x7 x8 x9 (x10.set (x11 : Int).toNat (Go.bits .andNot .u64 t229 (rd x9 x11))) (wrap64 (x11 + 1)) x217000 x217001 x217002 x217003 x217004 x217005 x217006 x217007 x217008) else (none)) else (none)) else (none))) else (platformfwref09_Insert.l0 k x1 x2 x7 x8 x9 x10 (wrap64 (x11 + 1)) x217000 x217001 x217002 x217003 x217004 x217005 x217006 x217007 x217008))) else (platformfwref09_Insert.l1 k x1 x7 x10 0 x217000 x217001 x217002 x217003 x217004 x217005 x217006 x217007 x217008)
def platformfwref09_Insert.l1 : Nat → ByteArray → Int → List Int → Int → Int → Int → Int → Int → Int → Int → Int → Int → Int → Option (List Int)
 | 0, _, _, _, _, _, _, _, _, _, _, _, _, _ => none
 | k + 1, x1, x7, x10, x12, x217000, x217001, x217002, x217003, x217004, x217005, x217006, x217007, x217008 => if x12 < x217004 then (if (wrap64 (8 * x217005)) = 0 then (none) else (if 0 ≤ (wrap64 ((wrap64 (Int.tdiv (wrap64 (x217003 + x12)) (wrap64 (8 * x217005)))) - x7)) then (if (wrap64 ((wrap64 (Int.tdiv (wrap64 (x217003 + x12)) (wrap64 (8 * x217005)))) - x7)) < (x10.length : Int) then ((platformfwref09_bit.f x1 x12).bind fun t233 => (if 0 ≤ (IntKind.u64.wrap (Int.tmod (wrap64 (x217003 + x12)) (wrap64 (8 * x217005)))) then (platformfwref09_Insert.l1 k x1 x7 (x10.set ((wrap64 ((wrap64 (Int.tdiv (wrap64 (x217003 + x12)) (wrap64 (8 * x217005)))) - x7)) : Int).toNat (Go.bits .or .u64 (rd x10 (wrap64 ((wrap64 (Int.tdiv (wrap64 (x217003 + x12)) (wrap64 (8 * x217005)))) - x7))) (shl .u64 t233 (IntKind.u64.wrap (Int.tmod (wrap64 (x217003 + x12)) (wrap64 (8 * x217005))))))) (wrap64 (x12 + 1)) x217000 x217001 x217002 x217003 x217004 x217005 x217006 x217007 x217008) else (none))) else (none)) else (none))) else (some x10)
end
def platformfwref09_Insert.f (k : Nat) (a0_0 : Int) (a0_1 : Int) (a0_2 : Int) (a0_3 : Int) (a0_4 : Int) (a0_5 : Int) (a0_6 : Int) (a0_7 : Int) (a0_8 : Int) (a1 : ByteArray) (l2 : List Int) : Option (List Int) := (platformfwref09_Units.f k a0_0 a0_1 a0_2 a0_3 a0_4 a0_5 a0_6 a0_7 a0_8).bind fun bt217 => (if bt217.2 = 0 then (platformfwref09_Insert.j0 k a1 l2 bt217.1 bt217.2 true a0_0 a0_1 a0_2 a0_3 a0_4 a0_5 a0_6 a0_7 a0_8) else (platformfwref09_Insert.j0 k a1 l2 bt217.1 bt217.2 ((l2.length : Int) != bt217.2) a0_0 a0_1 a0_2 a0_3 a0_4 a0_5 a0_6 a0_7 a0_8))
theorem platformfwref09_Insert.mono_l : ∀ k, (∀ y0 y1 y2 y3 y4 y5 y6 y7 y8 y9 y10 y11 y12 y13, LeO (platformfwref09_Insert.j0 k y0 y1 y2 y3 y4 y5 y6 y7 y8 y9 y10 y11 y12 y13) (platformfwref09_Insert.j0 (k + 1) y0 y1 y2 y3 y4 y5 y6 y7 y8 y9 y10 y11 y12 y13)) ∧ (∀ y0 y1 y2 y3 y4 y5 y6 y7 y8 y9 y10 y11 y12 y13 y14 y15, LeO (platformfwref09_Insert.l0 k y0 y1 y2 y3 y4 y5 y6 y7 y8 y9 y10 y11 y12 y13 y14 y15) (platformfwref09_Insert.l0 (k + 1) y0 y1 y2 y3 y4 y5 y6 y7 y8 y9 y10 y11 y12 y13 y14 y15)) ∧ (∀ y0 y1 y2 y3 y4 y5 y6 y7 y8 y9 y10 y11 y12, LeO (platformfwref09_Insert.l1 k y0 y1 y2 y3 y4 y5 y6 y7 y8 y9 y10 y11 y12) (platformfwref09_Insert.l1 (k + 1) y0 y1 y2 y3 y4 y5 y6 y7 y8 y9 y10 y11 y12))
 | 0 => ⟨fun _ _ _ _ _ _ _ _ _ _ _ _ _ _ r h => by simp [platformfwref09_Insert.j0] at h, fun _ _ _ _ _ _ _ _ _ _ _ _ _ _ _ _ r h => by simp [platformfwref09_Insert.l0] at h, fun _ _ _ _ _ _ _ _ _ _ _ _ _ r h => by simp [platformfwref09_Insert.l1] at h⟩
 | k + 1 => by
  obtain ⟨ih0, ih1, ih2⟩ := platformfwref09_Insert.mono_l k
  refine ⟨?_, ?_, ?_⟩
  ·intro y0 y1 y2 y3 y4 y5 y6 y7 y8 y9 y10 y11 y12 y13
   unfold platformfwref09_Insert.j0
   repeat' first
   | (with_reducible exact ih0 _ _ _ _ _ _ _ _ _ _ _ _ _ _)
   | (with_reducible exact ih1 _ _ _ _ _ _ _ _ _ _ _ _ _ _ _ _)
   | (with_reducible exact ih2 _ _ _ _ _ _ _ _ _ _ _ _ _)
   | (with_reducible exact platformfwref09_Masks.mono _ _ _ _ _ _ _ _ _ _)
   | (with_reducible exact platformfwref09_Units.mono _ _ _ _ _ _ _ _ _ _)
   | (with_reducible exact LeO.refl _)
   | (with_reducible exact LeO.none _)
   | (with_reducible refine LeO.ite ?_ ?_)
   | (with_reducible refine LeO.bind ?_ (fun _ => ?_))
   | exact ih0 _ _ _ _ _ _ _ _ _ _ _ _ _ _
   | exact ih1 _ _ _ _ _ _ _ _ _ _ _ _ _ _ _ _
   | exact ih2 _ _ _ _ _ _ _ _ _ _ _ _ _
   | exact platformfwref09_Masks.mono _ _ _ _ _ _ _ _ _ _
   | exact platformfwref09_Units.mono _ _ _ _ _ _ _ _ _ _
   | exact LeO.none _
   | refine LeO.ite ?_ ?_
   | refine LeO.bind ?_ (fun _ => ?_)
  ·intro y0 y1 y2 y3 y4 y5 y6 y7 y8 y9 y10 y11 y12 y13 y14 y15
   unfold platformfwref09_Insert.l0
   repeat' first
   | (with_reducible exact ih0 _ _ _ _ _ _ _ _ _ _ _ _ _ _)
   | (with_reducible exact ih1 _ _ _ _ _ _ _ _ _ _ _ _ _ _ _ _)
   | (with_reducible exact ih2 _ _ _ _ _ _ _ _ _ _ _ _ _)
   | (with_reducible exact platformfwref09_Masks.mono _ _ _ _ _ _ _ _ _ _)
   | (with_reducible exact platformfwref09_Units.mono _ _ _ _ _ _ _ _ _ _)
   | (with_reducible exact LeO.refl _)
   | (with_reducible exact LeO.none _)
   | (with_reducible refine LeO.ite ?_ ?_)
   | (with_reducible refine LeO.bind ?_ (fun _ => ?_))
   | exact ih0 _ _ _ _ _ _ _ _ _ _ _ _ _ _
   | exact ih1 _ _ _ _ _ _ _ _ _ _ _ _ _ _ _ _
   | exact ih2 _ _ _ _ _ _ _ _ _ _ _ _ _
   | exact platformfwref09_Masks.mono _ _ _ _ _ _ _ _ _ _
   | exact platformfwref09_Units.mono _ _ _ _ _ _ _ _ _ _
   | exact LeO.none _
   | refine LeO.ite ?_ ?_
   | refine LeO.bind ?_ (fun _ => ?_)
  ·intro y0 y1 y2 y3 y4 y5 y6 y7 y8 y9 y10 y11 y12
   unfold platformfwref09_Insert.l1
   repeat' first
   | (with_reducible exact ih0 _ _ _ _ _ _ _ _ _ _ _ _ _ _)
   | (with_reducible exact ih1 _ _ _ _ _ _ _ _ _ _ _ _ _ _ _ _)
   | (with_reducible exact ih2 _ _ _ _ _ _ _ _ _ _ _ _ _)
   | (with_reducible exact platformfwref09_Masks.mono _ _ _ _ _ _ _ _ _ _)
   | (with_reducible exact platformfwref09_Units.mono _ _ _ _ _ _ _ _ _ _)
   | (with_reducible exact LeO.refl _)
   | (with_reducible exact LeO.none _)
   | (with_reducible refine LeO.ite ?_ ?_)
   | (with_reducible refine LeO.bind ?_ (fun _ => ?_))
   | exact ih0 _ _ _ _ _ _ _ _ _ _ _ _ _ _
   | exact ih1 _ _ _ _ _ _ _ _ _ _ _ _ _ _ _ _
   | exact ih2 _ _ _ _ _ _ _ _ _ _ _ _ _
   | exact platformfwref09_Masks.mono _ _ _ _ _ _ _ _ _ _
   | exact platformfwref09_Units.mono _ _ _ _ _ _ _ _ _ _
   | exact LeO.none _
   | refine LeO.ite ?_ ?_
   | refine LeO.bind ?_ (fun _ => ?_)
theorem platformfwref09_Insert.mono : ∀ a0 a1 a2 a3 a4 a5 a6 a7 a8 a9 a10 k, LeO (platformfwref09_Insert.f k a0 a1 a2 a3 a4 a5 a6 a7 a8 a9 a10) (platformfwref09_Insert.f (k + 1) a0 a1 a2 a3 a4 a5 a6 a7 a8 a9 a10) := by
 intro a0 a1 a2 a3 a4 a5 a6 a7 a8 a9 a10 k
 obtain ⟨ih0, ih1, ih2⟩ := platformfwref09_Insert.mono_l k
 unfold platformfwref09_Insert.f
 repeat' first
   | (with_reducible exact ih0 _ _ _ _ _ _ _ _ _ _ _ _ _ _)
   | (with_reducible exact ih1 _ _ _ _ _ _ _ _ _ _ _ _ _ _ _ _)
   | (with_reducible exact ih2 _ _ _ _ _ _ _ _ _ _ _ _ _)
   | (with_reducible exact platformfwref09_Masks.mono _ _ _ _ _ _ _ _ _ _)
   | (with_reducible exact platformfwref09_Units.mono _ _ _ _ _ _ _ _ _ _)
   | (with_reducible exact LeO.refl _)
   | (with_reducible exact LeO.none _)
   | (with_reducible refine LeO.ite ?_ ?_)
   | (with_reducible refine LeO.bind ?_ (fun _ => ?_))
   | exact ih0 _ _ _ _ _ _ _ _ _ _ _ _ _ _
   | exact ih1 _ _ _ _ _ _ _ _ _ _ _ _ _ _ _ _
   | exact ih2 _ _ _ _ _ _ _ _ _ _ _ _ _
   | exact platformfwref09_Masks.mono _ _ _ _ _ _ _ _ _ _
   | exact platformfwref09_Units.mono _ _ _ _ _ _ _ _ _ _
   | exact LeO.none _
   | refine LeO.ite ?_ ?_
   | refine LeO.bind ?_ (fun _ => ?_)
def platformfwref09_Insert.T11 : Bool × List (List Nat × List Nat) := (true, [([], []), ([], []), ([], []), ([], []), ([2, 3], [2, 3]), ([4], [4]), ([], []), ([6], [6]), ([7], [7]), ([5, 8], [5, 8]), ([], []), ([], []), ([10, 11], [10, 11]), ([12], [12]), ([9, 13], [9, 13]), ([0, 1, 0, 1, 2, 3, 4, 5, 6, 7, 8, 9, 10, 11, 12, 13, 14], [0, 1]), ([15, 14, 8, 0, 1, 2, 3, 4, 5, 6, 7, 8, 9, 10, 11, 12, 13, 14], [14, 15])])
def platformfwref09_Insert.B11 : List Nat := [0, 0, 0, 0, 12, 28, 0, 64, 192, 508, 0, 0, 3072, 7168, 16380, 32767, 65535]
theorem platformfwref09_Insert.tab11 : rtab .any (opsOf Try.f23 11) = platformfwref09_Insert.T11 := by kernel_rfl
theorem platformfwref09_Insert.bits11 : waitsOk platformfwref09_Insert.T11.2 platformfwref09_Insert.B11 = true := by kernel_rfl
def platformfwref09_Insert.T13 : Bool × List (List Nat × List Nat) := (true, [([], []), ([], []), ([], []), ([2], [2]), ([3], [3]), ([], []), ([], []), ([5, 6], [5, 6]), ([7], [7]), ([4, 8], [4, 8]), ([0, 1, 0, 1, 2, 3, 4, 5, 6, 7, 8, 9], [0, 1]), ([10, 9, 4, 0, 1, 2, 3, 4, 5, 6, 7, 8, 9], [9, 10])])
def platformfwref09_Insert.B13 : List Nat := [0, 0, 0, 4, 12, 0, 0, 96, 224, 508, 1023, 2047]
theorem platformfwref09_Insert.tab13 : rtab .any (opsOf Try.f23 13) = platformfwref09_Insert.T13 := by kernel_rfl
theorem platformfwref09_Insert.bits13 : waitsOk platformfwref09_Insert.T13.2 platformfwref09_Insert.B13 = true := by kernel_rfl
def platformfwref09_Insert.T18 : Bool × List (List Nat × List Nat) := (true, [([], []), ([], []), ([], []), ([2], [2]), ([3], [3]), ([1, 4], [1, 4]), ([], []), ([5, 6], [5, 6]), ([0, 7], [0, 7]), ([8], [8]), ([], []), ([], []), ([10, 11], [10, 11]), ([], []), ([], []), ([14], [14]), ([15], [15]), ([13, 16], [13, 16]), ([17], [17]), ([12, 18], [12, 18]), ([9, 19], [9, 19]), ([0, 7, 0, 1, 2, 3, 4, 5, 6, 7, 8, 9, 10, 11, 12, 13, 14, 15, 16, 17, 18, 19, 20], [0, 7]), ([21, 20, 12, 0, 1, 2, 3, 4, 5, 6, 7, 8, 9, 10, 11, 12, 13, 14, 15, 16, 17, 18, 19, 20], [20, 21])])
def platformfwref09_Insert.B18 : List Nat := [0, 0, 0, 4, 12, 30, 0, 126, 255, 511, 0, 0, 3072, 0, 0, 16384, 49152, 122880, 253952, 523264, 1048575, 2097151, 4194303]
theorem platformfwref09_Insert.tab18 : rtab .any (opsOf Try.f23 18) = platformfwref09_Insert.T18 := by kernel_rfl
theorem platformfwref09_Insert.bits18 : waitsOk platformfwref09_Insert.T18.2 platformfwref09_Insert.B18 = true := by kernel_rfl
set_option maxHeartbeats 8000000 in
set_option maxRecDepth 100000 in
theorem platformfwref09_Insert.calls (k : Nat) (a0_0 : Int) (a0_1 : Int) (a0_2 : Int) (a0_3 : Int) (a0_4 : Int) (a0_5 : Int) (a0_6 : Int) (a0_7 : Int) (a0_8 : Int) (a1 : ByteArray) (A2 : Option Addr) (c2 : Nat) (l2 : List Int) (r : List Int) (w : World) (hr2 : Kd.C (Kd.int .u64) w A2 l2.length l2) (hc2 : l2.length ≤ c2) (h : platformfwref09_Insert.f k a0_0 a0_1 a0_2 a0_3 a0_4 a0_5 a0_6 a0_7 a0_8 a1 l2 = some r) :
  Calls Try.prog 23 #[.agg #[.int .i64 a0_0, .int .u64 a0_1, .int .u64 a0_2, .int .i64 a0_3, .int .i64 a0_4, .int .i64 a0_5, .int .i64 a0_6, .int .i64 a0_7, .int .i64 a0_8], .string a1, .slice A2 l2.length c2] w fun e w' => ∃ v0_ : Value, e = .returned (v0_) ∧ Kd.R (Kd.int .u64) 22 w' w.heap.size (fun _ => True) v0_ r ∧ Below w.heap.size w w' := by
 have hu26 := Try.underlying26
 have HR2 := Aside0.mk hr2
 have HC2 := Aside0.mk hc2
 clear hr2 hc2
 have HB := Aside0.mk (Below.refl w.heap.size w)
 have H : ((platformfwref09_Units.f k a0_0 a0_1 a0_2 a0_3 a0_4 a0_5 a0_6 a0_7 a0_8).bind fun bt217 => (if bt217.2 = 0 then (platformfwref09_Insert.j0 k a1 l2 bt217.1 bt217.2 true a0_0 a0_1 a0_2 a0_3 a0_4 a0_5 a0_6 a0_7 a0_8) else (platformfwref09_Insert.j0 k a1 l2 bt217.1 bt217.2 ((l2.length : Int) != bt217.2) a0_0 a0_1 a0_2 a0_3 a0_4 a0_5 a0_6 a0_7 a0_8))) = some r := h
 clear h
 replace H := Option.bind_eq_some_iff.mp H
 obtain ⟨⟨t217, t218⟩, A40, H⟩ := H
 replace H : (if t218 = 0 then (platformfwref09_Insert.j0 k a1 l2 t217 t218 true a0_0 a0_1 a0_2 a0_3 a0_4 a0_5 a0_6 a0_7 a0_8) else (platformfwref09_Insert.j0 k a1 l2 t217 t218 ((l2.length : Int) != t218) a0_0 a0_1 a0_2 a0_3 a0_4 a0_5 a0_6 a0_7 a0_8)) = some r := H
 have A4 := Aside0.mk A40
 clear A40
 have HC5 := Aside0.mk H
 clear H
 go_enter Try.func23, Try.ntmps23
 go_upto_region 2 with (first | ((with_reducible refine gate_dst (N := 3) rfl ?_); (try (refine gate_guard (by rfl) ?_; dsimp only)); refine box_event ?hg (N := 3) ?hd (cs := #[.int .i64 a0_0, .int .u64 a0_1, .int .u64 a0_2, .int .i64 a0_3, .int .i64 a0_4, .int .i64 a0_5, .int .i64 a0_6, .int .i64 a0_7, .int .i64 a0_8]) (t := 26) ?hr ?_; (case hd => rfl); (case hg => rfl); (case hr => first | (go_simp; done) | (go_simp; rfl)); intro gb216 hg w6 hbox hb; have n0_ := Aside0.mk (below_step (by repeat (first | (with_reducible first | exact HB.out | apply bA_ | apply bN_ | apply bD_) | exact HB.out)) hb); have n1_ := Aside0.mk (hbox); have n2_ := Aside0.mk ((by rw [hg]; exact (below_size (by repeat (first | (with_reducible first | exact HB.out | apply bA_ | apply bN_ | apply bD_) | exact HB.out))) : w.heap.size ≤ gb216)); have n3_ := Aside0.mk ((by rw [hg]; exact (below_size (by repeat (first | (with_reducible first | exact HB.out | apply bA_ | apply bN_ | apply bD_) | exact HB.out))) : w.heap.size ≤ gb216)); clear HB; have HB := n0_; have BK216 := n1_; have GW216 := n2_; have GE216 := n3_; clear n0_ n1_ n2_ n3_; clear hb hbox hg; obtain ⟨hcz7_0, hcz7_1, hcz7_2, hcz7_3, hcz7_4, hcz7_5, hcz7_6, hcz7_7, hcz7_8⟩ := cells9_ BK216.out; obtain ⟨hfz7_0, hfz7_1, hfz7_2, hfz7_3, hfz7_4, hfz7_5, hfz7_6, hfz7_7, hfz7_8⟩ := froz9_ BK216.out) | ((with_reducible refine gate_callee (f := 16) rfl ?_); refine goesL_ (some 16) rfl rfl Try.func16 (by kernel_rfl) rfl #[.agg #[.int .i64 a0_0, .int .u64 a0_1, .int .u64 a0_2, .int .i64 a0_3, .int .i64 a0_4, .int .i64 a0_5, .int .i64 a0_6, .int .i64 a0_7, .int .i64 a0_8]] rfl (by (try simp only [List.map_toArray, List.map_cons, List.map_nil]); first | done | rfl | (simp only [List.length_drop, List.length_take]; rfl)) ?_; (with_reducible refine (platformfwref09_Units.calls k a0_0 a0_1 a0_2 a0_3 a0_4 a0_5 a0_6 a0_7 a0_8 t217 t218 _ A4.out).mono ?_); rintro e w8 ⟨rfl, hb⟩; refine ⟨_, rfl, ?_⟩; have n0_ := Aside0.mk (blk_below (g := gb216) (o := .cells #[.int .i64 a0_0, .int .u64 a0_1, .int .u64 a0_2, .int .i64 a0_3, .int .i64 a0_4, .int .i64 a0_5, .int .i64 a0_6, .int .i64 a0_7, .int .i64 a0_8] 26 (0, 0)) (by (with_reducible repeat (first | refine kN_ ?_ _ | refine kD_ ?_ | refine kA_ ?_ _)); exact BK216.out) hb); have n1_ := Aside0.mk (below_step (by repeat (first | (with_reducible first | exact HB.out | apply bA_ | apply bN_ | apply bD_ | refine bS_ ?_ GE216.out) | exact HB.out)) hb); clear BK216; clear HB; have BK216 := n0_; have HB := n1_; clear n0_ n1_; (try clear hb); (try clear hb2); (try clear hk); (try clear hi)))
 (try simp only [Act.put, sA_, sB_, sC_])
 go_cut [26] (fun v26 wc => ∃ (kq : Nat) (x26_4 : Bool), v26 = .bool x26_4 ∧ Aside0 (platformfwref09_Insert.j0 kq a1 l2 t217 t218 x26_4 a0_0 a0_1 a0_2 a0_3 a0_4 a0_5 a0_6 a0_7 a0_8 = some r) ∧ Aside0 (kq ≤ k) ∧ Aside0 (wc.heap[gb216]? = some (.cells #[.int .i64 a0_0, .int .u64 a0_1, .int .u64 a0_2, .int .i64 a0_3, .int .i64 a0_4, .int .i64 a0_5, .int .i64 a0_6, .int .i64 a0_7, .int .i64 a0_8] 26 (0, 0))) ∧ Aside0 (Below w.heap.size w wc))
 case first =>
  have H := HC5.out
  clear HC5
  by_cases c9 : t218 = 0
  ·rw [if_pos c9] at H
   have c9b0 : (t218 == 0) = true := beq_iff_eq.mpr c9
   have c9b1 : (t218 != 0) = false := bne_eq_false_iff_eq.mpr c9
   clear c9
   (first | rw [c9b0] | (simp only [i64_w, i32_w]; rw [c9b0]) | skip)
   have H' := Aside0.mk H
   clear H
   go_wp2
   go_meet
   case rel => exact ⟨_, (true), (by first | rfl | (simp; done) | (simp [*]; done)), H', ⟨by first | omega | exact Nat.le_refl _⟩, ⟨by (with_reducible repeat (first | refine kN_ ?_ _ | refine kD_ ?_ | refine kA_ ?_ _)); exact BK216.out⟩, ⟨by repeat (first | (with_reducible first | exact HB.out | apply bA_ | apply bN_ | apply bD_ | refine bS_ ?_ GE216.out) | exact HB.out)⟩⟩
  ·rw [if_neg c9] at H
   have c9b0 : (t218 == 0) = false := beq_eq_false_iff_ne.mpr c9
   have c9b1 : (t218 != 0) = true := bne_iff_ne.mpr c9
   (first | rw [c9b0] | (simp only [i64_w, i32_w]; rw [c9b0]) | skip)
   have H' := Aside0.mk H
   clear H
   go_wp2
   go_meet
   case rel => exact ⟨_, (((l2.length : Int) != t218)), (by first | rfl | (simp; done) | (simp [*]; done)), H', ⟨by first | omega | exact Nat.le_refl _⟩, ⟨by (with_reducible repeat (first | refine kN_ ?_ _ | refine kD_ ?_ | refine kA_ ?_ _)); exact BK216.out⟩, ⟨by repeat (first | (with_reducible first | exact HB.out | apply bA_ | apply bN_ | apply bD_ | refine bS_ ?_ GE216.out) | exact HB.out)⟩⟩
 case rest =>
  clear HC5
  try clear c1
  try clear c2
  try clear p2
  try clear c9
  try clear c9b0
  try clear c9b1
  try clear hcz7_0 hcz7_1 hcz7_2 hcz7_3 hcz7_4 hcz7_5 hcz7_6 hcz7_7 hcz7_8
  try clear hfz7_0 hfz7_1 hfz7_2 hfz7_3 hfz7_4 hfz7_5 hfz7_6 hfz7_7 hfz7_8
  obtain ⟨kq, x26_4, rfl, HA, HJ4, BK216, HB⟩ := hcut
  cases kq with
  | zero => exact absurd HA.out (by simp [platformfwref09_Insert.j0])
  | succ kj4 =>
   have H := HA.out
   clear HA
   simp only [platformfwref09_Insert.j0] at H
   by_cases c10 : x26_4 = true
   ·subst c10
    have H1 : (some ([] : List Int)) = some r := by rw [if_pos rfl] at H; exact H
    clear H
    have H := H1
    clear H1
    obtain rfl := Option.some.inj H
    go_wp2
    go_ret
    exact ⟨_, by first | rfl | (simp [errW_none, errW_some] <;> rfl) | (simp [*, errW_none, errW_some] <;> rfl), by first | exact Kd.R_nil _ _ _ _ _ | exact Kd.N_nil _ _ _ _ _ | exact Kd.V_nil _ _ _ _ _ | exact Kd.Q_nil _ _ _ _ _ | exact Kd.S_nil _ _ _ _ _, by repeat (first | (with_reducible first | exact HB.out | apply bA_ | apply bN_ | apply bD_ | refine bS_ ?_ GE216.out) | exact HB.out)⟩
   ·replace c10 := Bool.eq_false_iff.mpr c10
    subst c10
    have H1 : ((platformfwref09_Masks.f kj4 a0_0 a0_1 a0_2 a0_3 a0_4 a0_5 a0_6 a0_7 a0_8).bind fun t219 => (if 0 ≤ t218 then (if (t218 : Int).toNat ≤ 35184372088832 then (platformfwref09_Insert.l0 kj4 a1 l2 t217 t218 t219 (List.replicate (t218 : Int).toNat 0) 0 a0_0 a0_1 a0_2 a0_3 a0_4 a0_5 a0_6 a0_7 a0_8) else (none)) else (none))) = some r := by rw [if_neg (show ¬ (false = true) by decide)] at H; exact H
    clear H
    have H := H1
    clear H1
    replace H := Option.bind_eq_some_iff.mp H
    obtain ⟨t219, A110, H⟩ := H
    replace H : (if 0 ≤ t218 then (if (t218 : Int).toNat ≤ 35184372088832 then (platformfwref09_Insert.l0 kj4 a1 l2 t217 t218 t219 (List.replicate (t218 : Int).toNat 0) 0 a0_0 a0_1 a0_2 a0_3 a0_4 a0_5 a0_6 a0_7 a0_8) else (none)) else (none)) = some r := H
    have A11 := Aside0.mk A110
    clear A110
    by_cases c12 : 0 ≤ t218
    ·rw [if_pos c12] at H
     have c12b0 := eq_true c12
     have c12b1 : decide (0 ≤ t218) = true := decide_eq_true c12
     clear c12
     by_cases c13 : (t218 : Int).toNat ≤ 35184372088832
     ·rw [if_pos c13] at H
      have c13b0 := eq_true c13
      have c13b1 : decide ((t218 : Int).toNat ≤ 35184372088832) = true := decide_eq_true c13
      clear c13
      obtain ⟨y222, hy222⟩ : ∃ y_ : List Int, y_ = (List.replicate (t218 : Int).toNat 0) := ⟨_, rfl⟩
      replace H : (platformfwref09_Insert.l0 kj4 a1 l2 t217 t218 t219 y222 0 a0_0 a0_1 a0_2 a0_3 a0_4 a0_5 a0_6 a0_7 a0_8) = some r := by first | (rw [hy222]; with_reducible exact H) | (have H2_ := (Option.bind_some _ _).symm.trans H; rw [hy222]; with_reducible exact H2_) | (have H2_ := (Option.bind_some _ _).symm.trans H; with_reducible exact H2_) | with_reducible exact H | (rw [hy222]; exact H) | exact H
      have Ny222 := Aside0.mk hy222
      clear hy222
      have H' := Aside0.mk H
      clear H
      obtain ⟨hcz14_0, hcz14_1, hcz14_2, hcz14_3, hcz14_4, hcz14_5, hcz14_6, hcz14_7, hcz14_8⟩ := cells9_ BK216.out
      obtain ⟨hfz14_0, hfz14_1, hfz14_2, hfz14_3, hfz14_4, hfz14_5, hfz14_6, hfz14_7, hfz14_8⟩ := froz9_ BK216.out
      go_wp2_with (first | ((with_reducible refine gate_callee (f := 26) rfl ?_); refine goesL_ (some 28) rfl rfl Try.func26 (by kernel_rfl) rfl #[.agg #[.int .i64 a0_0, .int .u64 a0_1, .int .u64 a0_2, .int .i64 a0_3, .int .i64 a0_4, .int .i64 a0_5, .int .i64 a0_6, .int .i64 a0_7, .int .i64 a0_8]] rfl (by (try simp only [List.map_toArray, List.map_cons, List.map_nil]); first | done | rfl | (simp only [List.length_drop, List.length_take]; rfl)) ?_; (with_reducible refine (platformfwref09_Masks.calls kj4 a0_0 a0_1 a0_2 a0_3 a0_4 a0_5 a0_6 a0_7 a0_8 t219 _ A11.out).mono ?_); rintro e w15 ⟨v220, rfl, ho0, hb⟩; refine ⟨_, rfl, ?_⟩; have n0_ := Aside0.mk (Kd.R_lower ho0 (below_size (by repeat (first | (with_reducible first | exact HB.out | apply bA_ | apply bN_ | apply bD_ | refine bS_ ?_ GE216.out) | exact HB.out)))); have n1_ := Aside0.mk (blk_below (g := gb216) (o := .cells #[.int .i64 a0_0, .int .u64 a0_1, .int .u64 a0_2, .int .i64 a0_3, .int .i64 a0_4, .int .i64 a0_5, .int .i64 a0_6, .int .i64 a0_7, .int .i64 a0_8] 26 (0, 0)) (by (with_reducible repeat (first | refine kN_ ?_ _ | refine kD_ ?_ | refine kA_ ?_ _)); exact BK216.out) hb); have n2_ := Aside0.mk (below_step (by repeat (first | (with_reducible first | exact HB.out | apply bA_ | apply bN_ | apply bD_ | refine bS_ ?_ GE216.out) | exact HB.out)) hb); clear BK216; clear HB; have HO221 := n0_; have BK216 := n1_; have HB := n2_; clear n0_ n1_ n2_; (try clear hb); (try clear hb2); (try clear hk); (try clear hi); (try clear ho0)) | ((with_reducible refine gate_dst (N := 30) rfl ?_); (try (refine gate_guard (by rfl) ?_; dsimp only)); refine Kd.R_make (Kd.int .u64) _ 22 rfl (N := 30) rfl 27 _ _ rfl t218 rfl rfl Try.underlying27 (.int .u64 0) 8 info22 rfl (by decide) (by omega) 0 (ok := fun _ => True) (okp := fun _ => True) rfl (fun _ hk => hk) trivial (of_decide_eq_true (by first | (with_reducible assumption) | assumption)) (Nat.le_trans (Nat.mul_le_mul_right _ (of_decide_eq_true (by first | (with_reducible assumption) | assumption) : t218.toNat ≤ 35184372088832)) (by omega)) (Below.refl _ _) (Nat.le_refl _) ?_; intro v223 w16 ho17 hb hg_ hnew_; clear hg_ hnew_; (first | rw [← Ny222.out] at ho17 | (simp only [Int.reduceToNat] at ho17; rw [← Ny222.out] at ho17)); have n0_ := Aside0.mk (Kd.R_elder' (by (with_reducible repeat (first | apply Kd.R_alloc | apply Kd.R_drewN | apply Kd.R_drew)); exact HO221.out) (Kd.R_base ho17) hb); have n1_ := Aside0.mk (Kd.R_lower (Kd.R_new' ho17 (Kd.R_lt (by (with_reducible repeat (first | apply Kd.R_alloc | apply Kd.R_drewN | apply Kd.R_drew)); exact HO221.out))) (below_size (by repeat (first | (with_reducible first | exact HB.out | apply bA_ | apply bN_ | apply bD_ | refine bS_ ?_ GE216.out) | exact HB.out)))); have n2_ := Aside0.mk (blk_below (g := gb216) (o := .cells #[.int .i64 a0_0, .int .u64 a0_1, .int .u64 a0_2, .int .i64 a0_3, .int .i64 a0_4, .int .i64 a0_5, .int .i64 a0_6, .int .i64 a0_7, .int .i64 a0_8] 26 (0, 0)) (by (with_reducible repeat (first | refine kN_ ?_ _ | refine kD_ ?_ | refine kA_ ?_ _)); exact BK216.out) hb); have n3_ := Aside0.mk (below_step (by repeat (first | (with_reducible first | exact HB.out | apply bA_ | apply bN_ | apply bD_ | refine bS_ ?_ GE216.out) | exact HB.out)) hb); clear HO221; clear BK216; clear HB; have HO221 := n0_; have HO224 := n1_; have BK216 := n2_; have HB := n3_; clear n0_ n1_ n2_ n3_; clear hb ho17))
      go_loopg [11] kj4 (fun kq v11 w' => ∃ (x10_2 : List Int) (x11_2 : Int), v11 = .int .i64 x11_2 ∧ Aside0 (platformfwref09_Insert.l0 kq a1 l2 t217 t218 t219 x10_2 x11_2 a0_0 a0_1 a0_2 a0_3 a0_4 a0_5 a0_6 a0_7 a0_8 = some r) ∧ Aside0 (kq ≤ kj4) ∧ Aside0 (Kd.R (Kd.int .u64) 22 w' w.heap.size (fun k_ => some k_ ≠ (v223 : Value).ownBlock) v220 t219) ∧ Aside0 (Kd.R (Kd.int .u64) 22 w' w.heap.size (fun k_ => some k_ ≠ (v220 : Value).ownBlock) v223 x10_2) ∧ Aside0 (w'.heap[gb216]? = some (.cells #[.int .i64 a0_0, .int .u64 a0_1, .int .u64 a0_2, .int .i64 a0_3, .int .i64 a0_4, .int .i64 a0_5, .int .i64 a0_6, .int .i64 a0_7, .int .i64 a0_8] 26 (0, 0))) ∧ Aside0 (Below w.heap.size w w'))
      case atStart => exact ⟨(y222), (0), (by first | rfl | (simp; done) | (simp [*]; done)), H', ⟨Nat.le_refl _⟩, ⟨by (with_reducible repeat (first | apply Kd.R_alloc | apply Kd.R_drewN | apply Kd.R_drew)); exact Kd.R_mono HO221.out (fun _ hk => hk.2)⟩, ⟨by (with_reducible repeat (first | apply Kd.R_alloc | apply Kd.R_drewN | apply Kd.R_drew)); exact Kd.R_mono HO224.out (fun _ hk => hk.2)⟩, ⟨by (with_reducible repeat (first | refine kN_ ?_ _ | refine kD_ ?_ | refine kA_ ?_ _)); exact BK216.out⟩, ⟨by repeat (first | (with_reducible first | exact HB.out | apply bA_ | apply bN_ | apply bD_ | refine bS_ ?_ GE216.out) | exact HB.out)⟩⟩
      case round =>
       clear H'
       try clear c1
       try clear c2
       try clear p2
       try clear c9
       try clear c9b0
       try clear c9b1
       try clear c10
       try clear c12
       try clear c12b0
       try clear c12b1
       try clear c13
       try clear c13b0
       try clear c13b1
       try clear c16
       try clear hcz14_0 hcz14_1 hcz14_2 hcz14_3 hcz14_4 hcz14_5 hcz14_6 hcz14_7 hcz14_8
       try clear hcz7_0 hcz7_1 hcz7_2 hcz7_3 hcz7_4 hcz7_5 hcz7_6 hcz7_7 hcz7_8
       try clear hfz14_0 hfz14_1 hfz14_2 hfz14_3 hfz14_4 hfz14_5 hfz14_6 hfz14_7 hfz14_8
       try clear hfz7_0 hfz7_1 hfz7_2 hfz7_3 hfz7_4 hfz7_5 hfz7_6 hfz7_7 hfz7_8
       try clear p2
       obtain ⟨x10_2, x11_2, rfl, HA, HK2, HO_9, HO_10, BK216, HB⟩ := hrel
       cases gk with
       | zero => exact absurd HA.out (by simp [platformfwref09_Insert.l0])
       | succ k2 =>
        have H := HA.out
        clear HA
        simp only [platformfwref09_Insert.l0] at H
        by_cases c18 : x11_2 < t218
        ·rw [if_pos c18] at H
         have c18b0 : decide (x11_2 < t218) = true := decide_eq_true c18
         clear c18
         by_cases c19 : a0_6 = 0
         ·rw [if_pos c19] at H
          have c19b0 : (a0_6 == 0) = true := beq_iff_eq.mpr c19
          have c19b1 : (a0_6 != 0) = false := bne_eq_false_iff_eq.mpr c19
          clear c19
          by_cases c20 : 0 ≤ x11_2
          ·rw [if_pos c20] at H
           have c20b0 : decide (0 ≤ x11_2) = true := decide_eq_true c20
           clear c20
           by_cases c21 : x11_2 < (l2.length : Int)
           ·rw [if_pos c21] at H
            have c21b0 : decide (x11_2 < (l2.length : Int)) = true := decide_eq_true c21
            clear c21
            replace H := Option.bind_eq_some_iff.mp H
            obtain ⟨t226, A220, H⟩ := H
            replace H : (if x11_2 < (t219.length : Int) then (if x11_2 < (x10_2.length : Int) then (platformfwref09_Insert.l0 k2 a1 l2 t217 t218 t219 (x10_2.set (x11_2 : Int).toNat (Go.bits .andNot .u64 (Go.bits .and .u64 (rd l2 x11_2) t226) (rd t219 x11_2))) (wrap64 (x11_2 + 1)) a0_0 a0_1 a0_2 a0_3 a0_4 a0_5 a0_6 a0_7 a0_8) else (none)) else (none)) = some r := H
            have A22 := Aside0.mk A220
            clear A220
            by_cases c23 : x11_2 < (t219.length : Int)
            ·rw [if_pos c23] at H
             have c23b0 : decide (x11_2 < (t219.length : Int)) = true := decide_eq_true c23
             clear c23
             by_cases c24 : x11_2 < (x10_2.length : Int)
             ·rw [if_pos c24] at H
              have c24b0 : decide (x11_2 < (x10_2.length : Int)) = true := decide_eq_true c24
              clear c24
              obtain ⟨y228, hy228⟩ : ∃ y_ : List Int, y_ = (x10_2.set (x11_2 : Int).toNat (Go.bits .andNot .u64 (Go.bits .and .u64 (rd l2 x11_2) t226) (rd t219 x11_2))) := ⟨_, rfl⟩
              replace H : (platformfwref09_Insert.l0 k2 a1 l2 t217 t218 t219 y228 (wrap64 (x11_2 + 1)) a0_0 a0_1 a0_2 a0_3 a0_4 a0_5 a0_6 a0_7 a0_8) = some r := by first | (rw [hy228]; with_reducible exact H) | (have H2_ := (Option.bind_some _ _).symm.trans H; rw [hy228]; with_reducible exact H2_) | (have H2_ := (Option.bind_some _ _).symm.trans H; with_reducible exact H2_) | with_reducible exact H | (rw [hy228]; exact H) | exact H
              have Ny228 := Aside0.mk hy228
              clear hy228
              have H' := Aside0.mk H
              clear H
              obtain ⟨hcz26_0, hcz26_1, hcz26_2, hcz26_3, hcz26_4, hcz26_5, hcz26_6, hcz26_7, hcz26_8⟩ := cells9_ BK216.out
              obtain ⟨hfz26_0, hfz26_1, hfz26_2, hfz26_3, hfz26_4, hfz26_5, hfz26_6, hfz26_7, hfz26_8⟩ := froz9_ BK216.out
              try go_wp2
              have n0_ := Aside0.mk (Kd.R_drew HO_9.out)
              have n1_ := Aside0.mk (Kd.R_drew HO_10.out)
              have n2_ := Aside0.mk (kD_ BK216.out)
              have n3_ := Aside0.mk (bD_ HB.out)
              clear HO_9
              clear HO_10
              clear BK216
              clear HB
              have HO_9 := n0_
              have HO_10 := n1_
              have BK216 := n2_
              have HB := n3_
              clear n0_ n1_ n2_ n3_
              have p225 : 0 ≤ (x11_2 : Int) := of_decide_eq_true (by first | (with_reducible assumption) | assumption)
              have q225 : x11_2 < (l2.length : Int) := of_decide_eq_true (by first | (with_reducible assumption) | assumption)
              obtain ⟨ad225, e225, hx225_0⟩ := Kd.at_int HR2.out x11_2 p225 q225
              have hw225_0 := hx225_0
              cases e225
              replace hx225_0 := (HB.out.cell (World.block_lt_of_cell? w _ hx225_0)).trans hx225_0
              replace p225 := eq_true p225
              replace q225 := eq_true q225
              obtain ⟨Ao28, co28, eo28⟩ := Kd.R_slice HO_9.out
              (first | subst eo28 | (injection eo28 with f1_ f2_ f3_; have f4_ := f1_.symm; have f5_ := f3_.symm; clear f1_ f2_ f3_; subst f4_; subst f5_))
              have p227 : 0 ≤ (x11_2 : Int) := of_decide_eq_true (by first | (with_reducible assumption) | assumption)
              have q227 : x11_2 < (t219.length : Int) := of_decide_eq_true (by first | (with_reducible assumption) | assumption)
              obtain ⟨ad227, e227, hx227_0⟩ := Kd.at_int (Kd.R_reads' HO_9.out).2.2 x11_2 p227 q227
              cases e227
              replace p227 := eq_true p227
              replace q227 := eq_true q227
              refine start_ (n := 17) (S := fun w' => w'.cell? ⟨gb216, 0, none⟩ = some (.int .i64 a0_0) ∧ w'.cell? ⟨gb216, 1, none⟩ = some (.int .u64 a0_1) ∧ w'.cell? ⟨gb216, 2, none⟩ = some (.int .u64 a0_2) ∧ w'.cell? ⟨gb216, 3, none⟩ = some (.int .i64 a0_3) ∧ w'.cell? ⟨gb216, 4, none⟩ = some (.int .i64 a0_4) ∧ w'.cell? ⟨gb216, 5, none⟩ = some (.int .i64 a0_5) ∧ w'.cell? ⟨gb216, 6, none⟩ = some (.int .i64 a0_6) ∧ w'.cell? ⟨gb216, 7, none⟩ = some (.int .i64 a0_7) ∧ w'.cell? ⟨gb216, 8, none⟩ = some (.int .i64 a0_8) ∧ w'.cell? (ad225.add (x11_2).toNat) = some (.int .u64 (rd l2 x11_2)) ∧ w'.cell? (ad227.add (x11_2).toNat) = some (.int .u64 (rd t219 x11_2))) (ds := [16]) #[false, false, false, false, false, false, false, false, false, false, false, false, false, false, false, false, false] (by kernel_rfl) rfl rfl ⟨(blk_cell BK216.out 0).trans rfl, (blk_cell BK216.out 1).trans rfl, (blk_cell BK216.out 2).trans rfl, (blk_cell BK216.out 3).trans rfl, (blk_cell BK216.out 4).trans rfl, (blk_cell BK216.out 5).trans rfl, (blk_cell BK216.out 6).trans rfl, (blk_cell BK216.out 7).trans rfl, (blk_cell BK216.out 8).trans rfl, ((HB.out.cell (World.block_lt_of_cell? w _ hw225_0)).trans hw225_0), hx227_0⟩ (fun hHeld => ?_); refine with_tabW platformfwref09_Insert.tab11 platformfwref09_Insert.bits11 (fun HT_ HW_ => ?_)
              generalize wr.drew = w27 at HO_9 HO_10 BK216 HB hx225_0 hx227_0 hHeld ⊢
              refine pure_ (i := 0) (N := some 40) (v := ?_) (a' := ?_) (tf 17 1) rfl rfl (any_of HT_.out (by kernel_rfl)) (fun _ _ _ h => h) (Or.inl ⟨by rfl, ?_⟩) ?_ ?_
              rotate_left
              ·intro w'
               go_simp
               with_reducible rfl
              rotate_left
              ·simp only [Act.put, sA_, sB_, sC_, i64_w, i32_w]
               rfl
              refine pure_ (i := 1) (N := some 41) (v := ?_) (a' := ?_) (tf 17 3) rfl rfl (any_of HT_.out (by kernel_rfl)) (fun _ _ _ h => h) (Or.inl ⟨by rfl, ?_⟩) ?_ ?_
              rotate_left
              ·intro w'
               go_simp
               with_reducible rfl
              rotate_left
              ·simp only [Act.put, sA_, sB_, sC_, i64_w, i32_w]
               rfl
              refine pure_ (i := 2) (N := some 42) (v := ?_) (a' := ?_) (tf 17 7) rfl rfl (any_of HT_.out (by kernel_rfl)) (fun _ _ _ h => h) (Or.inl ⟨by rfl, ?_⟩) ?_ ?_
              rotate_left
              ·intro w'
               go_simp
               with_reducible rfl
              rotate_left
              ·simp only [Act.put, sA_, sB_, sC_, i64_w, i32_w]
               rfl
              refine pure_ (i := 3) (N := some 43) (v := ?_) (a' := ?_) (tf 17 15) rfl rfl (any_of HT_.out (by kernel_rfl)) (fun _ _ _ h => h) (Or.inl ⟨by rfl, ?_⟩) ?_ ?_
              rotate_left
              ·intro w'
               go_simp
               with_reducible rfl
              rotate_left
              ·simp only [Act.put, sA_, sB_, sC_, i64_w, i32_w]
               rfl
              refine pure_ (i := 4) (N := some 44) (v := ?_) (a' := ?_) (tf 17 31) rfl rfl (any_of HT_.out (by kernel_rfl)) (fun _ _ _ h => h) (Or.inl ⟨by rfl, ?_⟩) ?_ ?_
              rotate_left
              ·intro w'
               go_simp
               with_reducible rfl
              rotate_left
              ·simp only [Act.put, sA_, sB_, sC_, i64_w, i32_w]
               rfl
              refine pure_ (i := 6) (N := some 46) (v := ?_) (a' := ?_) (tf 17 95) rfl rfl (any_of HT_.out (by kernel_rfl)) (fun _ _ _ h => h) (Or.inl ⟨by rfl, ?_⟩) ?_ ?_
              rotate_left
              ·intro w'
               go_simp
               with_reducible rfl
              rotate_left
              ·simp only [Act.put, sA_, sB_, sC_, i64_w, i32_w]
               rfl
              refine pure_ (i := 10) (N := some 50) (v := ?_) (a' := ?_) (tf 17 1119) rfl rfl (any_of HT_.out (by kernel_rfl)) (fun _ _ _ h => h) (Or.inl ⟨by rfl, ?_⟩) ?_ ?_
              rotate_left
              ·intro w'
               go_simp
               with_reducible rfl
              rotate_left
              ·simp only [Act.put, sA_, sB_, sC_, i64_w, i32_w]
               rfl
              refine pure_ (i := 11) (N := some 51) (v := ?_) (a' := ?_) (tf 17 3167) rfl rfl (any_of HT_.out (by kernel_rfl)) (fun _ _ _ h => h) (Or.inl ⟨by rfl, ?_⟩) ?_ ?_
              rotate_left
              ·intro w'
               go_simp
               with_reducible rfl
              rotate_left
              ·simp only [Act.put, sA_, sB_, sC_, i64_w, i32_w]
               rfl
              refine pure_ (i := 12) (N := some 52) (v := ?_) (a' := ?_) (tf 17 7263) rfl rfl (any_of HT_.out (by kernel_rfl)) (fun _ _ _ h => h) (Or.inl ⟨by rfl, ?_⟩) ?_ ?_
              rotate_left
              ·intro w'
               go_simp
               with_reducible rfl
              rotate_left
              ·simp only [Act.put, sA_, sB_, sC_, i64_w, i32_w]
               rfl
              refine take_ (i := 5) (N := some 45) (v := ?_) (a' := ?_) (tf 17 7295) rfl rfl (take_ofW HT_.out HW_.out (by kernel_rfl)) (fun _ _ _ h => h) (Or.inl ⟨by rfl, ?_⟩) hHeld ?_ ?_
              rotate_left
              ·rintro w' ⟨s0, s1, s2, s3, s4, s5, s6, s7, s8, s9, s10⟩
               go_simp
               with_reducible rfl
              rotate_left
              ·simp only [Act.put, sA_, sB_, sC_, i64_w, i32_w]
               rfl
              refine take_ (i := 7) (N := some 47) (v := ?_) (a' := ?_) (tf 17 7423) rfl rfl (take_ofW HT_.out HW_.out (by kernel_rfl)) (fun _ _ _ h => h) (Or.inl ⟨by rfl, ?_⟩) hHeld ?_ ?_
              rotate_left
              ·rintro w' ⟨s0, s1, s2, s3, s4, s5, s6, s7, s8, s9, s10⟩
               go_simp
               with_reducible rfl
              rotate_left
              ·simp only [Act.put, sA_, sB_, sC_, i64_w, i32_w]
               rfl
              refine take_ (i := 13) (N := some 53) (v := ?_) (a' := ?_) (tf 17 15615) rfl rfl (take_ofW HT_.out HW_.out (by kernel_rfl)) (fun _ _ _ h => h) (Or.inl ⟨by rfl, ?_⟩) hHeld ?_ ?_
              rotate_left
              ·rintro w' ⟨s0, s1, s2, s3, s4, s5, s6, s7, s8, s9, s10⟩
               go_simp
               with_reducible rfl
              rotate_left
              ·simp only [Act.put, sA_, sB_, sC_, i64_w, i32_w]
               rfl
              refine one_ (i := 8) (N := some 48) (tf 17 15871) rfl rfl (one_of HT_.out (by kernel_rfl)) (by decide) (fun K hK => ?_)
              refine goes_ Try.func27 (by kernel_rfl) rfl #[.int .i64 a0_5] (by rfl) rfl rfl (by (try simp only [List.map_toArray, List.map_cons, List.map_nil]); first | done | rfl | (simp only [List.length_drop, List.length_take]; rfl)) ?_
              with_reducible refine (platformfwref09_Ones.calls a0_5 t226 _ A22.out).mono ?_
              rintro e w' ⟨rfl, ⟨nd, rfl⟩⟩
              refine ⟨_, rfl, ?_⟩
              have p25 : 0 ≤ (x11_2 : Int) := of_decide_eq_true (by first | (with_reducible assumption) | assumption)
              have q25 : (x11_2 : Int) < ((x10_2.length : Int) : Int) := of_decide_eq_true (by first | (with_reducible assumption) | assumption)
              obtain ⟨go25, co25, eo25, gb25, gl25, cl25, HG25⟩ := Kd.R_form HO_10.out (by omega)
              (first | cases eo25 | (injection eo25 with ea_ en_ ec_; (first | subst ea_ | (injection ea_ with ea_; subst ea_)); subst ec_; clear en_))
              have GB25 := Aside0.mk gb25
              have GG25 := Aside0.mk HG25
              clear gb25 gl25 HG25
              obtain ⟨hx25_0, hf25_0⟩ := Kd.R_celln 0 HO_10.out (x11_2 : Int) p25 q25
              replace p25 := eq_true p25
              replace q25 := eq_true q25
              have HP29 := Kd.R_putn HO_10.out (x11_2 : Int) (Go.bits .andNot .u64 (Go.bits .and .u64 (rd l2 x11_2) t226) (rd t219 x11_2))
              rw [← Ny228.out] at HP29
              have HQ29 := Aside0.mk HP29
              clear HP29
              refine hK.out _ _ ⟨(blk_cell BK216.out 0).trans rfl, (blk_cell BK216.out 1).trans rfl, (blk_cell BK216.out 2).trans rfl, (blk_cell BK216.out 3).trans rfl, (blk_cell BK216.out 4).trans rfl, (blk_cell BK216.out 5).trans rfl, (blk_cell BK216.out 6).trans rfl, (blk_cell BK216.out 7).trans rfl, (blk_cell BK216.out 8).trans rfl, ((HB.out.cell (World.block_lt_of_cell? w _ hw225_0)).trans hw225_0), hHeld.2.2.2.2.2.2.2.2.2.2⟩ (fun hHeld => ?_)
              clear hK K
              refine norm_ (a' := ?_) ?_ ?_
              rotate_left
              ·show Act.put _ (some 48) _ = _
               simp only [Act.put, sA_, sB_, sC_, i64_w, i32_w]
               rfl
              refine pure_ (i := 9) (N := some 49) (v := ?_) (a' := ?_) (tf 17 16383) rfl rfl (any_of HT_.out (by kernel_rfl)) (fun _ _ _ h => h) (Or.inl ⟨by rfl, ?_⟩) ?_ ?_
              rotate_left
              ·intro w'
               go_simp
               with_reducible rfl
              rotate_left
              ·simp only [Act.put, sA_, sB_, sC_, i64_w, i32_w]
               rfl
              refine pure_ (i := 14) (N := some 54) (v := ?_) (a' := ?_) (tf 17 32767) rfl rfl (any_of HT_.out (by kernel_rfl)) (fun _ _ _ h => h) (Or.inl ⟨by rfl, ?_⟩) ?_ ?_
              rotate_left
              ·intro w'
               go_simp
               with_reducible rfl
              rotate_left
              ·simp only [Act.put, sA_, sB_, sC_, i64_w, i32_w]
               rfl
              refine pure_ (i := 15) (N := some 55) (v := ?_) (a' := ?_) (tf 17 65535) rfl rfl (any_of HT_.out (by kernel_rfl)) (fun _ _ _ h => h) (Or.inl ⟨by rfl, ?_⟩) ?_ ?_
              rotate_left
              ·intro w'
               go_simp
               with_reducible rfl
              rotate_left
              ·simp only [Act.put, sA_, sB_, sC_, i64_w, i32_w]
               rfl
              refine last_ (i := 16) (N := none) (tf 17 131071) rfl rfl (one_of HT_.out (by kernel_rfl)) (by decide) (fun K hK => ?_)
              refine skip_ (w1 := ?_) (by rfl) rfl ?_ ?_
              rotate_left
              ·go_simp
               rfl
              refine hK.out _ _ ?_
              clear hK K
              refine done_ (done_of HT_.out (by kernel_rfl)) ?_
              try go_wp2
              go_roundg k2
              case measure => have := HJ4.out; have := HK2.out; omega
              case rel => exact ⟨(y228), (wrap64 (x11_2 + 1)), (by first | rfl | (simp; done) | (simp [*]; done)), H', ⟨by have := HJ4.out; have := HK2.out; omega⟩, ⟨by (with_reducible repeat (first | apply Kd.R_alloc | apply Kd.R_drewN | apply Kd.R_drew)); exact Kd.R_mono (Kd.R_far (p := ⟨go25, (x11_2 : Int).toNat, none⟩) (Kd.R_mono HO_9.out (fun k_ hk => (⟨hk, fun e_ => hk (by rw [e_]; rfl)⟩ : _ ∧ k_ ≠ go25))) (fun _ hk => hk.2) (.int .u64 (Go.bits .andNot .u64 (Go.bits .and .u64 (rd l2 x11_2) t226) (rd t219 x11_2)))) (fun _ hk => hk.1)⟩, ⟨by (with_reducible repeat (first | apply Kd.R_alloc | apply Kd.R_drewN | apply Kd.R_drew)); exact HQ29.out⟩, ⟨by (with_reducible repeat (first | refine kN_ ?_ _ | refine kD_ ?_ | refine kA_ ?_ _)); refine blk_far ?_ (by have h_ := Kd.R_ne HO_10.out BK216.out (by decide); intro e_; exact h_ (by rw [e_]; rfl)) _; (with_reducible repeat (first | refine kN_ ?_ _ | refine kD_ ?_ | refine kA_ ?_ _)); exact BK216.out⟩, ⟨by repeat (first | (with_reducible first | exact HB.out | apply bA_ | apply bN_ | apply bD_ | refine bS_ ?_ GB25.out | refine bS_ ?_ GE216.out) | exact HB.out)⟩⟩
             ·rw [if_neg c24] at H
              exact absurd H (by simp)
            ·rw [if_neg c23] at H
             exact absurd H (by simp)
           ·rw [if_neg c21] at H
            exact absurd H (by simp)
          ·rw [if_neg c20] at H
           exact absurd H (by simp)
         ·rw [if_neg c19] at H
          have c19b0 : (a0_6 == 0) = false := beq_eq_false_iff_ne.mpr c19
          have c19b1 : (a0_6 != 0) = true := bne_iff_ne.mpr c19
          by_cases c30 : a0_6 = 1
          ·rw [if_pos c30] at H
           have c30b0 : (a0_6 == 1) = true := beq_iff_eq.mpr c30
           have c30b1 : (a0_6 != 1) = false := bne_eq_false_iff_eq.mpr c30
           clear c30
           replace H := Option.bind_eq_some_iff.mp H
           obtain ⟨t229, A310, H⟩ := H
           replace H : (if 0 ≤ x11_2 then (if x11_2 < (t219.length : Int) then (if x11_2 < (x10_2.length : Int) then (platformfwref09_Insert.l0 k2 a1 l2 t217 t218 t219 (x10_2.set (x11_2 : Int).toNat (Go.bits .andNot .u64 t229 (rd t219 x11_2))) (wrap64 (x11_2 + 1)) a0_0 a0_1 a0_2 a0_3 a0_4 a0_5 a0_6 a0_7 a0_8) else (none)) else (none)) else (none)) = some r := H
           have A31 := Aside0.mk A310
           clear A310
           by_cases c32 : 0 ≤ x11_2
           ·rw [if_pos c32] at H
            have c32b0 : decide (0 ≤ x11_2) = true := decide_eq_true c32
            clear c32
            by_cases c33 : x11_2 < (t219.length : Int)
            ·rw [if_pos c33] at H
             have c33b0 : decide (x11_2 < (t219.length : Int)) = true := decide_eq_true c33
             clear c33
             by_cases c34 : x11_2 < (x10_2.length : Int)
             ·rw [if_pos c34] at H
              have c34b0 : decide (x11_2 < (x10_2.length : Int)) = true := decide_eq_true c34
              clear c34
              obtain ⟨y231, hy231⟩ : ∃ y_ : List Int, y_ = (x10_2.set (x11_2 : Int).toNat (Go.bits .andNot .u64 t229 (rd t219 x11_2))) := ⟨_, rfl⟩
              replace H : (platformfwref09_Insert.l0 k2 a1 l2 t217 t218 t219 y231 (wrap64 (x11_2 + 1)) a0_0 a0_1 a0_2 a0_3 a0_4 a0_5 a0_6 a0_7 a0_8) = some r := by first | (rw [hy231]; with_reducible exact H) | (have H2_ := (Option.bind_some _ _).symm.trans H; rw [hy231]; with_reducible exact H2_) | (have H2_ := (Option.bind_some _ _).symm.trans H; with_reducible exact H2_) | with_reducible exact H | (rw [hy231]; exact H) | exact H
              have Ny231 := Aside0.mk hy231
              clear hy231
              have H' := Aside0.mk H
              clear H
              obtain ⟨hcz36_0, hcz36_1, hcz36_2, hcz36_3, hcz36_4, hcz36_5, hcz36_6, hcz36_7, hcz36_8⟩ := cells9_ BK216.out
              obtain ⟨hfz36_0, hfz36_1, hfz36_2, hfz36_3, hfz36_4, hfz36_5, hfz36_6, hfz36_7, hfz36_8⟩ := froz9_ BK216.out
              try go_wp2
              have n0_ := Aside0.mk (Kd.R_drew HO_9.out)
              have n1_ := Aside0.mk (Kd.R_drew HO_10.out)
              have n2_ := Aside0.mk (kD_ BK216.out)
              have n3_ := Aside0.mk (bD_ HB.out)
              clear HO_9
              clear HO_10
              clear BK216
              clear HB
              have HO_9 := n0_
              have HO_10 := n1_
              have BK216 := n2_
              have HB := n3_
              clear n0_ n1_ n2_ n3_
              obtain ⟨Ao38, co38, eo38⟩ := Kd.R_slice HO_9.out
              (first | subst eo38 | (injection eo38 with f1_ f2_ f3_; have f4_ := f1_.symm; have f5_ := f3_.symm; clear f1_ f2_ f3_; subst f4_; subst f5_))
              have p230 : 0 ≤ (x11_2 : Int) := of_decide_eq_true (by first | (with_reducible assumption) | assumption)
              have q230 : x11_2 < (t219.length : Int) := of_decide_eq_true (by first | (with_reducible assumption) | assumption)
              obtain ⟨ad230, e230, hx230_0⟩ := Kd.at_int (Kd.R_reads' HO_9.out).2.2 x11_2 p230 q230
              cases e230
              replace p230 := eq_true p230
              replace q230 := eq_true q230
              refine start_ (n := 12) (S := fun w' => w'.cell? ⟨gb216, 0, none⟩ = some (.int .i64 a0_0) ∧ w'.cell? ⟨gb216, 1, none⟩ = some (.int .u64 a0_1) ∧ w'.cell? ⟨gb216, 2, none⟩ = some (.int .u64 a0_2) ∧ w'.cell? ⟨gb216, 3, none⟩ = some (.int .i64 a0_3) ∧ w'.cell? ⟨gb216, 4, none⟩ = some (.int .i64 a0_4) ∧ w'.cell? ⟨gb216, 5, none⟩ = some (.int .i64 a0_5) ∧ w'.cell? ⟨gb216, 6, none⟩ = some (.int .i64 a0_6) ∧ w'.cell? ⟨gb216, 7, none⟩ = some (.int .i64 a0_7) ∧ w'.cell? ⟨gb216, 8, none⟩ = some (.int .i64 a0_8) ∧ w'.cell? (ad230.add (x11_2).toNat) = some (.int .u64 (rd t219 x11_2))) (ds := [11]) #[false, false, false, false, false, false, false, false, false, false, false, false] (by kernel_rfl) rfl rfl ⟨(blk_cell BK216.out 0).trans rfl, (blk_cell BK216.out 1).trans rfl, (blk_cell BK216.out 2).trans rfl, (blk_cell BK216.out 3).trans rfl, (blk_cell BK216.out 4).trans rfl, (blk_cell BK216.out 5).trans rfl, (blk_cell BK216.out 6).trans rfl, (blk_cell BK216.out 7).trans rfl, (blk_cell BK216.out 8).trans rfl, hx230_0⟩ (fun hHeld => ?_); refine with_tabW platformfwref09_Insert.tab13 platformfwref09_Insert.bits13 (fun HT_ HW_ => ?_)
              generalize wr.drew = w37 at HO_9 HO_10 BK216 HB hx230_0 hHeld ⊢
              refine pure_ (i := 0) (N := some 58) (v := ?_) (a' := ?_) (tf 12 1) rfl rfl (any_of HT_.out (by kernel_rfl)) (fun _ _ _ h => h) (Or.inl ⟨by rfl, ?_⟩) ?_ ?_
              rotate_left
              ·intro w'
               go_simp
               with_reducible rfl
              rotate_left
              ·simp only [Act.put, sA_, sB_, sC_, i64_w, i32_w]
               rfl
              refine pure_ (i := 1) (N := some 59) (v := ?_) (a' := ?_) (tf 12 3) rfl rfl (any_of HT_.out (by kernel_rfl)) (fun _ _ _ h => h) (Or.inl ⟨by rfl, ?_⟩) ?_ ?_
              rotate_left
              ·intro w'
               go_simp
               with_reducible rfl
              rotate_left
              ·simp only [Act.put, sA_, sB_, sC_, i64_w, i32_w]
               rfl
              refine pure_ (i := 2) (N := some 60) (v := ?_) (a' := ?_) (tf 12 7) rfl rfl (any_of HT_.out (by kernel_rfl)) (fun _ _ _ h => h) (Or.inl ⟨by rfl, ?_⟩) ?_ ?_
              rotate_left
              ·intro w'
               go_simp
               with_reducible rfl
              rotate_left
              ·simp only [Act.put, sA_, sB_, sC_, i64_w, i32_w]
               rfl
              refine pure_ (i := 5) (N := some 63) (v := ?_) (a' := ?_) (tf 12 39) rfl rfl (any_of HT_.out (by kernel_rfl)) (fun _ _ _ h => h) (Or.inl ⟨by rfl, ?_⟩) ?_ ?_
              rotate_left
              ·intro w'
               go_simp
               with_reducible rfl
              rotate_left
              ·simp only [Act.put, sA_, sB_, sC_, i64_w, i32_w]
               rfl
              refine pure_ (i := 6) (N := some 64) (v := ?_) (a' := ?_) (tf 12 103) rfl rfl (any_of HT_.out (by kernel_rfl)) (fun _ _ _ h => h) (Or.inl ⟨by rfl, ?_⟩) ?_ ?_
              rotate_left
              ·intro w'
               go_simp
               with_reducible rfl
              rotate_left
              ·simp only [Act.put, sA_, sB_, sC_, i64_w, i32_w]
               rfl
              refine pure_ (i := 7) (N := some 65) (v := ?_) (a' := ?_) (tf 12 231) rfl rfl (any_of HT_.out (by kernel_rfl)) (fun _ _ _ h => h) (Or.inl ⟨by rfl, ?_⟩) ?_ ?_
              rotate_left
              ·intro w'
               go_simp
               with_reducible rfl
              rotate_left
              ·simp only [Act.put, sA_, sB_, sC_, i64_w, i32_w]
               rfl
              refine take_ (i := 3) (N := some 61) (v := ?_) (a' := ?_) (tf 12 239) rfl rfl (take_ofW HT_.out HW_.out (by kernel_rfl)) (fun _ _ _ h => h) (Or.inl ⟨by rfl, ?_⟩) hHeld ?_ ?_
              rotate_left
              ·rintro w' ⟨s0, s1, s2, s3, s4, s5, s6, s7, s8, s9⟩
               go_simp
               with_reducible rfl
              rotate_left
              ·simp only [Act.put, sA_, sB_, sC_, i64_w, i32_w]
               rfl
              refine take_ (i := 8) (N := some 66) (v := ?_) (a' := ?_) (tf 12 495) rfl rfl (take_ofW HT_.out HW_.out (by kernel_rfl)) (fun _ _ _ h => h) (Or.inl ⟨by rfl, ?_⟩) hHeld ?_ ?_
              rotate_left
              ·rintro w' ⟨s0, s1, s2, s3, s4, s5, s6, s7, s8, s9⟩
               go_simp
               with_reducible rfl
              rotate_left
              ·simp only [Act.put, sA_, sB_, sC_, i64_w, i32_w]
               rfl
              refine one_ (i := 4) (N := some 62) (tf 12 511) rfl rfl (one_of HT_.out (by kernel_rfl)) (by decide) (fun K hK => ?_)
              refine goes_ Try.func27 (by kernel_rfl) rfl #[.int .i64 a0_5] (by rfl) rfl rfl (by (try simp only [List.map_toArray, List.map_cons, List.map_nil]); first | done | rfl | (simp only [List.length_drop, List.length_take]; rfl)) ?_
              with_reducible refine (platformfwref09_Ones.calls a0_5 t229 _ A31.out).mono ?_
              rintro e w' ⟨rfl, ⟨nd, rfl⟩⟩
              refine ⟨_, rfl, ?_⟩
              have p35 : 0 ≤ (x11_2 : Int) := of_decide_eq_true (by first | (with_reducible assumption) | assumption)
              have q35 : (x11_2 : Int) < ((x10_2.length : Int) : Int) := of_decide_eq_true (by first | (with_reducible assumption) | assumption)
              obtain ⟨go35, co35, eo35, gb35, gl35, cl35, HG35⟩ := Kd.R_form HO_10.out (by omega)
              (first | cases eo35 | (injection eo35 with ea_ en_ ec_; (first | subst ea_ | (injection ea_ with ea_; subst ea_)); subst ec_; clear en_))
              have GB35 := Aside0.mk gb35
              have GG35 := Aside0.mk HG35
              clear gb35 gl35 HG35
              obtain ⟨hx35_0, hf35_0⟩ := Kd.R_celln 0 HO_10.out (x11_2 : Int) p35 q35
              replace p35 := eq_true p35
              replace q35 := eq_true q35
              have HP39 := Kd.R_putn HO_10.out (x11_2 : Int) (Go.bits .andNot .u64 t229 (rd t219 x11_2))
              rw [← Ny231.out] at HP39
              have HQ39 := Aside0.mk HP39
              clear HP39
              refine hK.out _ _ ⟨(blk_cell BK216.out 0).trans rfl, (blk_cell BK216.out 1).trans rfl, (blk_cell BK216.out 2).trans rfl, (blk_cell BK216.out 3).trans rfl, (blk_cell BK216.out 4).trans rfl, (blk_cell BK216.out 5).trans rfl, (blk_cell BK216.out 6).trans rfl, (blk_cell BK216.out 7).trans rfl, (blk_cell BK216.out 8).trans rfl, hHeld.2.2.2.2.2.2.2.2.2⟩ (fun hHeld => ?_)
              clear hK K
              refine norm_ (a' := ?_) ?_ ?_
              rotate_left
              ·show Act.put _ (some 62) _ = _
               simp only [Act.put, sA_, sB_, sC_, i64_w, i32_w]
               rfl
              refine pure_ (i := 9) (N := some 67) (v := ?_) (a' := ?_) (tf 12 1023) rfl rfl (any_of HT_.out (by kernel_rfl)) (fun _ _ _ h => h) (Or.inl ⟨by rfl, ?_⟩) ?_ ?_
              rotate_left
              ·intro w'
               go_simp
               with_reducible rfl
              rotate_left
              ·simp only [Act.put, sA_, sB_, sC_, i64_w, i32_w]
               rfl
              refine pure_ (i := 10) (N := some 68) (v := ?_) (a' := ?_) (tf 12 2047) rfl rfl (any_of HT_.out (by kernel_rfl)) (fun _ _ _ h => h) (Or.inl ⟨by rfl, ?_⟩) ?_ ?_
              rotate_left
              ·intro w'
               go_simp
               with_reducible rfl
              rotate_left
              ·simp only [Act.put, sA_, sB_, sC_, i64_w, i32_w]
               rfl
              refine last_ (i := 11) (N := none) (tf 12 4095) rfl rfl (one_of HT_.out (by kernel_rfl)) (by decide) (fun K hK => ?_)
              refine skip_ (w1 := ?_) (by rfl) rfl ?_ ?_
              rotate_left
              ·go_simp
               rfl
              refine hK.out _ _ ?_
              clear hK K
              refine done_ (done_of HT_.out (by kernel_rfl)) ?_
              try go_wp2
              go_roundg k2
              case measure => have := HJ4.out; have := HK2.out; omega
              case rel => exact ⟨(y231), (wrap64 (x11_2 + 1)), (by first | rfl | (simp; done) | (simp [*]; done)), H', ⟨by have := HJ4.out; have := HK2.out; omega⟩, ⟨by (with_reducible repeat (first | apply Kd.R_alloc | apply Kd.R_drewN | apply Kd.R_drew)); exact Kd.R_mono (Kd.R_far (p := ⟨go35, (x11_2 : Int).toNat, none⟩) (Kd.R_mono HO_9.out (fun k_ hk => (⟨hk, fun e_ => hk (by rw [e_]; rfl)⟩ : _ ∧ k_ ≠ go35))) (fun _ hk => hk.2) (.int .u64 (Go.bits .andNot .u64 t229 (rd t219 x11_2)))) (fun _ hk => hk.1)⟩, ⟨by (with_reducible repeat (first | apply Kd.R_alloc | apply Kd.R_drewN | apply Kd.R_drew)); exact HQ39.out⟩, ⟨by (with_reducible repeat (first | refine kN_ ?_ _ | refine kD_ ?_ | refine kA_ ?_ _)); refine blk_far ?_ (by have h_ := Kd.R_ne HO_10.out BK216.out (by decide); intro e_; exact h_ (by rw [e_]; rfl)) _; (with_reducible repeat (first | refine kN_ ?_ _ | refine kD_ ?_ | refine kA_ ?_ _)); exact BK216.out⟩, ⟨by repeat (first | (with_reducible first | exact HB.out | apply bA_ | apply bN_ | apply bD_ | refine bS_ ?_ GB35.out | refine bS_ ?_ GE216.out) | exact HB.out)⟩⟩
             ·rw [if_neg c34] at H
              exact absurd H (by simp)
            ·rw [if_neg c33] at H
             exact absurd H (by simp)
           ·rw [if_neg c32] at H
            exact absurd H (by simp)
          ·rw [if_neg c30] at H
           have c30b0 : (a0_6 == 1) = false := beq_eq_false_iff_ne.mpr c30
           have c30b1 : (a0_6 != 1) = true := bne_iff_ne.mpr c30
           have H' := Aside0.mk H
           clear H
           obtain ⟨hcz40_0, hcz40_1, hcz40_2, hcz40_3, hcz40_4, hcz40_5, hcz40_6, hcz40_7, hcz40_8⟩ := cells9_ BK216.out
           obtain ⟨hfz40_0, hfz40_1, hfz40_2, hfz40_3, hfz40_4, hfz40_5, hfz40_6, hfz40_7, hfz40_8⟩ := froz9_ BK216.out
           go_wp2
           go_roundg k2
           case measure => have := HJ4.out; have := HK2.out; omega
           case rel => exact ⟨(x10_2), (wrap64 (x11_2 + 1)), (by first | rfl | (simp; done) | (simp [*]; done)), H', ⟨by have := HJ4.out; have := HK2.out; omega⟩, ⟨by (with_reducible repeat (first | apply Kd.R_alloc | apply Kd.R_drewN | apply Kd.R_drew)); exact HO_9.out⟩, ⟨by (with_reducible repeat (first | apply Kd.R_alloc | apply Kd.R_drewN | apply Kd.R_drew)); exact HO_10.out⟩, ⟨by (with_reducible repeat (first | refine kN_ ?_ _ | refine kD_ ?_ | refine kA_ ?_ _)); exact BK216.out⟩, ⟨by repeat (first | (with_reducible first | exact HB.out | apply bA_ | apply bN_ | apply bD_ | refine bS_ ?_ GE216.out) | exact HB.out)⟩⟩
        ·rw [if_neg c18] at H
         have c18b0 : decide (x11_2 < t218) = false := decide_eq_false c18
         clear c18
         have H' := Aside0.mk H
         clear H
         go_wp2
         go_loopg [12] k2 (fun kq v12 w' => ∃ (x10_3 : List Int) (x12_3 : Int), v12 = .int .i64 x12_3 ∧ Aside0 (platformfwref09_Insert.l1 kq a1 t217 x10_3 x12_3 a0_0 a0_1 a0_2 a0_3 a0_4 a0_5 a0_6 a0_7 a0_8 = some r) ∧ Aside0 (kq ≤ k2) ∧ Aside0 (Kd.R (Kd.int .u64) 22 w' w.heap.size (fun _ => True) v223 x10_3) ∧ Aside0 (w'.heap[gb216]? = some (.cells #[.int .i64 a0_0, .int .u64 a0_1, .int .u64 a0_2, .int .i64 a0_3, .int .i64 a0_4, .int .i64 a0_5, .int .i64 a0_6, .int .i64 a0_7, .int .i64 a0_8] 26 (0, 0))) ∧ Aside0 (Below w.heap.size w w'))
         case atStart => exact ⟨(x10_2), (0), (by first | rfl | (simp; done) | (simp [*]; done)), H', ⟨Nat.le_refl _⟩, ⟨by (with_reducible repeat (first | apply Kd.R_alloc | apply Kd.R_drewN | apply Kd.R_drew)); exact Kd.R_mono HO_10.out (fun _ hk => trivial)⟩, ⟨by (with_reducible repeat (first | refine kN_ ?_ _ | refine kD_ ?_ | refine kA_ ?_ _)); exact BK216.out⟩, ⟨by repeat (first | (with_reducible first | exact HB.out | apply bA_ | apply bN_ | apply bD_ | refine bS_ ?_ GE216.out) | exact HB.out)⟩⟩
         case round =>
          clear H'
          try clear c1
          try clear c2
          try clear p2
          try clear q2
          try clear hx2
          try clear c3
          try clear p3
          try clear q3
          try clear hx3
          try clear hf3
          try clear p6
          try clear c9
          try clear c9b0
          try clear c9b1
          try clear c10
          try clear c12
          try clear c12b0
          try clear c12b1
          try clear c13
          try clear c13b0
          try clear c13b1
          try clear c16
          try clear c18
          try clear c18b0
          try clear c19
          try clear c19b0
          try clear c19b1
          try clear c20
          try clear c20b0
          try clear c21
          try clear c21b0
          try clear p22
          try clear q22
          try clear hx22
          try clear c23
          try clear c23b0
          try clear p23
          try clear q23
          try clear hx23
          try clear c24
          try clear c24b0
          try clear p25
          try clear q25
          try clear hx25
          try clear hf25
          try clear c26
          try clear c27
          try clear c30
          try clear c30b0
          try clear c30b1
          try clear c32
          try clear c32b0
          try clear c33
          try clear c33b0
          try clear c34
          try clear c34b0
          try clear p35
          try clear q35
          try clear hx35
          try clear hf35
          try clear hcz14_0 hcz14_1 hcz14_2 hcz14_3 hcz14_4 hcz14_5 hcz14_6 hcz14_7 hcz14_8
          try clear hcz26_0 hcz26_1 hcz26_2 hcz26_3 hcz26_4 hcz26_5 hcz26_6 hcz26_7 hcz26_8
          try clear hcz36_0 hcz36_1 hcz36_2 hcz36_3 hcz36_4 hcz36_5 hcz36_6 hcz36_7 hcz36_8
          try clear hcz40_0 hcz40_1 hcz40_2 hcz40_3 hcz40_4 hcz40_5 hcz40_6 hcz40_7 hcz40_8
          try clear hcz7_0 hcz7_1 hcz7_2 hcz7_3 hcz7_4 hcz7_5 hcz7_6 hcz7_7 hcz7_8
          try clear hfz14_0 hfz14_1 hfz14_2 hfz14_3 hfz14_4 hfz14_5 hfz14_6 hfz14_7 hfz14_8
          try clear hfz26_0 hfz26_1 hfz26_2 hfz26_3 hfz26_4 hfz26_5 hfz26_6 hfz26_7 hfz26_8
          try clear hfz36_0 hfz36_1 hfz36_2 hfz36_3 hfz36_4 hfz36_5 hfz36_6 hfz36_7 hfz36_8
          try clear hfz40_0 hfz40_1 hfz40_2 hfz40_3 hfz40_4 hfz40_5 hfz40_6 hfz40_7 hfz40_8
          try clear hfz7_0 hfz7_1 hfz7_2 hfz7_3 hfz7_4 hfz7_5 hfz7_6 hfz7_7 hfz7_8
          try clear hx225_0
          try clear hx227_0
          try clear hx230_0
          try clear hx25_0
          try clear hx35_0
          try clear p2
          try clear p225
          try clear p227
          try clear p230
          try clear p25
          try clear p35
          try clear q225
          try clear q227
          try clear q230
          try clear q25
          try clear q35
          obtain ⟨x10_3, x12_3, rfl, HA, HK3, HO_10, BK216, HB⟩ := hrel
          cases gk with
          | zero => exact absurd HA.out (by simp [platformfwref09_Insert.l1])
          | succ k3 =>
           have H := HA.out
           clear HA
           simp only [platformfwref09_Insert.l1] at H
           by_cases c41 : x12_3 < a0_4
           ·rw [if_pos c41] at H
            have c41b0 : decide (x12_3 < a0_4) = true := decide_eq_true c41
            clear c41
            by_cases c42 : (wrap64 (8 * a0_5)) = 0
            ·rw [if_pos c42] at H
             exact absurd H (by simp)
            ·rw [if_neg c42] at H
             have c42b0 : ((wrap64 (8 * a0_5)) == 0) = false := beq_eq_false_iff_ne.mpr c42
             have c42b1 : ((wrap64 (8 * a0_5)) != 0) = true := bne_iff_ne.mpr c42
             obtain ⟨ji43, hji43⟩ : ∃ j_ : Int, (wrap64 ((wrap64 (Int.tdiv (wrap64 (a0_3 + x12_3)) (wrap64 (8 * a0_5)))) - t217)) = j_ := ⟨_, rfl⟩
             replace H : (if 0 ≤ (ji43) then (if (ji43) < (x10_3.length : Int) then ((platformfwref09_bit.f a1 x12_3).bind fun t233 => (if 0 ≤ (IntKind.u64.wrap (Int.tmod (wrap64 (a0_3 + x12_3)) (wrap64 (8 * a0_5)))) then (platformfwref09_Insert.l1 k3 a1 t217 (x10_3.set ((ji43) : Int).toNat (Go.bits .or .u64 (rd x10_3 (ji43)) (shl .u64 t233 (IntKind.u64.wrap (Int.tmod (wrap64 (a0_3 + x12_3)) (wrap64 (8 * a0_5))))))) (wrap64 (x12_3 + 1)) a0_0 a0_1 a0_2 a0_3 a0_4 a0_5 a0_6 a0_7 a0_8) else (none))) else (none)) else (none)) = some r := by first | (rw [hji43] at H; exact H) | (simp only [hji43] at H ⊢; exact H)
             have hji43w : (IntKind.i64.wrap ((wrap64 (Int.tdiv (wrap64 (a0_3 + x12_3)) (wrap64 (8 * a0_5)))) - t217)) = ji43 := (i64_w _).trans hji43
             by_cases c44 : 0 ≤ (ji43)
             ·rw [if_pos c44] at H
              have c44b0 : decide (0 ≤ (ji43)) = true := decide_eq_true c44
              clear c44
              by_cases c45 : (ji43) < (x10_3.length : Int)
              ·rw [if_pos c45] at H
               have c45b0 : decide ((ji43) < (x10_3.length : Int)) = true := decide_eq_true c45
               clear c45
               replace H := Option.bind_eq_some_iff.mp H
               obtain ⟨t233, A460, H⟩ := H
               replace H : (if 0 ≤ (IntKind.u64.wrap (Int.tmod (wrap64 (a0_3 + x12_3)) (wrap64 (8 * a0_5)))) then (platformfwref09_Insert.l1 k3 a1 t217 (x10_3.set ((ji43) : Int).toNat (Go.bits .or .u64 (rd x10_3 (ji43)) (shl .u64 t233 (IntKind.u64.wrap (Int.tmod (wrap64 (a0_3 + x12_3)) (wrap64 (8 * a0_5))))))) (wrap64 (x12_3 + 1)) a0_0 a0_1 a0_2 a0_3 a0_4 a0_5 a0_6 a0_7 a0_8) else (none)) = some r := H
               have A46 := Aside0.mk A460
               clear A460
               obtain ⟨ji47, hji47⟩ : ∃ j_ : Int, (IntKind.u64.wrap (Int.tmod (wrap64 (a0_3 + x12_3)) (wrap64 (8 * a0_5)))) = j_ := ⟨_, rfl⟩
               replace H : (if 0 ≤ (ji47) then (platformfwref09_Insert.l1 k3 a1 t217 (x10_3.set ((ji43) : Int).toNat (Go.bits .or .u64 (rd x10_3 (ji43)) (shl .u64 t233 (ji47)))) (wrap64 (x12_3 + 1)) a0_0 a0_1 a0_2 a0_3 a0_4 a0_5 a0_6 a0_7 a0_8) else (none)) = some r := by first | (rw [hji47] at H; exact H) | (simp only [hji47] at H ⊢; exact H)
               (try rw [hji47] at A46)
               by_cases c48 : 0 ≤ (ji47)
               ·rw [if_pos c48] at H
                have c48b0 := eq_true c48
                have c48b1 : decide (0 ≤ (ji47)) = true := decide_eq_true c48
                clear c48
                obtain ⟨ji49, hji49⟩ : ∃ j_ : Int, (shl .u64 t233 (ji47)) = j_ := ⟨_, rfl⟩
                replace H : (platformfwref09_Insert.l1 k3 a1 t217 (x10_3.set ((ji43) : Int).toNat (Go.bits .or .u64 (rd x10_3 (ji43)) (ji49))) (wrap64 (x12_3 + 1)) a0_0 a0_1 a0_2 a0_3 a0_4 a0_5 a0_6 a0_7 a0_8) = some r := by first | (rw [hji49] at H; exact H) | (simp only [hji49] at H ⊢; exact H)
                (try rw [hji49] at A46)
                have hji49_ : (IntKind.u64.wrap (t233 * 2 ^ min (ji47).toNat 64)) = ji49 := hji49
                have hji49z : (ji47) ≤ 64 → (IntKind.u64.wrap (t233 * 2 ^ (ji47).toNat)) = ji49 := shl_small hji49
                obtain ⟨y234, hy234⟩ : ∃ y_ : List Int, y_ = (x10_3.set ((ji43) : Int).toNat (Go.bits .or .u64 (rd x10_3 (ji43)) (ji49))) := ⟨_, rfl⟩
                replace H : (platformfwref09_Insert.l1 k3 a1 t217 y234 (wrap64 (x12_3 + 1)) a0_0 a0_1 a0_2 a0_3 a0_4 a0_5 a0_6 a0_7 a0_8) = some r := by first | (rw [hy234]; with_reducible exact H) | (have H2_ := (Option.bind_some _ _).symm.trans H; rw [hy234]; with_reducible exact H2_) | (have H2_ := (Option.bind_some _ _).symm.trans H; with_reducible exact H2_) | with_reducible exact H | (rw [hy234]; exact H) | exact H
                have Ny234 := Aside0.mk hy234
                clear hy234
                have H' := Aside0.mk H
                clear H
                obtain ⟨hcz51_0, hcz51_1, hcz51_2, hcz51_3, hcz51_4, hcz51_5, hcz51_6, hcz51_7, hcz51_8⟩ := cells9_ BK216.out
                obtain ⟨hfz51_0, hfz51_1, hfz51_2, hfz51_3, hfz51_4, hfz51_5, hfz51_6, hfz51_7, hfz51_8⟩ := froz9_ BK216.out
                try go_wp2
                have n0_ := Aside0.mk (Kd.R_drew HO_10.out)
                have n1_ := Aside0.mk (kD_ BK216.out)
                have n2_ := Aside0.mk (bD_ HB.out)
                clear HO_10
                clear BK216
                clear HB
                have HO_10 := n0_
                have BK216 := n1_
                have HB := n2_
                clear n0_ n1_ n2_
                obtain ⟨Ao53, co53, eo53⟩ := Kd.R_slice HO_10.out
                (first | subst eo53 | (injection eo53 with f1_ f2_ f3_; have f4_ := f1_.symm; have f5_ := f3_.symm; clear f1_ f2_ f3_; subst f4_; subst f5_))
                have p232 : 0 ≤ ((ji43) : Int) := of_decide_eq_true (by first | (with_reducible assumption) | assumption)
                have q232 : (ji43) < (x10_3.length : Int) := of_decide_eq_true (by first | (with_reducible assumption) | assumption)
                obtain ⟨ad232, e232, hx232_0⟩ := Kd.at_int (Kd.R_reads' HO_10.out).2.2 (ji43) p232 q232
                cases e232
                replace p232 := eq_true p232
                replace q232 := eq_true q232
                refine start_ (n := 23) (S := fun w' => w'.cell? ⟨gb216, 0, none⟩ = some (.int .i64 a0_0) ∧ w'.cell? ⟨gb216, 1, none⟩ = some (.int .u64 a0_1) ∧ w'.cell? ⟨gb216, 2, none⟩ = some (.int .u64 a0_2) ∧ w'.cell? ⟨gb216, 3, none⟩ = some (.int .i64 a0_3) ∧ w'.cell? ⟨gb216, 4, none⟩ = some (.int .i64 a0_4) ∧ w'.cell? ⟨gb216, 5, none⟩ = some (.int .i64 a0_5) ∧ w'.cell? ⟨gb216, 6, none⟩ = some (.int .i64 a0_6) ∧ w'.cell? ⟨gb216, 7, none⟩ = some (.int .i64 a0_7) ∧ w'.cell? ⟨gb216, 8, none⟩ = some (.int .i64 a0_8) ∧ w'.cell? (ad232.add ((ji43)).toNat) = some (.int .u64 (rd x10_3 (ji43)))) (ds := [22]) #[false, false, false, false, false, false, false, false, false, false, false, false, false, false, false, false, false, false, false, false, false, false, false] (by kernel_rfl) rfl rfl ⟨(blk_cell BK216.out 0).trans rfl, (blk_cell BK216.out 1).trans rfl, (blk_cell BK216.out 2).trans rfl, (blk_cell BK216.out 3).trans rfl, (blk_cell BK216.out 4).trans rfl, (blk_cell BK216.out 5).trans rfl, (blk_cell BK216.out 6).trans rfl, (blk_cell BK216.out 7).trans rfl, (blk_cell BK216.out 8).trans rfl, hx232_0⟩ (fun hHeld => ?_); refine with_tabW platformfwref09_Insert.tab18 platformfwref09_Insert.bits18 (fun HT_ HW_ => ?_)
                generalize wr.drew = w52 at HO_10 BK216 HB hx232_0 hHeld ⊢
                refine pure_ (i := 0) (N := some 79) (v := ?_) (a' := ?_) (tf 23 1) rfl rfl (any_of HT_.out (by kernel_rfl)) (fun _ _ _ h => h) (Or.inl ⟨by rfl, ?_⟩) ?_ ?_
                rotate_left
                ·intro w'
                 go_simp
                 with_reducible rfl
                rotate_left
                ·simp only [Act.put, sA_, sB_, sC_, i64_w, i32_w]
                 rfl
                refine pure_ (i := 1) (N := some 80) (v := ?_) (a' := ?_) (tf 23 3) rfl rfl (any_of HT_.out (by kernel_rfl)) (fun _ _ _ h => h) (Or.inl ⟨by rfl, ?_⟩) ?_ ?_
                rotate_left
                ·intro w'
                 go_simp
                 with_reducible rfl
                rotate_left
                ·simp only [Act.put, sA_, sB_, sC_, i64_w, i32_w]
                 rfl
                refine pure_ (i := 2) (N := some 81) (v := ?_) (a' := ?_) (tf 23 7) rfl rfl (any_of HT_.out (by kernel_rfl)) (fun _ _ _ h => h) (Or.inl ⟨by rfl, ?_⟩) ?_ ?_
                rotate_left
                ·intro w'
                 go_simp
                 with_reducible rfl
                rotate_left
                ·simp only [Act.put, sA_, sB_, sC_, i64_w, i32_w]
                 rfl
                refine pure_ (i := 6) (N := some 85) (v := ?_) (a' := ?_) (tf 23 71) rfl rfl (any_of HT_.out (by kernel_rfl)) (fun _ _ _ h => h) (Or.inl ⟨by rfl, ?_⟩) ?_ ?_
                rotate_left
                ·intro w'
                 go_simp
                 with_reducible rfl
                rotate_left
                ·simp only [Act.put, sA_, sB_, sC_, i64_w, i32_w]
                 rfl
                refine pure_ (i := 10) (N := some 89) (v := ?_) (a' := ?_) (tf 23 1095) rfl rfl (any_of HT_.out (by kernel_rfl)) (fun _ _ _ h => h) (Or.inl ⟨by rfl, ?_⟩) ?_ ?_
                rotate_left
                ·intro w'
                 go_simp
                 with_reducible rfl
                rotate_left
                ·simp only [Act.put, sA_, sB_, sC_, i64_w, i32_w]
                 rfl
                refine pure_ (i := 11) (N := some 90) (v := ?_) (a' := ?_) (tf 23 3143) rfl rfl (any_of HT_.out (by kernel_rfl)) (fun _ _ _ h => h) (Or.inl ⟨by rfl, ?_⟩) ?_ ?_
                rotate_left
                ·intro w'
                 go_simp
                 with_reducible rfl
                rotate_left
                ·simp only [Act.put, sA_, sB_, sC_, i64_w, i32_w]
                 rfl
                refine pure_ (i := 13) (N := some 92) (v := ?_) (a' := ?_) (tf 23 11335) rfl rfl (any_of HT_.out (by kernel_rfl)) (fun _ _ _ h => h) (Or.inl ⟨by rfl, ?_⟩) ?_ ?_
                rotate_left
                ·intro w'
                 go_simp
                 with_reducible rfl
                rotate_left
                ·simp only [Act.put, sA_, sB_, sC_, i64_w, i32_w]
                 rfl
                refine pure_ (i := 14) (N := some 93) (v := ?_) (a' := ?_) (tf 23 27719) rfl rfl (any_of HT_.out (by kernel_rfl)) (fun _ _ _ h => h) (Or.inl ⟨by rfl, ?_⟩) ?_ ?_
                rotate_left
                ·intro w'
                 go_simp
                 with_reducible rfl
                rotate_left
                ·simp only [Act.put, sA_, sB_, sC_, i64_w, i32_w]
                 rfl
                refine take_ (i := 3) (N := some 82) (v := ?_) (a' := ?_) (tf 23 27727) rfl rfl (take_ofW HT_.out HW_.out (by kernel_rfl)) (fun _ _ _ h => h) (Or.inl ⟨by rfl, ?_⟩) hHeld ?_ ?_
                rotate_left
                ·rintro w' ⟨s0, s1, s2, s3, s4, s5, s6, s7, s8, s9⟩
                 go_simp
                 with_reducible rfl
                rotate_left
                ·simp only [Act.put, sA_, sB_, sC_, i64_w, i32_w]
                 rfl
                refine pure_ (i := 4) (N := some 83) (v := ?_) (a' := ?_) (tf 23 27743) rfl rfl (any_of HT_.out (by kernel_rfl)) (fun _ _ _ h => h) (Or.inl ⟨by rfl, ?_⟩) ?_ ?_
                rotate_left
                ·intro w'
                 go_simp
                 with_reducible rfl
                rotate_left
                ·simp only [Act.put, sA_, sB_, sC_, i64_w, i32_w]
                 rfl
                refine pure_ (i := 5) (N := some 84) (v := ?_) (a' := ?_) (tf 23 27775) rfl rfl (any_of HT_.out (by kernel_rfl)) (fun _ _ _ h => h) (Or.inl ⟨by rfl, ?_⟩) ?_ ?_
                rotate_left
                ·intro w'
                 go_simp
                 with_reducible rfl
                rotate_left
                ·simp only [Act.put, sA_, sB_, sC_, i64_w, i32_w]
                 rfl
                refine pure_ (i := 7) (N := some 86) (v := ?_) (a' := ?_) (tf 23 27903) rfl rfl (any_of HT_.out (by kernel_rfl)) (fun _ _ _ h => h) (Or.inl ⟨by rfl, ?_⟩) ?_ ?_
                rotate_left
                ·intro w'
                 go_simp
                 with_reducible rfl
                rotate_left
                ·simp only [Act.put, sA_, sB_, sC_, i64_w, i32_w]
                 rfl
                refine pure_ (i := 8) (N := some 87) (v := ?_) (a' := ?_) (tf 23 28159) rfl rfl (any_of HT_.out (by kernel_rfl)) (fun _ _ _ h => h) (Or.inl ⟨by rfl, ?_⟩) ?_ ?_
                rotate_left
                ·intro w'
                 go_simp
                 with_reducible rfl
                rotate_left
                ·simp only [Act.put, sA_, sB_, sC_, i64_w, i32_w]
                 rfl
                refine take_ (i := 9) (N := some 88) (v := ?_) (a' := ?_) (tf 23 28671) rfl rfl (take_ofW HT_.out HW_.out (by kernel_rfl)) (fun _ _ _ h => h) (Or.inl ⟨by rfl, ?_⟩) hHeld ?_ ?_
                rotate_left
                ·rintro w' ⟨s0, s1, s2, s3, s4, s5, s6, s7, s8, s9⟩
                 go_simp
                 with_reducible rfl
                rotate_left
                ·simp only [Act.put, sA_, sB_, sC_, i64_w, i32_w]
                 rfl
                refine take_ (i := 15) (N := some 94) (v := ?_) (a' := ?_) (tf 23 61439) rfl rfl (take_ofW HT_.out HW_.out (by kernel_rfl)) (fun _ _ _ h => h) (Or.inl ⟨by rfl, ?_⟩) hHeld ?_ ?_
                rotate_left
                ·rintro w' ⟨s0, s1, s2, s3, s4, s5, s6, s7, s8, s9⟩
                 go_simp
                 with_reducible rfl
                rotate_left
                ·simp only [Act.put, sA_, sB_, sC_, i64_w, i32_w]
                 rfl
                refine pure_ (i := 16) (N := some 95) (v := ?_) (a' := ?_) (tf 23 126975) rfl rfl (any_of HT_.out (by kernel_rfl)) (fun _ _ _ h => h) (Or.inl ⟨by rfl, ?_⟩) ?_ ?_
                rotate_left
                ·intro w'
                 go_simp
                 with_reducible rfl
                rotate_left
                ·simp only [Act.put, sA_, sB_, sC_, i64_w, i32_w]
                 rfl
                refine pure_ (i := 17) (N := some 96) (v := ?_) (a' := ?_) (tf 23 258047) rfl rfl (any_of HT_.out (by kernel_rfl)) (fun _ _ _ h => h) (Or.inl ⟨by rfl, ?_⟩) ?_ ?_
                rotate_left
                ·intro w'
                 go_simp
                 with_reducible rfl
                rotate_left
                ·simp only [Act.put, sA_, sB_, sC_, i64_w, i32_w]
                 rfl
                refine pure_ (i := 18) (N := some 97) (v := ?_) (a' := ?_) (tf 23 520191) rfl rfl (any_of HT_.out (by kernel_rfl)) (fun _ _ _ h => h) (Or.inl ⟨by rfl, ?_⟩) ?_ ?_
                rotate_left
                ·intro w'
                 go_simp
                 with_reducible rfl
                rotate_left
                ·simp only [Act.put, sA_, sB_, sC_, i64_w, i32_w]
                 rfl
                refine one_ (i := 12) (N := some 91) (tf 23 524287) rfl rfl (one_of HT_.out (by kernel_rfl)) (by decide) (fun K hK => ?_)
                refine goes_ Try.func60 (by kernel_rfl) rfl #[.string a1, .int .i64 x12_3] (by rfl) rfl rfl (by (try simp only [List.map_toArray, List.map_cons, List.map_nil]); first | done | rfl | (simp only [List.length_drop, List.length_take]; rfl)) ?_
                with_reducible refine (platformfwref09_bit.calls a1 x12_3 t233 _ A46.out).mono ?_
                rintro e w' ⟨rfl, ⟨nd, rfl⟩⟩
                refine ⟨_, rfl, ?_⟩
                have p50 : 0 ≤ ((ji43) : Int) := of_decide_eq_true (by first | (with_reducible assumption) | assumption)
                have q50 : ((ji43) : Int) < ((x10_3.length : Int) : Int) := of_decide_eq_true (by first | (with_reducible assumption) | assumption)
                obtain ⟨go50, co50, eo50, gb50, gl50, cl50, HG50⟩ := Kd.R_form HO_10.out (by omega)
                (first | cases eo50 | (injection eo50 with ea_ en_ ec_; (first | subst ea_ | (injection ea_ with ea_; subst ea_)); subst ec_; clear en_))
                have GB50 := Aside0.mk gb50
                have GG50 := Aside0.mk HG50
                clear gb50 gl50 HG50
                (first | simp only [add_plain] at hx232_0 | skip)
                obtain ⟨hx50_0, hf50_0⟩ := Kd.R_celln 0 HO_10.out ((ji43) : Int) p50 q50
                replace p50 := eq_true p50
                replace q50 := eq_true q50
                have HP54 := Kd.R_putn HO_10.out ((ji43) : Int) (Go.bits .or .u64 (rd x10_3 (ji43)) (ji49))
                rw [← Ny234.out] at HP54
                have HQ54 := Aside0.mk HP54
                clear HP54
                refine hK.out _ _ ⟨(blk_cell BK216.out 0).trans rfl, (blk_cell BK216.out 1).trans rfl, (blk_cell BK216.out 2).trans rfl, (blk_cell BK216.out 3).trans rfl, (blk_cell BK216.out 4).trans rfl, (blk_cell BK216.out 5).trans rfl, (blk_cell BK216.out 6).trans rfl, (blk_cell BK216.out 7).trans rfl, (blk_cell BK216.out 8).trans rfl, hHeld.2.2.2.2.2.2.2.2.2⟩ (fun hHeld => ?_)
                clear hK K
                refine norm_ (a' := ?_) ?_ ?_
                rotate_left
                ·show Act.put _ (some 91) _ = _
                 simp only [Act.put, sA_, sB_, sC_, i64_w, i32_w]
                 rfl
                refine pure_ (i := 19) (N := some 98) (v := ?_) (a' := ?_) (tf 23 1048575) rfl rfl (any_of HT_.out (by kernel_rfl)) (fun _ _ _ h => h) (Or.inl ⟨by rfl, ?_⟩) ?_ ?_
                rotate_left
                ·intro w'
                 go_simp
                 with_reducible rfl
                rotate_left
                ·simp only [Act.put, sA_, sB_, sC_, i64_w, i32_w]
                 rfl
                refine pure_ (i := 20) (N := some 99) (v := ?_) (a' := ?_) (tf 23 2097151) rfl rfl (any_of HT_.out (by kernel_rfl)) (fun _ _ _ h => h) (Or.inl ⟨by rfl, ?_⟩) ?_ ?_
                rotate_left
                ·intro w'
                 go_simp
                 with_reducible rfl
                rotate_left
                ·simp only [Act.put, sA_, sB_, sC_, i64_w, i32_w]
                 rfl
                refine pure_ (i := 21) (N := some 100) (v := ?_) (a' := ?_) (tf 23 4194303) rfl rfl (any_of HT_.out (by kernel_rfl)) (fun _ _ _ h => h) (Or.inl ⟨by rfl, ?_⟩) ?_ ?_
                rotate_left
                ·intro w'
                 go_simp
                 with_reducible rfl
                rotate_left
                ·simp only [Act.put, sA_, sB_, sC_, i64_w, i32_w]
                 rfl
                refine last_ (i := 22) (N := none) (tf 23 8388607) rfl rfl (one_of HT_.out (by kernel_rfl)) (by decide) (fun K hK => ?_)
                refine skip_ (w1 := ?_) (by rfl) rfl ?_ ?_
                rotate_left
                ·go_simp
                 rfl
                refine hK.out _ _ ?_
                clear hK K
                refine done_ (done_of HT_.out (by kernel_rfl)) ?_
                try go_wp2
                go_roundg k3
                case measure => have := HJ4.out; have := HK2.out; have := HK3.out; omega
                case rel => exact ⟨(y234), (wrap64 (x12_3 + 1)), (by first | rfl | (simp; done) | (simp [*]; done)), H', ⟨by have := HJ4.out; have := HK2.out; have := HK3.out; omega⟩, ⟨by (with_reducible repeat (first | apply Kd.R_alloc | apply Kd.R_drewN | apply Kd.R_drew)); exact HQ54.out⟩, ⟨by (with_reducible repeat (first | refine kN_ ?_ _ | refine kD_ ?_ | refine kA_ ?_ _)); refine blk_far ?_ (by have h_ := Kd.R_ne HO_10.out BK216.out (by decide); intro e_; exact h_ (by rw [e_]; rfl)) _; (with_reducible repeat (first | refine kN_ ?_ _ | refine kD_ ?_ | refine kA_ ?_ _)); exact BK216.out⟩, ⟨by repeat (first | (with_reducible first | exact HB.out | apply bA_ | apply bN_ | apply bD_ | refine bS_ ?_ GB50.out | refine bS_ ?_ GE216.out) | exact HB.out)⟩⟩
               ·rw [if_neg c48] at H
                exact absurd H (by simp)
              ·rw [if_neg c45] at H
               exact absurd H (by simp)
             ·rw [if_neg c44] at H
              exact absurd H (by simp)
           ·rw [if_neg c41] at H
            have c41b0 : decide (x12_3 < a0_4) = false := decide_eq_false c41
            clear c41
            obtain rfl := Option.some.inj H
            obtain ⟨hcz55_0, hcz55_1, hcz55_2, hcz55_3, hcz55_4, hcz55_5, hcz55_6, hcz55_7, hcz55_8⟩ := cells9_ BK216.out
            obtain ⟨hfz55_0, hfz55_1, hfz55_2, hfz55_3, hfz55_4, hfz55_5, hfz55_6, hfz55_7, hfz55_8⟩ := froz9_ BK216.out
            go_wp2
            go_ret
            exact ⟨_, by first | rfl | (simp [errW_none, errW_some] <;> rfl) | (simp [*, errW_none, errW_some] <;> rfl), by (with_reducible repeat (first | apply Kd.R_alloc | apply Kd.R_drewN | apply Kd.R_drew)); exact HO_10.out, by repeat (first | (with_reducible first | exact HB.out | apply bA_ | apply bN_ | apply bD_ | refine bS_ ?_ GE216.out) | exact HB.out)⟩
     ·rw [if_neg c13] at H
      exact absurd H (by simp)
    ·rw [if_neg c12] at H
     exact absurd H (by simp)

end Go.Proofs.Ytmnmidclaaiffaa.PFieldMoves
