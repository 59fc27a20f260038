-- Written by a program of this session's (wip/print_patch.py over the kit's print) out of the translation; Lean checks it.
import Derived.Test.YtpjajjmipbjliaaDoorPNspathParsesExactlyx0
import Derived.Test.YtpjajjmipbjliaaDoorPNspathParsesExactlyx3
import Derived.Test.YtpjajjmipbjliaaDoorPNspathParsesExactlyx4
import Derived.Test.YtpjajjmipbjliaaDoorExtP
namespace Go.Proofs.YtpjajjmipbjliaaDoor.PNspathParsesExactly
open Go.RowKit Go.Proofs.YtpjajjmipbjliaaDoor.Ext Go.Proofs.YtpjajjmipbjliaaDoorW.PrintWords Go.Proofs.YtpjajjmipbjliaaDoorW.PrintLast Go.Proofs.YtpjajjmipbjliaaDoorW.PrintMore
attribute [local go_sem] max2_int min2_int max_two min_two max_three min_three max_four min_four   -- for this text's walks alone
set_option linter.unusedVariables false
set_option linter.unusedSimpArgs false

/-! ### platformfwref01_ParsePath: function 37 -/
mutual
def platformfwref01_ParsePath.j0 : Nat → ByteArray → Int → Bool → Bool → Int → Option (Bool × Int × List ByteArray × Bool)
 | 0, _, _, _, _, _ => none
 | k + 1, x0, x5, x15, x231000, x231001 => if x15 = true then (platformfwref01_ParsePath.j1 k x0 1 true x231001) else (platformfwref01_ParsePath.j1 k x0 x5 x231000 x231001)
def platformfwref01_ParsePath.j1 : Nat → ByteArray → Int → Bool → Int → Option (Bool × Int × List ByteArray × Bool)
 | 0, _, _, _, _ => none
 | k + 1, x0, x5, x231000, x231001 => platformfwref01_ParsePath.l0 k x0 x5 x231000 x231001
def platformfwref01_ParsePath.j3 : Nat → ByteArray → Int → Bool → Int → Option (Bool × Int × List ByteArray × Bool)
 | 0, _, _, _, _ => none
 | k + 1, x0, x5, x231000, x231001 => platformfwref01_ParsePath.l1 k x0 x5 x5 x231000 x231001 ([] : List ByteArray)
def platformfwref01_ParsePath.l1 : Nat → ByteArray → Int → Int → Bool → Int → List ByteArray → Option (Bool × Int × List ByteArray × Bool)
 | 0, _, _, _, _, _, _ => none
 | k + 1, x0, x5, x6, x231000, x231001, x231002 => if x5 < (x0.size : Int) then (platformfwref01_ParsePath.l2 k x0 x5 x6 x5 x231000 x231001 x231002) else ((platformfwref01_ValidPath.f k x231000 x231001 x231002).bind fun t231 => (if t231 = true then (some (x231000, x231001, x231002, true)) else (some (false, 0, ([] : List ByteArray), false))))
def platformfwref01_ParsePath.l2 : Nat → ByteArray → Int → Int → Int → Bool → Int → List ByteArray → Option (Bool × Int × List ByteArray × Bool)
 | 0, _, _, _, _, _, _, _ => none
 | k + 1, x0, x5, x6, x7, x231000, x231001, x231002 => if x7 < (x0.size : Int) then (if 0 ≤ x7 then (if (bt x0 x7) = 46 then (if x5 > x6 then (if 0 ≤ (wrap64 (x5 - 1)) then (if (wrap64 (x5 - 1)) < (x0.size : Int) then (if (bt x0 (wrap64 (x5 - 1))) = 46 then (if 0 ≤ x5 then (if x5 ≤ x7 then (if x7 ≤ (x0.size : Int) then ((platformfwref01_Segment.f k (x0.extract (x5 : Int).toNat (x7 : Int).toNat)).bind fun t232 => (if t232 = true then (if (wrap64 (x7 + 1)) = (x0.size : Int) then (some (false, 0, ([] : List ByteArray), false)) else (if x231002.length < 8796093022208 then (platformfwref01_ParsePath.l1 k x0 (wrap64 (x7 + 1)) x6 x231000 x231001 (x231002 ++ [x0.extract (x5 : Int).toNat (x7 : Int).toNat])) else (none))) else (some (false, 0, ([] : List ByteArray), false)))) else (none)) else (none)) else (none)) else (some (false, 0, ([] : List ByteArray), false))) else (none)) else (none)) else (if 0 ≤ x5 then (if x5 ≤ x7 then (if x7 ≤ (x0.size : Int) then ((platformfwref01_Segment.f k (x0.extract (x5 : Int).toNat (x7 : Int).toNat)).bind fun t236 => (if t236 = true then (if (wrap64 (x7 + 1)) = (x0.size : Int) then (some (false, 0, ([] : List ByteArray), false)) else (if x231002.length < 8796093022208 then (platformfwref01_ParsePath.l1 k x0 (wrap64 (x7 + 1)) x6 x231000 x231001 (x231002 ++ [x0.extract (x5 : Int).toNat (x7 : Int).toNat])) else (none))) else (some (false, 0, ([] : List ByteArray), false)))) else (none)) else (none)) else (none))) else (platformfwref01_ParsePath.l2 k x0 x5 x6 (wrap64 (x7 + 1)) x231000 x231001 x231002)) else (none)) else (if x5 > x6 then (if 0 ≤ (wrap64 (x5 - 1)) then (if (wrap64 (x5 - 1)) < (x0.size : Int) then (if (bt x0 (wrap64 (x5 - 1))) = 46 then (if 0 ≤ x5 then (if x5 ≤ x7 then (if x7 ≤ (x0.size : Int) then ((platformfwref01_Segment.f k (x0.extract (x5 : Int).toNat (x7 : Int).toNat)).bind fun t240 => (if t240 = true then (if (wrap64 (x7 + 1)) = (x0.size : Int) then (some (false, 0, ([] : List ByteArray), false)) else (if x231002.length < 8796093022208 then (platformfwref01_ParsePath.l1 k x0 (wrap64 (x7 + 1)) x6 x231000 x231001 (x231002 ++ [x0.extract (x5 : Int).toNat (x7 : Int).toNat])) else (none))) else (some (false, 0, ([] : List ByteArray), false)))) else (none)) else (none)) else (none)) else (some (false, 0, ([] : List ByteArray), false))) else (none)) else (none)) else (if 0 ≤ x5 then (if x5 ≤ x7 then (if x7 ≤ (x0.size : Int) then ((platformfwref01_Segment.f k (x0.extract (x5 : Int).toNat (x7 : Int).toNat)).bind fun t244 => (if t244 = true then (if (wrap64 (x7 + 1)) = (x0.size : Int) then (some (false, 0, ([] : List ByteArray), false)) else (if x231002.length < 8796093022208 then (platformfwref01_ParsePath.l1 k x0 (wrap64 (x7 + 1)) x6 x231000 x231001 (x231002 ++ [x0.extract (x5 : Int).toNat (x7 : Int).toNat])) else (none))) else (some (false, 0, ([] : List ByteArray), false)))) else (none)) else (none)) else (none)))
def platformfwref01_ParsePath.l0 : Nat → ByteArray → Int → Bool → Int → Option (Bool × Int × List ByteArray × Bool)
 | 0, _, _, _, _ => none
 | k + 1, x0, x5, x231000, x231001 => if x231000 = true then (platformfwref01_ParsePath.j3 k x0 x5 x231000 x231001) else (if x5 < (x0.size : Int) then (if 0 ≤ x5 then (if (bt x0 x5) = 94 then (platformfwref01_ParsePath.l0 k x0 (wrap64 (x5 + 1)) x231000 (wrap64 (x231001 + 1))) else (platformfwref01_ParsePath.j3 k x0 x5 x231000 x231001)) else (none)) else (platformfwref01_ParsePath.j3 k x0 x5 x231000 x231001))
end
def platformfwref01_ParsePath.f (k : Nat) (a0 : ByteArray) : Option (Bool × Int × List ByteArray × Bool) := if a0.toList = ([] : List UInt8) then (platformfwref01_ParsePath.j0 k a0 0 false false 0) else (if 0 < (a0.size : Int) then (platformfwref01_ParsePath.j0 k a0 0 ((bt a0 0) == 92) false 0) else (none))
theorem platformfwref01_ParsePath.mono_l : ∀ k, (∀ y0 y1 y2 y3 y4, LeO (platformfwref01_ParsePath.j0 k y0 y1 y2 y3 y4) (platformfwref01_ParsePath.j0 (k + 1) y0 y1 y2 y3 y4)) ∧ (∀ y0 y1 y2 y3, LeO (platformfwref01_ParsePath.j1 k y0 y1 y2 y3) (platformfwref01_ParsePath.j1 (k + 1) y0 y1 y2 y3)) ∧ (∀ y0 y1 y2 y3, LeO (platformfwref01_ParsePath.j3 k y0 y1 y2 y3) (platformfwref01_ParsePath.j3 (k + 1) y0 y1 y2 y3)) ∧ (∀ y0 y1 y2 y3 y4 y5, LeO (platformfwref01_ParsePath.l1 k y0 y1 y2 y3 y4 y5) (platformfwref01_ParsePath.l1 (k + 1) y0 y1 y2 y3 y4 y5)) ∧ (∀ y0 y1 y2 y3 y4 y5 y6, LeO (platformfwref01_ParsePath.l2 k y0 y1 y2 y3 y4 y5 y6) (platformfwref01_ParsePath.l2 (k + 1) y0 y1 y2 y3 y4 y5 y6)) ∧ (∀ y0 y1 y2 y3, LeO (platformfwref01_ParsePath.l0 k y0 y1 y2 y3) (platformfwref01_ParsePath.l0 (k + 1) y0 y1 y2 y3))
 | 0 => ⟨fun _ _ _ _ _ r h => by simp [platformfwref01_ParsePath.j0] at h, fun _ _ _ _ r h => by simp [platformfwref01_ParsePath.j1] at h, fun _ _ _ _ r h => by simp [platformfwref01_ParsePath.j3] at h, fun _ _ _ _ _ _ r h => by simp [platformfwref01_ParsePath.l1] at h, fun _ _ _ _ _ _ _ r h => by simp [platformfwref01_ParsePath.l2] at h, fun _ _ _ _ r h => by simp [platformfwref01_ParsePath.l0] at h⟩
 | k + 1 => by
  obtain ⟨ih0, ih1, ih2, ih3, ih4, ih5⟩ := platformfwref01_ParsePath.mono_l k
  refine ⟨?_, ?_, ?_, ?_, ?_, ?_⟩
  ·intro y0 y1 y2 y3 y4
   unfold platformfwref01_ParsePath.j0
   repeat' first
   | (with_reducible exact ih0 _ _ _ _ _)
   | (with_reducible exact ih1 _ _ _ _)
   | (with_reducible exact ih2 _ _ _ _)
   | (with_reducible exact ih3 _ _ _ _ _ _)
   | (with_reducible exact ih4 _ _ _ _ _ _ _)
   | (with_reducible exact ih5 _ _ _ _)
   | (with_reducible exact platformfwref01_Segment.mono _ _)
   | (with_reducible exact platformfwref01_ValidPath.mono _ _ _ _)
   | (with_reducible exact LeO.refl _)
   | (with_reducible exact LeO.none _)
   | (with_reducible refine LeO.ite ?_ ?_)
   | (with_reducible refine LeO.bind ?_ (fun _ => ?_))
   | exact ih0 _ _ _ _ _
   | exact ih1 _ _ _ _
   | exact ih2 _ _ _ _
   | exact ih3 _ _ _ _ _ _
   | exact ih4 _ _ _ _ _ _ _
   | exact ih5 _ _ _ _
   | exact platformfwref01_Segment.mono _ _
   | exact platformfwref01_ValidPath.mono _ _ _ _
   | exact LeO.none _
   | refine LeO.ite ?_ ?_
   | refine LeO.bind ?_ (fun _ => ?_)
  ·intro y0 y1 y2 y3
   unfold platformfwref01_ParsePath.j1
   repeat' first
   | (with_reducible exact ih0 _ _ _ _ _)
   | (with_reducible exact ih1 _ _ _ _)
   | (with_reducible exact ih2 _ _ _ _)
   | (with_reducible exact ih3 _ _ _ _ _ _)
   | (with_reducible exact ih4 _ _ _ _ _ _ _)
   | (with_reducible exact ih5 _ _ _ _)
   | (with_reducible exact platformfwref01_Segment.mono _ _)
   | (with_reducible exact platformfwref01_ValidPath.mono _ _ _ _)
   | (with_reducible exact LeO.refl _)
   | (with_reducible exact LeO.none _)
   | (with_reducible refine LeO.ite ?_ ?_)
   | (with_reducible refine LeO.bind ?_ (fun _ => ?_))
   | exact ih0 _ _ _ _ _
   | exact ih1 _ _ _ _
   | exact ih2 _ _ _ _
   | exact ih3 _ _ _ _ _ _
   | exact ih4 _ _ _ _ _ _ _
   | exact ih5 _ _ _ _
   | exact platformfwref01_Segment.mono _ _
   | exact platformfwref01_ValidPath.mono _ _ _ _
   | exact LeO.none _
   | refine LeO.ite ?_ ?_
   | refine LeO.bind ?_ (fun _ => ?_)
  ·intro y0 y1 y2 y3
   unfold platformfwref01_ParsePath.j3
   repeat' first
   | (with_reducible exact ih0 _ _ _ _ _)
   | (with_reducible exact ih1 _ _ _ _)
   | (with_reducible exact ih2 _ _ _ _)
   | (with_reducible exact ih3 _ _ _ _ _ _)
   | (with_reducible exact ih4 _ _ _ _ _ _ _)
   | (with_reducible exact ih5 _ _ _ _)
   | (with_reducible exact platformfwref01_Segment.mono _ _)
   | (with_reducible exact platformfwref01_ValidPath.mono _ _ _ _)
   | (with_reducible exact LeO.refl _)
   | (with_reducible exact LeO.none _)
   | (with_reducible refine LeO.ite ?_ ?_)
   | (with_reducible refine LeO.bind ?_ (fun _ => ?_))
   | exact ih0 _ _ _ _ _
   | exact ih1 _ _ _ _
   | exact ih2 _ _ _ _
   | exact ih3 _ _ _ _ _ _
   | exact ih4 _ _ _ _ _ _ _
   | exact ih5 _ _ _ _
   | exact platformfwref01_Segment.mono _ _
   | exact platformfwref01_ValidPath.mono _ _ _ _
   | exact LeO.none _
   | refine LeO.ite ?_ ?_
   | refine LeO.bind ?_ (fun _ => ?_)
  ·intro y0 y1 y2 y3 y4 y5
   unfold platformfwref01_ParsePath.l1
   repeat' first
   | (with_reducible exact ih0 _ _ _ _ _)
   | (with_reducible exact ih1 _ _ _ _)
   | (with_reducible exact ih2 _ _ _ _)
   | (with_reducible exact ih3 _ _ _ _ _ _)
   | (with_reducible exact ih4 _ _ _ _ _ _ _)
   | (with_reducible exact ih5 _ _ _ _)
   | (with_reducible exact platformfwref01_Segment.mono _ _)
   | (with_reducible exact platformfwref01_ValidPath.mono _ _ _ _)
   | (with_reducible exact LeO.refl _)
   | (with_reducible exact LeO.none _)
   | (with_reducible refine LeO.ite ?_ ?_)
   | (with_reducible refine LeO.bind ?_ (fun _ => ?_))
   | exact ih0 _ _ _ _ _
   | exact ih1 _ _ _ _
   | exact ih2 _ _ _ _
   | exact ih3 _ _ _ _ _ _
   | exact ih4 _ _ _ _ _ _ _
   | exact ih5 _ _ _ _
   | exact platformfwref01_Segment.mono _ _
   | exact platformfwref01_ValidPath.mono _ _ _ _
   | exact LeO.none _
   | refine LeO.ite ?_ ?_
   | refine LeO.bind ?_ (fun _ => ?_)
  ·intro y0 y1 y2 y3 y4 y5 y6
   unfold platformfwref01_ParsePath.l2
   repeat' first
   | (with_reducible exact ih0 _ _ _ _ _)
   | (with_reducible exact ih1 _ _ _ _)
   | (with_reducible exact ih2 _ _ _ _)
   | (with_reducible exact ih3 _ _ _ _ _ _)
   | (with_reducible exact ih4 _ _ _ _ _ _ _)
   | (with_reducible exact ih5 _ _ _ _)
   | (with_reducible exact platformfwref01_Segment.mono _ _)
   | (with_reducible exact platformfwref01_ValidPath.mono _ _ _ _)
   | (with_reducible exact LeO.refl _)
   | (with_reducible exact LeO.none _)
   | (with_reducible refine LeO.ite ?_ ?_)
   | (with_reducible refine LeO.bind ?_ (fun _ => ?_))
   | exact ih0 _ _ _ _ _
   | exact ih1 _ _ _ _
   | exact ih2 _ _ _ _
   | exact ih3 _ _ _ _ _ _
   | exact ih4 _ _ _ _ _ _ _
   | exact ih5 _ _ _ _
   | exact platformfwref01_Segment.mono _ _
   | exact platformfwref01_ValidPath.mono _ _ _ _
   | exact LeO.none _
   | refine LeO.ite ?_ ?_
   | refine LeO.bind ?_ (fun _ => ?_)
  ·intro y0 y1 y2 y3
   unfold platformfwref01_ParsePath.l0
   repeat' first
   | (with_reducible exact ih0 _ _ _ _ _)
   | (with_reducible exact ih1 _ _ _ _)
   | (with_reducible exact ih2 _ _ _ _)
   | (with_reducible exact ih3 _ _ _ _ _ _)
   | (with_reducible exact ih4 _ _ _ _ _ _ _)
   | (with_reducible exact ih5 _ _ _ _)
   | (with_reducible exact platformfwref01_Segment.mono _ _)
   | (with_reducible exact platformfwref01_ValidPath.mono _ _ _ _)
   | (with_reducible exact LeO.refl _)
   | (with_reducible exact LeO.none _)
   | (with_reducible refine LeO.ite ?_ ?_)
   | (with_reducible refine LeO.bind ?_ (fun _ => ?_))
   | exact ih0 _ _ _ _ _
   | exact ih1 _ _ _ _
   | exact ih2 _ _ _ _
   | exact ih3 _ _ _ _ _ _
   | exact ih4 _ _ _ _ _ _ _
   | exact ih5 _ _ _ _
   | exact platformfwref01_Segment.mono _ _
   | exact platformfwref01_ValidPath.mono _ _ _ _
   | exact LeO.none _
   | refine LeO.ite ?_ ?_
   | refine LeO.bind ?_ (fun _ => ?_)
theorem platformfwref01_ParsePath.mono : ∀ a0 k, LeO (platformfwref01_ParsePath.f k a0) (platformfwref01_ParsePath.f (k + 1) a0) := by
 intro a0 k
 obtain ⟨ih0, ih1, ih2, ih3, ih4, ih5⟩ := platformfwref01_ParsePath.mono_l k
 unfold platformfwref01_ParsePath.f
 repeat' first
   | (with_reducible exact ih0 _ _ _ _ _)
   | (with_reducible exact ih1 _ _ _ _)
   | (with_reducible exact ih2 _ _ _ _)
   | (with_reducible exact ih3 _ _ _ _ _ _)
   | (with_reducible exact ih4 _ _ _ _ _ _ _)
   | (with_reducible exact ih5 _ _ _ _)
   | (with_reducible exact platformfwref01_Segment.mono _ _)
   | (with_reducible exact platformfwref01_ValidPath.mono _ _ _ _)
   | (with_reducible exact LeO.refl _)
   | (with_reducible exact LeO.none _)
   | (with_reducible refine LeO.ite ?_ ?_)
   | (with_reducible refine LeO.bind ?_ (fun _ => ?_))
   | exact ih0 _ _ _ _ _
   | exact ih1 _ _ _ _
   | exact ih2 _ _ _ _
   | exact ih3 _ _ _ _ _ _
   | exact ih4 _ _ _ _ _ _ _
   | exact ih5 _ _ _ _
   | exact platformfwref01_Segment.mono _ _
   | exact platformfwref01_ValidPath.mono _ _ _ _
   | exact LeO.none _
   | refine LeO.ite ?_ ?_
   | refine LeO.bind ?_ (fun _ => ?_)
def platformfwref01_ParsePath.T16 : Bool × List (List Nat × List Nat) := (true, [([], []), ([0], [0]), ([], []), ([], []), ([], []), ([2, 3, 4], [2, 3, 4]), ([5], [5]), ([1, 6], [1, 6]), ([0, 1, 2, 3, 4, 5, 6, 7], []), ([8, 7, 7, 0, 1, 2, 3, 4, 5, 6, 7], [7, 8])])
def platformfwref01_ParsePath.B16 : List Nat := [0, 1, 0, 0, 0, 28, 60, 127, 255, 511]
theorem platformfwref01_ParsePath.tab16 : rtab .any (opsOf Tryd.f37 16) = platformfwref01_ParsePath.T16 := by kernel_rfl
theorem platformfwref01_ParsePath.bits16 : waitsOk platformfwref01_ParsePath.T16.2 platformfwref01_ParsePath.B16 = true := by kernel_rfl
set_option maxHeartbeats 8000000 in
set_option maxRecDepth 100000 in
theorem platformfwref01_ParsePath.calls (k : Nat) (a0 : ByteArray) (r1 : Bool) (r2 : Int) (r3 : List ByteArray) (r4 : Bool) (w : World) (h : platformfwref01_ParsePath.f k a0 = some (r1, r2, r3, r4)) :
  Calls Tryd.prog 37 #[.string a0] w fun e w' => ∃ v2_ : Value, e = .returned (.tuple #[.agg #[.bool r1, .int .i64 r2, v2_], .bool r4]) ∧ Kd.R Kd.string 9 w' w.heap.size (fun _ => True) v2_ r3 ∧ Below w.heap.size w w' := by
 have hu24 := Tryd.underlying24
 have HB := Aside0.mk (Below.refl w.heap.size w)
 have H : (if a0.toList = ([] : List UInt8) then (platformfwref01_ParsePath.j0 k a0 0 false false 0) else (if 0 < (a0.size : Int) then (platformfwref01_ParsePath.j0 k a0 0 ((bt a0 0) == 92) false 0) else (none))) = some (r1, r2, r3, r4) := h
 clear h
 have HC2 := Aside0.mk H
 clear H
 go_enter Tryd.func37, Tryd.ntmps37
 go_upto_region 3 with (first | ((with_reducible refine gate_dst (N := 2) rfl ?_); (try (refine gate_guard (by rfl) ?_; dsimp only)); refine box_event ?hg (N := 2) ?hd (cs := #[.bool false, .int .i64 0, .slice none 0 0]) (t := 24) ?hr ?_; (case hd => rfl); (case hg => rfl); (case hr => first | (go_simp; done) | (go_simp; rfl)); intro gb229 hg w3 hbox hb; have n0_ := Aside0.mk (below_step (by repeat (first | (with_reducible first | exact HB.out | apply bA_ | apply bN_ | apply bD_) | exact HB.out)) hb); have n1_ := Aside0.mk (hbox); have n2_ := Aside0.mk ((by rw [hg]; exact (below_size (by repeat (first | (with_reducible first | exact HB.out | apply bA_ | apply bN_ | apply bD_) | exact HB.out))) : w.heap.size ≤ gb229)); have n3_ := Aside0.mk ((by rw [hg]; exact (below_size (by repeat (first | (with_reducible first | exact HB.out | apply bA_ | apply bN_ | apply bD_) | exact HB.out))) : w.heap.size ≤ gb229)); clear HB; have HB := n0_; have BK229 := n1_; have GW229 := n2_; have GE229 := n3_; clear n0_ n1_ n2_ n3_; clear hb hbox hg) | ((with_reducible refine gate_dst (N := 4) rfl ?_); (try (refine gate_guard (by rfl) ?_; dsimp only)); refine box_event ?hg (N := 4) ?hd (cs := #[.bool false, .int .i64 0, .slice none 0 0]) (t := 24) ?hr ?_; (case hd => rfl); (case hg => rfl); (case hr => first | (go_simp; done) | (go_simp; rfl)); intro gb230 hg w4 hbox hb; have n0_ := Aside0.mk (blk_below (g := gb229) (o := .cells #[.bool false, .int .i64 0, .slice none 0 0] 24 (0, 0)) (by (with_reducible repeat (first | refine kN_ ?_ _ | refine kD_ ?_ | refine kA_ ?_ _)); exact BK229.out) hb); have n1_ := Aside0.mk (below_step (by repeat (first | (with_reducible first | exact HB.out | apply bA_ | apply bN_ | apply bD_ | refine bS_ ?_ GE229.out) | exact HB.out)) hb); have n2_ := Aside0.mk (hbox); have n3_ := Aside0.mk ((by rw [hg]; exact (below_size (by repeat (first | (with_reducible first | exact HB.out | apply bA_ | apply bN_ | apply bD_ | refine bS_ ?_ GE229.out) | exact HB.out))) : w.heap.size ≤ gb230)); have n4_ := Aside0.mk ((by rw [hg]; exact (below_size (by repeat (first | (with_reducible first | exact HB.out | apply bA_ | apply bN_ | apply bD_ | refine bS_ ?_ GE229.out) | exact HB.out))) : w.heap.size ≤ gb230)); have n5_ := Aside0.mk ((by rw [hg]; exact Nat.ne_of_lt (blk_lt (g := gb229) (o := .cells #[.bool false, .int .i64 0, .slice none 0 0] 24 (0, 0)) (by (with_reducible repeat (first | refine kN_ ?_ _ | refine kD_ ?_ | refine kA_ ?_ _)); exact BK229.out)) : gb229 ≠ gb230)); have n6_ := Aside0.mk ((by rw [hg]; exact Nat.ne_of_gt (blk_lt (g := gb229) (o := .cells #[.bool false, .int .i64 0, .slice none 0 0] 24 (0, 0)) (by (with_reducible repeat (first | refine kN_ ?_ _ | refine kD_ ?_ | refine kA_ ?_ _)); exact BK229.out)) : gb230 ≠ gb229)); clear BK229; clear HB; have BK229 := n0_; have HB := n1_; have BK230 := n2_; have GW230 := n3_; have GE230 := n4_; have NB229_230 := n5_; have NB230_229 := n6_; clear n0_ n1_ n2_ n3_ n4_ n5_ n6_; clear hb hbox hg; have hnb5 := NB230_229.out; have hnc5 := NB229_230.out; obtain ⟨hcz6_0, hcz6_1, hcz6_2⟩ := cells3_ BK230.out; obtain ⟨hfz6_0, hfz6_1, hfz6_2⟩ := froz3_ BK230.out))
 (try simp only [Act.put, sA_, sB_, sC_])
 go_cut [15] (fun v15 wc => ∃ (kq : Nat) (x15_1 : Bool), v15 = .bool x15_1 ∧ Aside0 (platformfwref01_ParsePath.j0 kq a0 0 x15_1 false 0 = some (r1, r2, r3, r4)) ∧ Aside0 (kq ≤ k) ∧ Aside0 (wc.heap[gb229]? = some (.cells #[.bool false, .int .i64 0, (.slice none 0 0)] 24 (0, 0))) ∧ Aside0 (wc.heap[gb230]? = some (.cells #[.bool false, .int .i64 0, (.slice none 0 0)] 24 (0, 0))) ∧ Aside0 (Below w.heap.size w wc))
 case first =>
  have H := HC2.out
  clear HC2
  by_cases c7 : a0.toList = ([] : List UInt8)
  ·rw [if_pos c7] at H
   have c7b0 : (a0.toList == ([] : List UInt8)) = true := beq_iff_eq.mpr c7
   have c7b1 : (a0.toList != ([] : List UInt8)) = false := bne_eq_false_iff_eq.mpr c7
   clear c7
   (first | rw [c7b0] | (simp only [i64_w, i32_w]; rw [c7b0]) | skip)
   have H' := Aside0.mk H
   clear H
   go_wp2
   go_meet
   case rel => exact ⟨_, (false), (by first | rfl | (simp; done) | (simp [*]; done)), H', ⟨by first | omega | exact Nat.le_refl _⟩, ⟨by (with_reducible repeat (first | refine kN_ ?_ _ | refine kD_ ?_ | refine kA_ ?_ _)); refine blk_far ?_ NB229_230.out _; (with_reducible repeat (first | refine kN_ ?_ _ | refine kD_ ?_ | refine kA_ ?_ _)); refine blk_far ?_ NB229_230.out _; (with_reducible repeat (first | refine kN_ ?_ _ | refine kD_ ?_ | refine kA_ ?_ _)); refine blk_far ?_ NB229_230.out _; (with_reducible repeat (first | refine kN_ ?_ _ | refine kD_ ?_ | refine kA_ ?_ _)); exact BK229.out⟩, ⟨by (with_reducible repeat (first | refine kN_ ?_ _ | refine kD_ ?_ | refine kA_ ?_ _)); refine blk_put (cs := #[.bool false, .int .i64 0, .slice none 0 0]) ?_ 2 _ rfl; (with_reducible repeat (first | refine kN_ ?_ _ | refine kD_ ?_ | refine kA_ ?_ _)); refine blk_put (cs := #[.bool false, .int .i64 0, .slice none 0 0]) ?_ 1 _ rfl; (with_reducible repeat (first | refine kN_ ?_ _ | refine kD_ ?_ | refine kA_ ?_ _)); refine blk_put (cs := #[.bool false, .int .i64 0, .slice none 0 0]) ?_ 0 _ rfl; (with_reducible repeat (first | refine kN_ ?_ _ | refine kD_ ?_ | refine kA_ ?_ _)); exact BK230.out⟩, ⟨by repeat (first | (with_reducible first | exact HB.out | apply bA_ | apply bN_ | apply bD_ | refine bS_ ?_ GE229.out | refine bS_ ?_ GE230.out) | exact HB.out)⟩⟩
  ·rw [if_neg c7] at H
   have c7b0 : (a0.toList == ([] : List UInt8)) = false := beq_eq_false_iff_ne.mpr c7
   have c7b1 : (a0.toList != ([] : List UInt8)) = true := bne_iff_ne.mpr c7
   (first | rw [c7b0] | (simp only [i64_w, i32_w]; rw [c7b0]) | skip)
   by_cases c8 : 0 < (a0.size : Int)
   ·rw [if_pos c8] at H
    have c8b0 : decide (0 < (a0.size : Int)) = true := decide_eq_true c8
    have c8b1 : decide (0 < a0.size) = true := decide_eq_true (by omega)
    clear c8
    have H' := Aside0.mk H
    clear H
    have p9 : 0 ≤ (0 : Int) := (by omega)
    have q9 : 0 < a0.size := (by have : (0 : Int) < (a0.size : Int) := of_decide_eq_true (by first | (with_reducible assumption) | assumption); omega)
    have hx9 : ∀ h : 0 < a0.size, ((a0[0]'h).toNat : Int) = bt a0 0 := bt_at a0 0
    clear p9
    have qi9 : (0 < (a0.size : Int)) = True := eq_true (of_decide_eq_true (by first | (with_reducible assumption) | assumption))
    replace q9 := eq_true q9
    go_wp2
    go_meet
    case rel => exact ⟨_, (((bt a0 0) == 92)), (by first | rfl | (simp; done) | (simp [*]; done)), H', ⟨by first | omega | exact Nat.le_refl _⟩, ⟨by (with_reducible repeat (first | refine kN_ ?_ _ | refine kD_ ?_ | refine kA_ ?_ _)); refine blk_far ?_ NB229_230.out _; (with_reducible repeat (first | refine kN_ ?_ _ | refine kD_ ?_ | refine kA_ ?_ _)); refine blk_far ?_ NB229_230.out _; (with_reducible repeat (first | refine kN_ ?_ _ | refine kD_ ?_ | refine kA_ ?_ _)); refine blk_far ?_ NB229_230.out _; (with_reducible repeat (first | refine kN_ ?_ _ | refine kD_ ?_ | refine kA_ ?_ _)); exact BK229.out⟩, ⟨by (with_reducible repeat (first | refine kN_ ?_ _ | refine kD_ ?_ | refine kA_ ?_ _)); refine blk_put (cs := #[.bool false, .int .i64 0, .slice none 0 0]) ?_ 2 _ rfl; (with_reducible repeat (first | refine kN_ ?_ _ | refine kD_ ?_ | refine kA_ ?_ _)); refine blk_put (cs := #[.bool false, .int .i64 0, .slice none 0 0]) ?_ 1 _ rfl; (with_reducible repeat (first | refine kN_ ?_ _ | refine kD_ ?_ | refine kA_ ?_ _)); refine blk_put (cs := #[.bool false, .int .i64 0, .slice none 0 0]) ?_ 0 _ rfl; (with_reducible repeat (first | refine kN_ ?_ _ | refine kD_ ?_ | refine kA_ ?_ _)); exact BK230.out⟩, ⟨by repeat (first | (with_reducible first | exact HB.out | apply bA_ | apply bN_ | apply bD_ | refine bS_ ?_ GE229.out | refine bS_ ?_ GE230.out) | exact HB.out)⟩⟩
   ·rw [if_neg c8] at H
    exact absurd H (by simp)
 case rest =>
  clear HC2
  try clear p2
  try clear c3
  try clear c5
  try clear c7
  try clear c7b0
  try clear c7b1
  try clear c8
  try clear c8b0
  try clear c8b1
  try clear p9
  try clear q9
  try clear hx9
  try clear qi9
  try clear hcz6_0 hcz6_1 hcz6_2
  try clear hfz6_0 hfz6_1 hfz6_2
  try clear p9
  try clear q9
  obtain ⟨kq, x15_1, rfl, HA, HJ1, BK229, BK230, HB⟩ := hcut
  cases kq with
  | zero => exact absurd HA.out (by simp [platformfwref01_ParsePath.j0])
  | succ kj1 =>
   have H := HA.out
   clear HA
   simp only [platformfwref01_ParsePath.j0] at H
   have HC10 := Aside0.mk H
   clear H
   go_upto_if 15 with (fail)
   go_cut [5] (fun v5 wc => ∃ (kq : Nat) (x5_9 : Int) (x231000_9 : Bool), v5 = .int .i64 x5_9 ∧ Aside0 (platformfwref01_ParsePath.j1 kq a0 x5_9 x231000_9 0 = some (r1, r2, r3, r4)) ∧ Aside0 (kq ≤ kj1) ∧ Aside0 (wc.heap[gb229]? = some (.cells #[.bool false, .int .i64 0, (.slice none 0 0)] 24 (0, 0))) ∧ Aside0 (wc.heap[gb230]? = some (.cells #[.bool x231000_9, .int .i64 0, (.slice none 0 0)] 24 (0, 0))) ∧ Aside0 (Below w.heap.size w wc))
   case first =>
    have H := HC10.out
    clear HC10
    by_cases c11 : x15_1 = true
    ·subst c11
     have H1 : (platformfwref01_ParsePath.j1 kj1 a0 1 true 0) = some (r1, r2, r3, r4) := by rw [if_pos rfl] at H; exact H
     clear H
     have H := H1
     clear H1
     have H' := Aside0.mk H
     clear H
     have hnb12 := NB230_229.out
     have hnc12 := NB229_230.out
     obtain ⟨hcz13_0, hcz13_1, hcz13_2⟩ := cells3_ BK230.out
     obtain ⟨hfz13_0, hfz13_1, hfz13_2⟩ := froz3_ BK230.out
     go_wp2
     go_meet
     case rel => exact ⟨_, (1), (true), (by first | rfl | (simp; done) | (simp [*]; done)), H', ⟨by have := HJ1.out; first | omega | exact Nat.le_refl _⟩, ⟨by (with_reducible repeat (first | refine kN_ ?_ _ | refine kD_ ?_ | refine kA_ ?_ _)); refine blk_far ?_ NB229_230.out _; (with_reducible repeat (first | refine kN_ ?_ _ | refine kD_ ?_ | refine kA_ ?_ _)); exact BK229.out⟩, ⟨by (with_reducible repeat (first | refine kN_ ?_ _ | refine kD_ ?_ | refine kA_ ?_ _)); refine blk_put (cs := #[.bool false, .int .i64 0, .slice none 0 0]) ?_ 0 _ rfl; (with_reducible repeat (first | refine kN_ ?_ _ | refine kD_ ?_ | refine kA_ ?_ _)); exact BK230.out⟩, ⟨by repeat (first | (with_reducible first | exact HB.out | apply bA_ | apply bN_ | apply bD_ | refine bS_ ?_ GE229.out | refine bS_ ?_ GE230.out) | exact HB.out)⟩⟩
    ·replace c11 := Bool.eq_false_iff.mpr c11
     subst c11
     have H1 : (platformfwref01_ParsePath.j1 kj1 a0 0 false 0) = some (r1, r2, r3, r4) := by rw [if_neg (show ¬ (false = true) by decide)] at H; exact H
     clear H
     have H := H1
     clear H1
     have H' := Aside0.mk H
     clear H
     go_wp2
     go_meet
     case rel => exact ⟨_, (0), (false), (by first | rfl | (simp; done) | (simp [*]; done)), H', ⟨by have := HJ1.out; first | omega | exact Nat.le_refl _⟩, ⟨by (with_reducible repeat (first | refine kN_ ?_ _ | refine kD_ ?_ | refine kA_ ?_ _)); exact BK229.out⟩, ⟨by (with_reducible repeat (first | refine kN_ ?_ _ | refine kD_ ?_ | refine kA_ ?_ _)); exact BK230.out⟩, ⟨by repeat (first | (with_reducible first | exact HB.out | apply bA_ | apply bN_ | apply bD_ | refine bS_ ?_ GE229.out | refine bS_ ?_ GE230.out) | exact HB.out)⟩⟩
   case rest =>
    clear HC10
    try clear c1
    try clear p2
    try clear c3
    try clear c5
    try clear c7
    try clear c7b0
    try clear c7b1
    try clear c8
    try clear c8b0
    try clear c8b1
    try clear p9
    try clear q9
    try clear hx9
    try clear qi9
    try clear c11
    try clear c12
    try clear hcz13_0 hcz13_1 hcz13_2
    try clear hcz6_0 hcz6_1 hcz6_2
    try clear hfz13_0 hfz13_1 hfz13_2
    try clear hfz6_0 hfz6_1 hfz6_2
    try clear p2
    try clear p9
    try clear q9
    obtain ⟨kq, x5_9, x231000_9, rfl, HA, HJ9, BK229, BK230, HB⟩ := hcut
    cases kq with
    | zero => exact absurd HA.out (by simp [platformfwref01_ParsePath.j1])
    | succ kj9 =>
     have H := HA.out
     clear HA
     simp only [platformfwref01_ParsePath.j1] at H
     have HC14 := Aside0.mk H
     clear H
     go_upto_block 0 with (fail)
     go_cut [5] (fun v5 wc => ∃ (kq : Nat) (x5_13 : Int) (x231001_13 : Int), v5 = .int .i64 x5_13 ∧ Aside0 (platformfwref01_ParsePath.j3 kq a0 x5_13 x231000_9 x231001_13 = some (r1, r2, r3, r4)) ∧ Aside0 (kq ≤ kj9) ∧ Aside0 (wc.heap[gb229]? = some (.cells #[.bool false, .int .i64 0, (.slice none 0 0)] 24 (0, 0))) ∧ Aside0 (wc.heap[gb230]? = some (.cells #[.bool x231000_9, .int .i64 x231001_13, (.slice none 0 0)] 24 (0, 0))) ∧ Aside0 (Below w.heap.size w wc))
     case first =>
      have H := HC14.out
      clear HC14
      have H' := Aside0.mk H
      clear H
      go_wp2
      go_loopg [5] kj9 (fun kq v5 w' => ∃ (x5_3 : Int) (x231001_3 : Int), v5 = .int .i64 x5_3 ∧ Aside0 (platformfwref01_ParsePath.l0 kq a0 x5_3 x231000_9 x231001_3 = some (r1, r2, r3, r4)) ∧ Aside0 (kq ≤ kj9) ∧ Aside0 (w'.heap[gb229]? = some (.cells #[.bool false, .int .i64 0, (.slice none 0 0)] 24 (0, 0))) ∧ Aside0 (w'.heap[gb230]? = some (.cells #[.bool x231000_9, .int .i64 x231001_3, (.slice none 0 0)] 24 (0, 0))) ∧ Aside0 (Below w.heap.size w w'))
      case atStart => exact ⟨(x5_9), (0), (by first | rfl | (simp; done) | (simp [*]; done)), H', ⟨Nat.le_refl _⟩, ⟨by (with_reducible repeat (first | refine kN_ ?_ _ | refine kD_ ?_ | refine kA_ ?_ _)); exact BK229.out⟩, ⟨by (with_reducible repeat (first | refine kN_ ?_ _ | refine kD_ ?_ | refine kA_ ?_ _)); exact BK230.out⟩, ⟨by repeat (first | (with_reducible first | exact HB.out | apply bA_ | apply bN_ | apply bD_ | refine bS_ ?_ GE229.out | refine bS_ ?_ GE230.out) | exact HB.out)⟩⟩
      case round =>
       clear H'
       try clear c1
       try clear p2
       try clear c3
       try clear c5
       try clear c7
       try clear c7b0
       try clear c7b1
       try clear c8
       try clear c8b0
       try clear c8b1
       try clear p9
       try clear q9
       try clear hx9
       try clear qi9
       try clear c11
       try clear c12
       try clear hcz13_0 hcz13_1 hcz13_2
       try clear hcz6_0 hcz6_1 hcz6_2
       try clear hfz13_0 hfz13_1 hfz13_2
       try clear hfz6_0 hfz6_1 hfz6_2
       try clear p2
       try clear p9
       try clear q9
       obtain ⟨x5_3, x231001_3, rfl, HA, HK3, BK229, BK230, HB⟩ := hrel
       cases gk with
       | zero => exact absurd HA.out (by simp [platformfwref01_ParsePath.l0])
       | succ k3 =>
        have H := HA.out
        clear HA
        simp only [platformfwref01_ParsePath.l0] at H
        by_cases c15 : x231000_9 = true
        ·subst c15
         have H1 : (platformfwref01_ParsePath.j3 k3 a0 x5_3 true x231001_3) = some (r1, r2, r3, r4) := by rw [if_pos rfl] at H; exact H
         clear H
         have H := H1
         clear H1
         have H' := Aside0.mk H
         clear H
         have hnb16 := NB230_229.out
         have hnc16 := NB229_230.out
         obtain ⟨hcz17_0, hcz17_1, hcz17_2⟩ := cells3_ BK230.out
         obtain ⟨hfz17_0, hfz17_1, hfz17_2⟩ := froz3_ BK230.out
         go_wp2
         go_meet
         case rel => exact ⟨_, (x5_3), (x231001_3), (by first | rfl | (simp; done) | (simp [*]; done)), H', ⟨by have := HJ1.out; have := HJ9.out; have := HK3.out; first | omega | exact Nat.le_refl _⟩, ⟨by (with_reducible repeat (first | refine kN_ ?_ _ | refine kD_ ?_ | refine kA_ ?_ _)); exact BK229.out⟩, ⟨by (with_reducible repeat (first | refine kN_ ?_ _ | refine kD_ ?_ | refine kA_ ?_ _)); exact BK230.out⟩, ⟨by repeat (first | (with_reducible first | exact HB.out | apply bA_ | apply bN_ | apply bD_ | refine bS_ ?_ GE229.out | refine bS_ ?_ GE230.out) | exact HB.out)⟩⟩
        ·replace c15 := Bool.eq_false_iff.mpr c15
         subst c15
         have H1 : (if x5_3 < (a0.size : Int) then (if 0 ≤ x5_3 then (if (bt a0 x5_3) = 94 then (platformfwref01_ParsePath.l0 k3 a0 (wrap64 (x5_3 + 1)) false (wrap64 (x231001_3 + 1))) else (platformfwref01_ParsePath.j3 k3 a0 x5_3 false x231001_3)) else (none)) else (platformfwref01_ParsePath.j3 k3 a0 x5_3 false x231001_3)) = some (r1, r2, r3, r4) := by rw [if_neg (show ¬ (false = true) by decide)] at H; exact H
         clear H
         have H := H1
         clear H1
         by_cases c18 : x5_3 < (a0.size : Int)
         ·rw [if_pos c18] at H
          have c18b0 : decide (x5_3 < (a0.size : Int)) = true := decide_eq_true c18
          clear c18
          (first | rw [c18b0] | (simp only [i64_w, i32_w]; rw [c18b0]) | skip)
          by_cases c19 : 0 ≤ x5_3
          ·rw [if_pos c19] at H
           have c19b0 : decide (0 ≤ x5_3) = true := decide_eq_true c19
           clear c19
           by_cases c21 : (bt a0 x5_3) = 94
           ·rw [if_pos c21] at H
            have c21b0 : ((bt a0 x5_3) == 94) = true := beq_iff_eq.mpr c21
            have c21b1 : ((bt a0 x5_3) != 94) = false := bne_eq_false_iff_eq.mpr c21
            clear c21
            have H' := Aside0.mk H
            clear H
            have hnb22 := NB230_229.out
            have hnc22 := NB229_230.out
            obtain ⟨hcz23_0, hcz23_1, hcz23_2⟩ := cells3_ BK230.out
            obtain ⟨hfz23_0, hfz23_1, hfz23_2⟩ := froz3_ BK230.out
            have p20 : 0 ≤ (x5_3 : Int) := of_decide_eq_true (by first | (with_reducible assumption) | assumption)
            have q20 : x5_3 < (a0.size : Int) := of_decide_eq_true (by first | (with_reducible assumption) | assumption)
            have hx20 := bt_at a0 x5_3
            replace p20 := eq_true p20
            replace q20 := eq_true q20
            go_wp2
            go_roundg k3
            case measure => have := HJ1.out; have := HJ9.out; have := HK3.out; omega
            case rel => exact ⟨(wrap64 (x5_3 + 1)), (wrap64 (x231001_3 + 1)), (by first | rfl | (simp; done) | (simp [*]; done)), H', ⟨by have := HJ1.out; have := HJ9.out; have := HK3.out; omega⟩, ⟨by (with_reducible repeat (first | refine kN_ ?_ _ | refine kD_ ?_ | refine kA_ ?_ _)); refine blk_far ?_ NB229_230.out _; (with_reducible repeat (first | refine kN_ ?_ _ | refine kD_ ?_ | refine kA_ ?_ _)); exact BK229.out⟩, ⟨by (with_reducible repeat (first | refine kN_ ?_ _ | refine kD_ ?_ | refine kA_ ?_ _)); refine blk_put (cs := #[.bool false, .int .i64 x231001_3, .slice none 0 0]) ?_ 1 _ rfl; (with_reducible repeat (first | refine kN_ ?_ _ | refine kD_ ?_ | refine kA_ ?_ _)); exact BK230.out⟩, ⟨by repeat (first | (with_reducible first | exact HB.out | apply bA_ | apply bN_ | apply bD_ | refine bS_ ?_ GE229.out | refine bS_ ?_ GE230.out) | exact HB.out)⟩⟩
           ·rw [if_neg c21] at H
            have c21b0 : ((bt a0 x5_3) == 94) = false := beq_eq_false_iff_ne.mpr c21
            have c21b1 : ((bt a0 x5_3) != 94) = true := bne_iff_ne.mpr c21
            have H' := Aside0.mk H
            clear H
            have hnb24 := NB230_229.out
            have hnc24 := NB229_230.out
            obtain ⟨hcz25_0, hcz25_1, hcz25_2⟩ := cells3_ BK230.out
            obtain ⟨hfz25_0, hfz25_1, hfz25_2⟩ := froz3_ BK230.out
            have p20 : 0 ≤ (x5_3 : Int) := of_decide_eq_true (by first | (with_reducible assumption) | assumption)
            have q20 : x5_3 < (a0.size : Int) := of_decide_eq_true (by first | (with_reducible assumption) | assumption)
            have hx20 := bt_at a0 x5_3
            replace p20 := eq_true p20
            replace q20 := eq_true q20
            go_wp2
            go_meet
            case rel => exact ⟨_, (x5_3), (x231001_3), (by first | rfl | (simp; done) | (simp [*]; done)), H', ⟨by have := HJ1.out; have := HJ9.out; have := HK3.out; first | omega | exact Nat.le_refl _⟩, ⟨by (with_reducible repeat (first | refine kN_ ?_ _ | refine kD_ ?_ | refine kA_ ?_ _)); exact BK229.out⟩, ⟨by (with_reducible repeat (first | refine kN_ ?_ _ | refine kD_ ?_ | refine kA_ ?_ _)); exact BK230.out⟩, ⟨by repeat (first | (with_reducible first | exact HB.out | apply bA_ | apply bN_ | apply bD_ | refine bS_ ?_ GE229.out | refine bS_ ?_ GE230.out) | exact HB.out)⟩⟩
          ·rw [if_neg c19] at H
           exact absurd H (by simp)
         ·rw [if_neg c18] at H
          have c18b0 : decide (x5_3 < (a0.size : Int)) = false := decide_eq_false c18
          clear c18
          (first | rw [c18b0] | (simp only [i64_w, i32_w]; rw [c18b0]) | skip)
          have H' := Aside0.mk H
          clear H
          have hnb26 := NB230_229.out
          have hnc26 := NB229_230.out
          obtain ⟨hcz27_0, hcz27_1, hcz27_2⟩ := cells3_ BK230.out
          obtain ⟨hfz27_0, hfz27_1, hfz27_2⟩ := froz3_ BK230.out
          go_wp2
          go_meet
          case rel => exact ⟨_, (x5_3), (x231001_3), (by first | rfl | (simp; done) | (simp [*]; done)), H', ⟨by have := HJ1.out; have := HJ9.out; have := HK3.out; first | omega | exact Nat.le_refl _⟩, ⟨by (with_reducible repeat (first | refine kN_ ?_ _ | refine kD_ ?_ | refine kA_ ?_ _)); exact BK229.out⟩, ⟨by (with_reducible repeat (first | refine kN_ ?_ _ | refine kD_ ?_ | refine kA_ ?_ _)); exact BK230.out⟩, ⟨by repeat (first | (with_reducible first | exact HB.out | apply bA_ | apply bN_ | apply bD_ | refine bS_ ?_ GE229.out | refine bS_ ?_ GE230.out) | exact HB.out)⟩⟩
     case rest =>
      clear HC14
      try clear c1
      try clear c2
      try clear p2
      try clear q2
      try clear hx2
      try clear c3
      try clear c5
      try clear p6
      try clear c7
      try clear c7b0
      try clear c7b1
      try clear c8
      try clear c8b0
      try clear c8b1
      try clear p9
      try clear q9
      try clear hx9
      try clear qi9
      try clear c11
      try clear c12
      try clear c15
      try clear c16
      try clear c18
      try clear c18b0
      try clear c19
      try clear c19b0
      try clear p20
      try clear q20
      try clear hx20
      try clear c21
      try clear c21b0
      try clear c21b1
      try clear c22
      try clear c24
      try clear c26
      try clear hcz13_0 hcz13_1 hcz13_2
      try clear hcz17_0 hcz17_1 hcz17_2
      try clear hcz23_0 hcz23_1 hcz23_2
      try clear hcz25_0 hcz25_1 hcz25_2
      try clear hcz27_0 hcz27_1 hcz27_2
      try clear hcz6_0 hcz6_1 hcz6_2
      try clear hfz13_0 hfz13_1 hfz13_2
      try clear hfz17_0 hfz17_1 hfz17_2
      try clear hfz23_0 hfz23_1 hfz23_2
      try clear hfz25_0 hfz25_1 hfz25_2
      try clear hfz27_0 hfz27_1 hfz27_2
      try clear hfz6_0 hfz6_1 hfz6_2
      try clear p2
      try clear p20
      try clear p9
      try clear q20
      try clear q9
      obtain ⟨kq, x5_13, x231001_13, rfl, HA, HJ13, BK229, BK230, HB⟩ := hcut
      cases kq with
      | zero => exact absurd HA.out (by simp [platformfwref01_ParsePath.j3])
      | succ kj13 =>
       have H := HA.out
       clear HA
       simp only [platformfwref01_ParsePath.j3] at H
       have H' := Aside0.mk H
       clear H
       go_wp2
       go_loopg [5] kj13 (fun kq v5 w' => ∃ (x5_4 : Int) (x230000_4 : Bool) (x230001_4 : Int) (x231002_4 : List ByteArray) (u231002 : Value), v5 = .int .i64 x5_4 ∧ Aside0 (platformfwref01_ParsePath.l1 kq a0 x5_4 x5_13 x231000_9 x231001_13 x231002_4 = some (r1, r2, r3, r4)) ∧ Aside0 (kq ≤ kj13) ∧ Aside0 (Kd.R Kd.string 9 w' w.heap.size (fun _ => True) u231002 x231002_4) ∧ Aside0 (w'.heap[gb229]? = some (.cells #[.bool x230000_4, .int .i64 x230001_4, (.slice none 0 0)] 24 (0, 0))) ∧ Aside0 (w'.heap[gb230]? = some (.cells #[.bool x231000_9, .int .i64 x231001_13, u231002] 24 (0, 0))) ∧ Aside0 (Below w.heap.size w w'))
       case atStart => exact ⟨(x5_13), (false), (0), (([] : List ByteArray)), (.slice none 0 0), (by first | rfl | (simp; done) | (simp [*]; done)), H', ⟨Nat.le_refl _⟩, ⟨by first | exact Kd.R_nil _ _ _ _ _ | exact Kd.N_nil _ _ _ _ _ | exact Kd.V_nil _ _ _ _ _ | exact Kd.Q_nil _ _ _ _ _ | exact Kd.S_nil _ _ _ _ _⟩, ⟨by (with_reducible repeat (first | refine kN_ ?_ _ | refine kD_ ?_ | refine kA_ ?_ _)); exact BK229.out⟩, ⟨by (with_reducible repeat (first | refine kN_ ?_ _ | refine kD_ ?_ | refine kA_ ?_ _)); exact BK230.out⟩, ⟨by repeat (first | (with_reducible first | exact HB.out | apply bA_ | apply bN_ | apply bD_ | refine bS_ ?_ GE229.out | refine bS_ ?_ GE230.out) | exact HB.out)⟩⟩
       case round =>
        clear H'
        try clear c1
        try clear c2
        try clear p2
        try clear q2
        try clear hx2
        try clear c3
        try clear c5
        try clear p6
        try clear c7
        try clear c7b0
        try clear c7b1
        try clear c8
        try clear c8b0
        try clear c8b1
        try clear p9
        try clear q9
        try clear hx9
        try clear qi9
        try clear c11
        try clear c12
        try clear c15
        try clear c16
        try clear c18
        try clear c18b0
        try clear c19
        try clear c19b0
        try clear p20
        try clear q20
        try clear hx20
        try clear c21
        try clear c21b0
        try clear c21b1
        try clear c22
        try clear c24
        try clear c26
        try clear hcz13_0 hcz13_1 hcz13_2
        try clear hcz17_0 hcz17_1 hcz17_2
        try clear hcz23_0 hcz23_1 hcz23_2
        try clear hcz25_0 hcz25_1 hcz25_2
        try clear hcz27_0 hcz27_1 hcz27_2
        try clear hcz6_0 hcz6_1 hcz6_2
        try clear hfz13_0 hfz13_1 hfz13_2
        try clear hfz17_0 hfz17_1 hfz17_2
        try clear hfz23_0 hfz23_1 hfz23_2
        try clear hfz25_0 hfz25_1 hfz25_2
        try clear hfz27_0 hfz27_1 hfz27_2
        try clear hfz6_0 hfz6_1 hfz6_2
        try clear p2
        try clear p20
        try clear p6
        try clear p9
        try clear q2
        try clear q20
        try clear q9
        obtain ⟨x5_4, x230000_4, x230001_4, x231002_4, u231002, rfl, HA, HK4, HO_231002, BK229, BK230, HB⟩ := hrel
        cases gk with
        | zero => exact absurd HA.out (by simp [platformfwref01_ParsePath.l1])
        | succ k4 =>
         have H := HA.out
         clear HA
         simp only [platformfwref01_ParsePath.l1] at H
         by_cases c28 : x5_4 < (a0.size : Int)
         ·rw [if_pos c28] at H
          have c28b0 : decide (x5_4 < (a0.size : Int)) = true := decide_eq_true c28
          clear c28
          have H' := Aside0.mk H
          clear H
          go_wp2
          go_loopg [7] k4 (fun kq v7 w' => ∃ (x7_5 : Int), v7 = .int .i64 x7_5 ∧ Aside0 (platformfwref01_ParsePath.l2 kq a0 x5_4 x5_13 x7_5 x231000_9 x231001_13 x231002_4 = some (r1, r2, r3, r4)) ∧ Aside0 (kq ≤ k4) ∧ Aside0 (Kd.R Kd.string 9 w' w.heap.size (fun _ => True) u231002 x231002_4) ∧ Aside0 (w'.heap[gb229]? = some (.cells #[.bool x230000_4, .int .i64 x230001_4, (.slice none 0 0)] 24 (0, 0))) ∧ Aside0 (w'.heap[gb230]? = some (.cells #[.bool x231000_9, .int .i64 x231001_13, u231002] 24 (0, 0))) ∧ Aside0 (Below w.heap.size w w'))
          case atStart => exact ⟨(x5_4), (by first | rfl | (simp; done) | (simp [*]; done)), H', ⟨Nat.le_refl _⟩, ⟨by (with_reducible repeat (first | apply Kd.R_alloc | apply Kd.R_drewN | apply Kd.R_drew)); exact HO_231002.out⟩, ⟨by (with_reducible repeat (first | refine kN_ ?_ _ | refine kD_ ?_ | refine kA_ ?_ _)); exact BK229.out⟩, ⟨by (with_reducible repeat (first | refine kN_ ?_ _ | refine kD_ ?_ | refine kA_ ?_ _)); exact BK230.out⟩, ⟨by repeat (first | (with_reducible first | exact HB.out | apply bA_ | apply bN_ | apply bD_ | refine bS_ ?_ GE229.out | refine bS_ ?_ GE230.out) | exact HB.out)⟩⟩
          case round =>
           clear H'
           try clear c1
           try clear c2
           try clear p2
           try clear q2
           try clear hx2
           try clear c3
           try clear c5
           try clear p6
           try clear c7
           try clear c7b0
           try clear c7b1
           try clear c8
           try clear c8b0
           try clear c8b1
           try clear p9
           try clear q9
           try clear hx9
           try clear qi9
           try clear c11
           try clear c12
           try clear c15
           try clear c16
           try clear c18
           try clear c18b0
           try clear c19
           try clear c19b0
           try clear p20
           try clear q20
           try clear hx20
           try clear c21
           try clear c21b0
           try clear c21b1
           try clear c22
           try clear c24
           try clear c26
           try clear c28
           try clear c28b0
           try clear hcz13_0 hcz13_1 hcz13_2
           try clear hcz17_0 hcz17_1 hcz17_2
           try clear hcz23_0 hcz23_1 hcz23_2
           try clear hcz25_0 hcz25_1 hcz25_2
           try clear hcz27_0 hcz27_1 hcz27_2
           try clear hcz6_0 hcz6_1 hcz6_2
           try clear hfz13_0 hfz13_1 hfz13_2
           try clear hfz17_0 hfz17_1 hfz17_2
           try clear hfz23_0 hfz23_1 hfz23_2
           try clear hfz25_0 hfz25_1 hfz25_2
           try clear hfz27_0 hfz27_1 hfz27_2
           try clear hfz6_0 hfz6_1 hfz6_2
           try clear p2
           try clear p20
           try clear p6
           try clear p9
           try clear q2
           try clear q20
           try clear q9
           obtain ⟨x7_5, rfl, HA, HK5, HO_231002, BK229, BK230, HB⟩ := hrel
           cases gk with
           | zero => exact absurd HA.out (by simp [platformfwref01_ParsePath.l2])
           | succ k5 =>
            have H := HA.out
            clear HA
            simp only [platformfwref01_ParsePath.l2] at H
            by_cases c29 : x7_5 < (a0.size : Int)
            ·rw [if_pos c29] at H
             have c29b0 : decide (x7_5 < (a0.size : Int)) = true := decide_eq_true c29
             clear c29
             by_cases c30 : 0 ≤ x7_5
             ·rw [if_pos c30] at H
              have c30b0 : decide (0 ≤ x7_5) = true := decide_eq_true c30
              clear c30
              by_cases c32 : (bt a0 x7_5) = 46
              ·rw [if_pos c32] at H
               have c32b0 : ((bt a0 x7_5) == 46) = true := beq_iff_eq.mpr c32
               have c32b1 : ((bt a0 x7_5) != 46) = false := bne_eq_false_iff_eq.mpr c32
               clear c32
               by_cases c33 : x5_4 > x5_13
               ·rw [if_pos c33] at H
                have c33b0 : decide (x5_13 < x5_4) = true := decide_eq_true c33
                clear c33
                obtain ⟨ji34, hji34⟩ : ∃ j_ : Int, (wrap64 (x5_4 - 1)) = j_ := ⟨_, rfl⟩
                replace H : (if 0 ≤ (ji34) then (if (ji34) < (a0.size : Int) then (if (bt a0 (ji34)) = 46 then (if 0 ≤ x5_4 then (if x5_4 ≤ x7_5 then (if x7_5 ≤ (a0.size : Int) then ((platformfwref01_Segment.f k5 (a0.extract (x5_4 : Int).toNat (x7_5 : Int).toNat)).bind fun t232 => (if t232 = true then (if (wrap64 (x7_5 + 1)) = (a0.size : Int) then (some (false, 0, ([] : List ByteArray), false)) else (if x231002_4.length < 8796093022208 then (platformfwref01_ParsePath.l1 k5 a0 (wrap64 (x7_5 + 1)) x5_13 x231000_9 x231001_13 (x231002_4 ++ [a0.extract (x5_4 : Int).toNat (x7_5 : Int).toNat])) else (none))) else (some (false, 0, ([] : List ByteArray), false)))) else (none)) else (none)) else (none)) else (some (false, 0, ([] : List ByteArray), false))) else (none)) else (none)) = some (r1, r2, r3, r4) := by first | (rw [hji34] at H; exact H) | (simp only [hji34] at H ⊢; exact H)
                have hji34w : (IntKind.i64.wrap (x5_4 - 1)) = ji34 := (i64_w _).trans hji34
                by_cases c35 : 0 ≤ (ji34)
                ·rw [if_pos c35] at H
                 have c35b0 : decide (0 ≤ (ji34)) = true := decide_eq_true c35
                 clear c35
                 by_cases c36 : (ji34) < (a0.size : Int)
                 ·rw [if_pos c36] at H
                  have c36b0 : decide ((ji34) < (a0.size : Int)) = true := decide_eq_true c36
                  clear c36
                  by_cases c38 : (bt a0 (ji34)) = 46
                  ·rw [if_pos c38] at H
                   have c38b0 : ((bt a0 (ji34)) == 46) = true := beq_iff_eq.mpr c38
                   have c38b1 : ((bt a0 (ji34)) != 46) = false := bne_eq_false_iff_eq.mpr c38
                   clear c38
                   by_cases c39 : 0 ≤ x5_4
                   ·rw [if_pos c39] at H
                    have c39b0 := eq_true c39
                    have c39b1 : decide (0 ≤ x5_4) = true := decide_eq_true c39
                    clear c39
                    by_cases c40 : x5_4 ≤ x7_5
                    ·rw [if_pos c40] at H
                     have c40b0 := eq_true c40
                     have c40b1 : decide (x5_4 ≤ x7_5) = true := decide_eq_true c40
                     clear c40
                     by_cases c41 : x7_5 ≤ (a0.size : Int)
                     ·rw [if_pos c41] at H
                      have c41b0 := eq_true c41
                      have c41b1 : decide (x7_5 ≤ (a0.size : Int)) = true := decide_eq_true c41
                      clear c41
                      replace H := Option.bind_eq_some_iff.mp H
                      obtain ⟨t232, A420, H⟩ := H
                      replace H : (if t232 = true then (if (wrap64 (x7_5 + 1)) = (a0.size : Int) then (some (false, 0, ([] : List ByteArray), false)) else (if x231002_4.length < 8796093022208 then (platformfwref01_ParsePath.l1 k5 a0 (wrap64 (x7_5 + 1)) x5_13 x231000_9 x231001_13 (x231002_4 ++ [a0.extract (x5_4 : Int).toNat (x7_5 : Int).toNat])) else (none))) else (some (false, 0, ([] : List ByteArray), false))) = some (r1, r2, r3, r4) := H
                      have A42 := Aside0.mk A420
                      clear A420
                      by_cases c43 : t232 = true
                      ·subst c43
                       have H1 : (if (wrap64 (x7_5 + 1)) = (a0.size : Int) then (some (false, 0, ([] : List ByteArray), false)) else (if x231002_4.length < 8796093022208 then (platformfwref01_ParsePath.l1 k5 a0 (wrap64 (x7_5 + 1)) x5_13 x231000_9 x231001_13 (x231002_4 ++ [a0.extract (x5_4 : Int).toNat (x7_5 : Int).toNat])) else (none))) = some (r1, r2, r3, r4) := by rw [if_pos rfl] at H; exact H
                       clear H
                       have H := H1
                       clear H1
                       by_cases c44 : (wrap64 (x7_5 + 1)) = (a0.size : Int)
                       ·rw [if_pos c44] at H
                        have c44b0 : ((wrap64 (x7_5 + 1)) == (a0.size : Int)) = true := beq_iff_eq.mpr c44
                        have c44b1 : ((wrap64 (x7_5 + 1)) != (a0.size : Int)) = false := bne_eq_false_iff_eq.mpr c44
                        clear c44
                        simp only [Option.some.injEq, Prod.mk.injEq] at H
                        obtain ⟨rfl, rfl, rfl, rfl⟩ := H
                        have p31 : 0 ≤ (x7_5 : Int) := of_decide_eq_true (by first | (with_reducible assumption) | assumption)
                        have q31 : x7_5 < (a0.size : Int) := of_decide_eq_true (by first | (with_reducible assumption) | assumption)
                        have hx31 := bt_at a0 x7_5
                        replace p31 := eq_true p31
                        replace q31 := eq_true q31
                        have p37 : 0 ≤ ((ji34) : Int) := of_decide_eq_true (by first | (with_reducible assumption) | assumption)
                        have q37 : (ji34) < (a0.size : Int) := of_decide_eq_true (by first | (with_reducible assumption) | assumption)
                        have hx37 := bt_at a0 (ji34)
                        replace p37 := eq_true p37
                        replace q37 := eq_true q37
                        go_wp2_with (first | (go_at_call 27; (with_reducible refine (platformfwref01_Segment.calls k5 (a0.extract (x5_4 : Int).toNat (x7_5 : Int).toNat) true _ A42.out).mono ?_); rintro e w' ⟨rfl, ⟨nd, rfl⟩⟩; (try (rw [drewN_self wr]; generalize hq_ : World.drewN wr _ = wr; have n0_ : Aside0 (Kd.R Kd.string 9 wr w.heap.size (fun _ => True) u231002 x231002_4) := ⟨by rw [← hq_]; exact (by (with_reducible repeat (first | apply Kd.R_alloc | apply Kd.R_drewN | apply Kd.R_drew)); exact HO_231002.out)⟩; have n1_ : Aside0 (wr.heap[gb229]? = some (.cells #[.bool x230000_4, .int .i64 x230001_4, .slice none 0 0] 24 (0, 0))) := ⟨by rw [← hq_]; exact (by (with_reducible repeat (first | refine kN_ ?_ _ | refine kD_ ?_ | refine kA_ ?_ _)); exact BK229.out)⟩; have n2_ : Aside0 (wr.heap[gb230]? = some (.cells #[.bool x231000_9, .int .i64 x231001_13, u231002] 24 (0, 0))) := ⟨by rw [← hq_]; exact (by (with_reducible repeat (first | refine kN_ ?_ _ | refine kD_ ?_ | refine kA_ ?_ _)); exact BK230.out)⟩; have n3_ : Aside0 (Below w.heap.size w wr) := ⟨by rw [← hq_]; exact (by repeat (first | (with_reducible first | exact HB.out | apply bA_ | apply bN_ | apply bD_ | refine bS_ ?_ GE229.out | refine bS_ ?_ GE230.out) | exact HB.out))⟩; clear HO_231002 BK229 BK230 HB hq_; have HO_231002 := n0_; have BK229 := n1_; have BK230 := n2_; have HB := n3_; clear n0_ n1_ n2_ n3_)); have hnb45 := NB229_230.out; have hnc45 := NB230_229.out; obtain ⟨hcz46_0, hcz46_1, hcz46_2⟩ := cells3_ BK229.out; obtain ⟨hfz46_0, hfz46_1, hfz46_2⟩ := froz3_ BK229.out))
                        refine bodyPost_ret (results_ct rfl _ _ gb229 24 #[.bool false, .int .i64 0, .slice none 0 0] (0, 0) _ rfl (by (with_reducible repeat (first | refine kN_ ?_ _ | refine kD_ ?_ | refine kA_ ?_ _)); refine blk_put (cs := #[.bool false, .int .i64 0, .slice none 0 0]) ?_ 2 _ rfl; (with_reducible repeat (first | refine kN_ ?_ _ | refine kD_ ?_ | refine kA_ ?_ _)); refine blk_put (cs := #[.bool false, .int .i64 x230001_4, .slice none 0 0]) ?_ 1 _ rfl; (with_reducible repeat (first | refine kN_ ?_ _ | refine kD_ ?_ | refine kA_ ?_ _)); refine blk_put (cs := #[.bool x230000_4, .int .i64 x230001_4, .slice none 0 0]) ?_ 0 _ rfl; (with_reducible repeat (first | refine kN_ ?_ _ | refine kD_ ?_ | refine kA_ ?_ _)); exact BK229.out) Tryd.underlying24 rfl (by kernel_rfl)) rfl ?_
                        exact ⟨_, by first | rfl | (simp [errW_none, errW_some] <;> rfl) | (simp only [← hji34]; first | rfl | (simp [errW_none, errW_some] <;> rfl)) | (simp [*, errW_none, errW_some] <;> rfl), by first | exact Kd.R_nil _ _ _ _ _ | exact Kd.N_nil _ _ _ _ _ | exact Kd.V_nil _ _ _ _ _ | exact Kd.Q_nil _ _ _ _ _ | exact Kd.S_nil _ _ _ _ _, by repeat (first | (with_reducible first | exact HB.out | apply bA_ | apply bN_ | apply bD_ | refine bS_ ?_ GE229.out | refine bS_ ?_ GE230.out) | exact HB.out)⟩
                       ·rw [if_neg c44] at H
                        have c44b0 : ((wrap64 (x7_5 + 1)) == (a0.size : Int)) = false := beq_eq_false_iff_ne.mpr c44
                        have c44b1 : ((wrap64 (x7_5 + 1)) != (a0.size : Int)) = true := bne_iff_ne.mpr c44
                        have c47b0 := eq_true (of_decide_eq_true (by first | (with_reducible assumption) | assumption) : 0 ≤ x5_4)
                        have c48b0 := eq_true (of_decide_eq_true (by first | (with_reducible assumption) | assumption) : x5_4 ≤ x7_5)
                        have c49b0 := eq_true (of_decide_eq_true (by first | (with_reducible assumption) | assumption) : x7_5 ≤ (a0.size : Int))
                        by_cases c50 : x231002_4.length < 8796093022208
                        ·rw [if_pos c50] at H
                         have LMc50 := Aside0.mk c50
                         clear c50
                         obtain ⟨y233, hy233⟩ : ∃ y_ : List ByteArray, y_ = (x231002_4 ++ [a0.extract (x5_4 : Int).toNat (x7_5 : Int).toNat]) := ⟨_, rfl⟩
                         replace H : (platformfwref01_ParsePath.l1 k5 a0 (wrap64 (x7_5 + 1)) x5_13 x231000_9 x231001_13 y233) = some (r1, r2, r3, r4) := by first | (rw [hy233]; with_reducible exact H) | (have H2_ := (Option.bind_some _ _).symm.trans H; rw [hy233]; with_reducible exact H2_) | (have H2_ := (Option.bind_some _ _).symm.trans H; with_reducible exact H2_) | with_reducible exact H | (rw [hy233]; exact H) | exact H
                         have Ny233 := Aside0.mk hy233
                         clear hy233
                         have H' := Aside0.mk H
                         clear H
                         have p31 : 0 ≤ (x7_5 : Int) := of_decide_eq_true (by first | (with_reducible assumption) | assumption)
                         have q31 : x7_5 < (a0.size : Int) := of_decide_eq_true (by first | (with_reducible assumption) | assumption)
                         have hx31 := bt_at a0 x7_5
                         replace p31 := eq_true p31
                         replace q31 := eq_true q31
                         have p37 : 0 ≤ ((ji34) : Int) := of_decide_eq_true (by first | (with_reducible assumption) | assumption)
                         have q37 : (ji34) < (a0.size : Int) := of_decide_eq_true (by first | (with_reducible assumption) | assumption)
                         have hx37 := bt_at a0 (ji34)
                         replace p37 := eq_true p37
                         replace q37 := eq_true q37
                         try go_wp2_with (first | (go_at_call 27; (with_reducible refine (platformfwref01_Segment.calls k5 (a0.extract (x5_4 : Int).toNat (x7_5 : Int).toNat) true _ A42.out).mono ?_); rintro e w' ⟨rfl, ⟨nd, rfl⟩⟩; (try (rw [drewN_self wr]; generalize hq_ : World.drewN wr _ = wr; have n0_ : Aside0 (Kd.R Kd.string 9 wr w.heap.size (fun _ => True) u231002 x231002_4) := ⟨by rw [← hq_]; exact (by (with_reducible repeat (first | apply Kd.R_alloc | apply Kd.R_drewN | apply Kd.R_drew)); exact HO_231002.out)⟩; have n1_ : Aside0 (wr.heap[gb229]? = some (.cells #[.bool x230000_4, .int .i64 x230001_4, .slice none 0 0] 24 (0, 0))) := ⟨by rw [← hq_]; exact (by (with_reducible repeat (first | refine kN_ ?_ _ | refine kD_ ?_ | refine kA_ ?_ _)); exact BK229.out)⟩; have n2_ : Aside0 (wr.heap[gb230]? = some (.cells #[.bool x231000_9, .int .i64 x231001_13, u231002] 24 (0, 0))) := ⟨by rw [← hq_]; exact (by (with_reducible repeat (first | refine kN_ ?_ _ | refine kD_ ?_ | refine kA_ ?_ _)); exact BK230.out)⟩; have n3_ : Aside0 (Below w.heap.size w wr) := ⟨by rw [← hq_]; exact (by repeat (first | (with_reducible first | exact HB.out | apply bA_ | apply bN_ | apply bD_ | refine bS_ ?_ GE229.out | refine bS_ ?_ GE230.out) | exact HB.out))⟩; clear HO_231002 BK229 BK230 HB hq_; have HO_231002 := n0_; have BK229 := n1_; have BK230 := n2_; have HB := n3_; clear n0_ n1_ n2_ n3_))))
                         have n0_ := Aside0.mk (Kd.R_drew HO_231002.out)
                         have n1_ := Aside0.mk (kD_ BK229.out)
                         have n2_ := Aside0.mk (kD_ BK230.out)
                         have n3_ := Aside0.mk (bD_ HB.out)
                         clear HO_231002
                         clear BK229
                         clear BK230
                         clear HB
                         have HO_231002 := n0_
                         have BK229 := n1_
                         have BK230 := n2_
                         have HB := n3_
                         clear n0_ n1_ n2_ n3_
                         refine start_ (n := 10) (S := fun w' => w'.cell? ⟨gb230, 0, none⟩ = some (.bool x231000_9) ∧ w'.cell? ⟨gb230, 1, none⟩ = some (.int .i64 x231001_13) ∧ w'.cell? ⟨gb230, 2, none⟩ = some (u231002)) (ds := [9]) #[false, false, false, false, false, false, false, false, false, false] (by kernel_rfl) rfl rfl (cells3_ BK230.out) (fun hHeld => ?_); refine with_tabW platformfwref01_ParsePath.tab16 platformfwref01_ParsePath.bits16 (fun HT_ HW_ => ?_)
                         generalize wr.drew = w51 at HO_231002 BK229 BK230 HB hHeld ⊢
                         refine pure_ (i := 0) (N := some 84) (v := ?_) (a' := ?_) (tf 10 1) rfl rfl (any_of HT_.out (by kernel_rfl)) (fun _ _ _ h => h) (Or.inl ⟨by rfl, ?_⟩) ?_ ?_
                         rotate_left
                         ·intro w'
                          go_simp
                          with_reducible rfl
                         rotate_left
                         ·simp only [Act.put, sA_, sB_, sC_, i64_w, i32_w]
                          rfl
                         refine pure_ (i := 2) (N := some 86) (v := ?_) (a' := ?_) (tf 10 5) rfl rfl (any_of HT_.out (by kernel_rfl)) (fun _ _ _ h => h) (Or.inl ⟨by rfl, ?_⟩) ?_ ?_
                         rotate_left
                         ·intro w'
                          go_simp
                          with_reducible rfl
                         rotate_left
                         ·simp only [Act.put, sA_, sB_, sC_, i64_w, i32_w]
                          rfl
                         refine pure_ (i := 3) (N := some 87) (v := ?_) (a' := ?_) (tf 10 13) rfl rfl (any_of HT_.out (by kernel_rfl)) (fun _ _ _ h => h) (Or.inl ⟨by rfl, ?_⟩) ?_ ?_
                         rotate_left
                         ·intro w'
                          go_simp
                          with_reducible rfl
                         rotate_left
                         ·simp only [Act.put, sA_, sB_, sC_, i64_w, i32_w]
                          rfl
                         refine pure_ (i := 4) (N := some 88) (v := ?_) (a' := ?_) (tf 10 29) rfl rfl (any_of HT_.out (by kernel_rfl)) (fun _ _ _ h => h) (Or.inl ⟨by rfl, ?_⟩) ?_ ?_
                         rotate_left
                         ·intro w'
                          go_simp
                          with_reducible rfl
                         rotate_left
                         ·simp only [Act.put, sA_, sB_, sC_, i64_w, i32_w]
                          rfl
                         refine pure_ (i := 5) (N := some 89) (v := ?_) (a' := ?_) (tf 10 61) rfl rfl (any_of HT_.out (by kernel_rfl)) (fun _ _ _ h => h) (Or.inl ⟨by rfl, ?_⟩) ?_ ?_
                         rotate_left
                         ·intro w'
                          go_simp
                          with_reducible rfl
                         rotate_left
                         ·simp only [Act.put, sA_, sB_, sC_, i64_w, i32_w]
                          rfl
                         refine take_ (i := 1) (N := some 85) (v := ?_) (a' := ?_) (tf 10 63) rfl rfl (take_ofW HT_.out HW_.out (by kernel_rfl)) (fun _ _ _ h => h) (Or.inl ⟨by rfl, ?_⟩) hHeld ?_ ?_
                         rotate_left
                         ·rintro w' ⟨s0, s1, s2⟩
                          go_simp
                          with_reducible rfl
                         rotate_left
                         ·simp only [Act.put, sA_, sB_, sC_, i64_w, i32_w]
                          rfl
                         refine one_ (i := 6) (N := some 90) (tf 10 127) rfl rfl (one_of HT_.out (by kernel_rfl)) (by decide) (fun K hK => ?_)
                         refine value_ (w1 := ?_) (v := ?_) (by rfl) rfl ?_ ?_
                         rotate_left 2
                         ·go_simp
                          constructor
                          ·rfl
                          ·rfl
                         refine hK.out _ _ ⟨(blk_cell (kA_ BK230.out _) 0).trans rfl, (blk_cell (kA_ BK230.out _) 1).trans rfl, (blk_cell (kA_ BK230.out _) 2).trans rfl⟩ (fun hHeld => ?_)
                         clear hK K
                         refine norm_ (a' := ?_) ?_ ?_
                         rotate_left
                         ·show Act.put _ (some 90) _ = _
                          simp only [Act.put, sA_, sB_, sC_, i64_w, i32_w]
                          rfl
                         refine one_ (i := 7) (N := some 91) (tf 10 255) rfl rfl (one_of HT_.out (by kernel_rfl)) (by decide) (fun K hK => ?_)
                         refine Kd.R_append_step Kd.string (w0 := w) w.heap.size (by rfl) (.tmp 85) (.tmp 90) 22 9 (.string ⟨#[]⟩) 16 rfl Tryd.underlying22 info9 rfl (by decide) (by omega) u231002 x231002_4 (a0.extract (x5_4 : Int).toNat (x7_5 : Int).toNat) [.string (a0.extract (x5_4 : Int).toNat (x7_5 : Int).toNat)] (fun _ => True) (fun _ => False) rfl rfl ?aP (fun _ hk => hk.elim) ?aF ?aO ?aB ?aS ?aL ?_
                         (case aP => exact rfl)
                         (case aB => exact (by repeat (first | (with_reducible first | exact HB.out | apply bA_ | apply bN_ | apply bD_ | refine bS_ ?_ GE229.out | refine bS_ ?_ GE230.out) | exact HB.out)))
                         (case aF => exact (fun _ _ => trivial))
                         (case aO => exact (by (with_reducible repeat (first | apply Kd.R_alloc | apply Kd.R_drewN | apply Kd.R_drew)); exact HO_231002.out))
                         (case aS => exact (below_size (by repeat (first | (with_reducible first | exact HB.out | apply bA_ | apply bN_ | apply bD_ | refine bS_ ?_ GE229.out | refine bS_ ?_ GE230.out) | exact HB.out))))
                         (case aL => have := LMc50.out; omega)
                         intro v234 w52 ho hb hg hat
                         rw [← Ny233.out] at ho
                         have n0_ := Aside0.mk (blk_grown (g := gb229) (o := .cells #[.bool x230000_4, .int .i64 x230001_4, .slice none 0 0] 24 (0, 0)) (by (with_reducible repeat (first | refine kN_ ?_ _ | refine kD_ ?_ | refine kA_ ?_ _)); exact BK229.out) hg (Kd.R_ne HO_231002.out BK229.out (by decide)))
                         have n1_ := Aside0.mk (blk_grown (g := gb230) (o := .cells #[.bool x231000_9, .int .i64 x231001_13, u231002] 24 (0, 0)) (by (with_reducible repeat (first | refine kN_ ?_ _ | refine kD_ ?_ | refine kA_ ?_ _)); exact BK230.out) hg (Kd.R_ne HO_231002.out BK230.out (by decide)))
                         have n2_ := Aside0.mk (hb)
                         have n3_ := Aside0.mk (ho)
                         clear BK229
                         clear BK230
                         clear HB
                         clear HO_231002
                         have BK229 := n0_
                         have BK230 := n1_
                         have HB := n2_
                         have HO235 := n3_
                         clear n0_ n1_ n2_ n3_
                         clear ho hb hg hat
                         obtain ⟨Ao53, co53, eo53⟩ := Kd.R_slice HO235.out
                         (first | subst eo53 | (injection eo53 with f1_ f2_ f3_; have f4_ := f1_.symm; have f5_ := f3_.symm; clear f1_ f2_ f3_; subst f4_; subst f5_))
                         refine hK.out _ _ (cells3_ BK230.out) (fun hHeld => ?_)
                         clear hK K
                         refine norm_ (a' := ?_) ?_ ?_
                         rotate_left
                         ·show Act.put _ (some 91) _ = _
                          simp only [Act.put, sA_, sB_, sC_, i64_w, i32_w]
                          rfl
                         refine pure_ (i := 8) (N := some 92) (v := ?_) (a' := ?_) (tf 10 511) rfl rfl (any_of HT_.out (by kernel_rfl)) (fun _ _ _ h => h) (Or.inl ⟨by rfl, ?_⟩) ?_ ?_
                         rotate_left
                         ·intro w'
                          go_simp
                          with_reducible rfl
                         rotate_left
                         ·simp only [Act.put, sA_, sB_, sC_, i64_w, i32_w]
                          rfl
                         refine last_ (i := 9) (N := none) (tf 10 1023) rfl rfl (one_of HT_.out (by kernel_rfl)) (by decide) (fun K hK => ?_)
                         have hs54 : w52.cell? ⟨gb230, 2, none⟩ = some (u231002) := (blk_cell BK230.out 2).trans rfl
                         have hfs54 := blk_frozen BK230.out 2
                         have hns54_0 := NB229_230.out
                         have hms54_0 := NB230_229.out
                         refine skip_ (w1 := ?_) (by rfl) rfl ?_ ?_
                         rotate_left
                         ·go_simp
                          rfl
                         refine hK.out _ _ ?_
                         clear hK K
                         refine done_ (done_of HT_.out (by kernel_rfl)) ?_
                         try go_wp2
                         go_roundg k5
                         case measure => have := HJ1.out; have := HJ9.out; have := HJ13.out; have := HK4.out; have := HK5.out; omega
                         case rel => exact ⟨(wrap64 (x7_5 + 1)), (x230000_4), (x230001_4), (y233), (.slice Ao53 y233.length co53), (by first | rfl | (simp; done) | (simp [*]; done)), H', ⟨by have := HJ1.out; have := HJ9.out; have := HJ13.out; have := HK4.out; have := HK5.out; omega⟩, ⟨by (with_reducible repeat (first | apply Kd.R_alloc | apply Kd.R_drewN | apply Kd.R_drew)); exact Kd.R_mono (Kd.R_far (p := ⟨gb230, 2, none⟩) (Kd.R_types HO235.out BK230.out (by decide)) (fun _ hk => hk.2) (.slice Ao53 y233.length co53)) (fun _ hk => trivial)⟩, ⟨by (with_reducible repeat (first | refine kN_ ?_ _ | refine kD_ ?_ | refine kA_ ?_ _)); refine blk_far ?_ NB229_230.out _; (with_reducible repeat (first | refine kN_ ?_ _ | refine kD_ ?_ | refine kA_ ?_ _)); exact BK229.out⟩, ⟨by (with_reducible repeat (first | refine kN_ ?_ _ | refine kD_ ?_ | refine kA_ ?_ _)); refine blk_put (cs := #[.bool x231000_9, .int .i64 x231001_13, u231002]) ?_ 2 _ rfl; (with_reducible repeat (first | refine kN_ ?_ _ | refine kD_ ?_ | refine kA_ ?_ _)); exact BK230.out⟩, ⟨by repeat (first | (with_reducible first | exact HB.out | apply bA_ | apply bN_ | apply bD_ | refine bS_ ?_ GE229.out | refine bS_ ?_ GE230.out) | exact HB.out)⟩⟩
                        ·rw [if_neg c50] at H
                         exact absurd H (by simp)
                      ·replace c43 := Bool.eq_false_iff.mpr c43
                       subst c43
                       have H1 : (some (false, 0, ([] : List ByteArray), false)) = some (r1, r2, r3, r4) := by rw [if_neg (show ¬ (false = true) by decide)] at H; exact H
                       clear H
                       have H := H1
                       clear H1
                       simp only [Option.some.injEq, Prod.mk.injEq] at H
                       obtain ⟨rfl, rfl, rfl, rfl⟩ := H
                       have p31 : 0 ≤ (x7_5 : Int) := of_decide_eq_true (by first | (with_reducible assumption) | assumption)
                       have q31 : x7_5 < (a0.size : Int) := of_decide_eq_true (by first | (with_reducible assumption) | assumption)
                       have hx31 := bt_at a0 x7_5
                       replace p31 := eq_true p31
                       replace q31 := eq_true q31
                       have p37 : 0 ≤ ((ji34) : Int) := of_decide_eq_true (by first | (with_reducible assumption) | assumption)
                       have q37 : (ji34) < (a0.size : Int) := of_decide_eq_true (by first | (with_reducible assumption) | assumption)
                       have hx37 := bt_at a0 (ji34)
                       replace p37 := eq_true p37
                       replace q37 := eq_true q37
                       go_wp2_with (first | (go_at_call 27; (with_reducible refine (platformfwref01_Segment.calls k5 (a0.extract (x5_4 : Int).toNat (x7_5 : Int).toNat) false _ A42.out).mono ?_); rintro e w' ⟨rfl, ⟨nd, rfl⟩⟩; (try (rw [drewN_self wr]; generalize hq_ : World.drewN wr _ = wr; have n0_ : Aside0 (Kd.R Kd.string 9 wr w.heap.size (fun _ => True) u231002 x231002_4) := ⟨by rw [← hq_]; exact (by (with_reducible repeat (first | apply Kd.R_alloc | apply Kd.R_drewN | apply Kd.R_drew)); exact HO_231002.out)⟩; have n1_ : Aside0 (wr.heap[gb229]? = some (.cells #[.bool x230000_4, .int .i64 x230001_4, .slice none 0 0] 24 (0, 0))) := ⟨by rw [← hq_]; exact (by (with_reducible repeat (first | refine kN_ ?_ _ | refine kD_ ?_ | refine kA_ ?_ _)); exact BK229.out)⟩; have n2_ : Aside0 (wr.heap[gb230]? = some (.cells #[.bool x231000_9, .int .i64 x231001_13, u231002] 24 (0, 0))) := ⟨by rw [← hq_]; exact (by (with_reducible repeat (first | refine kN_ ?_ _ | refine kD_ ?_ | refine kA_ ?_ _)); exact BK230.out)⟩; have n3_ : Aside0 (Below w.heap.size w wr) := ⟨by rw [← hq_]; exact (by repeat (first | (with_reducible first | exact HB.out | apply bA_ | apply bN_ | apply bD_ | refine bS_ ?_ GE229.out | refine bS_ ?_ GE230.out) | exact HB.out))⟩; clear HO_231002 BK229 BK230 HB hq_; have HO_231002 := n0_; have BK229 := n1_; have BK230 := n2_; have HB := n3_; clear n0_ n1_ n2_ n3_)); have hnb55 := NB229_230.out; have hnc55 := NB230_229.out; obtain ⟨hcz56_0, hcz56_1, hcz56_2⟩ := cells3_ BK229.out; obtain ⟨hfz56_0, hfz56_1, hfz56_2⟩ := froz3_ BK229.out))
                       refine bodyPost_ret (results_ct rfl _ _ gb229 24 #[.bool false, .int .i64 0, .slice none 0 0] (0, 0) _ rfl (by (with_reducible repeat (first | refine kN_ ?_ _ | refine kD_ ?_ | refine kA_ ?_ _)); refine blk_put (cs := #[.bool false, .int .i64 0, .slice none 0 0]) ?_ 2 _ rfl; (with_reducible repeat (first | refine kN_ ?_ _ | refine kD_ ?_ | refine kA_ ?_ _)); refine blk_put (cs := #[.bool false, .int .i64 x230001_4, .slice none 0 0]) ?_ 1 _ rfl; (with_reducible repeat (first | refine kN_ ?_ _ | refine kD_ ?_ | refine kA_ ?_ _)); refine blk_put (cs := #[.bool x230000_4, .int .i64 x230001_4, .slice none 0 0]) ?_ 0 _ rfl; (with_reducible repeat (first | refine kN_ ?_ _ | refine kD_ ?_ | refine kA_ ?_ _)); exact BK229.out) Tryd.underlying24 rfl (by kernel_rfl)) rfl ?_
                       exact ⟨_, by first | rfl | (simp [errW_none, errW_some] <;> rfl) | (simp only [← hji34]; first | rfl | (simp [errW_none, errW_some] <;> rfl)) | (simp [*, errW_none, errW_some] <;> rfl), by first | exact Kd.R_nil _ _ _ _ _ | exact Kd.N_nil _ _ _ _ _ | exact Kd.V_nil _ _ _ _ _ | exact Kd.Q_nil _ _ _ _ _ | exact Kd.S_nil _ _ _ _ _, by repeat (first | (with_reducible first | exact HB.out | apply bA_ | apply bN_ | apply bD_ | refine bS_ ?_ GE229.out | refine bS_ ?_ GE230.out) | exact HB.out)⟩
                     ·rw [if_neg c41] at H
                      exact absurd H (by simp)
                    ·rw [if_neg c40] at H
                     exact absurd H (by simp)
                   ·rw [if_neg c39] at H
                    exact absurd H (by simp)
                  ·rw [if_neg c38] at H
                   have c38b0 : ((bt a0 (ji34)) == 46) = false := beq_eq_false_iff_ne.mpr c38
                   have c38b1 : ((bt a0 (ji34)) != 46) = true := bne_iff_ne.mpr c38
                   simp only [Option.some.injEq, Prod.mk.injEq] at H
                   obtain ⟨rfl, rfl, rfl, rfl⟩ := H
                   have p31 : 0 ≤ (x7_5 : Int) := of_decide_eq_true (by first | (with_reducible assumption) | assumption)
                   have q31 : x7_5 < (a0.size : Int) := of_decide_eq_true (by first | (with_reducible assumption) | assumption)
                   have hx31 := bt_at a0 x7_5
                   replace p31 := eq_true p31
                   replace q31 := eq_true q31
                   have p37 : 0 ≤ ((ji34) : Int) := of_decide_eq_true (by first | (with_reducible assumption) | assumption)
                   have q37 : (ji34) < (a0.size : Int) := of_decide_eq_true (by first | (with_reducible assumption) | assumption)
                   have hx37 := bt_at a0 (ji34)
                   replace p37 := eq_true p37
                   replace q37 := eq_true q37
                   have hnb57 := NB229_230.out
                   have hnc57 := NB230_229.out
                   obtain ⟨hcz58_0, hcz58_1, hcz58_2⟩ := cells3_ BK229.out
                   obtain ⟨hfz58_0, hfz58_1, hfz58_2⟩ := froz3_ BK229.out
                   go_wp2
                   refine bodyPost_ret (results_ct rfl _ _ gb229 24 #[.bool false, .int .i64 0, .slice none 0 0] (0, 0) _ rfl (by (with_reducible repeat (first | refine kN_ ?_ _ | refine kD_ ?_ | refine kA_ ?_ _)); refine blk_put (cs := #[.bool false, .int .i64 0, .slice none 0 0]) ?_ 2 _ rfl; (with_reducible repeat (first | refine kN_ ?_ _ | refine kD_ ?_ | refine kA_ ?_ _)); refine blk_put (cs := #[.bool false, .int .i64 x230001_4, .slice none 0 0]) ?_ 1 _ rfl; (with_reducible repeat (first | refine kN_ ?_ _ | refine kD_ ?_ | refine kA_ ?_ _)); refine blk_put (cs := #[.bool x230000_4, .int .i64 x230001_4, .slice none 0 0]) ?_ 0 _ rfl; (with_reducible repeat (first | refine kN_ ?_ _ | refine kD_ ?_ | refine kA_ ?_ _)); exact BK229.out) Tryd.underlying24 rfl (by kernel_rfl)) rfl ?_
                   exact ⟨_, by first | rfl | (simp [errW_none, errW_some] <;> rfl) | (simp only [← hji34]; first | rfl | (simp [errW_none, errW_some] <;> rfl)) | (simp [*, errW_none, errW_some] <;> rfl), by first | exact Kd.R_nil _ _ _ _ _ | exact Kd.N_nil _ _ _ _ _ | exact Kd.V_nil _ _ _ _ _ | exact Kd.Q_nil _ _ _ _ _ | exact Kd.S_nil _ _ _ _ _, by repeat (first | (with_reducible first | exact HB.out | apply bA_ | apply bN_ | apply bD_ | refine bS_ ?_ GE229.out | refine bS_ ?_ GE230.out) | exact HB.out)⟩
                 ·rw [if_neg c36] at H
                  exact absurd H (by simp)
                ·rw [if_neg c35] at H
                 exact absurd H (by simp)
               ·rw [if_neg c33] at H
                have c33b0 : decide (x5_13 < x5_4) = false := decide_eq_false c33
                clear c33
                by_cases c59 : 0 ≤ x5_4
                ·rw [if_pos c59] at H
                 have c59b0 := eq_true c59
                 have c59b1 : decide (0 ≤ x5_4) = true := decide_eq_true c59
                 clear c59
                 by_cases c60 : x5_4 ≤ x7_5
                 ·rw [if_pos c60] at H
                  have c60b0 := eq_true c60
                  have c60b1 : decide (x5_4 ≤ x7_5) = true := decide_eq_true c60
                  clear c60
                  by_cases c61 : x7_5 ≤ (a0.size : Int)
                  ·rw [if_pos c61] at H
                   have c61b0 := eq_true c61
                   have c61b1 : decide (x7_5 ≤ (a0.size : Int)) = true := decide_eq_true c61
                   clear c61
                   replace H := Option.bind_eq_some_iff.mp H
                   obtain ⟨t236, A620, H⟩ := H
                   replace H : (if t236 = true then (if (wrap64 (x7_5 + 1)) = (a0.size : Int) then (some (false, 0, ([] : List ByteArray), false)) else (if x231002_4.length < 8796093022208 then (platformfwref01_ParsePath.l1 k5 a0 (wrap64 (x7_5 + 1)) x5_13 x231000_9 x231001_13 (x231002_4 ++ [a0.extract (x5_4 : Int).toNat (x7_5 : Int).toNat])) else (none))) else (some (false, 0, ([] : List ByteArray), false))) = some (r1, r2, r3, r4) := H
                   have A62 := Aside0.mk A620
                   clear A620
                   by_cases c63 : t236 = true
                   ·subst c63
                    have H1 : (if (wrap64 (x7_5 + 1)) = (a0.size : Int) then (some (false, 0, ([] : List ByteArray), false)) else (if x231002_4.length < 8796093022208 then (platformfwref01_ParsePath.l1 k5 a0 (wrap64 (x7_5 + 1)) x5_13 x231000_9 x231001_13 (x231002_4 ++ [a0.extract (x5_4 : Int).toNat (x7_5 : Int).toNat])) else (none))) = some (r1, r2, r3, r4) := by rw [if_pos rfl] at H; exact H
                    clear H
                    have H := H1
                    clear H1
                    by_cases c64 : (wrap64 (x7_5 + 1)) = (a0.size : Int)
                    ·rw [if_pos c64] at H
                     have c64b0 : ((wrap64 (x7_5 + 1)) == (a0.size : Int)) = true := beq_iff_eq.mpr c64
                     have c64b1 : ((wrap64 (x7_5 + 1)) != (a0.size : Int)) = false := bne_eq_false_iff_eq.mpr c64
                     clear c64
                     simp only [Option.some.injEq, Prod.mk.injEq] at H
                     obtain ⟨rfl, rfl, rfl, rfl⟩ := H
                     have p31 : 0 ≤ (x7_5 : Int) := of_decide_eq_true (by first | (with_reducible assumption) | assumption)
                     have q31 : x7_5 < (a0.size : Int) := of_decide_eq_true (by first | (with_reducible assumption) | assumption)
                     have hx31 := bt_at a0 x7_5
                     replace p31 := eq_true p31
                     replace q31 := eq_true q31
                     go_wp2_with (first | (go_at_call 27; (with_reducible refine (platformfwref01_Segment.calls k5 (a0.extract (x5_4 : Int).toNat (x7_5 : Int).toNat) true _ A62.out).mono ?_); rintro e w' ⟨rfl, ⟨nd, rfl⟩⟩; (try (rw [drewN_self wr]; generalize hq_ : World.drewN wr _ = wr; have n0_ : Aside0 (Kd.R Kd.string 9 wr w.heap.size (fun _ => True) u231002 x231002_4) := ⟨by rw [← hq_]; exact (by (with_reducible repeat (first | apply Kd.R_alloc | apply Kd.R_drewN | apply Kd.R_drew)); exact HO_231002.out)⟩; have n1_ : Aside0 (wr.heap[gb229]? = some (.cells #[.bool x230000_4, .int .i64 x230001_4, .slice none 0 0] 24 (0, 0))) := ⟨by rw [← hq_]; exact (by (with_reducible repeat (first | refine kN_ ?_ _ | refine kD_ ?_ | refine kA_ ?_ _)); exact BK229.out)⟩; have n2_ : Aside0 (wr.heap[gb230]? = some (.cells #[.bool x231000_9, .int .i64 x231001_13, u231002] 24 (0, 0))) := ⟨by rw [← hq_]; exact (by (with_reducible repeat (first | refine kN_ ?_ _ | refine kD_ ?_ | refine kA_ ?_ _)); exact BK230.out)⟩; have n3_ : Aside0 (Below w.heap.size w wr) := ⟨by rw [← hq_]; exact (by repeat (first | (with_reducible first | exact HB.out | apply bA_ | apply bN_ | apply bD_ | refine bS_ ?_ GE229.out | refine bS_ ?_ GE230.out) | exact HB.out))⟩; clear HO_231002 BK229 BK230 HB hq_; have HO_231002 := n0_; have BK229 := n1_; have BK230 := n2_; have HB := n3_; clear n0_ n1_ n2_ n3_)); have hnb65 := NB229_230.out; have hnc65 := NB230_229.out; obtain ⟨hcz66_0, hcz66_1, hcz66_2⟩ := cells3_ BK229.out; obtain ⟨hfz66_0, hfz66_1, hfz66_2⟩ := froz3_ BK229.out))
                     refine bodyPost_ret (results_ct rfl _ _ gb229 24 #[.bool false, .int .i64 0, .slice none 0 0] (0, 0) _ rfl (by (with_reducible repeat (first | refine kN_ ?_ _ | refine kD_ ?_ | refine kA_ ?_ _)); refine blk_put (cs := #[.bool false, .int .i64 0, .slice none 0 0]) ?_ 2 _ rfl; (with_reducible repeat (first | refine kN_ ?_ _ | refine kD_ ?_ | refine kA_ ?_ _)); refine blk_put (cs := #[.bool false, .int .i64 x230001_4, .slice none 0 0]) ?_ 1 _ rfl; (with_reducible repeat (first | refine kN_ ?_ _ | refine kD_ ?_ | refine kA_ ?_ _)); refine blk_put (cs := #[.bool x230000_4, .int .i64 x230001_4, .slice none 0 0]) ?_ 0 _ rfl; (with_reducible repeat (first | refine kN_ ?_ _ | refine kD_ ?_ | refine kA_ ?_ _)); exact BK229.out) Tryd.underlying24 rfl (by kernel_rfl)) rfl ?_
                     exact ⟨_, by first | rfl | (simp [errW_none, errW_some] <;> rfl) | (simp [*, errW_none, errW_some] <;> rfl), by first | exact Kd.R_nil _ _ _ _ _ | exact Kd.N_nil _ _ _ _ _ | exact Kd.V_nil _ _ _ _ _ | exact Kd.Q_nil _ _ _ _ _ | exact Kd.S_nil _ _ _ _ _, by repeat (first | (with_reducible first | exact HB.out | apply bA_ | apply bN_ | apply bD_ | refine bS_ ?_ GE229.out | refine bS_ ?_ GE230.out) | exact HB.out)⟩
                    ·rw [if_neg c64] at H
                     have c64b0 : ((wrap64 (x7_5 + 1)) == (a0.size : Int)) = false := beq_eq_false_iff_ne.mpr c64
                     have c64b1 : ((wrap64 (x7_5 + 1)) != (a0.size : Int)) = true := bne_iff_ne.mpr c64
                     have c67b0 := eq_true (of_decide_eq_true (by first | (with_reducible assumption) | assumption) : 0 ≤ x5_4)
                     have c68b0 := eq_true (of_decide_eq_true (by first | (with_reducible assumption) | assumption) : x5_4 ≤ x7_5)
                     have c69b0 := eq_true (of_decide_eq_true (by first | (with_reducible assumption) | assumption) : x7_5 ≤ (a0.size : Int))
                     by_cases c70 : x231002_4.length < 8796093022208
                     ·rw [if_pos c70] at H
                      have LMc70 := Aside0.mk c70
                      clear c70
                      obtain ⟨y237, hy237⟩ : ∃ y_ : List ByteArray, y_ = (x231002_4 ++ [a0.extract (x5_4 : Int).toNat (x7_5 : Int).toNat]) := ⟨_, rfl⟩
                      replace H : (platformfwref01_ParsePath.l1 k5 a0 (wrap64 (x7_5 + 1)) x5_13 x231000_9 x231001_13 y237) = some (r1, r2, r3, r4) := by first | (rw [hy237]; with_reducible exact H) | (have H2_ := (Option.bind_some _ _).symm.trans H; rw [hy237]; with_reducible exact H2_) | (have H2_ := (Option.bind_some _ _).symm.trans H; with_reducible exact H2_) | with_reducible exact H | (rw [hy237]; exact H) | exact H
                      have Ny237 := Aside0.mk hy237
                      clear hy237
                      have H' := Aside0.mk H
                      clear H
                      have p31 : 0 ≤ (x7_5 : Int) := of_decide_eq_true (by first | (with_reducible assumption) | assumption)
                      have q31 : x7_5 < (a0.size : Int) := of_decide_eq_true (by first | (with_reducible assumption) | assumption)
                      have hx31 := bt_at a0 x7_5
                      replace p31 := eq_true p31
                      replace q31 := eq_true q31
                      try go_wp2_with (first | (go_at_call 27; (with_reducible refine (platformfwref01_Segment.calls k5 (a0.extract (x5_4 : Int).toNat (x7_5 : Int).toNat) true _ A62.out).mono ?_); rintro e w' ⟨rfl, ⟨nd, rfl⟩⟩; (try (rw [drewN_self wr]; generalize hq_ : World.drewN wr _ = wr; have n0_ : Aside0 (Kd.R Kd.string 9 wr w.heap.size (fun _ => True) u231002 x231002_4) := ⟨by rw [← hq_]; exact (by (with_reducible repeat (first | apply Kd.R_alloc | apply Kd.R_drewN | apply Kd.R_drew)); exact HO_231002.out)⟩; have n1_ : Aside0 (wr.heap[gb229]? = some (.cells #[.bool x230000_4, .int .i64 x230001_4, .slice none 0 0] 24 (0, 0))) := ⟨by rw [← hq_]; exact (by (with_reducible repeat (first | refine kN_ ?_ _ | refine kD_ ?_ | refine kA_ ?_ _)); exact BK229.out)⟩; have n2_ : Aside0 (wr.heap[gb230]? = some (.cells #[.bool x231000_9, .int .i64 x231001_13, u231002] 24 (0, 0))) := ⟨by rw [← hq_]; exact (by (with_reducible repeat (first | refine kN_ ?_ _ | refine kD_ ?_ | refine kA_ ?_ _)); exact BK230.out)⟩; have n3_ : Aside0 (Below w.heap.size w wr) := ⟨by rw [← hq_]; exact (by repeat (first | (with_reducible first | exact HB.out | apply bA_ | apply bN_ | apply bD_ | refine bS_ ?_ GE229.out | refine bS_ ?_ GE230.out) | exact HB.out))⟩; clear HO_231002 BK229 BK230 HB hq_; have HO_231002 := n0_; have BK229 := n1_; have BK230 := n2_; have HB := n3_; clear n0_ n1_ n2_ n3_))))
                      have n0_ := Aside0.mk (Kd.R_drew HO_231002.out)
                      have n1_ := Aside0.mk (kD_ BK229.out)
                      have n2_ := Aside0.mk (kD_ BK230.out)
                      have n3_ := Aside0.mk (bD_ HB.out)
                      clear HO_231002
                      clear BK229
                      clear BK230
                      clear HB
                      have HO_231002 := n0_
                      have BK229 := n1_
                      have BK230 := n2_
                      have HB := n3_
                      clear n0_ n1_ n2_ n3_
                      refine start_ (n := 10) (S := fun w' => w'.cell? ⟨gb230, 0, none⟩ = some (.bool x231000_9) ∧ w'.cell? ⟨gb230, 1, none⟩ = some (.int .i64 x231001_13) ∧ w'.cell? ⟨gb230, 2, none⟩ = some (u231002)) (ds := [9]) #[false, false, false, false, false, false, false, false, false, false] (by kernel_rfl) rfl rfl (cells3_ BK230.out) (fun hHeld => ?_); refine with_tabW platformfwref01_ParsePath.tab16 platformfwref01_ParsePath.bits16 (fun HT_ HW_ => ?_)
                      generalize wr.drew = w71 at HO_231002 BK229 BK230 HB hHeld ⊢
                      refine pure_ (i := 0) (N := some 84) (v := ?_) (a' := ?_) (tf 10 1) rfl rfl (any_of HT_.out (by kernel_rfl)) (fun _ _ _ h => h) (Or.inl ⟨by rfl, ?_⟩) ?_ ?_
                      rotate_left
                      ·intro w'
                       go_simp
                       with_reducible rfl
                      rotate_left
                      ·simp only [Act.put, sA_, sB_, sC_, i64_w, i32_w]
                       rfl
                      refine pure_ (i := 2) (N := some 86) (v := ?_) (a' := ?_) (tf 10 5) rfl rfl (any_of HT_.out (by kernel_rfl)) (fun _ _ _ h => h) (Or.inl ⟨by rfl, ?_⟩) ?_ ?_
                      rotate_left
                      ·intro w'
                       go_simp
                       with_reducible rfl
                      rotate_left
                      ·simp only [Act.put, sA_, sB_, sC_, i64_w, i32_w]
                       rfl
                      refine pure_ (i := 3) (N := some 87) (v := ?_) (a' := ?_) (tf 10 13) rfl rfl (any_of HT_.out (by kernel_rfl)) (fun _ _ _ h => h) (Or.inl ⟨by rfl, ?_⟩) ?_ ?_
                      rotate_left
                      ·intro w'
                       go_simp
                       with_reducible rfl
                      rotate_left
                      ·simp only [Act.put, sA_, sB_, sC_, i64_w, i32_w]
                       rfl
                      refine pure_ (i := 4) (N := some 88) (v := ?_) (a' := ?_) (tf 10 29) rfl rfl (any_of HT_.out (by kernel_rfl)) (fun _ _ _ h => h) (Or.inl ⟨by rfl, ?_⟩) ?_ ?_
                      rotate_left
                      ·intro w'
                       go_simp
                       with_reducible rfl
                      rotate_left
                      ·simp only [Act.put, sA_, sB_, sC_, i64_w, i32_w]
                       rfl
                      refine pure_ (i := 5) (N := some 89) (v := ?_) (a' := ?_) (tf 10 61) rfl rfl (any_of HT_.out (by kernel_rfl)) (fun _ _ _ h => h) (Or.inl ⟨by rfl, ?_⟩) ?_ ?_
                      rotate_left
                      ·intro w'
                       go_simp
                       with_reducible rfl
                      rotate_left
                      ·simp only [Act.put, sA_, sB_, sC_, i64_w, i32_w]
                       rfl
                      refine take_ (i := 1) (N := some 85) (v := ?_) (a' := ?_) (tf 10 63) rfl rfl (take_ofW HT_.out HW_.out (by kernel_rfl)) (fun _ _ _ h => h) (Or.inl ⟨by rfl, ?_⟩) hHeld ?_ ?_
                      rotate_left
                      ·rintro w' ⟨s0, s1, s2⟩
                       go_simp
                       with_reducible rfl
                      rotate_left
                      ·simp only [Act.put, sA_, sB_, sC_, i64_w, i32_w]
                       rfl
                      refine one_ (i := 6) (N := some 90) (tf 10 127) rfl rfl (one_of HT_.out (by kernel_rfl)) (by decide) (fun K hK => ?_)
                      refine value_ (w1 := ?_) (v := ?_) (by rfl) rfl ?_ ?_
                      rotate_left 2
                      ·go_simp
                       constructor
                       ·rfl
                       ·rfl
                      refine hK.out _ _ ⟨(blk_cell (kA_ BK230.out _) 0).trans rfl, (blk_cell (kA_ BK230.out _) 1).trans rfl, (blk_cell (kA_ BK230.out _) 2).trans rfl⟩ (fun hHeld => ?_)
                      clear hK K
                      refine norm_ (a' := ?_) ?_ ?_
                      rotate_left
                      ·show Act.put _ (some 90) _ = _
                       simp only [Act.put, sA_, sB_, sC_, i64_w, i32_w]
                       rfl
                      refine one_ (i := 7) (N := some 91) (tf 10 255) rfl rfl (one_of HT_.out (by kernel_rfl)) (by decide) (fun K hK => ?_)
                      refine Kd.R_append_step Kd.string (w0 := w) w.heap.size (by rfl) (.tmp 85) (.tmp 90) 22 9 (.string ⟨#[]⟩) 16 rfl Tryd.underlying22 info9 rfl (by decide) (by omega) u231002 x231002_4 (a0.extract (x5_4 : Int).toNat (x7_5 : Int).toNat) [.string (a0.extract (x5_4 : Int).toNat (x7_5 : Int).toNat)] (fun _ => True) (fun _ => False) rfl rfl ?aP (fun _ hk => hk.elim) ?aF ?aO ?aB ?aS ?aL ?_
                      (case aP => exact rfl)
                      (case aB => exact (by repeat (first | (with_reducible first | exact HB.out | apply bA_ | apply bN_ | apply bD_ | refine bS_ ?_ GE229.out | refine bS_ ?_ GE230.out) | exact HB.out)))
                      (case aF => exact (fun _ _ => trivial))
                      (case aO => exact (by (with_reducible repeat (first | apply Kd.R_alloc | apply Kd.R_drewN | apply Kd.R_drew)); exact HO_231002.out))
                      (case aS => exact (below_size (by repeat (first | (with_reducible first | exact HB.out | apply bA_ | apply bN_ | apply bD_ | refine bS_ ?_ GE229.out | refine bS_ ?_ GE230.out) | exact HB.out))))
                      (case aL => have := LMc70.out; omega)
                      intro v238 w72 ho hb hg hat
                      rw [← Ny237.out] at ho
                      have n0_ := Aside0.mk (blk_grown (g := gb229) (o := .cells #[.bool x230000_4, .int .i64 x230001_4, .slice none 0 0] 24 (0, 0)) (by (with_reducible repeat (first | refine kN_ ?_ _ | refine kD_ ?_ | refine kA_ ?_ _)); exact BK229.out) hg (Kd.R_ne HO_231002.out BK229.out (by decide)))
                      have n1_ := Aside0.mk (blk_grown (g := gb230) (o := .cells #[.bool x231000_9, .int .i64 x231001_13, u231002] 24 (0, 0)) (by (with_reducible repeat (first | refine kN_ ?_ _ | refine kD_ ?_ | refine kA_ ?_ _)); exact BK230.out) hg (Kd.R_ne HO_231002.out BK230.out (by decide)))
                      have n2_ := Aside0.mk (hb)
                      have n3_ := Aside0.mk (ho)
                      clear BK229
                      clear BK230
                      clear HB
                      clear HO_231002
                      have BK229 := n0_
                      have BK230 := n1_
                      have HB := n2_
                      have HO239 := n3_
                      clear n0_ n1_ n2_ n3_
                      clear ho hb hg hat
                      obtain ⟨Ao73, co73, eo73⟩ := Kd.R_slice HO239.out
                      (first | subst eo73 | (injection eo73 with f1_ f2_ f3_; have f4_ := f1_.symm; have f5_ := f3_.symm; clear f1_ f2_ f3_; subst f4_; subst f5_))
                      refine hK.out _ _ (cells3_ BK230.out) (fun hHeld => ?_)
                      clear hK K
                      refine norm_ (a' := ?_) ?_ ?_
                      rotate_left
                      ·show Act.put _ (some 91) _ = _
                       simp only [Act.put, sA_, sB_, sC_, i64_w, i32_w]
                       rfl
                      refine pure_ (i := 8) (N := some 92) (v := ?_) (a' := ?_) (tf 10 511) rfl rfl (any_of HT_.out (by kernel_rfl)) (fun _ _ _ h => h) (Or.inl ⟨by rfl, ?_⟩) ?_ ?_
                      rotate_left
                      ·intro w'
                       go_simp
                       with_reducible rfl
                      rotate_left
                      ·simp only [Act.put, sA_, sB_, sC_, i64_w, i32_w]
                       rfl
                      refine last_ (i := 9) (N := none) (tf 10 1023) rfl rfl (one_of HT_.out (by kernel_rfl)) (by decide) (fun K hK => ?_)
                      have hs74 : w72.cell? ⟨gb230, 2, none⟩ = some (u231002) := (blk_cell BK230.out 2).trans rfl
                      have hfs74 := blk_frozen BK230.out 2
                      have hns74_0 := NB229_230.out
                      have hms74_0 := NB230_229.out
                      refine skip_ (w1 := ?_) (by rfl) rfl ?_ ?_
                      rotate_left
                      ·go_simp
                       rfl
                      refine hK.out _ _ ?_
                      clear hK K
                      refine done_ (done_of HT_.out (by kernel_rfl)) ?_
                      try go_wp2
                      go_roundg k5
                      case measure => have := HJ1.out; have := HJ9.out; have := HJ13.out; have := HK4.out; have := HK5.out; omega
                      case rel => exact ⟨(wrap64 (x7_5 + 1)), (x230000_4), (x230001_4), (y237), (.slice Ao73 y237.length co73), (by first | rfl | (simp; done) | (simp [*]; done)), H', ⟨by have := HJ1.out; have := HJ9.out; have := HJ13.out; have := HK4.out; have := HK5.out; omega⟩, ⟨by (with_reducible repeat (first | apply Kd.R_alloc | apply Kd.R_drewN | apply Kd.R_drew)); exact Kd.R_mono (Kd.R_far (p := ⟨gb230, 2, none⟩) (Kd.R_types HO239.out BK230.out (by decide)) (fun _ hk => hk.2) (.slice Ao73 y237.length co73)) (fun _ hk => trivial)⟩, ⟨by (with_reducible repeat (first | refine kN_ ?_ _ | refine kD_ ?_ | refine kA_ ?_ _)); refine blk_far ?_ NB229_230.out _; (with_reducible repeat (first | refine kN_ ?_ _ | refine kD_ ?_ | refine kA_ ?_ _)); exact BK229.out⟩, ⟨by (with_reducible repeat (first | refine kN_ ?_ _ | refine kD_ ?_ | refine kA_ ?_ _)); refine blk_put (cs := #[.bool x231000_9, .int .i64 x231001_13, u231002]) ?_ 2 _ rfl; (with_reducible repeat (first | refine kN_ ?_ _ | refine kD_ ?_ | refine kA_ ?_ _)); exact BK230.out⟩, ⟨by repeat (first | (with_reducible first | exact HB.out | apply bA_ | apply bN_ | apply bD_ | refine bS_ ?_ GE229.out | refine bS_ ?_ GE230.out) | exact HB.out)⟩⟩
                     ·rw [if_neg c70] at H
                      exact absurd H (by simp)
                   ·replace c63 := Bool.eq_false_iff.mpr c63
                    subst c63
                    have H1 : (some (false, 0, ([] : List ByteArray), false)) = some (r1, r2, r3, r4) := by rw [if_neg (show ¬ (false = true) by decide)] at H; exact H
                    clear H
                    have H := H1
                    clear H1
                    simp only [Option.some.injEq, Prod.mk.injEq] at H
                    obtain ⟨rfl, rfl, rfl, rfl⟩ := H
                    have p31 : 0 ≤ (x7_5 : Int) := of_decide_eq_true (by first | (with_reducible assumption) | assumption)
                    have q31 : x7_5 < (a0.size : Int) := of_decide_eq_true (by first | (with_reducible assumption) | assumption)
                    have hx31 := bt_at a0 x7_5
                    replace p31 := eq_true p31
                    replace q31 := eq_true q31
                    go_wp2_with (first | (go_at_call 27; (with_reducible refine (platformfwref01_Segment.calls k5 (a0.extract (x5_4 : Int).toNat (x7_5 : Int).toNat) false _ A62.out).mono ?_); rintro e w' ⟨rfl, ⟨nd, rfl⟩⟩; (try (rw [drewN_self wr]; generalize hq_ : World.drewN wr _ = wr; have n0_ : Aside0 (Kd.R Kd.string 9 wr w.heap.size (fun _ => True) u231002 x231002_4) := ⟨by rw [← hq_]; exact (by (with_reducible repeat (first | apply Kd.R_alloc | apply Kd.R_drewN | apply Kd.R_drew)); exact HO_231002.out)⟩; have n1_ : Aside0 (wr.heap[gb229]? = some (.cells #[.bool x230000_4, .int .i64 x230001_4, .slice none 0 0] 24 (0, 0))) := ⟨by rw [← hq_]; exact (by (with_reducible repeat (first | refine kN_ ?_ _ | refine kD_ ?_ | refine kA_ ?_ _)); exact BK229.out)⟩; have n2_ : Aside0 (wr.heap[gb230]? = some (.cells #[.bool x231000_9, .int .i64 x231001_13, u231002] 24 (0, 0))) := ⟨by rw [← hq_]; exact (by (with_reducible repeat (first | refine kN_ ?_ _ | refine kD_ ?_ | refine kA_ ?_ _)); exact BK230.out)⟩; have n3_ : Aside0 (Below w.heap.size w wr) := ⟨by rw [← hq_]; exact (by repeat (first | (with_reducible first | exact HB.out | apply bA_ | apply bN_ | apply bD_ | refine bS_ ?_ GE229.out | refine bS_ ?_ GE230.out) | exact HB.out))⟩; clear HO_231002 BK229 BK230 HB hq_; have HO_231002 := n0_; have BK229 := n1_; have BK230 := n2_; have HB := n3_; clear n0_ n1_ n2_ n3_)); have hnb75 := NB229_230.out; have hnc75 := NB230_229.out; obtain ⟨hcz76_0, hcz76_1, hcz76_2⟩ := cells3_ BK229.out; obtain ⟨hfz76_0, hfz76_1, hfz76_2⟩ := froz3_ BK229.out))
                    refine bodyPost_ret (results_ct rfl _ _ gb229 24 #[.bool false, .int .i64 0, .slice none 0 0] (0, 0) _ rfl (by (with_reducible repeat (first | refine kN_ ?_ _ | refine kD_ ?_ | refine kA_ ?_ _)); refine blk_put (cs := #[.bool false, .int .i64 0, .slice none 0 0]) ?_ 2 _ rfl; (with_reducible repeat (first | refine kN_ ?_ _ | refine kD_ ?_ | refine kA_ ?_ _)); refine blk_put (cs := #[.bool false, .int .i64 x230001_4, .slice none 0 0]) ?_ 1 _ rfl; (with_reducible repeat (first | refine kN_ ?_ _ | refine kD_ ?_ | refine kA_ ?_ _)); refine blk_put (cs := #[.bool x230000_4, .int .i64 x230001_4, .slice none 0 0]) ?_ 0 _ rfl; (with_reducible repeat (first | refine kN_ ?_ _ | refine kD_ ?_ | refine kA_ ?_ _)); exact BK229.out) Tryd.underlying24 rfl (by kernel_rfl)) rfl ?_
                    exact ⟨_, by first | rfl | (simp [errW_none, errW_some] <;> rfl) | (simp [*, errW_none, errW_some] <;> rfl), by first | exact Kd.R_nil _ _ _ _ _ | exact Kd.N_nil _ _ _ _ _ | exact Kd.V_nil _ _ _ _ _ | exact Kd.Q_nil _ _ _ _ _ | exact Kd.S_nil _ _ _ _ _, by repeat (first | (with_reducible first | exact HB.out | apply bA_ | apply bN_ | apply bD_ | refine bS_ ?_ GE229.out | refine bS_ ?_ GE230.out) | exact HB.out)⟩
                  ·rw [if_neg c61] at H
                   exact absurd H (by simp)
                 ·rw [if_neg c60] at H
                  exact absurd H (by simp)
                ·rw [if_neg c59] at H
                 exact absurd H (by simp)
              ·rw [if_neg c32] at H
               have c32b0 : ((bt a0 x7_5) == 46) = false := beq_eq_false_iff_ne.mpr c32
               have c32b1 : ((bt a0 x7_5) != 46) = true := bne_iff_ne.mpr c32
               have H' := Aside0.mk H
               clear H
               have p31 : 0 ≤ (x7_5 : Int) := of_decide_eq_true (by first | (with_reducible assumption) | assumption)
               have q31 : x7_5 < (a0.size : Int) := of_decide_eq_true (by first | (with_reducible assumption) | assumption)
               have hx31 := bt_at a0 x7_5
               replace p31 := eq_true p31
               replace q31 := eq_true q31
               go_wp2
               go_roundg k5
               case measure => have := HJ1.out; have := HJ9.out; have := HJ13.out; have := HK4.out; have := HK5.out; omega
               case rel => exact ⟨(wrap64 (x7_5 + 1)), (by first | rfl | (simp; done) | (simp [*]; done)), H', ⟨by have := HJ1.out; have := HJ9.out; have := HJ13.out; have := HK4.out; have := HK5.out; omega⟩, ⟨by (with_reducible repeat (first | apply Kd.R_alloc | apply Kd.R_drewN | apply Kd.R_drew)); exact HO_231002.out⟩, ⟨by (with_reducible repeat (first | refine kN_ ?_ _ | refine kD_ ?_ | refine kA_ ?_ _)); exact BK229.out⟩, ⟨by (with_reducible repeat (first | refine kN_ ?_ _ | refine kD_ ?_ | refine kA_ ?_ _)); exact BK230.out⟩, ⟨by repeat (first | (with_reducible first | exact HB.out | apply bA_ | apply bN_ | apply bD_ | refine bS_ ?_ GE229.out | refine bS_ ?_ GE230.out) | exact HB.out)⟩⟩
             ·rw [if_neg c30] at H
              exact absurd H (by simp)
            ·rw [if_neg c29] at H
             have c29b0 : decide (x7_5 < (a0.size : Int)) = false := decide_eq_false c29
             clear c29
             by_cases c77 : x5_4 > x5_13
             ·rw [if_pos c77] at H
              have c77b0 : decide (x5_13 < x5_4) = true := decide_eq_true c77
              clear c77
              obtain ⟨ji78, hji78⟩ : ∃ j_ : Int, (wrap64 (x5_4 - 1)) = j_ := ⟨_, rfl⟩
              replace H : (if 0 ≤ (ji78) then (if (ji78) < (a0.size : Int) then (if (bt a0 (ji78)) = 46 then (if 0 ≤ x5_4 then (if x5_4 ≤ x7_5 then (if x7_5 ≤ (a0.size : Int) then ((platformfwref01_Segment.f k5 (a0.extract (x5_4 : Int).toNat (x7_5 : Int).toNat)).bind fun t240 => (if t240 = true then (if (wrap64 (x7_5 + 1)) = (a0.size : Int) then (some (false, 0, ([] : List ByteArray), false)) else (if x231002_4.length < 8796093022208 then (platformfwref01_ParsePath.l1 k5 a0 (wrap64 (x7_5 + 1)) x5_13 x231000_9 x231001_13 (x231002_4 ++ [a0.extract (x5_4 : Int).toNat (x7_5 : Int).toNat])) else (none))) else (some (false, 0, ([] : List ByteArray), false)))) else (none)) else (none)) else (none)) else (some (false, 0, ([] : List ByteArray), false))) else (none)) else (none)) = some (r1, r2, r3, r4) := by first | (rw [hji78] at H; exact H) | (simp only [hji78] at H ⊢; exact H)
              have hji78w : (IntKind.i64.wrap (x5_4 - 1)) = ji78 := (i64_w _).trans hji78
              by_cases c79 : 0 ≤ (ji78)
              ·rw [if_pos c79] at H
               have c79b0 : decide (0 ≤ (ji78)) = true := decide_eq_true c79
               clear c79
               by_cases c80 : (ji78) < (a0.size : Int)
               ·rw [if_pos c80] at H
                have c80b0 : decide ((ji78) < (a0.size : Int)) = true := decide_eq_true c80
                clear c80
                by_cases c82 : (bt a0 (ji78)) = 46
                ·rw [if_pos c82] at H
                 have c82b0 : ((bt a0 (ji78)) == 46) = true := beq_iff_eq.mpr c82
                 have c82b1 : ((bt a0 (ji78)) != 46) = false := bne_eq_false_iff_eq.mpr c82
                 clear c82
                 by_cases c83 : 0 ≤ x5_4
                 ·rw [if_pos c83] at H
                  have c83b0 := eq_true c83
                  have c83b1 : decide (0 ≤ x5_4) = true := decide_eq_true c83
                  clear c83
                  by_cases c84 : x5_4 ≤ x7_5
                  ·rw [if_pos c84] at H
                   have c84b0 := eq_true c84
                   have c84b1 : decide (x5_4 ≤ x7_5) = true := decide_eq_true c84
                   clear c84
                   by_cases c85 : x7_5 ≤ (a0.size : Int)
                   ·rw [if_pos c85] at H
                    have c85b0 := eq_true c85
                    have c85b1 : decide (x7_5 ≤ (a0.size : Int)) = true := decide_eq_true c85
                    clear c85
                    replace H := Option.bind_eq_some_iff.mp H
                    obtain ⟨t240, A860, H⟩ := H
                    replace H : (if t240 = true then (if (wrap64 (x7_5 + 1)) = (a0.size : Int) then (some (false, 0, ([] : List ByteArray), false)) else (if x231002_4.length < 8796093022208 then (platformfwref01_ParsePath.l1 k5 a0 (wrap64 (x7_5 + 1)) x5_13 x231000_9 x231001_13 (x231002_4 ++ [a0.extract (x5_4 : Int).toNat (x7_5 : Int).toNat])) else (none))) else (some (false, 0, ([] : List ByteArray), false))) = some (r1, r2, r3, r4) := H
                    have A86 := Aside0.mk A860
                    clear A860
                    by_cases c87 : t240 = true
                    ·subst c87
                     have H1 : (if (wrap64 (x7_5 + 1)) = (a0.size : Int) then (some (false, 0, ([] : List ByteArray), false)) else (if x231002_4.length < 8796093022208 then (platformfwref01_ParsePath.l1 k5 a0 (wrap64 (x7_5 + 1)) x5_13 x231000_9 x231001_13 (x231002_4 ++ [a0.extract (x5_4 : Int).toNat (x7_5 : Int).toNat])) else (none))) = some (r1, r2, r3, r4) := by rw [if_pos rfl] at H; exact H
                     clear H
                     have H := H1
                     clear H1
                     by_cases c88 : (wrap64 (x7_5 + 1)) = (a0.size : Int)
                     ·rw [if_pos c88] at H
                      have c88b0 : ((wrap64 (x7_5 + 1)) == (a0.size : Int)) = true := beq_iff_eq.mpr c88
                      have c88b1 : ((wrap64 (x7_5 + 1)) != (a0.size : Int)) = false := bne_eq_false_iff_eq.mpr c88
                      clear c88
                      simp only [Option.some.injEq, Prod.mk.injEq] at H
                      obtain ⟨rfl, rfl, rfl, rfl⟩ := H
                      have p81 : 0 ≤ ((ji78) : Int) := of_decide_eq_true (by first | (with_reducible assumption) | assumption)
                      have q81 : (ji78) < (a0.size : Int) := of_decide_eq_true (by first | (with_reducible assumption) | assumption)
                      have hx81 := bt_at a0 (ji78)
                      replace p81 := eq_true p81
                      replace q81 := eq_true q81
                      go_wp2_with (first | (go_at_call 27; (with_reducible refine (platformfwref01_Segment.calls k5 (a0.extract (x5_4 : Int).toNat (x7_5 : Int).toNat) true _ A86.out).mono ?_); rintro e w' ⟨rfl, ⟨nd, rfl⟩⟩; (try (rw [drewN_self wr]; generalize hq_ : World.drewN wr _ = wr; have n0_ : Aside0 (Kd.R Kd.string 9 wr w.heap.size (fun _ => True) u231002 x231002_4) := ⟨by rw [← hq_]; exact (by (with_reducible repeat (first | apply Kd.R_alloc | apply Kd.R_drewN | apply Kd.R_drew)); exact HO_231002.out)⟩; have n1_ : Aside0 (wr.heap[gb229]? = some (.cells #[.bool x230000_4, .int .i64 x230001_4, .slice none 0 0] 24 (0, 0))) := ⟨by rw [← hq_]; exact (by (with_reducible repeat (first | refine kN_ ?_ _ | refine kD_ ?_ | refine kA_ ?_ _)); exact BK229.out)⟩; have n2_ : Aside0 (wr.heap[gb230]? = some (.cells #[.bool x231000_9, .int .i64 x231001_13, u231002] 24 (0, 0))) := ⟨by rw [← hq_]; exact (by (with_reducible repeat (first | refine kN_ ?_ _ | refine kD_ ?_ | refine kA_ ?_ _)); exact BK230.out)⟩; have n3_ : Aside0 (Below w.heap.size w wr) := ⟨by rw [← hq_]; exact (by repeat (first | (with_reducible first | exact HB.out | apply bA_ | apply bN_ | apply bD_ | refine bS_ ?_ GE229.out | refine bS_ ?_ GE230.out) | exact HB.out))⟩; clear HO_231002 BK229 BK230 HB hq_; have HO_231002 := n0_; have BK229 := n1_; have BK230 := n2_; have HB := n3_; clear n0_ n1_ n2_ n3_)); have hnb89 := NB229_230.out; have hnc89 := NB230_229.out; obtain ⟨hcz90_0, hcz90_1, hcz90_2⟩ := cells3_ BK229.out; obtain ⟨hfz90_0, hfz90_1, hfz90_2⟩ := froz3_ BK229.out))
                      refine bodyPost_ret (results_ct rfl _ _ gb229 24 #[.bool false, .int .i64 0, .slice none 0 0] (0, 0) _ rfl (by (with_reducible repeat (first | refine kN_ ?_ _ | refine kD_ ?_ | refine kA_ ?_ _)); refine blk_put (cs := #[.bool false, .int .i64 0, .slice none 0 0]) ?_ 2 _ rfl; (with_reducible repeat (first | refine kN_ ?_ _ | refine kD_ ?_ | refine kA_ ?_ _)); refine blk_put (cs := #[.bool false, .int .i64 x230001_4, .slice none 0 0]) ?_ 1 _ rfl; (with_reducible repeat (first | refine kN_ ?_ _ | refine kD_ ?_ | refine kA_ ?_ _)); refine blk_put (cs := #[.bool x230000_4, .int .i64 x230001_4, .slice none 0 0]) ?_ 0 _ rfl; (with_reducible repeat (first | refine kN_ ?_ _ | refine kD_ ?_ | refine kA_ ?_ _)); exact BK229.out) Tryd.underlying24 rfl (by kernel_rfl)) rfl ?_
                      exact ⟨_, by first | rfl | (simp [errW_none, errW_some] <;> rfl) | (simp only [← hji78]; first | rfl | (simp [errW_none, errW_some] <;> rfl)) | (simp [*, errW_none, errW_some] <;> rfl), by first | exact Kd.R_nil _ _ _ _ _ | exact Kd.N_nil _ _ _ _ _ | exact Kd.V_nil _ _ _ _ _ | exact Kd.Q_nil _ _ _ _ _ | exact Kd.S_nil _ _ _ _ _, by repeat (first | (with_reducible first | exact HB.out | apply bA_ | apply bN_ | apply bD_ | refine bS_ ?_ GE229.out | refine bS_ ?_ GE230.out) | exact HB.out)⟩
                     ·rw [if_neg c88] at H
                      have c88b0 : ((wrap64 (x7_5 + 1)) == (a0.size : Int)) = false := beq_eq_false_iff_ne.mpr c88
                      have c88b1 : ((wrap64 (x7_5 + 1)) != (a0.size : Int)) = true := bne_iff_ne.mpr c88
                      have c91b0 := eq_true (of_decide_eq_true (by first | (with_reducible assumption) | assumption) : 0 ≤ x5_4)
                      have c92b0 := eq_true (of_decide_eq_true (by first | (with_reducible assumption) | assumption) : x5_4 ≤ x7_5)
                      have c93b0 := eq_true (of_decide_eq_true (by first | (with_reducible assumption) | assumption) : x7_5 ≤ (a0.size : Int))
                      by_cases c94 : x231002_4.length < 8796093022208
                      ·rw [if_pos c94] at H
                       have LMc94 := Aside0.mk c94
                       clear c94
                       obtain ⟨y241, hy241⟩ : ∃ y_ : List ByteArray, y_ = (x231002_4 ++ [a0.extract (x5_4 : Int).toNat (x7_5 : Int).toNat]) := ⟨_, rfl⟩
                       replace H : (platformfwref01_ParsePath.l1 k5 a0 (wrap64 (x7_5 + 1)) x5_13 x231000_9 x231001_13 y241) = some (r1, r2, r3, r4) := by first | (rw [hy241]; with_reducible exact H) | (have H2_ := (Option.bind_some _ _).symm.trans H; rw [hy241]; with_reducible exact H2_) | (have H2_ := (Option.bind_some _ _).symm.trans H; with_reducible exact H2_) | with_reducible exact H | (rw [hy241]; exact H) | exact H
                       have Ny241 := Aside0.mk hy241
                       clear hy241
                       have H' := Aside0.mk H
                       clear H
                       have p81 : 0 ≤ ((ji78) : Int) := of_decide_eq_true (by first | (with_reducible assumption) | assumption)
                       have q81 : (ji78) < (a0.size : Int) := of_decide_eq_true (by first | (with_reducible assumption) | assumption)
                       have hx81 := bt_at a0 (ji78)
                       replace p81 := eq_true p81
                       replace q81 := eq_true q81
                       try go_wp2_with (first | (go_at_call 27; (with_reducible refine (platformfwref01_Segment.calls k5 (a0.extract (x5_4 : Int).toNat (x7_5 : Int).toNat) true _ A86.out).mono ?_); rintro e w' ⟨rfl, ⟨nd, rfl⟩⟩; (try (rw [drewN_self wr]; generalize hq_ : World.drewN wr _ = wr; have n0_ : Aside0 (Kd.R Kd.string 9 wr w.heap.size (fun _ => True) u231002 x231002_4) := ⟨by rw [← hq_]; exact (by (with_reducible repeat (first | apply Kd.R_alloc | apply Kd.R_drewN | apply Kd.R_drew)); exact HO_231002.out)⟩; have n1_ : Aside0 (wr.heap[gb229]? = some (.cells #[.bool x230000_4, .int .i64 x230001_4, .slice none 0 0] 24 (0, 0))) := ⟨by rw [← hq_]; exact (by (with_reducible repeat (first | refine kN_ ?_ _ | refine kD_ ?_ | refine kA_ ?_ _)); exact BK229.out)⟩; have n2_ : Aside0 (wr.heap[gb230]? = some (.cells #[.bool x231000_9, .int .i64 x231001_13, u231002] 24 (0, 0))) := ⟨by rw [← hq_]; exact (by (with_reducible repeat (first | refine kN_ ?_ _ | refine kD_ ?_ | refine kA_ ?_ _)); exact BK230.out)⟩; have n3_ : Aside0 (Below w.heap.size w wr) := ⟨by rw [← hq_]; exact (by repeat (first | (with_reducible first | exact HB.out | apply bA_ | apply bN_ | apply bD_ | refine bS_ ?_ GE229.out | refine bS_ ?_ GE230.out) | exact HB.out))⟩; clear HO_231002 BK229 BK230 HB hq_; have HO_231002 := n0_; have BK229 := n1_; have BK230 := n2_; have HB := n3_; clear n0_ n1_ n2_ n3_))))
                       have n0_ := Aside0.mk (Kd.R_drew HO_231002.out)
                       have n1_ := Aside0.mk (kD_ BK229.out)
                       have n2_ := Aside0.mk (kD_ BK230.out)
                       have n3_ := Aside0.mk (bD_ HB.out)
                       clear HO_231002
                       clear BK229
                       clear BK230
                       clear HB
                       have HO_231002 := n0_
                       have BK229 := n1_
                       have BK230 := n2_
                       have HB := n3_
                       clear n0_ n1_ n2_ n3_
                       refine start_ (n := 10) (S := fun w' => w'.cell? ⟨gb230, 0, none⟩ = some (.bool x231000_9) ∧ w'.cell? ⟨gb230, 1, none⟩ = some (.int .i64 x231001_13) ∧ w'.cell? ⟨gb230, 2, none⟩ = some (u231002)) (ds := [9]) #[false, false, false, false, false, false, false, false, false, false] (by kernel_rfl) rfl rfl (cells3_ BK230.out) (fun hHeld => ?_); refine with_tabW platformfwref01_ParsePath.tab16 platformfwref01_ParsePath.bits16 (fun HT_ HW_ => ?_)
                       generalize wr.drew = w95 at HO_231002 BK229 BK230 HB hHeld ⊢
                       refine pure_ (i := 0) (N := some 84) (v := ?_) (a' := ?_) (tf 10 1) rfl rfl (any_of HT_.out (by kernel_rfl)) (fun _ _ _ h => h) (Or.inl ⟨by rfl, ?_⟩) ?_ ?_
                       rotate_left
                       ·intro w'
                        go_simp
                        with_reducible rfl
                       rotate_left
                       ·simp only [Act.put, sA_, sB_, sC_, i64_w, i32_w]
                        rfl
                       refine pure_ (i := 2) (N := some 86) (v := ?_) (a' := ?_) (tf 10 5) rfl rfl (any_of HT_.out (by kernel_rfl)) (fun _ _ _ h => h) (Or.inl ⟨by rfl, ?_⟩) ?_ ?_
                       rotate_left
                       ·intro w'
                        go_simp
                        with_reducible rfl
                       rotate_left
                       ·simp only [Act.put, sA_, sB_, sC_, i64_w, i32_w]
                        rfl
                       refine pure_ (i := 3) (N := some 87) (v := ?_) (a' := ?_) (tf 10 13) rfl rfl (any_of HT_.out (by kernel_rfl)) (fun _ _ _ h => h) (Or.inl ⟨by rfl, ?_⟩) ?_ ?_
                       rotate_left
                       ·intro w'
                        go_simp
                        with_reducible rfl
                       rotate_left
                       ·simp only [Act.put, sA_, sB_, sC_, i64_w, i32_w]
                        rfl
                       refine pure_ (i := 4) (N := some 88) (v := ?_) (a' := ?_) (tf 10 29) rfl rfl (any_of HT_.out (by kernel_rfl)) (fun _ _ _ h => h) (Or.inl ⟨by rfl, ?_⟩) ?_ ?_
                       rotate_left
                       ·intro w'
                        go_simp
                        with_reducible rfl
                       rotate_left
                       ·simp only [Act.put, sA_, sB_, sC_, i64_w, i32_w]
                        rfl
                       refine pure_ (i := 5) (N := some 89) (v := ?_) (a' := ?_) (tf 10 61) rfl rfl (any_of HT_.out (by kernel_rfl)) (fun _ _ _ h => h) (Or.inl ⟨by rfl, ?_⟩) ?_ ?_
                       rotate_left
                       ·intro w'
                        go_simp
                        with_reducible rfl
                       rotate_left
                       ·simp only [Act.put, sA_, sB_, sC_, i64_w, i32_w]
                        rfl
                       refine take_ (i := 1) (N := some 85) (v := ?_) (a' := ?_) (tf 10 63) rfl rfl (take_ofW HT_.out HW_.out (by kernel_rfl)) (fun _ _ _ h => h) (Or.inl ⟨by rfl, ?_⟩) hHeld ?_ ?_
                       rotate_left
                       ·rintro w' ⟨s0, s1, s2⟩
                        go_simp
                        with_reducible rfl
                       rotate_left
                       ·simp only [Act.put, sA_, sB_, sC_, i64_w, i32_w]
                        rfl
                       refine one_ (i := 6) (N := some 90) (tf 10 127) rfl rfl (one_of HT_.out (by kernel_rfl)) (by decide) (fun K hK => ?_)
                       refine value_ (w1 := ?_) (v := ?_) (by rfl) rfl ?_ ?_
                       rotate_left 2
                       ·go_simp
                        constructor
                        ·rfl
                        ·rfl
                       refine hK.out _ _ ⟨(blk_cell (kA_ BK230.out _) 0).trans rfl, (blk_cell (kA_ BK230.out _) 1).trans rfl, (blk_cell (kA_ BK230.out _) 2).trans rfl⟩ (fun hHeld => ?_)
                       clear hK K
                       refine norm_ (a' := ?_) ?_ ?_
                       rotate_left
                       ·show Act.put _ (some 90) _ = _
                        simp only [Act.put, sA_, sB_, sC_, i64_w, i32_w]
                        rfl
                       refine one_ (i := 7) (N := some 91) (tf 10 255) rfl rfl (one_of HT_.out (by kernel_rfl)) (by decide) (fun K hK => ?_)
                       refine Kd.R_append_step Kd.string (w0 := w) w.heap.size (by rfl) (.tmp 85) (.tmp 90) 22 9 (.string ⟨#[]⟩) 16 rfl Tryd.underlying22 info9 rfl (by decide) (by omega) u231002 x231002_4 (a0.extract (x5_4 : Int).toNat (x7_5 : Int).toNat) [.string (a0.extract (x5_4 : Int).toNat (x7_5 : Int).toNat)] (fun _ => True) (fun _ => False) rfl rfl ?aP (fun _ hk => hk.elim) ?aF ?aO ?aB ?aS ?aL ?_
                       (case aP => exact rfl)
                       (case aB => exact (by repeat (first | (with_reducible first | exact HB.out | apply bA_ | apply bN_ | apply bD_ | refine bS_ ?_ GE229.out | refine bS_ ?_ GE230.out) | exact HB.out)))
                       (case aF => exact (fun _ _ => trivial))
                       (case aO => exact (by (with_reducible repeat (first | apply Kd.R_alloc | apply Kd.R_drewN | apply Kd.R_drew)); exact HO_231002.out))
                       (case aS => exact (below_size (by repeat (first | (with_reducible first | exact HB.out | apply bA_ | apply bN_ | apply bD_ | refine bS_ ?_ GE229.out | refine bS_ ?_ GE230.out) | exact HB.out))))
                       (case aL => have := LMc94.out; omega)
                       intro v242 w96 ho hb hg hat
                       rw [← Ny241.out] at ho
                       have n0_ := Aside0.mk (blk_grown (g := gb229) (o := .cells #[.bool x230000_4, .int .i64 x230001_4, .slice none 0 0] 24 (0, 0)) (by (with_reducible repeat (first | refine kN_ ?_ _ | refine kD_ ?_ | refine kA_ ?_ _)); exact BK229.out) hg (Kd.R_ne HO_231002.out BK229.out (by decide)))
                       have n1_ := Aside0.mk (blk_grown (g := gb230) (o := .cells #[.bool x231000_9, .int .i64 x231001_13, u231002] 24 (0, 0)) (by (with_reducible repeat (first | refine kN_ ?_ _ | refine kD_ ?_ | refine kA_ ?_ _)); exact BK230.out) hg (Kd.R_ne HO_231002.out BK230.out (by decide)))
                       have n2_ := Aside0.mk (hb)
                       have n3_ := Aside0.mk (ho)
                       clear BK229
                       clear BK230
                       clear HB
                       clear HO_231002
                       have BK229 := n0_
                       have BK230 := n1_
                       have HB := n2_
                       have HO243 := n3_
                       clear n0_ n1_ n2_ n3_
                       clear ho hb hg hat
                       obtain ⟨Ao97, co97, eo97⟩ := Kd.R_slice HO243.out
                       (first | subst eo97 | (injection eo97 with f1_ f2_ f3_; have f4_ := f1_.symm; have f5_ := f3_.symm; clear f1_ f2_ f3_; subst f4_; subst f5_))
                       refine hK.out _ _ (cells3_ BK230.out) (fun hHeld => ?_)
                       clear hK K
                       refine norm_ (a' := ?_) ?_ ?_
                       rotate_left
                       ·show Act.put _ (some 91) _ = _
                        simp only [Act.put, sA_, sB_, sC_, i64_w, i32_w]
                        rfl
                       refine pure_ (i := 8) (N := some 92) (v := ?_) (a' := ?_) (tf 10 511) rfl rfl (any_of HT_.out (by kernel_rfl)) (fun _ _ _ h => h) (Or.inl ⟨by rfl, ?_⟩) ?_ ?_
                       rotate_left
                       ·intro w'
                        go_simp
                        with_reducible rfl
                       rotate_left
                       ·simp only [Act.put, sA_, sB_, sC_, i64_w, i32_w]
                        rfl
                       refine last_ (i := 9) (N := none) (tf 10 1023) rfl rfl (one_of HT_.out (by kernel_rfl)) (by decide) (fun K hK => ?_)
                       have hs98 : w96.cell? ⟨gb230, 2, none⟩ = some (u231002) := (blk_cell BK230.out 2).trans rfl
                       have hfs98 := blk_frozen BK230.out 2
                       have hns98_0 := NB229_230.out
                       have hms98_0 := NB230_229.out
                       refine skip_ (w1 := ?_) (by rfl) rfl ?_ ?_
                       rotate_left
                       ·go_simp
                        rfl
                       refine hK.out _ _ ?_
                       clear hK K
                       refine done_ (done_of HT_.out (by kernel_rfl)) ?_
                       try go_wp2
                       go_roundg k5
                       case measure => have := HJ1.out; have := HJ9.out; have := HJ13.out; have := HK4.out; have := HK5.out; omega
                       case rel => exact ⟨(wrap64 (x7_5 + 1)), (x230000_4), (x230001_4), (y241), (.slice Ao97 y241.length co97), (by first | rfl | (simp; done) | (simp [*]; done)), H', ⟨by have := HJ1.out; have := HJ9.out; have := HJ13.out; have := HK4.out; have := HK5.out; omega⟩, ⟨by (with_reducible repeat (first | apply Kd.R_alloc | apply Kd.R_drewN | apply Kd.R_drew)); exact Kd.R_mono (Kd.R_far (p := ⟨gb230, 2, none⟩) (Kd.R_types HO243.out BK230.out (by decide)) (fun _ hk => hk.2) (.slice Ao97 y241.length co97)) (fun _ hk => trivial)⟩, ⟨by (with_reducible repeat (first | refine kN_ ?_ _ | refine kD_ ?_ | refine kA_ ?_ _)); refine blk_far ?_ NB229_230.out _; (with_reducible repeat (first | refine kN_ ?_ _ | refine kD_ ?_ | refine kA_ ?_ _)); exact BK229.out⟩, ⟨by (with_reducible repeat (first | refine kN_ ?_ _ | refine kD_ ?_ | refine kA_ ?_ _)); refine blk_put (cs := #[.bool x231000_9, .int .i64 x231001_13, u231002]) ?_ 2 _ rfl; (with_reducible repeat (first | refine kN_ ?_ _ | refine kD_ ?_ | refine kA_ ?_ _)); exact BK230.out⟩, ⟨by repeat (first | (with_reducible first | exact HB.out | apply bA_ | apply bN_ | apply bD_ | refine bS_ ?_ GE229.out | refine bS_ ?_ GE230.out) | exact HB.out)⟩⟩
                      ·rw [if_neg c94] at H
                       exact absurd H (by simp)
                    ·replace c87 := Bool.eq_false_iff.mpr c87
                     subst c87
                     have H1 : (some (false, 0, ([] : List ByteArray), false)) = some (r1, r2, r3, r4) := by rw [if_neg (show ¬ (false = true) by decide)] at H; exact H
                     clear H
                     have H := H1
                     clear H1
                     simp only [Option.some.injEq, Prod.mk.injEq] at H
                     obtain ⟨rfl, rfl, rfl, rfl⟩ := H
                     have p81 : 0 ≤ ((ji78) : Int) := of_decide_eq_true (by first | (with_reducible assumption) | assumption)
                     have q81 : (ji78) < (a0.size : Int) := of_decide_eq_true (by first | (with_reducible assumption) | assumption)
                     have hx81 := bt_at a0 (ji78)
                     replace p81 := eq_true p81
                     replace q81 := eq_true q81
                     go_wp2_with (first | (go_at_call 27; (with_reducible refine (platformfwref01_Segment.calls k5 (a0.extract (x5_4 : Int).toNat (x7_5 : Int).toNat) false _ A86.out).mono ?_); rintro e w' ⟨rfl, ⟨nd, rfl⟩⟩; (try (rw [drewN_self wr]; generalize hq_ : World.drewN wr _ = wr; have n0_ : Aside0 (Kd.R Kd.string 9 wr w.heap.size (fun _ => True) u231002 x231002_4) := ⟨by rw [← hq_]; exact (by (with_reducible repeat (first | apply Kd.R_alloc | apply Kd.R_drewN | apply Kd.R_drew)); exact HO_231002.out)⟩; have n1_ : Aside0 (wr.heap[gb229]? = some (.cells #[.bool x230000_4, .int .i64 x230001_4, .slice none 0 0] 24 (0, 0))) := ⟨by rw [← hq_]; exact (by (with_reducible repeat (first | refine kN_ ?_ _ | refine kD_ ?_ | refine kA_ ?_ _)); exact BK229.out)⟩; have n2_ : Aside0 (wr.heap[gb230]? = some (.cells #[.bool x231000_9, .int .i64 x231001_13, u231002] 24 (0, 0))) := ⟨by rw [← hq_]; exact (by (with_reducible repeat (first | refine kN_ ?_ _ | refine kD_ ?_ | refine kA_ ?_ _)); exact BK230.out)⟩; have n3_ : Aside0 (Below w.heap.size w wr) := ⟨by rw [← hq_]; exact (by repeat (first | (with_reducible first | exact HB.out | apply bA_ | apply bN_ | apply bD_ | refine bS_ ?_ GE229.out | refine bS_ ?_ GE230.out) | exact HB.out))⟩; clear HO_231002 BK229 BK230 HB hq_; have HO_231002 := n0_; have BK229 := n1_; have BK230 := n2_; have HB := n3_; clear n0_ n1_ n2_ n3_)); have hnb99 := NB229_230.out; have hnc99 := NB230_229.out; obtain ⟨hcz100_0, hcz100_1, hcz100_2⟩ := cells3_ BK229.out; obtain ⟨hfz100_0, hfz100_1, hfz100_2⟩ := froz3_ BK229.out))
                     refine bodyPost_ret (results_ct rfl _ _ gb229 24 #[.bool false, .int .i64 0, .slice none 0 0] (0, 0) _ rfl (by (with_reducible repeat (first | refine kN_ ?_ _ | refine kD_ ?_ | refine kA_ ?_ _)); refine blk_put (cs := #[.bool false, .int .i64 0, .slice none 0 0]) ?_ 2 _ rfl; (with_reducible repeat (first | refine kN_ ?_ _ | refine kD_ ?_ | refine kA_ ?_ _)); refine blk_put (cs := #[.bool false, .int .i64 x230001_4, .slice none 0 0]) ?_ 1 _ rfl; (with_reducible repeat (first | refine kN_ ?_ _ | refine kD_ ?_ | refine kA_ ?_ _)); refine blk_put (cs := #[.bool x230000_4, .int .i64 x230001_4, .slice none 0 0]) ?_ 0 _ rfl; (with_reducible repeat (first | refine kN_ ?_ _ | refine kD_ ?_ | refine kA_ ?_ _)); exact BK229.out) Tryd.underlying24 rfl (by kernel_rfl)) rfl ?_
                     exact ⟨_, by first | rfl | (simp [errW_none, errW_some] <;> rfl) | (simp only [← hji78]; first | rfl | (simp [errW_none, errW_some] <;> rfl)) | (simp [*, errW_none, errW_some] <;> rfl), by first | exact Kd.R_nil _ _ _ _ _ | exact Kd.N_nil _ _ _ _ _ | exact Kd.V_nil _ _ _ _ _ | exact Kd.Q_nil _ _ _ _ _ | exact Kd.S_nil _ _ _ _ _, by repeat (first | (with_reducible first | exact HB.out | apply bA_ | apply bN_ | apply bD_ | refine bS_ ?_ GE229.out | refine bS_ ?_ GE230.out) | exact HB.out)⟩
                   ·rw [if_neg c85] at H
                    exact absurd H (by simp)
                  ·rw [if_neg c84] at H
                   exact absurd H (by simp)
                 ·rw [if_neg c83] at H
                  exact absurd H (by simp)
                ·rw [if_neg c82] at H
                 have c82b0 : ((bt a0 (ji78)) == 46) = false := beq_eq_false_iff_ne.mpr c82
                 have c82b1 : ((bt a0 (ji78)) != 46) = true := bne_iff_ne.mpr c82
                 simp only [Option.some.injEq, Prod.mk.injEq] at H
                 obtain ⟨rfl, rfl, rfl, rfl⟩ := H
                 have p81 : 0 ≤ ((ji78) : Int) := of_decide_eq_true (by first | (with_reducible assumption) | assumption)
                 have q81 : (ji78) < (a0.size : Int) := of_decide_eq_true (by first | (with_reducible assumption) | assumption)
                 have hx81 := bt_at a0 (ji78)
                 replace p81 := eq_true p81
                 replace q81 := eq_true q81
                 have hnb101 := NB229_230.out
                 have hnc101 := NB230_229.out
                 obtain ⟨hcz102_0, hcz102_1, hcz102_2⟩ := cells3_ BK229.out
                 obtain ⟨hfz102_0, hfz102_1, hfz102_2⟩ := froz3_ BK229.out
                 go_wp2
                 refine bodyPost_ret (results_ct rfl _ _ gb229 24 #[.bool false, .int .i64 0, .slice none 0 0] (0, 0) _ rfl (by (with_reducible repeat (first | refine kN_ ?_ _ | refine kD_ ?_ | refine kA_ ?_ _)); refine blk_put (cs := #[.bool false, .int .i64 0, .slice none 0 0]) ?_ 2 _ rfl; (with_reducible repeat (first | refine kN_ ?_ _ | refine kD_ ?_ | refine kA_ ?_ _)); refine blk_put (cs := #[.bool false, .int .i64 x230001_4, .slice none 0 0]) ?_ 1 _ rfl; (with_reducible repeat (first | refine kN_ ?_ _ | refine kD_ ?_ | refine kA_ ?_ _)); refine blk_put (cs := #[.bool x230000_4, .int .i64 x230001_4, .slice none 0 0]) ?_ 0 _ rfl; (with_reducible repeat (first | refine kN_ ?_ _ | refine kD_ ?_ | refine kA_ ?_ _)); exact BK229.out) Tryd.underlying24 rfl (by kernel_rfl)) rfl ?_
                 exact ⟨_, by first | rfl | (simp [errW_none, errW_some] <;> rfl) | (simp only [← hji78]; first | rfl | (simp [errW_none, errW_some] <;> rfl)) | (simp [*, errW_none, errW_some] <;> rfl), by first | exact Kd.R_nil _ _ _ _ _ | exact Kd.N_nil _ _ _ _ _ | exact Kd.V_nil _ _ _ _ _ | exact Kd.Q_nil _ _ _ _ _ | exact Kd.S_nil _ _ _ _ _, by repeat (first | (with_reducible first | exact HB.out | apply bA_ | apply bN_ | apply bD_ | refine bS_ ?_ GE229.out | refine bS_ ?_ GE230.out) | exact HB.out)⟩
               ·rw [if_neg c80] at H
                exact absurd H (by simp)
              ·rw [if_neg c79] at H
               exact absurd H (by simp)
             ·rw [if_neg c77] at H
              have c77b0 : decide (x5_13 < x5_4) = false := decide_eq_false c77
              clear c77
              by_cases c103 : 0 ≤ x5_4
              ·rw [if_pos c103] at H
               have c103b0 := eq_true c103
               have c103b1 : decide (0 ≤ x5_4) = true := decide_eq_true c103
               clear c103
               by_cases c104 : x5_4 ≤ x7_5
               ·rw [if_pos c104] at H
                have c104b0 := eq_true c104
                have c104b1 : decide (x5_4 ≤ x7_5) = true := decide_eq_true c104
                clear c104
                by_cases c105 : x7_5 ≤ (a0.size : Int)
                ·rw [if_pos c105] at H
                 have c105b0 := eq_true c105
                 have c105b1 : decide (x7_5 ≤ (a0.size : Int)) = true := decide_eq_true c105
                 clear c105
                 replace H := Option.bind_eq_some_iff.mp H
                 obtain ⟨t244, A1060, H⟩ := H
                 replace H : (if t244 = true then (if (wrap64 (x7_5 + 1)) = (a0.size : Int) then (some (false, 0, ([] : List ByteArray), false)) else (if x231002_4.length < 8796093022208 then (platformfwref01_ParsePath.l1 k5 a0 (wrap64 (x7_5 + 1)) x5_13 x231000_9 x231001_13 (x231002_4 ++ [a0.extract (x5_4 : Int).toNat (x7_5 : Int).toNat])) else (none))) else (some (false, 0, ([] : List ByteArray), false))) = some (r1, r2, r3, r4) := H
                 have A106 := Aside0.mk A1060
                 clear A1060
                 by_cases c107 : t244 = true
                 ·subst c107
                  have H1 : (if (wrap64 (x7_5 + 1)) = (a0.size : Int) then (some (false, 0, ([] : List ByteArray), false)) else (if x231002_4.length < 8796093022208 then (platformfwref01_ParsePath.l1 k5 a0 (wrap64 (x7_5 + 1)) x5_13 x231000_9 x231001_13 (x231002_4 ++ [a0.extract (x5_4 : Int).toNat (x7_5 : Int).toNat])) else (none))) = some (r1, r2, r3, r4) := by rw [if_pos rfl] at H; exact H
                  clear H
                  have H := H1
                  clear H1
                  by_cases c108 : (wrap64 (x7_5 + 1)) = (a0.size : Int)
                  ·rw [if_pos c108] at H
                   have c108b0 : ((wrap64 (x7_5 + 1)) == (a0.size : Int)) = true := beq_iff_eq.mpr c108
                   have c108b1 : ((wrap64 (x7_5 + 1)) != (a0.size : Int)) = false := bne_eq_false_iff_eq.mpr c108
                   clear c108
                   simp only [Option.some.injEq, Prod.mk.injEq] at H
                   obtain ⟨rfl, rfl, rfl, rfl⟩ := H
                   go_wp2_with (first | (go_at_call 27; (with_reducible refine (platformfwref01_Segment.calls k5 (a0.extract (x5_4 : Int).toNat (x7_5 : Int).toNat) true _ A106.out).mono ?_); rintro e w' ⟨rfl, ⟨nd, rfl⟩⟩; (try (rw [drewN_self wr]; generalize hq_ : World.drewN wr _ = wr; have n0_ : Aside0 (Kd.R Kd.string 9 wr w.heap.size (fun _ => True) u231002 x231002_4) := ⟨by rw [← hq_]; exact (by (with_reducible repeat (first | apply Kd.R_alloc | apply Kd.R_drewN | apply Kd.R_drew)); exact HO_231002.out)⟩; have n1_ : Aside0 (wr.heap[gb229]? = some (.cells #[.bool x230000_4, .int .i64 x230001_4, .slice none 0 0] 24 (0, 0))) := ⟨by rw [← hq_]; exact (by (with_reducible repeat (first | refine kN_ ?_ _ | refine kD_ ?_ | refine kA_ ?_ _)); exact BK229.out)⟩; have n2_ : Aside0 (wr.heap[gb230]? = some (.cells #[.bool x231000_9, .int .i64 x231001_13, u231002] 24 (0, 0))) := ⟨by rw [← hq_]; exact (by (with_reducible repeat (first | refine kN_ ?_ _ | refine kD_ ?_ | refine kA_ ?_ _)); exact BK230.out)⟩; have n3_ : Aside0 (Below w.heap.size w wr) := ⟨by rw [← hq_]; exact (by repeat (first | (with_reducible first | exact HB.out | apply bA_ | apply bN_ | apply bD_ | refine bS_ ?_ GE229.out | refine bS_ ?_ GE230.out) | exact HB.out))⟩; clear HO_231002 BK229 BK230 HB hq_; have HO_231002 := n0_; have BK229 := n1_; have BK230 := n2_; have HB := n3_; clear n0_ n1_ n2_ n3_)); have hnb109 := NB229_230.out; have hnc109 := NB230_229.out; obtain ⟨hcz110_0, hcz110_1, hcz110_2⟩ := cells3_ BK229.out; obtain ⟨hfz110_0, hfz110_1, hfz110_2⟩ := froz3_ BK229.out))
                   refine bodyPost_ret (results_ct rfl _ _ gb229 24 #[.bool false, .int .i64 0, .slice none 0 0] (0, 0) _ rfl (by (with_reducible repeat (first | refine kN_ ?_ _ | refine kD_ ?_ | refine kA_ ?_ _)); refine blk_put (cs := #[.bool false, .int .i64 0, .slice none 0 0]) ?_ 2 _ rfl; (with_reducible repeat (first | refine kN_ ?_ _ | refine kD_ ?_ | refine kA_ ?_ _)); refine blk_put (cs := #[.bool false, .int .i64 x230001_4, .slice none 0 0]) ?_ 1 _ rfl; (with_reducible repeat (first | refine kN_ ?_ _ | refine kD_ ?_ | refine kA_ ?_ _)); refine blk_put (cs := #[.bool x230000_4, .int .i64 x230001_4, .slice none 0 0]) ?_ 0 _ rfl; (with_reducible repeat (first | refine kN_ ?_ _ | refine kD_ ?_ | refine kA_ ?_ _)); exact BK229.out) Tryd.underlying24 rfl (by kernel_rfl)) rfl ?_
                   exact ⟨_, by first | rfl | (simp [errW_none, errW_some] <;> rfl) | (simp [*, errW_none, errW_some] <;> rfl), by first | exact Kd.R_nil _ _ _ _ _ | exact Kd.N_nil _ _ _ _ _ | exact Kd.V_nil _ _ _ _ _ | exact Kd.Q_nil _ _ _ _ _ | exact Kd.S_nil _ _ _ _ _, by repeat (first | (with_reducible first | exact HB.out | apply bA_ | apply bN_ | apply bD_ | refine bS_ ?_ GE229.out | refine bS_ ?_ GE230.out) | exact HB.out)⟩
                  ·rw [if_neg c108] at H
                   have c108b0 : ((wrap64 (x7_5 + 1)) == (a0.size : Int)) = false := beq_eq_false_iff_ne.mpr c108
                   have c108b1 : ((wrap64 (x7_5 + 1)) != (a0.size : Int)) = true := bne_iff_ne.mpr c108
                   have c111b0 := eq_true (of_decide_eq_true (by first | (with_reducible assumption) | assumption) : 0 ≤ x5_4)
                   have c112b0 := eq_true (of_decide_eq_true (by first | (with_reducible assumption) | assumption) : x5_4 ≤ x7_5)
                   have c113b0 := eq_true (of_decide_eq_true (by first | (with_reducible assumption) | assumption) : x7_5 ≤ (a0.size : Int))
                   by_cases c114 : x231002_4.length < 8796093022208
                   ·rw [if_pos c114] at H
                    have LMc114 := Aside0.mk c114
                    clear c114
                    obtain ⟨y245, hy245⟩ : ∃ y_ : List ByteArray, y_ = (x231002_4 ++ [a0.extract (x5_4 : Int).toNat (x7_5 : Int).toNat]) := ⟨_, rfl⟩
                    replace H : (platformfwref01_ParsePath.l1 k5 a0 (wrap64 (x7_5 + 1)) x5_13 x231000_9 x231001_13 y245) = some (r1, r2, r3, r4) := by first | (rw [hy245]; with_reducible exact H) | (have H2_ := (Option.bind_some _ _).symm.trans H; rw [hy245]; with_reducible exact H2_) | (have H2_ := (Option.bind_some _ _).symm.trans H; with_reducible exact H2_) | with_reducible exact H | (rw [hy245]; exact H) | exact H
                    have Ny245 := Aside0.mk hy245
                    clear hy245
                    have H' := Aside0.mk H
                    clear H
                    try go_wp2_with (first | (go_at_call 27; (with_reducible refine (platformfwref01_Segment.calls k5 (a0.extract (x5_4 : Int).toNat (x7_5 : Int).toNat) true _ A106.out).mono ?_); rintro e w' ⟨rfl, ⟨nd, rfl⟩⟩; (try (rw [drewN_self wr]; generalize hq_ : World.drewN wr _ = wr; have n0_ : Aside0 (Kd.R Kd.string 9 wr w.heap.size (fun _ => True) u231002 x231002_4) := ⟨by rw [← hq_]; exact (by (with_reducible repeat (first | apply Kd.R_alloc | apply Kd.R_drewN | apply Kd.R_drew)); exact HO_231002.out)⟩; have n1_ : Aside0 (wr.heap[gb229]? = some (.cells #[.bool x230000_4, .int .i64 x230001_4, .slice none 0 0] 24 (0, 0))) := ⟨by rw [← hq_]; exact (by (with_reducible repeat (first | refine kN_ ?_ _ | refine kD_ ?_ | refine kA_ ?_ _)); exact BK229.out)⟩; have n2_ : Aside0 (wr.heap[gb230]? = some (.cells #[.bool x231000_9, .int .i64 x231001_13, u231002] 24 (0, 0))) := ⟨by rw [← hq_]; exact (by (with_reducible repeat (first | refine kN_ ?_ _ | refine kD_ ?_ | refine kA_ ?_ _)); exact BK230.out)⟩; have n3_ : Aside0 (Below w.heap.size w wr) := ⟨by rw [← hq_]; exact (by repeat (first | (with_reducible first | exact HB.out | apply bA_ | apply bN_ | apply bD_ | refine bS_ ?_ GE229.out | refine bS_ ?_ GE230.out) | exact HB.out))⟩; clear HO_231002 BK229 BK230 HB hq_; have HO_231002 := n0_; have BK229 := n1_; have BK230 := n2_; have HB := n3_; clear n0_ n1_ n2_ n3_))))
                    have n0_ := Aside0.mk (Kd.R_drew HO_231002.out)
                    have n1_ := Aside0.mk (kD_ BK229.out)
                    have n2_ := Aside0.mk (kD_ BK230.out)
                    have n3_ := Aside0.mk (bD_ HB.out)
                    clear HO_231002
                    clear BK229
                    clear BK230
                    clear HB
                    have HO_231002 := n0_
                    have BK229 := n1_
                    have BK230 := n2_
                    have HB := n3_
                    clear n0_ n1_ n2_ n3_
                    refine start_ (n := 10) (S := fun w' => w'.cell? ⟨gb230, 0, none⟩ = some (.bool x231000_9) ∧ w'.cell? ⟨gb230, 1, none⟩ = some (.int .i64 x231001_13) ∧ w'.cell? ⟨gb230, 2, none⟩ = some (u231002)) (ds := [9]) #[false, false, false, false, false, false, false, false, false, false] (by kernel_rfl) rfl rfl (cells3_ BK230.out) (fun hHeld => ?_); refine with_tabW platformfwref01_ParsePath.tab16 platformfwref01_ParsePath.bits16 (fun HT_ HW_ => ?_)
                    generalize wr.drew = w115 at HO_231002 BK229 BK230 HB hHeld ⊢
                    refine pure_ (i := 0) (N := some 84) (v := ?_) (a' := ?_) (tf 10 1) rfl rfl (any_of HT_.out (by kernel_rfl)) (fun _ _ _ h => h) (Or.inl ⟨by rfl, ?_⟩) ?_ ?_
                    rotate_left
                    ·intro w'
                     go_simp
                     with_reducible rfl
                    rotate_left
                    ·simp only [Act.put, sA_, sB_, sC_, i64_w, i32_w]
                     rfl
                    refine pure_ (i := 2) (N := some 86) (v := ?_) (a' := ?_) (tf 10 5) rfl rfl (any_of HT_.out (by kernel_rfl)) (fun _ _ _ h => h) (Or.inl ⟨by rfl, ?_⟩) ?_ ?_
                    rotate_left
                    ·intro w'
                     go_simp
                     with_reducible rfl
                    rotate_left
                    ·simp only [Act.put, sA_, sB_, sC_, i64_w, i32_w]
                     rfl
                    refine pure_ (i := 3) (N := some 87) (v := ?_) (a' := ?_) (tf 10 13) rfl rfl (any_of HT_.out (by kernel_rfl)) (fun _ _ _ h => h) (Or.inl ⟨by rfl, ?_⟩) ?_ ?_
                    rotate_left
                    ·intro w'
                     go_simp
                     with_reducible rfl
                    rotate_left
                    ·simp only [Act.put, sA_, sB_, sC_, i64_w, i32_w]
                     rfl
                    refine pure_ (i := 4) (N := some 88) (v := ?_) (a' := ?_) (tf 10 29) rfl rfl (any_of HT_.out (by kernel_rfl)) (fun _ _ _ h => h) (Or.inl ⟨by rfl, ?_⟩) ?_ ?_
                    rotate_left
                    ·intro w'
                     go_simp
                     with_reducible rfl
                    rotate_left
                    ·simp only [Act.put, sA_, sB_, sC_, i64_w, i32_w]
                     rfl
                    refine pure_ (i := 5) (N := some 89) (v := ?_) (a' := ?_) (tf 10 61) rfl rfl (any_of HT_.out (by kernel_rfl)) (fun _ _ _ h => h) (Or.inl ⟨by rfl, ?_⟩) ?_ ?_
                    rotate_left
                    ·intro w'
                     go_simp
                     with_reducible rfl
                    rotate_left
                    ·simp only [Act.put, sA_, sB_, sC_, i64_w, i32_w]
                     rfl
                    refine take_ (i := 1) (N := some 85) (v := ?_) (a' := ?_) (tf 10 63) rfl rfl (take_ofW HT_.out HW_.out (by kernel_rfl)) (fun _ _ _ h => h) (Or.inl ⟨by rfl, ?_⟩) hHeld ?_ ?_
                    rotate_left
                    ·rintro w' ⟨s0, s1, s2⟩
                     go_simp
                     with_reducible rfl
                    rotate_left
                    ·simp only [Act.put, sA_, sB_, sC_, i64_w, i32_w]
                     rfl
                    refine one_ (i := 6) (N := some 90) (tf 10 127) rfl rfl (one_of HT_.out (by kernel_rfl)) (by decide) (fun K hK => ?_)
                    refine value_ (w1 := ?_) (v := ?_) (by rfl) rfl ?_ ?_
                    rotate_left 2
                    ·go_simp
                     constructor
                     ·rfl
                     ·rfl
                    refine hK.out _ _ ⟨(blk_cell (kA_ BK230.out _) 0).trans rfl, (blk_cell (kA_ BK230.out _) 1).trans rfl, (blk_cell (kA_ BK230.out _) 2).trans rfl⟩ (fun hHeld => ?_)
                    clear hK K
                    refine norm_ (a' := ?_) ?_ ?_
                    rotate_left
                    ·show Act.put _ (some 90) _ = _
                     simp only [Act.put, sA_, sB_, sC_, i64_w, i32_w]
                     rfl
                    refine one_ (i := 7) (N := some 91) (tf 10 255) rfl rfl (one_of HT_.out (by kernel_rfl)) (by decide) (fun K hK => ?_)
                    refine Kd.R_append_step Kd.string (w0 := w) w.heap.size (by rfl) (.tmp 85) (.tmp 90) 22 9 (.string ⟨#[]⟩) 16 rfl Tryd.underlying22 info9 rfl (by decide) (by omega) u231002 x231002_4 (a0.extract (x5_4 : Int).toNat (x7_5 : Int).toNat) [.string (a0.extract (x5_4 : Int).toNat (x7_5 : Int).toNat)] (fun _ => True) (fun _ => False) rfl rfl ?aP (fun _ hk => hk.elim) ?aF ?aO ?aB ?aS ?aL ?_
                    (case aP => exact rfl)
                    (case aB => exact (by repeat (first | (with_reducible first | exact HB.out | apply bA_ | apply bN_ | apply bD_ | refine bS_ ?_ GE229.out | refine bS_ ?_ GE230.out) | exact HB.out)))
                    (case aF => exact (fun _ _ => trivial))
                    (case aO => exact (by (with_reducible repeat (first | apply Kd.R_alloc | apply Kd.R_drewN | apply Kd.R_drew)); exact HO_231002.out))
                    (case aS => exact (below_size (by repeat (first | (with_reducible first | exact HB.out | apply bA_ | apply bN_ | apply bD_ | refine bS_ ?_ GE229.out | refine bS_ ?_ GE230.out) | exact HB.out))))
                    (case aL => have := LMc114.out; omega)
                    intro v246 w116 ho hb hg hat
                    rw [← Ny245.out] at ho
                    have n0_ := Aside0.mk (blk_grown (g := gb229) (o := .cells #[.bool x230000_4, .int .i64 x230001_4, .slice none 0 0] 24 (0, 0)) (by (with_reducible repeat (first | refine kN_ ?_ _ | refine kD_ ?_ | refine kA_ ?_ _)); exact BK229.out) hg (Kd.R_ne HO_231002.out BK229.out (by decide)))
                    have n1_ := Aside0.mk (blk_grown (g := gb230) (o := .cells #[.bool x231000_9, .int .i64 x231001_13, u231002] 24 (0, 0)) (by (with_reducible repeat (first | refine kN_ ?_ _ | refine kD_ ?_ | refine kA_ ?_ _)); exact BK230.out) hg (Kd.R_ne HO_231002.out BK230.out (by decide)))
                    have n2_ := Aside0.mk (hb)
                    have n3_ := Aside0.mk (ho)
                    clear BK229
                    clear BK230
                    clear HB
                    clear HO_231002
                    have BK229 := n0_
                    have BK230 := n1_
                    have HB := n2_
                    have HO247 := n3_
                    clear n0_ n1_ n2_ n3_
                    clear ho hb hg hat
                    obtain ⟨Ao117, co117, eo117⟩ := Kd.R_slice HO247.out
                    (first | subst eo117 | (injection eo117 with f1_ f2_ f3_; have f4_ := f1_.symm; have f5_ := f3_.symm; clear f1_ f2_ f3_; subst f4_; subst f5_))
                    refine hK.out _ _ (cells3_ BK230.out) (fun hHeld => ?_)
                    clear hK K
                    refine norm_ (a' := ?_) ?_ ?_
                    rotate_left
                    ·show Act.put _ (some 91) _ = _
                     simp only [Act.put, sA_, sB_, sC_, i64_w, i32_w]
                     rfl
                    refine pure_ (i := 8) (N := some 92) (v := ?_) (a' := ?_) (tf 10 511) rfl rfl (any_of HT_.out (by kernel_rfl)) (fun _ _ _ h => h) (Or.inl ⟨by rfl, ?_⟩) ?_ ?_
                    rotate_left
                    ·intro w'
                     go_simp
                     with_reducible rfl
                    rotate_left
                    ·simp only [Act.put, sA_, sB_, sC_, i64_w, i32_w]
                     rfl
                    refine last_ (i := 9) (N := none) (tf 10 1023) rfl rfl (one_of HT_.out (by kernel_rfl)) (by decide) (fun K hK => ?_)
                    have hs118 : w116.cell? ⟨gb230, 2, none⟩ = some (u231002) := (blk_cell BK230.out 2).trans rfl
                    have hfs118 := blk_frozen BK230.out 2
                    have hns118_0 := NB229_230.out
                    have hms118_0 := NB230_229.out
                    refine skip_ (w1 := ?_) (by rfl) rfl ?_ ?_
                    rotate_left
                    ·go_simp
                     rfl
                    refine hK.out _ _ ?_
                    clear hK K
                    refine done_ (done_of HT_.out (by kernel_rfl)) ?_
                    try go_wp2
                    go_roundg k5
                    case measure => have := HJ1.out; have := HJ9.out; have := HJ13.out; have := HK4.out; have := HK5.out; omega
                    case rel => exact ⟨(wrap64 (x7_5 + 1)), (x230000_4), (x230001_4), (y245), (.slice Ao117 y245.length co117), (by first | rfl | (simp; done) | (simp [*]; done)), H', ⟨by have := HJ1.out; have := HJ9.out; have := HJ13.out; have := HK4.out; have := HK5.out; omega⟩, ⟨by (with_reducible repeat (first | apply Kd.R_alloc | apply Kd.R_drewN | apply Kd.R_drew)); exact Kd.R_mono (Kd.R_far (p := ⟨gb230, 2, none⟩) (Kd.R_types HO247.out BK230.out (by decide)) (fun _ hk => hk.2) (.slice Ao117 y245.length co117)) (fun _ hk => trivial)⟩, ⟨by (with_reducible repeat (first | refine kN_ ?_ _ | refine kD_ ?_ | refine kA_ ?_ _)); refine blk_far ?_ NB229_230.out _; (with_reducible repeat (first | refine kN_ ?_ _ | refine kD_ ?_ | refine kA_ ?_ _)); exact BK229.out⟩, ⟨by (with_reducible repeat (first | refine kN_ ?_ _ | refine kD_ ?_ | refine kA_ ?_ _)); refine blk_put (cs := #[.bool x231000_9, .int .i64 x231001_13, u231002]) ?_ 2 _ rfl; (with_reducible repeat (first | refine kN_ ?_ _ | refine kD_ ?_ | refine kA_ ?_ _)); exact BK230.out⟩, ⟨by repeat (first | (with_reducible first | exact HB.out | apply bA_ | apply bN_ | apply bD_ | refine bS_ ?_ GE229.out | refine bS_ ?_ GE230.out) | exact HB.out)⟩⟩
                   ·rw [if_neg c114] at H
                    exact absurd H (by simp)
                 ·replace c107 := Bool.eq_false_iff.mpr c107
                  subst c107
                  have H1 : (some (false, 0, ([] : List ByteArray), false)) = some (r1, r2, r3, r4) := by rw [if_neg (show ¬ (false = true) by decide)] at H; exact H
                  clear H
                  have H := H1
                  clear H1
                  simp only [Option.some.injEq, Prod.mk.injEq] at H
                  obtain ⟨rfl, rfl, rfl, rfl⟩ := H
                  go_wp2_with (first | (go_at_call 27; (with_reducible refine (platformfwref01_Segment.calls k5 (a0.extract (x5_4 : Int).toNat (x7_5 : Int).toNat) false _ A106.out).mono ?_); rintro e w' ⟨rfl, ⟨nd, rfl⟩⟩; (try (rw [drewN_self wr]; generalize hq_ : World.drewN wr _ = wr; have n0_ : Aside0 (Kd.R Kd.string 9 wr w.heap.size (fun _ => True) u231002 x231002_4) := ⟨by rw [← hq_]; exact (by (with_reducible repeat (first | apply Kd.R_alloc | apply Kd.R_drewN | apply Kd.R_drew)); exact HO_231002.out)⟩; have n1_ : Aside0 (wr.heap[gb229]? = some (.cells #[.bool x230000_4, .int .i64 x230001_4, .slice none 0 0] 24 (0, 0))) := ⟨by rw [← hq_]; exact (by (with_reducible repeat (first | refine kN_ ?_ _ | refine kD_ ?_ | refine kA_ ?_ _)); exact BK229.out)⟩; have n2_ : Aside0 (wr.heap[gb230]? = some (.cells #[.bool x231000_9, .int .i64 x231001_13, u231002] 24 (0, 0))) := ⟨by rw [← hq_]; exact (by (with_reducible repeat (first | refine kN_ ?_ _ | refine kD_ ?_ | refine kA_ ?_ _)); exact BK230.out)⟩; have n3_ : Aside0 (Below w.heap.size w wr) := ⟨by rw [← hq_]; exact (by repeat (first | (with_reducible first | exact HB.out | apply bA_ | apply bN_ | apply bD_ | refine bS_ ?_ GE229.out | refine bS_ ?_ GE230.out) | exact HB.out))⟩; clear HO_231002 BK229 BK230 HB hq_; have HO_231002 := n0_; have BK229 := n1_; have BK230 := n2_; have HB := n3_; clear n0_ n1_ n2_ n3_)); have hnb119 := NB229_230.out; have hnc119 := NB230_229.out; obtain ⟨hcz120_0, hcz120_1, hcz120_2⟩ := cells3_ BK229.out; obtain ⟨hfz120_0, hfz120_1, hfz120_2⟩ := froz3_ BK229.out))
                  refine bodyPost_ret (results_ct rfl _ _ gb229 24 #[.bool false, .int .i64 0, .slice none 0 0] (0, 0) _ rfl (by (with_reducible repeat (first | refine kN_ ?_ _ | refine kD_ ?_ | refine kA_ ?_ _)); refine blk_put (cs := #[.bool false, .int .i64 0, .slice none 0 0]) ?_ 2 _ rfl; (with_reducible repeat (first | refine kN_ ?_ _ | refine kD_ ?_ | refine kA_ ?_ _)); refine blk_put (cs := #[.bool false, .int .i64 x230001_4, .slice none 0 0]) ?_ 1 _ rfl; (with_reducible repeat (first | refine kN_ ?_ _ | refine kD_ ?_ | refine kA_ ?_ _)); refine blk_put (cs := #[.bool x230000_4, .int .i64 x230001_4, .slice none 0 0]) ?_ 0 _ rfl; (with_reducible repeat (first | refine kN_ ?_ _ | refine kD_ ?_ | refine kA_ ?_ _)); exact BK229.out) Tryd.underlying24 rfl (by kernel_rfl)) rfl ?_
                  exact ⟨_, by first | rfl | (simp [errW_none, errW_some] <;> rfl) | (simp [*, errW_none, errW_some] <;> rfl), by first | exact Kd.R_nil _ _ _ _ _ | exact Kd.N_nil _ _ _ _ _ | exact Kd.V_nil _ _ _ _ _ | exact Kd.Q_nil _ _ _ _ _ | exact Kd.S_nil _ _ _ _ _, by repeat (first | (with_reducible first | exact HB.out | apply bA_ | apply bN_ | apply bD_ | refine bS_ ?_ GE229.out | refine bS_ ?_ GE230.out) | exact HB.out)⟩
                ·rw [if_neg c105] at H
                 exact absurd H (by simp)
               ·rw [if_neg c104] at H
                exact absurd H (by simp)
              ·rw [if_neg c103] at H
               exact absurd H (by simp)
         ·rw [if_neg c28] at H
          have c28b0 : decide (x5_4 < (a0.size : Int)) = false := decide_eq_false c28
          clear c28
          replace H := Option.bind_eq_some_iff.mp H
          obtain ⟨t231, A1210, H⟩ := H
          replace H : (if t231 = true then (some (x231000_9, x231001_13, x231002_4, true)) else (some (false, 0, ([] : List ByteArray), false))) = some (r1, r2, r3, r4) := H
          have A121 := Aside0.mk A1210
          clear A1210
          by_cases c122 : t231 = true
          ·subst c122
           have H1 : (some (x231000_9, x231001_13, x231002_4, true)) = some (r1, r2, r3, r4) := by rw [if_pos rfl] at H; exact H
           clear H
           have H := H1
           clear H1
           simp only [Option.some.injEq, Prod.mk.injEq] at H
           obtain ⟨rfl, rfl, rfl, rfl⟩ := H
           have hnb123 := NB230_229.out
           have hnc123 := NB229_230.out
           obtain ⟨hcz124_0, hcz124_1, hcz124_2⟩ := cells3_ BK230.out
           obtain ⟨hfz124_0, hfz124_1, hfz124_2⟩ := froz3_ BK230.out
           obtain ⟨Ao125, co125, eo125⟩ := Kd.R_slice HO_231002.out
           subst eo125
           go_wp2_with (first | ((with_reducible refine gate_callee (f := 15) rfl ?_); refine goesL_ (some 95) rfl rfl Tryd.func15 (by kernel_rfl) rfl #[.agg #[.bool x231000_9, .int .i64 x231001_13, .slice Ao125 x231002_4.length co125]] rfl (by (try simp only [List.map_toArray, List.map_cons, List.map_nil]); first | done | rfl | (simp only [List.length_drop, List.length_take]; rfl)) ?_; (with_reducible refine (platformfwref01_ValidPath.calls k4 x231000_9 x231001_13 _ _ x231002_4 true _ ?side1 ?side2 A121.out).mono ?_); (case side1 => repeat (first | exact (Kd.R_reads' HO_231002.out).2.2 | (with_reducible refine Kd.C_alloc ?_ _) | (with_reducible refine Kd.C_drewN ?_ _) | (with_reducible refine Kd.C_drew ?_))); (case side2 => exact (Kd.R_reads' HO_231002.out).2.1); rintro e w126 ⟨rfl, hb⟩; refine ⟨_, rfl, ?_⟩; have n0_ := Aside0.mk (Kd.R_below (by (with_reducible repeat (first | apply Kd.R_alloc | apply Kd.R_drewN | apply Kd.R_drew)); exact HO_231002.out) hb); have n1_ := Aside0.mk (blk_below (g := gb229) (o := .cells #[.bool x230000_4, .int .i64 x230001_4, .slice none 0 0] 24 (0, 0)) (by (with_reducible repeat (first | refine kN_ ?_ _ | refine kD_ ?_ | refine kA_ ?_ _)); exact BK229.out) hb); have n2_ := Aside0.mk (blk_below (g := gb230) (o := .cells #[.bool x231000_9, .int .i64 x231001_13, .slice Ao125 x231002_4.length co125] 24 (0, 0)) (by (with_reducible repeat (first | refine kN_ ?_ _ | refine kD_ ?_ | refine kA_ ?_ _)); exact BK230.out) hb); have n3_ := Aside0.mk (below_step (by repeat (first | (with_reducible first | exact HB.out | apply bA_ | apply bN_ | apply bD_ | refine bS_ ?_ GE229.out | refine bS_ ?_ GE230.out) | exact HB.out)) hb); clear HO_231002; clear BK229; clear BK230; clear HB; have HO_231002 := n0_; have BK229 := n1_; have BK230 := n2_; have HB := n3_; clear n0_ n1_ n2_ n3_; (try clear hb); (try clear hb2); (try clear hk); (try clear hi); obtain ⟨hcz127_0, hcz127_1, hcz127_2⟩ := cells3_ BK230.out; obtain ⟨hfz127_0, hfz127_1, hfz127_2⟩ := froz3_ BK230.out; obtain ⟨hcz128_0, hcz128_1, hcz128_2⟩ := cells3_ BK229.out; obtain ⟨hfz128_0, hfz128_1, hfz128_2⟩ := froz3_ BK229.out))
           refine bodyPost_ret (results_ct rfl _ _ gb229 24 #[.bool x231000_9, .int .i64 x231001_13, .slice Ao125 x231002_4.length co125] (0, 0) _ rfl (by (with_reducible repeat (first | refine kN_ ?_ _ | refine kD_ ?_ | refine kA_ ?_ _)); refine blk_put (cs := #[.bool x231000_9, .int .i64 x231001_13, .slice none 0 0]) ?_ 2 _ rfl; (with_reducible repeat (first | refine kN_ ?_ _ | refine kD_ ?_ | refine kA_ ?_ _)); refine blk_put (cs := #[.bool x231000_9, .int .i64 x230001_4, .slice none 0 0]) ?_ 1 _ rfl; (with_reducible repeat (first | refine kN_ ?_ _ | refine kD_ ?_ | refine kA_ ?_ _)); refine blk_put (cs := #[.bool x230000_4, .int .i64 x230001_4, .slice none 0 0]) ?_ 0 _ rfl; (with_reducible repeat (first | refine kN_ ?_ _ | refine kD_ ?_ | refine kA_ ?_ _)); exact BK229.out) Tryd.underlying24 rfl (by kernel_rfl)) rfl ?_
           exact ⟨_, by first | rfl | (simp [errW_none, errW_some] <;> rfl) | (simp [*, errW_none, errW_some] <;> rfl), by (with_reducible repeat (first | apply Kd.R_alloc | apply Kd.R_drewN | apply Kd.R_drew)); exact Kd.R_mono (Kd.R_far (p := ⟨gb229, 2, none⟩) (Kd.R_far (p := ⟨gb229, 1, none⟩) (Kd.R_far (p := ⟨gb229, 0, none⟩) (Kd.R_types HO_231002.out BK229.out (by decide)) (fun _ hk => hk.2) (.bool x231000_9)) (fun _ hk => hk.2) (.int .i64 x231001_13)) (fun _ hk => hk.2) (.slice Ao125 x231002_4.length co125)) (fun _ hk => trivial), by repeat (first | (with_reducible first | exact HB.out | apply bA_ | apply bN_ | apply bD_ | refine bS_ ?_ GE229.out | refine bS_ ?_ GE230.out) | exact HB.out)⟩
          ·replace c122 := Bool.eq_false_iff.mpr c122
           subst c122
           have H1 : (some (false, 0, ([] : List ByteArray), false)) = some (r1, r2, r3, r4) := by rw [if_neg (show ¬ (false = true) by decide)] at H; exact H
           clear H
           have H := H1
           clear H1
           simp only [Option.some.injEq, Prod.mk.injEq] at H
           obtain ⟨rfl, rfl, rfl, rfl⟩ := H
           have hnb129 := NB230_229.out
           have hnc129 := NB229_230.out
           obtain ⟨hcz130_0, hcz130_1, hcz130_2⟩ := cells3_ BK230.out
           obtain ⟨hfz130_0, hfz130_1, hfz130_2⟩ := froz3_ BK230.out
           obtain ⟨Ao131, co131, eo131⟩ := Kd.R_slice HO_231002.out
           subst eo131
           go_wp2_with (first | ((with_reducible refine gate_callee (f := 15) rfl ?_); refine goesL_ (some 95) rfl rfl Tryd.func15 (by kernel_rfl) rfl #[.agg #[.bool x231000_9, .int .i64 x231001_13, .slice Ao131 x231002_4.length co131]] rfl (by (try simp only [List.map_toArray, List.map_cons, List.map_nil]); first | done | rfl | (simp only [List.length_drop, List.length_take]; rfl)) ?_; (with_reducible refine (platformfwref01_ValidPath.calls k4 x231000_9 x231001_13 _ _ x231002_4 false _ ?side1 ?side2 A121.out).mono ?_); (case side1 => repeat (first | exact (Kd.R_reads' HO_231002.out).2.2 | (with_reducible refine Kd.C_alloc ?_ _) | (with_reducible refine Kd.C_drewN ?_ _) | (with_reducible refine Kd.C_drew ?_))); (case side2 => exact (Kd.R_reads' HO_231002.out).2.1); rintro e w132 ⟨rfl, hb⟩; refine ⟨_, rfl, ?_⟩; have n0_ := Aside0.mk (Kd.R_below (by (with_reducible repeat (first | apply Kd.R_alloc | apply Kd.R_drewN | apply Kd.R_drew)); exact HO_231002.out) hb); have n1_ := Aside0.mk (blk_below (g := gb229) (o := .cells #[.bool x230000_4, .int .i64 x230001_4, .slice none 0 0] 24 (0, 0)) (by (with_reducible repeat (first | refine kN_ ?_ _ | refine kD_ ?_ | refine kA_ ?_ _)); exact BK229.out) hb); have n2_ := Aside0.mk (blk_below (g := gb230) (o := .cells #[.bool x231000_9, .int .i64 x231001_13, .slice Ao131 x231002_4.length co131] 24 (0, 0)) (by (with_reducible repeat (first | refine kN_ ?_ _ | refine kD_ ?_ | refine kA_ ?_ _)); exact BK230.out) hb); have n3_ := Aside0.mk (below_step (by repeat (first | (with_reducible first | exact HB.out | apply bA_ | apply bN_ | apply bD_ | refine bS_ ?_ GE229.out | refine bS_ ?_ GE230.out) | exact HB.out)) hb); clear HO_231002; clear BK229; clear BK230; clear HB; have HO_231002 := n0_; have BK229 := n1_; have BK230 := n2_; have HB := n3_; clear n0_ n1_ n2_ n3_; (try clear hb); (try clear hb2); (try clear hk); (try clear hi); obtain ⟨hcz133_0, hcz133_1, hcz133_2⟩ := cells3_ BK229.out; obtain ⟨hfz133_0, hfz133_1, hfz133_2⟩ := froz3_ BK229.out))
           refine bodyPost_ret (results_ct rfl _ _ gb229 24 #[.bool false, .int .i64 0, .slice none 0 0] (0, 0) _ rfl (by (with_reducible repeat (first | refine kN_ ?_ _ | refine kD_ ?_ | refine kA_ ?_ _)); refine blk_put (cs := #[.bool false, .int .i64 0, .slice none 0 0]) ?_ 2 _ rfl; (with_reducible repeat (first | refine kN_ ?_ _ | refine kD_ ?_ | refine kA_ ?_ _)); refine blk_put (cs := #[.bool false, .int .i64 x230001_4, .slice none 0 0]) ?_ 1 _ rfl; (with_reducible repeat (first | refine kN_ ?_ _ | refine kD_ ?_ | refine kA_ ?_ _)); refine blk_put (cs := #[.bool x230000_4, .int .i64 x230001_4, .slice none 0 0]) ?_ 0 _ rfl; (with_reducible repeat (first | refine kN_ ?_ _ | refine kD_ ?_ | refine kA_ ?_ _)); exact BK229.out) Tryd.underlying24 rfl (by kernel_rfl)) rfl ?_
           exact ⟨_, by first | rfl | (simp [errW_none, errW_some] <;> rfl) | (simp [*, errW_none, errW_some] <;> rfl), by first | exact Kd.R_nil _ _ _ _ _ | exact Kd.N_nil _ _ _ _ _ | exact Kd.V_nil _ _ _ _ _ | exact Kd.Q_nil _ _ _ _ _ | exact Kd.S_nil _ _ _ _ _, by repeat (first | (with_reducible first | exact HB.out | apply bA_ | apply bN_ | apply bD_ | refine bS_ ?_ GE229.out | refine bS_ ?_ GE230.out) | exact HB.out)⟩

end Go.Proofs.YtpjajjmipbjliaaDoor.PNspathParsesExactly
