-- Written by a program of this session's (wip/print_patch.py over the kit's print) out of the translation; Lean checks it.
import Derived.Test.YtmnmidclaaiffaaPBytecodeDecodesPathsx0
import Derived.Test.YtmnmidclaaiffaaPBytecodeDecodesPathsx8
import Derived.Test.YtmnmidclaaiffaaExtP
namespace Go.Proofs.Ytmnmidclaaiffaa.PBytecodeDecodesPaths
open Go.RowKit Go.Proofs.Ytmnmidclaaiffaa.Ext Go.Proofs.YtmnmidclaaiffaaW.PrintWords Go.Proofs.YtmnmidclaaiffaaW.PrintLast Go.Proofs.YtmnmidclaaiffaaW.PrintMore
attribute [local go_sem] max2_int min2_int max_two min_two max_three min_three max_four min_four   -- for this text's walks alone
set_option linter.unusedVariables false
set_option linter.unusedSimpArgs false

/-! ### platformfwref05_ReadPath: function 49 -/
mutual
def platformfwref05_ReadPath.j0 : Nat → ByteArray → Int → Bool → Bool → Int → Option (Bool × Int × List ByteArray × Int × Int)
 | 0, _, _, _, _, _ => none
 | k + 1, x0, x6, x18, x185000, x185001 => if x18 = true then (platformfwref05_ReadPath.j1 k x0 1 true x185001) else (platformfwref05_ReadPath.j1 k x0 x6 x185000 x185001)
def platformfwref05_ReadPath.j1 : Nat → ByteArray → Int → Bool → Int → Option (Bool × Int × List ByteArray × Int × Int)
 | 0, _, _, _, _ => none
 | k + 1, x0, x6, x185000, x185001 => platformfwref05_ReadPath.l0 k x0 x6 x185000 x185001
def platformfwref05_ReadPath.j3 : Nat → ByteArray → Int → Bool → Int → Option (Bool × Int × List ByteArray × Int × Int)
 | 0, _, _, _, _ => none
 | k + 1, x0, x6, x185000, x185001 => if x185001 > 32 then (some (false, 0, ([] : List ByteArray), 0, 3)) else (if x6 = (x0.size : Int) then (some (false, 0, ([] : List ByteArray), 0, 4)) else (if 0 ≤ x6 then (if x6 < (x0.size : Int) then (if (bt x0 x6) = 0 then (platformfwref05_ReadPath.j5 k x0 (wrap64 (x6 + 1)) 0 x185000 x185001) else (if (bt x0 x6) = 46 then (platformfwref05_ReadPath.j5 k x0 (wrap64 (x6 + 1)) 2 x185000 x185001) else (if (bt x0 x6) = 47 then (platformfwref05_ReadPath.j4 k x0 x6 1 ((wrap64 (x6 + 1)) == (x0.size : Int)) x185000 x185001) else (platformfwref05_ReadPath.j4 k x0 x6 1 false x185000 x185001)))) else (none)) else (none)))
def platformfwref05_ReadPath.j5 : Nat → ByteArray → Int → Int → Bool → Int → Option (Bool × Int × List ByteArray × Int × Int)
 | 0, _, _, _, _, _ => none
 | k + 1, x0, x6, x7, x185000, x185001 => if (wrap64 (x185001 + x7)) > 32 then (platformfwref05_ReadPath.j6 k x0 x6 x7 true x185000 x185001) else (if x7 = 0 then (if x185000 = true then (platformfwref05_ReadPath.j6 k x0 x6 x7 false x185000 x185001) else (platformfwref05_ReadPath.j6 k x0 x6 x7 (x185001 == 0) x185000 x185001)) else (platformfwref05_ReadPath.j6 k x0 x6 x7 false x185000 x185001))
def platformfwref05_ReadPath.j6 : Nat → ByteArray → Int → Int → Bool → Bool → Int → Option (Bool × Int × List ByteArray × Int × Int)
 | 0, _, _, _, _, _, _ => none
 | k + 1, x0, x6, x7, x115, x185000, x185001 => if x115 = true then (some (false, 0, ([] : List ByteArray), 0, 3)) else (platformfwref05_ReadPath.l1 k x0 x6 x7 0 x185000 x185001 ([] : List ByteArray))
def platformfwref05_ReadPath.l1 : Nat → ByteArray → Int → Int → Int → Bool → Int → List ByteArray → Option (Bool × Int × List ByteArray × Int × Int)
 | 0, _, _, _, _, _, _, _ => none
 | k + 1, x0, x6, x7, x8, x185000, x185001, x185002 => if x8 < x7 then (if 0 ≤ x6 then (if x6 ≤ (x0.size : Int) then ((platformfwref05_segment.f k (x0.extract (x6 : Int).toNat x0.size)).bind fun bt185 => (if bt185.2 = 0 then (if x185002.length < 8796093022208 then (platformfwref05_ReadPath.l1 k x0 (wrap64 (x6 + 4)) x7 (wrap64 (x8 + 1)) x185000 x185001 (x185002 ++ [bt185.1])) else (none)) else (some (false, 0, ([] : List ByteArray), 0, bt185.2)))) else (none)) else (none)) else (some (x185000, x185001, x185002, x6, 0))
def platformfwref05_ReadPath.j4 : Nat → ByteArray → Int → Int → Bool → Bool → Int → Option (Bool × Int × List ByteArray × Int × Int)
 | 0, _, _, _, _, _, _ => none
 | k + 1, x0, x6, x7, x64, x185000, x185001 => if x64 = true then (if (wrap64 (x185001 + 3)) > 32 then (some (false, 0, ([] : List ByteArray), 0, 3)) else (some (false, 0, ([] : List ByteArray), 0, 4))) else (if 0 ≤ x6 then (if x6 < (x0.size : Int) then (if (bt x0 x6) = 47 then (if 0 ≤ (wrap64 (x6 + 1)) then (if (wrap64 (x6 + 1)) < (x0.size : Int) then (if (wrap64 (bt x0 (wrap64 (x6 + 1)))) < 3 then (some (false, 0, ([] : List ByteArray), 0, 3)) else (platformfwref05_ReadPath.j5 k x0 (wrap64 (x6 + 2)) (wrap64 (bt x0 (wrap64 (x6 + 1)))) x185000 x185001)) else (none)) else (none)) else (platformfwref05_ReadPath.j5 k x0 x6 x7 x185000 x185001)) else (none)) else (none))
def platformfwref05_ReadPath.l0 : Nat → ByteArray → Int → Bool → Int → Option (Bool × Int × List ByteArray × Int × Int)
 | 0, _, _, _, _ => none
 | k + 1, x0, x6, x185000, x185001 => if x185000 = true then (platformfwref05_ReadPath.j3 k x0 x6 x185000 x185001) else (if x6 < (x0.size : Int) then (if 0 ≤ x6 then (if (bt x0 x6) = 94 then (platformfwref05_ReadPath.l0 k x0 (wrap64 (x6 + 1)) x185000 (wrap64 (x185001 + 1))) else (platformfwref05_ReadPath.j3 k x0 x6 x185000 x185001)) else (none)) else (platformfwref05_ReadPath.j3 k x0 x6 x185000 x185001))
end
def platformfwref05_ReadPath.f (k : Nat) (a0 : ByteArray) : Option (Bool × Int × List ByteArray × Int × Int) := if a0.toList = ([] : List UInt8) then (platformfwref05_ReadPath.j0 k a0 0 false false 0) else (if 0 < (a0.size : Int) then (platformfwref05_ReadPath.j0 k a0 0 ((bt a0 0) == 92) false 0) else (none))
theorem platformfwref05_ReadPath.mono_l : ∀ k, (∀ y0 y1 y2 y3 y4, LeO (platformfwref05_ReadPath.j0 k y0 y1 y2 y3 y4) (platformfwref05_ReadPath.j0 (k + 1) y0 y1 y2 y3 y4)) ∧ (∀ y0 y1 y2 y3, LeO (platformfwref05_ReadPath.j1 k y0 y1 y2 y3) (platformfwref05_ReadPath.j1 (k + 1) y0 y1 y2 y3)) ∧ (∀ y0 y1 y2 y3, LeO (platformfwref05_ReadPath.j3 k y0 y1 y2 y3) (platformfwref05_ReadPath.j3 (k + 1) y0 y1 y2 y3)) ∧ (∀ y0 y1 y2 y3 y4, LeO (platformfwref05_ReadPath.j5 k y0 y1 y2 y3 y4) (platformfwref05_ReadPath.j5 (k + 1) y0 y1 y2 y3 y4)) ∧ (∀ y0 y1 y2 y3 y4 y5, LeO (platformfwref05_ReadPath.j6 k y0 y1 y2 y3 y4 y5) (platformfwref05_ReadPath.j6 (k + 1) y0 y1 y2 y3 y4 y5)) ∧ (∀ y0 y1 y2 y3 y4 y5 y6, LeO (platformfwref05_ReadPath.l1 k y0 y1 y2 y3 y4 y5 y6) (platformfwref05_ReadPath.l1 (k + 1) y0 y1 y2 y3 y4 y5 y6)) ∧ (∀ y0 y1 y2 y3 y4 y5, LeO (platformfwref05_ReadPath.j4 k y0 y1 y2 y3 y4 y5) (platformfwref05_ReadPath.j4 (k + 1) y0 y1 y2 y3 y4 y5)) ∧ (∀ y0 y1 y2 y3, LeO (platformfwref05_ReadPath.l0 k y0 y1 y2 y3) (platformfwref05_ReadPath.l0 (k + 1) y0 y1 y2 y3))
 | 0 => ⟨fun _ _ _ _ _ r h => by simp [platformfwref05_ReadPath.j0] at h, fun _ _ _ _ r h => by simp [platformfwref05_ReadPath.j1] at h, fun _ _ _ _ r h => by simp [platformfwref05_ReadPath.j3] at h, fun _ _ _ _ _ r h => by simp [platformfwref05_ReadPath.j5] at h, fun _ _ _ _ _ _ r h => by simp [platformfwref05_ReadPath.j6] at h, fun _ _ _ _ _ _ _ r h => by simp [platformfwref05_ReadPath.l1] at h, fun _ _ _ _ _ _ r h => by simp [platformfwref05_ReadPath.j4] at h, fun _ _ _ _ r h => by simp [platformfwref05_ReadPath.l0] at h⟩
 | k + 1 => by
  obtain ⟨ih0, ih1, ih2, ih3, ih4, ih5, ih6, ih7⟩ := platformfwref05_ReadPath.mono_l k
  refine ⟨?_, ?_, ?_, ?_, ?_, ?_, ?_, ?_⟩
  ·intro y0 y1 y2 y3 y4
   unfold platformfwref05_ReadPath.j0
   repeat' first
   | (with_reducible exact ih0 _ _ _ _ _)
   | (with_reducible exact ih1 _ _ _ _)
   | (with_reducible exact ih2 _ _ _ _)
   | (with_reducible exact ih3 _ _ _ _ _)
   | (with_reducible exact ih4 _ _ _ _ _ _)
   | (with_reducible exact ih5 _ _ _ _ _ _ _)
   | (with_reducible exact ih6 _ _ _ _ _ _)
   | (with_reducible exact ih7 _ _ _ _)
   | (with_reducible exact platformfwref05_segment.mono _ _)
   | (with_reducible exact LeO.refl _)
   | (with_reducible exact LeO.none _)
   | (with_reducible refine LeO.ite ?_ ?_)
   | (with_reducible refine LeO.bind ?_ (fun _ => ?_))
   | exact ih0 _ _ _ _ _
   | exact ih1 _ _ _ _
   | exact ih2 _ _ _ _
   | exact ih3 _ _ _ _ _
   | exact ih4 _ _ _ _ _ _
   | exact ih5 _ _ _ _ _ _ _
   | exact ih6 _ _ _ _ _ _
   | exact ih7 _ _ _ _
   | exact platformfwref05_segment.mono _ _
   | exact LeO.none _
   | refine LeO.ite ?_ ?_
   | refine LeO.bind ?_ (fun _ => ?_)
  ·intro y0 y1 y2 y3
   unfold platformfwref05_ReadPath.j1
   repeat' first
   | (with_reducible exact ih0 _ _ _ _ _)
   | (with_reducible exact ih1 _ _ _ _)
   | (with_reducible exact ih2 _ _ _ _)
   | (with_reducible exact ih3 _ _ _ _ _)
   | (with_reducible exact ih4 _ _ _ _ _ _)
   | (with_reducible exact ih5 _ _ _ _ _ _ _)
   | (with_reducible exact ih6 _ _ _ _ _ _)
   | (with_reducible exact ih7 _ _ _ _)
   | (with_reducible exact platformfwref05_segment.mono _ _)
   | (with_reducible exact LeO.refl _)
   | (with_reducible exact LeO.none _)
   | (with_reducible refine LeO.ite ?_ ?_)
   | (with_reducible refine LeO.bind ?_ (fun _ => ?_))
   | exact ih0 _ _ _ _ _
   | exact ih1 _ _ _ _
   | exact ih2 _ _ _ _
   | exact ih3 _ _ _ _ _
   | exact ih4 _ _ _ _ _ _
   | exact ih5 _ _ _ _ _ _ _
   | exact ih6 _ _ _ _ _ _
   | exact ih7 _ _ _ _
   | exact platformfwref05_segment.mono _ _
   | exact LeO.none _
   | refine LeO.ite ?_ ?_
   | refine LeO.bind ?_ (fun _ => ?_)
  ·intro y0 y1 y2 y3
   unfold platformfwref05_ReadPath.j3
   repeat' first
   | (with_reducible exact ih0 _ _ _ _ _)
   | (with_reducible exact ih1 _ _ _ _)
   | (with_reducible exact ih2 _ _ _ _)
   | (with_reducible exact ih3 _ _ _ _ _)
   | (with_reducible exact ih4 _ _ _ _ _ _)
   | (with_reducible exact ih5 _ _ _ _ _ _ _)
   | (with_reducible exact ih6 _ _ _ _ _ _)
   | (with_reducible exact ih7 _ _ _ _)
   | (with_reducible exact platformfwref05_segment.mono _ _)
   | (with_reducible exact LeO.refl _)
   | (with_reducible exact LeO.none _)
   | (with_reducible refine LeO.ite ?_ ?_)
   | (with_reducible refine LeO.bind ?_ (fun _ => ?_))
   | exact ih0 _ _ _ _ _
   | exact ih1 _ _ _ _
   | exact ih2 _ _ _ _
   | exact ih3 _ _ _ _ _
   | exact ih4 _ _ _ _ _ _
   | exact ih5 _ _ _ _ _ _ _
   | exact ih6 _ _ _ _ _ _
   | exact ih7 _ _ _ _
   | exact platformfwref05_segment.mono _ _
   | exact LeO.none _
   | refine LeO.ite ?_ ?_
   | refine LeO.bind ?_ (fun _ => ?_)
  ·intro y0 y1 y2 y3 y4
   unfold platformfwref05_ReadPath.j5
   repeat' first
   | (with_reducible exact ih0 _ _ _ _ _)
   | (with_reducible exact ih1 _ _ _ _)
   | (with_reducible exact ih2 _ _ _ _)
   | (with_reducible exact ih3 _ _ _ _ _)
   | (with_reducible exact ih4 _ _ _ _ _ _)
   | (with_reducible exact ih5 _ _ _ _ _ _ _)
   | (with_reducible exact ih6 _ _ _ _ _ _)
   | (with_reducible exact ih7 _ _ _ _)
   | (with_reducible exact platformfwref05_segment.mono _ _)
   | (with_reducible exact LeO.refl _)
   | (with_reducible exact LeO.none _)
   | (with_reducible refine LeO.ite ?_ ?_)
   | (with_reducible refine LeO.bind ?_ (fun _ => ?_))
   | exact ih0 _ _ _ _ _
   | exact ih1 _ _ _ _
   | exact ih2 _ _ _ _
   | exact ih3 _ _ _ _ _
   | exact ih4 _ _ _ _ _ _
   | exact ih5 _ _ _ _ _ _ _
   | exact ih6 _ _ _ _ _ _
   | exact ih7 _ _ _ _
   | exact platformfwref05_segment.mono _ _
   | exact LeO.none _
   | refine LeO.ite ?_ ?_
   | refine LeO.bind ?_ (fun _ => ?_)
  ·intro y0 y1 y2 y3 y4 y5
   unfold platformfwref05_ReadPath.j6
   repeat' first
   | (with_reducible exact ih0 _ _ _ _ _)
   | (with_reducible exact ih1 _ _ _ _)
   | (with_reducible exact ih2 _ _ _ _)
   | (with_reducible exact ih3 _ _ _ _ _)
   | (with_reducible exact ih4 _ _ _ _ _ _)
   | (with_reducible exact ih5 _ _ _ _ _ _ _)
   | (with_reducible exact ih6 _ _ _ _ _ _)
   | (with_reducible exact ih7 _ _ _ _)
   | (with_reducible exact platformfwref05_segment.mono _ _)
   | (with_reducible exact LeO.refl _)
   | (with_reducible exact LeO.none _)
   | (with_reducible refine LeO.ite ?_ ?_)
   | (with_reducible refine LeO.bind ?_ (fun _ => ?_))
   | exact ih0 _ _ _ _ _
   | exact ih1 _ _ _ _
   | exact ih2 _ _ _ _
   | exact ih3 _ _ _ _ _
   | exact ih4 _ _ _ _ _ _
   | exact ih5 _ _ _ _ _ _ _
   | exact ih6 _ _ _ _ _ _
   | exact ih7 _ _ _ _
   | exact platformfwref05_segment.mono _ _
   | exact LeO.none _
   | refine LeO.ite ?_ ?_
   | refine LeO.bind ?_ (fun _ => ?_)
  ·intro y0 y1 y2 y3 y4 y5 y6
   unfold platformfwref05_ReadPath.l1
   repeat' first
   | (with_reducible exact ih0 _ _ _ _ _)
   | (with_reducible exact ih1 _ _ _ _)
   | (with_reducible exact ih2 _ _ _ _)
   | (with_reducible exact ih3 _ _ _ _ _)
   | (with_reducible exact ih4 _ _ _ _ _ _)
   | (with_reducible exact ih5 _ _ _ _ _ _ _)
   | (with_reducible exact ih6 _ _ _ _ _ _)
   | (with_reducible exact ih7 _ _ _ _)
   | (with_reducible exact platformfwref05_segment.mono _ _)
   | (with_reducible exact LeO.refl _)
   | (with_reducible exact LeO.none _)
   | (with_reducible refine LeO.ite ?_ ?_)
   | (with_reducible refine LeO.bind ?_ (fun _ => ?_))
   | exact ih0 _ _ _ _ _
   | exact ih1 _ _ _ _
   | exact ih2 _ _ _ _
   | exact ih3 _ _ _ _ _
   | exact ih4 _ _ _ _ _ _
   | exact ih5 _ _ _ _ _ _ _
   | exact ih6 _ _ _ _ _ _
   | exact ih7 _ _ _ _
   | exact platformfwref05_segment.mono _ _
   | exact LeO.none _
   | refine LeO.ite ?_ ?_
   | refine LeO.bind ?_ (fun _ => ?_)
  ·intro y0 y1 y2 y3 y4 y5
   unfold platformfwref05_ReadPath.j4
   repeat' first
   | (with_reducible exact ih0 _ _ _ _ _)
   | (with_reducible exact ih1 _ _ _ _)
   | (with_reducible exact ih2 _ _ _ _)
   | (with_reducible exact ih3 _ _ _ _ _)
   | (with_reducible exact ih4 _ _ _ _ _ _)
   | (with_reducible exact ih5 _ _ _ _ _ _ _)
   | (with_reducible exact ih6 _ _ _ _ _ _)
   | (with_reducible exact ih7 _ _ _ _)
   | (with_reducible exact platformfwref05_segment.mono _ _)
   | (with_reducible exact LeO.refl _)
   | (with_reducible exact LeO.none _)
   | (with_reducible refine LeO.ite ?_ ?_)
   | (with_reducible refine LeO.bind ?_ (fun _ => ?_))
   | exact ih0 _ _ _ _ _
   | exact ih1 _ _ _ _
   | exact ih2 _ _ _ _
   | exact ih3 _ _ _ _ _
   | exact ih4 _ _ _ _ _ _
   | exact ih5 _ _ _ _ _ _ _
   | exact ih6 _ _ _ _ _ _
   | exact ih7 _ _ _ _
   | exact platformfwref05_segment.mono _ _
   | exact LeO.none _
   | refine LeO.ite ?_ ?_
   | refine LeO.bind ?_ (fun _ => ?_)
  ·intro y0 y1 y2 y3
   unfold platformfwref05_ReadPath.l0
   repeat' first
   | (with_reducible exact ih0 _ _ _ _ _)
   | (with_reducible exact ih1 _ _ _ _)
   | (with_reducible exact ih2 _ _ _ _)
   | (with_reducible exact ih3 _ _ _ _ _)
   | (with_reducible exact ih4 _ _ _ _ _ _)
   | (with_reducible exact ih5 _ _ _ _ _ _ _)
   | (with_reducible exact ih6 _ _ _ _ _ _)
   | (with_reducible exact ih7 _ _ _ _)
   | (with_reducible exact platformfwref05_segment.mono _ _)
   | (with_reducible exact LeO.refl _)
   | (with_reducible exact LeO.none _)
   | (with_reducible refine LeO.ite ?_ ?_)
   | (with_reducible refine LeO.bind ?_ (fun _ => ?_))
   | exact ih0 _ _ _ _ _
   | exact ih1 _ _ _ _
   | exact ih2 _ _ _ _
   | exact ih3 _ _ _ _ _
   | exact ih4 _ _ _ _ _ _
   | exact ih5 _ _ _ _ _ _ _
   | exact ih6 _ _ _ _ _ _
   | exact ih7 _ _ _ _
   | exact platformfwref05_segment.mono _ _
   | exact LeO.none _
   | refine LeO.ite ?_ ?_
   | refine LeO.bind ?_ (fun _ => ?_)
theorem platformfwref05_ReadPath.mono : ∀ a0 k, LeO (platformfwref05_ReadPath.f k a0) (platformfwref05_ReadPath.f (k + 1) a0) := by
 intro a0 k
 obtain ⟨ih0, ih1, ih2, ih3, ih4, ih5, ih6, ih7⟩ := platformfwref05_ReadPath.mono_l k
 unfold platformfwref05_ReadPath.f
 repeat' first
   | (with_reducible exact ih0 _ _ _ _ _)
   | (with_reducible exact ih1 _ _ _ _)
   | (with_reducible exact ih2 _ _ _ _)
   | (with_reducible exact ih3 _ _ _ _ _)
   | (with_reducible exact ih4 _ _ _ _ _ _)
   | (with_reducible exact ih5 _ _ _ _ _ _ _)
   | (with_reducible exact ih6 _ _ _ _ _ _)
   | (with_reducible exact ih7 _ _ _ _)
   | (with_reducible exact platformfwref05_segment.mono _ _)
   | (with_reducible exact LeO.refl _)
   | (with_reducible exact LeO.none _)
   | (with_reducible refine LeO.ite ?_ ?_)
   | (with_reducible refine LeO.bind ?_ (fun _ => ?_))
   | exact ih0 _ _ _ _ _
   | exact ih1 _ _ _ _
   | exact ih2 _ _ _ _
   | exact ih3 _ _ _ _ _
   | exact ih4 _ _ _ _ _ _
   | exact ih5 _ _ _ _ _ _ _
   | exact ih6 _ _ _ _ _ _
   | exact ih7 _ _ _ _
   | exact platformfwref05_segment.mono _ _
   | exact LeO.none _
   | refine LeO.ite ?_ ?_
   | refine LeO.bind ?_ (fun _ => ?_)
set_option maxHeartbeats 8000000 in
set_option maxRecDepth 100000 in
theorem platformfwref05_ReadPath.calls (k : Nat) (a0 : ByteArray) (r1 : Bool) (r2 : Int) (r3 : List ByteArray) (r4 : Int) (r5 : Int) (w : World) (h : platformfwref05_ReadPath.f k a0 = some (r1, r2, r3, r4, r5)) :
  Calls Try.prog 49 #[.string a0] w fun e w' => ∃ v2_ : Value, e = .returned (.tuple #[.agg #[.bool r1, .int .i64 r2, v2_], .int .i64 r4, .int .i64 r5]) ∧ Kd.R Kd.string 9 w' w.heap.size (fun _ => True) v2_ r3 ∧ Below w.heap.size w w' := by
 have hu73 := Try.underlying73
 have HB := Aside0.mk (Below.refl w.heap.size w)
 have H : (if a0.toList = ([] : List UInt8) then (platformfwref05_ReadPath.j0 k a0 0 false false 0) else (if 0 < (a0.size : Int) then (platformfwref05_ReadPath.j0 k a0 0 ((bt a0 0) == 92) false 0) else (none))) = some (r1, r2, r3, r4, r5) := h
 clear h
 have HC2 := Aside0.mk H
 clear H
 go_enter Try.func49, Try.ntmps49
 go_upto_region 3 with (first | ((with_reducible refine gate_dst (N := 2) rfl ?_); (try (refine gate_guard (by rfl) ?_; dsimp only)); refine box_event ?hg (N := 2) ?hd (cs := #[.bool false, .int .i64 0, .slice none 0 0]) (t := 73) ?hr ?_; (case hd => rfl); (case hg => rfl); (case hr => first | (go_simp; done) | (go_simp; rfl)); intro gb183 hg w3 hbox hb; have n0_ := Aside0.mk (below_step (by repeat (first | (with_reducible first | exact HB.out | apply bA_ | apply bN_ | apply bD_) | exact HB.out)) hb); have n1_ := Aside0.mk (hbox); have n2_ := Aside0.mk ((by rw [hg]; exact (below_size (by repeat (first | (with_reducible first | exact HB.out | apply bA_ | apply bN_ | apply bD_) | exact HB.out))) : w.heap.size ≤ gb183)); have n3_ := Aside0.mk ((by rw [hg]; exact (below_size (by repeat (first | (with_reducible first | exact HB.out | apply bA_ | apply bN_ | apply bD_) | exact HB.out))) : w.heap.size ≤ gb183)); clear HB; have HB := n0_; have BK183 := n1_; have GW183 := n2_; have GE183 := n3_; clear n0_ n1_ n2_ n3_; clear hb hbox hg) | ((with_reducible refine gate_dst (N := 5) rfl ?_); (try (refine gate_guard (by rfl) ?_; dsimp only)); refine box_event ?hg (N := 5) ?hd (cs := #[.bool false, .int .i64 0, .slice none 0 0]) (t := 73) ?hr ?_; (case hd => rfl); (case hg => rfl); (case hr => first | (go_simp; done) | (go_simp; rfl)); intro gb184 hg w4 hbox hb; have n0_ := Aside0.mk (blk_below (g := gb183) (o := .cells #[.bool false, .int .i64 0, .slice none 0 0] 73 (0, 0)) (by (with_reducible repeat (first | refine kN_ ?_ _ | refine kD_ ?_ | refine kA_ ?_ _)); exact BK183.out) hb); have n1_ := Aside0.mk (below_step (by repeat (first | (with_reducible first | exact HB.out | apply bA_ | apply bN_ | apply bD_ | refine bS_ ?_ GE183.out) | exact HB.out)) hb); have n2_ := Aside0.mk (hbox); have n3_ := Aside0.mk ((by rw [hg]; exact (below_size (by repeat (first | (with_reducible first | exact HB.out | apply bA_ | apply bN_ | apply bD_ | refine bS_ ?_ GE183.out) | exact HB.out))) : w.heap.size ≤ gb184)); have n4_ := Aside0.mk ((by rw [hg]; exact (below_size (by repeat (first | (with_reducible first | exact HB.out | apply bA_ | apply bN_ | apply bD_ | refine bS_ ?_ GE183.out) | exact HB.out))) : w.heap.size ≤ gb184)); have n5_ := Aside0.mk ((by rw [hg]; exact Nat.ne_of_lt (blk_lt (g := gb183) (o := .cells #[.bool false, .int .i64 0, .slice none 0 0] 73 (0, 0)) (by (with_reducible repeat (first | refine kN_ ?_ _ | refine kD_ ?_ | refine kA_ ?_ _)); exact BK183.out)) : gb183 ≠ gb184)); have n6_ := Aside0.mk ((by rw [hg]; exact Nat.ne_of_gt (blk_lt (g := gb183) (o := .cells #[.bool false, .int .i64 0, .slice none 0 0] 73 (0, 0)) (by (with_reducible repeat (first | refine kN_ ?_ _ | refine kD_ ?_ | refine kA_ ?_ _)); exact BK183.out)) : gb184 ≠ gb183)); clear BK183; clear HB; have BK183 := n0_; have HB := n1_; have BK184 := n2_; have GW184 := n3_; have GE184 := n4_; have NB183_184 := n5_; have NB184_183 := n6_; clear n0_ n1_ n2_ n3_ n4_ n5_ n6_; clear hb hbox hg; have hnb5 := NB184_183.out; have hnc5 := NB183_184.out; obtain ⟨hcz6_0, hcz6_1, hcz6_2⟩ := cells3_ BK184.out; obtain ⟨hfz6_0, hfz6_1, hfz6_2⟩ := froz3_ BK184.out))
 (try simp only [Act.put, sA_, sB_, sC_])
 go_cut [18] (fun v18 wc => ∃ (kq : Nat) (x18_1 : Bool), v18 = .bool x18_1 ∧ Aside0 (platformfwref05_ReadPath.j0 kq a0 0 x18_1 false 0 = some (r1, r2, r3, r4, r5)) ∧ Aside0 (kq ≤ k) ∧ Aside0 (wc.heap[gb183]? = some (.cells #[.bool false, .int .i64 0, (.slice none 0 0)] 73 (0, 0))) ∧ Aside0 (wc.heap[gb184]? = some (.cells #[.bool false, .int .i64 0, (.slice none 0 0)] 73 (0, 0))) ∧ Aside0 (Below w.heap.size w wc))
 case first =>
  have H := HC2.out
  clear HC2
  by_cases c7 : a0.toList = ([] : List UInt8)
  ·rw [if_pos c7] at H
   have c7b0 : (a0.toList == ([] : List UInt8)) = true := beq_iff_eq.mpr c7
   have c7b1 : (a0.toList != ([] : List UInt8)) = false := bne_eq_false_iff_eq.mpr c7
   clear c7
   (first | rw [c7b0] | (simp only [i64_w, i32_w]; rw [c7b0]) | skip)
   have H' := Aside0.mk H
   clear H
   go_wp2
   go_meet
   case rel => exact ⟨_, (false), (by first | rfl | (simp; done) | (simp [*]; done)), H', ⟨by first | omega | exact Nat.le_refl _⟩, ⟨by (with_reducible repeat (first | refine kN_ ?_ _ | refine kD_ ?_ | refine kA_ ?_ _)); refine blk_far ?_ NB183_184.out _; (with_reducible repeat (first | refine kN_ ?_ _ | refine kD_ ?_ | refine kA_ ?_ _)); refine blk_far ?_ NB183_184.out _; (with_reducible repeat (first | refine kN_ ?_ _ | refine kD_ ?_ | refine kA_ ?_ _)); refine blk_far ?_ NB183_184.out _; (with_reducible repeat (first | refine kN_ ?_ _ | refine kD_ ?_ | refine kA_ ?_ _)); exact BK183.out⟩, ⟨by (with_reducible repeat (first | refine kN_ ?_ _ | refine kD_ ?_ | refine kA_ ?_ _)); refine blk_put (cs := #[.bool false, .int .i64 0, .slice none 0 0]) ?_ 2 _ rfl; (with_reducible repeat (first | refine kN_ ?_ _ | refine kD_ ?_ | refine kA_ ?_ _)); refine blk_put (cs := #[.bool false, .int .i64 0, .slice none 0 0]) ?_ 1 _ rfl; (with_reducible repeat (first | refine kN_ ?_ _ | refine kD_ ?_ | refine kA_ ?_ _)); refine blk_put (cs := #[.bool false, .int .i64 0, .slice none 0 0]) ?_ 0 _ rfl; (with_reducible repeat (first | refine kN_ ?_ _ | refine kD_ ?_ | refine kA_ ?_ _)); exact BK184.out⟩, ⟨by repeat (first | (with_reducible first | exact HB.out | apply bA_ | apply bN_ | apply bD_ | refine bS_ ?_ GE183.out | refine bS_ ?_ GE184.out) | exact HB.out)⟩⟩
  ·rw [if_neg c7] at H
   have c7b0 : (a0.toList == ([] : List UInt8)) = false := beq_eq_false_iff_ne.mpr c7
   have c7b1 : (a0.toList != ([] : List UInt8)) = true := bne_iff_ne.mpr c7
   (first | rw [c7b0] | (simp only [i64_w, i32_w]; rw [c7b0]) | skip)
   by_cases c8 : 0 < (a0.size : Int)
   ·rw [if_pos c8] at H
    have c8b0 : decide (0 < (a0.size : Int)) = true := decide_eq_true c8
    have c8b1 : decide (0 < a0.size) = true := decide_eq_true (by omega)
    clear c8
    have H' := Aside0.mk H
    clear H
    have p9 : 0 ≤ (0 : Int) := (by omega)
    have q9 : 0 < a0.size := (by have : (0 : Int) < (a0.size : Int) := of_decide_eq_true (by first | (with_reducible assumption) | assumption); omega)
    have hx9 : ∀ h : 0 < a0.size, ((a0[0]'h).toNat : Int) = bt a0 0 := bt_at a0 0
    clear p9
    have qi9 : (0 < (a0.size : Int)) = True := eq_true (of_decide_eq_true (by first | (with_reducible assumption) | assumption))
    replace q9 := eq_true q9
    go_wp2
    go_meet
    case rel => exact ⟨_, (((bt a0 0) == 92)), (by first | rfl | (simp; done) | (simp [*]; done)), H', ⟨by first | omega | exact Nat.le_refl _⟩, ⟨by (with_reducible repeat (first | refine kN_ ?_ _ | refine kD_ ?_ | refine kA_ ?_ _)); refine blk_far ?_ NB183_184.out _; (with_reducible repeat (first | refine kN_ ?_ _ | refine kD_ ?_ | refine kA_ ?_ _)); refine blk_far ?_ NB183_184.out _; (with_reducible repeat (first | refine kN_ ?_ _ | refine kD_ ?_ | refine kA_ ?_ _)); refine blk_far ?_ NB183_184.out _; (with_reducible repeat (first | refine kN_ ?_ _ | refine kD_ ?_ | refine kA_ ?_ _)); exact BK183.out⟩, ⟨by (with_reducible repeat (first | refine kN_ ?_ _ | refine kD_ ?_ | refine kA_ ?_ _)); refine blk_put (cs := #[.bool false, .int .i64 0, .slice none 0 0]) ?_ 2 _ rfl; (with_reducible repeat (first | refine kN_ ?_ _ | refine kD_ ?_ | refine kA_ ?_ _)); refine blk_put (cs := #[.bool false, .int .i64 0, .slice none 0 0]) ?_ 1 _ rfl; (with_reducible repeat (first | refine kN_ ?_ _ | refine kD_ ?_ | refine kA_ ?_ _)); refine blk_put (cs := #[.bool false, .int .i64 0, .slice none 0 0]) ?_ 0 _ rfl; (with_reducible repeat (first | refine kN_ ?_ _ | refine kD_ ?_ | refine kA_ ?_ _)); exact BK184.out⟩, ⟨by repeat (first | (with_reducible first | exact HB.out | apply bA_ | apply bN_ | apply bD_ | refine bS_ ?_ GE183.out | refine bS_ ?_ GE184.out) | exact HB.out)⟩⟩
   ·rw [if_neg c8] at H
    exact absurd H (by simp)
 case rest =>
  clear HC2
  try clear p2
  try clear c4
  try clear c5
  try clear c7
  try clear c7b0
  try clear c7b1
  try clear c8
  try clear c8b0
  try clear c8b1
  try clear p9
  try clear q9
  try clear hx9
  try clear qi9
  try clear hcz6_0 hcz6_1 hcz6_2
  try clear hfz6_0 hfz6_1 hfz6_2
  try clear p9
  try clear q9
  obtain ⟨kq, x18_1, rfl, HA, HJ1, BK183, BK184, HB⟩ := hcut
  cases kq with
  | zero => exact absurd HA.out (by simp [platformfwref05_ReadPath.j0])
  | succ kj1 =>
   have H := HA.out
   clear HA
   simp only [platformfwref05_ReadPath.j0] at H
   have HC10 := Aside0.mk H
   clear H
   go_upto_if 18 with (fail)
   go_cut [6] (fun v6 wc => ∃ (kq : Nat) (x6_9 : Int) (x185000_9 : Bool), v6 = .int .i64 x6_9 ∧ Aside0 (platformfwref05_ReadPath.j1 kq a0 x6_9 x185000_9 0 = some (r1, r2, r3, r4, r5)) ∧ Aside0 (kq ≤ kj1) ∧ Aside0 (wc.heap[gb183]? = some (.cells #[.bool false, .int .i64 0, (.slice none 0 0)] 73 (0, 0))) ∧ Aside0 (wc.heap[gb184]? = some (.cells #[.bool x185000_9, .int .i64 0, (.slice none 0 0)] 73 (0, 0))) ∧ Aside0 (Below w.heap.size w wc))
   case first =>
    have H := HC10.out
    clear HC10
    by_cases c11 : x18_1 = true
    ·subst c11
     have H1 : (platformfwref05_ReadPath.j1 kj1 a0 1 true 0) = some (r1, r2, r3, r4, r5) := by rw [if_pos rfl] at H; exact H
     clear H
     have H := H1
     clear H1
     have H' := Aside0.mk H
     clear H
     have hnb12 := NB184_183.out
     have hnc12 := NB183_184.out
     obtain ⟨hcz13_0, hcz13_1, hcz13_2⟩ := cells3_ BK184.out
     obtain ⟨hfz13_0, hfz13_1, hfz13_2⟩ := froz3_ BK184.out
     go_wp2
     go_meet
     case rel => exact ⟨_, (1), (true), (by first | rfl | (simp; done) | (simp [*]; done)), H', ⟨by have := HJ1.out; first | omega | exact Nat.le_refl _⟩, ⟨by (with_reducible repeat (first | refine kN_ ?_ _ | refine kD_ ?_ | refine kA_ ?_ _)); refine blk_far ?_ NB183_184.out _; (with_reducible repeat (first | refine kN_ ?_ _ | refine kD_ ?_ | refine kA_ ?_ _)); exact BK183.out⟩, ⟨by (with_reducible repeat (first | refine kN_ ?_ _ | refine kD_ ?_ | refine kA_ ?_ _)); refine blk_put (cs := #[.bool false, .int .i64 0, .slice none 0 0]) ?_ 0 _ rfl; (with_reducible repeat (first | refine kN_ ?_ _ | refine kD_ ?_ | refine kA_ ?_ _)); exact BK184.out⟩, ⟨by repeat (first | (with_reducible first | exact HB.out | apply bA_ | apply bN_ | apply bD_ | refine bS_ ?_ GE183.out | refine bS_ ?_ GE184.out) | exact HB.out)⟩⟩
    ·replace c11 := Bool.eq_false_iff.mpr c11
     subst c11
     have H1 : (platformfwref05_ReadPath.j1 kj1 a0 0 false 0) = some (r1, r2, r3, r4, r5) := by rw [if_neg (show ¬ (false = true) by decide)] at H; exact H
     clear H
     have H := H1
     clear H1
     have H' := Aside0.mk H
     clear H
     go_wp2
     go_meet
     case rel => exact ⟨_, (0), (false), (by first | rfl | (simp; done) | (simp [*]; done)), H', ⟨by have := HJ1.out; first | omega | exact Nat.le_refl _⟩, ⟨by (with_reducible repeat (first | refine kN_ ?_ _ | refine kD_ ?_ | refine kA_ ?_ _)); exact BK183.out⟩, ⟨by (with_reducible repeat (first | refine kN_ ?_ _ | refine kD_ ?_ | refine kA_ ?_ _)); exact BK184.out⟩, ⟨by repeat (first | (with_reducible first | exact HB.out | apply bA_ | apply bN_ | apply bD_ | refine bS_ ?_ GE183.out | refine bS_ ?_ GE184.out) | exact HB.out)⟩⟩
   case rest =>
    clear HC10
    try clear c1
    try clear p2
    try clear c4
    try clear c5
    try clear c7
    try clear c7b0
    try clear c7b1
    try clear c8
    try clear c8b0
    try clear c8b1
    try clear p9
    try clear q9
    try clear hx9
    try clear qi9
    try clear c11
    try clear c12
    try clear hcz13_0 hcz13_1 hcz13_2
    try clear hcz6_0 hcz6_1 hcz6_2
    try clear hfz13_0 hfz13_1 hfz13_2
    try clear hfz6_0 hfz6_1 hfz6_2
    try clear p2
    try clear p9
    try clear q9
    obtain ⟨kq, x6_9, x185000_9, rfl, HA, HJ9, BK183, BK184, HB⟩ := hcut
    cases kq with
    | zero => exact absurd HA.out (by simp [platformfwref05_ReadPath.j1])
    | succ kj9 =>
     have H := HA.out
     clear HA
     simp only [platformfwref05_ReadPath.j1] at H
     have HC14 := Aside0.mk H
     clear H
     go_upto_block 0 with (fail)
     go_cut [6] (fun v6 wc => ∃ (kq : Nat) (x6_13 : Int) (x185001_13 : Int), v6 = .int .i64 x6_13 ∧ Aside0 (platformfwref05_ReadPath.j3 kq a0 x6_13 x185000_9 x185001_13 = some (r1, r2, r3, r4, r5)) ∧ Aside0 (kq ≤ kj9) ∧ Aside0 (wc.heap[gb183]? = some (.cells #[.bool false, .int .i64 0, (.slice none 0 0)] 73 (0, 0))) ∧ Aside0 (wc.heap[gb184]? = some (.cells #[.bool x185000_9, .int .i64 x185001_13, (.slice none 0 0)] 73 (0, 0))) ∧ Aside0 (Below w.heap.size w wc))
     case first =>
      have H := HC14.out
      clear HC14
      have H' := Aside0.mk H
      clear H
      go_wp2
      go_loopg [6] kj9 (fun kq v6 w' => ∃ (x6_3 : Int) (x185001_3 : Int), v6 = .int .i64 x6_3 ∧ Aside0 (platformfwref05_ReadPath.l0 kq a0 x6_3 x185000_9 x185001_3 = some (r1, r2, r3, r4, r5)) ∧ Aside0 (kq ≤ kj9) ∧ Aside0 (w'.heap[gb183]? = some (.cells #[.bool false, .int .i64 0, (.slice none 0 0)] 73 (0, 0))) ∧ Aside0 (w'.heap[gb184]? = some (.cells #[.bool x185000_9, .int .i64 x185001_3, (.slice none 0 0)] 73 (0, 0))) ∧ Aside0 (Below w.heap.size w w'))
      case atStart => exact ⟨(x6_9), (0), (by first | rfl | (simp; done) | (simp [*]; done)), H', ⟨Nat.le_refl _⟩, ⟨by (with_reducible repeat (first | refine kN_ ?_ _ | refine kD_ ?_ | refine kA_ ?_ _)); exact BK183.out⟩, ⟨by (with_reducible repeat (first | refine kN_ ?_ _ | refine kD_ ?_ | refine kA_ ?_ _)); exact BK184.out⟩, ⟨by repeat (first | (with_reducible first | exact HB.out | apply bA_ | apply bN_ | apply bD_ | refine bS_ ?_ GE183.out | refine bS_ ?_ GE184.out) | exact HB.out)⟩⟩
      case round =>
       clear H'
       try clear c1
       try clear p2
       try clear c4
       try clear c5
       try clear c7
       try clear c7b0
       try clear c7b1
       try clear c8
       try clear c8b0
       try clear c8b1
       try clear p9
       try clear q9
       try clear hx9
       try clear qi9
       try clear c11
       try clear c12
       try clear hcz13_0 hcz13_1 hcz13_2
       try clear hcz6_0 hcz6_1 hcz6_2
       try clear hfz13_0 hfz13_1 hfz13_2
       try clear hfz6_0 hfz6_1 hfz6_2
       try clear p2
       try clear p9
       try clear q9
       obtain ⟨x6_3, x185001_3, rfl, HA, HK3, BK183, BK184, HB⟩ := hrel
       cases gk with
       | zero => exact absurd HA.out (by simp [platformfwref05_ReadPath.l0])
       | succ k3 =>
        have H := HA.out
        clear HA
        simp only [platformfwref05_ReadPath.l0] at H
        by_cases c15 : x185000_9 = true
        ·subst c15
         have H1 : (platformfwref05_ReadPath.j3 k3 a0 x6_3 true x185001_3) = some (r1, r2, r3, r4, r5) := by rw [if_pos rfl] at H; exact H
         clear H
         have H := H1
         clear H1
         have H' := Aside0.mk H
         clear H
         have hnb16 := NB184_183.out
         have hnc16 := NB183_184.out
         obtain ⟨hcz17_0, hcz17_1, hcz17_2⟩ := cells3_ BK184.out
         obtain ⟨hfz17_0, hfz17_1, hfz17_2⟩ := froz3_ BK184.out
         go_wp2
         go_meet
         case rel => exact ⟨_, (x6_3), (x185001_3), (by first | rfl | (simp; done) | (simp [*]; done)), H', ⟨by have := HJ1.out; have := HJ9.out; have := HK3.out; first | omega | exact Nat.le_refl _⟩, ⟨by (with_reducible repeat (first | refine kN_ ?_ _ | refine kD_ ?_ | refine kA_ ?_ _)); exact BK183.out⟩, ⟨by (with_reducible repeat (first | refine kN_ ?_ _ | refine kD_ ?_ | refine kA_ ?_ _)); exact BK184.out⟩, ⟨by repeat (first | (with_reducible first | exact HB.out | apply bA_ | apply bN_ | apply bD_ | refine bS_ ?_ GE183.out | refine bS_ ?_ GE184.out) | exact HB.out)⟩⟩
        ·replace c15 := Bool.eq_false_iff.mpr c15
         subst c15
         have H1 : (if x6_3 < (a0.size : Int) then (if 0 ≤ x6_3 then (if (bt a0 x6_3) = 94 then (platformfwref05_ReadPath.l0 k3 a0 (wrap64 (x6_3 + 1)) false (wrap64 (x185001_3 + 1))) else (platformfwref05_ReadPath.j3 k3 a0 x6_3 false x185001_3)) else (none)) else (platformfwref05_ReadPath.j3 k3 a0 x6_3 false x185001_3)) = some (r1, r2, r3, r4, r5) := by rw [if_neg (show ¬ (false = true) by decide)] at H; exact H
         clear H
         have H := H1
         clear H1
         by_cases c18 : x6_3 < (a0.size : Int)
         ·rw [if_pos c18] at H
          have c18b0 : decide (x6_3 < (a0.size : Int)) = true := decide_eq_true c18
          clear c18
          (first | rw [c18b0] | (simp only [i64_w, i32_w]; rw [c18b0]) | skip)
          by_cases c19 : 0 ≤ x6_3
          ·rw [if_pos c19] at H
           have c19b0 : decide (0 ≤ x6_3) = true := decide_eq_true c19
           clear c19
           by_cases c21 : (bt a0 x6_3) = 94
           ·rw [if_pos c21] at H
            have c21b0 : ((bt a0 x6_3) == 94) = true := beq_iff_eq.mpr c21
            have c21b1 : ((bt a0 x6_3) != 94) = false := bne_eq_false_iff_eq.mpr c21
            clear c21
            have H' := Aside0.mk H
            clear H
            have hnb22 := NB184_183.out
            have hnc22 := NB183_184.out
            obtain ⟨hcz23_0, hcz23_1, hcz23_2⟩ := cells3_ BK184.out
            obtain ⟨hfz23_0, hfz23_1, hfz23_2⟩ := froz3_ BK184.out
            have p20 : 0 ≤ (x6_3 : Int) := of_decide_eq_true (by first | (with_reducible assumption) | assumption)
            have q20 : x6_3 < (a0.size : Int) := of_decide_eq_true (by first | (with_reducible assumption) | assumption)
            have hx20 := bt_at a0 x6_3
            replace p20 := eq_true p20
            replace q20 := eq_true q20
            go_wp2
            go_roundg k3
            case measure => have := HJ1.out; have := HJ9.out; have := HK3.out; omega
            case rel => exact ⟨(wrap64 (x6_3 + 1)), (wrap64 (x185001_3 + 1)), (by first | rfl | (simp; done) | (simp [*]; done)), H', ⟨by have := HJ1.out; have := HJ9.out; have := HK3.out; omega⟩, ⟨by (with_reducible repeat (first | refine kN_ ?_ _ | refine kD_ ?_ | refine kA_ ?_ _)); refine blk_far ?_ NB183_184.out _; (with_reducible repeat (first | refine kN_ ?_ _ | refine kD_ ?_ | refine kA_ ?_ _)); exact BK183.out⟩, ⟨by (with_reducible repeat (first | refine kN_ ?_ _ | refine kD_ ?_ | refine kA_ ?_ _)); refine blk_put (cs := #[.bool false, .int .i64 x185001_3, .slice none 0 0]) ?_ 1 _ rfl; (with_reducible repeat (first | refine kN_ ?_ _ | refine kD_ ?_ | refine kA_ ?_ _)); exact BK184.out⟩, ⟨by repeat (first | (with_reducible first | exact HB.out | apply bA_ | apply bN_ | apply bD_ | refine bS_ ?_ GE183.out | refine bS_ ?_ GE184.out) | exact HB.out)⟩⟩
           ·rw [if_neg c21] at H
            have c21b0 : ((bt a0 x6_3) == 94) = false := beq_eq_false_iff_ne.mpr c21
            have c21b1 : ((bt a0 x6_3) != 94) = true := bne_iff_ne.mpr c21
            have H' := Aside0.mk H
            clear H
            have hnb24 := NB184_183.out
            have hnc24 := NB183_184.out
            obtain ⟨hcz25_0, hcz25_1, hcz25_2⟩ := cells3_ BK184.out
            obtain ⟨hfz25_0, hfz25_1, hfz25_2⟩ := froz3_ BK184.out
            have p20 : 0 ≤ (x6_3 : Int) := of_decide_eq_true (by first | (with_reducible assumption) | assumption)
            have q20 : x6_3 < (a0.size : Int) := of_decide_eq_true (by first | (with_reducible assumption) | assumption)
            have hx20 := bt_at a0 x6_3
            replace p20 := eq_true p20
            replace q20 := eq_true q20
            go_wp2
            go_meet
            case rel => exact ⟨_, (x6_3), (x185001_3), (by first | rfl | (simp; done) | (simp [*]; done)), H', ⟨by have := HJ1.out; have := HJ9.out; have := HK3.out; first | omega | exact Nat.le_refl _⟩, ⟨by (with_reducible repeat (first | refine kN_ ?_ _ | refine kD_ ?_ | refine kA_ ?_ _)); exact BK183.out⟩, ⟨by (with_reducible repeat (first | refine kN_ ?_ _ | refine kD_ ?_ | refine kA_ ?_ _)); exact BK184.out⟩, ⟨by repeat (first | (with_reducible first | exact HB.out | apply bA_ | apply bN_ | apply bD_ | refine bS_ ?_ GE183.out | refine bS_ ?_ GE184.out) | exact HB.out)⟩⟩
          ·rw [if_neg c19] at H
           exact absurd H (by simp)
         ·rw [if_neg c18] at H
          have c18b0 : decide (x6_3 < (a0.size : Int)) = false := decide_eq_false c18
          clear c18
          (first | rw [c18b0] | (simp only [i64_w, i32_w]; rw [c18b0]) | skip)
          have H' := Aside0.mk H
          clear H
          have hnb26 := NB184_183.out
          have hnc26 := NB183_184.out
          obtain ⟨hcz27_0, hcz27_1, hcz27_2⟩ := cells3_ BK184.out
          obtain ⟨hfz27_0, hfz27_1, hfz27_2⟩ := froz3_ BK184.out
          go_wp2
          go_meet
          case rel => exact ⟨_, (x6_3), (x185001_3), (by first | rfl | (simp; done) | (simp [*]; done)), H', ⟨by have := HJ1.out; have := HJ9.out; have := HK3.out; first | omega | exact Nat.le_refl _⟩, ⟨by (with_reducible repeat (first | refine kN_ ?_ _ | refine kD_ ?_ | refine kA_ ?_ _)); exact BK183.out⟩, ⟨by (with_reducible repeat (first | refine kN_ ?_ _ | refine kD_ ?_ | refine kA_ ?_ _)); exact BK184.out⟩, ⟨by repeat (first | (with_reducible first | exact HB.out | apply bA_ | apply bN_ | apply bD_ | refine bS_ ?_ GE183.out | refine bS_ ?_ GE184.out) | exact HB.out)⟩⟩
     case rest =>
      clear HC14
      try clear c1
      try clear c2
      try clear p2
      try clear q2
      try clear hx2
      try clear c4
      try clear c5
      try clear p6
      try clear c7
      try clear c7b0
      try clear c7b1
      try clear c8
      try clear c8b0
      try clear c8b1
      try clear p9
      try clear q9
      try clear hx9
      try clear qi9
      try clear c11
      try clear c12
      try clear c15
      try clear c16
      try clear c18
      try clear c18b0
      try clear c19
      try clear c19b0
      try clear p20
      try clear q20
      try clear hx20
      try clear c21
      try clear c21b0
      try clear c21b1
      try clear c22
      try clear c24
      try clear c26
      try clear hcz13_0 hcz13_1 hcz13_2
      try clear hcz17_0 hcz17_1 hcz17_2
      try clear hcz23_0 hcz23_1 hcz23_2
      try clear hcz25_0 hcz25_1 hcz25_2
      try clear hcz27_0 hcz27_1 hcz27_2
      try clear hcz6_0 hcz6_1 hcz6_2
      try clear hfz13_0 hfz13_1 hfz13_2
      try clear hfz17_0 hfz17_1 hfz17_2
      try clear hfz23_0 hfz23_1 hfz23_2
      try clear hfz25_0 hfz25_1 hfz25_2
      try clear hfz27_0 hfz27_1 hfz27_2
      try clear hfz6_0 hfz6_1 hfz6_2
      try clear p2
      try clear p20
      try clear p9
      try clear q20
      try clear q9
      obtain ⟨kq, x6_13, x185001_13, rfl, HA, HJ13, BK183, BK184, HB⟩ := hcut
      cases kq with
      | zero => exact absurd HA.out (by simp [platformfwref05_ReadPath.j3])
      | succ kj13 =>
       have H := HA.out
       clear HA
       simp only [platformfwref05_ReadPath.j3] at H
       by_cases c28 : x185001_13 > 32
       ·rw [if_pos c28] at H
        have c28b0 : decide (32 < x185001_13) = true := decide_eq_true c28
        clear c28
        simp only [Option.some.injEq, Prod.mk.injEq] at H
        obtain ⟨rfl, rfl, rfl, rfl, rfl⟩ := H
        have hnb29 := NB184_183.out
        have hnc29 := NB183_184.out
        obtain ⟨hcz30_0, hcz30_1, hcz30_2⟩ := cells3_ BK184.out
        obtain ⟨hfz30_0, hfz30_1, hfz30_2⟩ := froz3_ BK184.out
        obtain ⟨hcz31_0, hcz31_1, hcz31_2⟩ := cells3_ BK183.out
        obtain ⟨hfz31_0, hfz31_1, hfz31_2⟩ := froz3_ BK183.out
        go_wp2
        refine bodyPost_ret (results_ctt rfl _ _ gb183 73 #[.bool false, .int .i64 0, .slice none 0 0] (0, 0) _ rfl (by (with_reducible repeat (first | refine kN_ ?_ _ | refine kD_ ?_ | refine kA_ ?_ _)); refine blk_put (cs := #[.bool false, .int .i64 0, .slice none 0 0]) ?_ 2 _ rfl; (with_reducible repeat (first | refine kN_ ?_ _ | refine kD_ ?_ | refine kA_ ?_ _)); refine blk_put (cs := #[.bool false, .int .i64 0, .slice none 0 0]) ?_ 1 _ rfl; (with_reducible repeat (first | refine kN_ ?_ _ | refine kD_ ?_ | refine kA_ ?_ _)); refine blk_put (cs := #[.bool false, .int .i64 0, .slice none 0 0]) ?_ 0 _ rfl; (with_reducible repeat (first | refine kN_ ?_ _ | refine kD_ ?_ | refine kA_ ?_ _)); exact BK183.out) Try.underlying73 rfl (by kernel_rfl)) rfl ?_
        exact ⟨_, by first | rfl | (simp [errW_none, errW_some] <;> rfl) | (simp [*, errW_none, errW_some] <;> rfl), by first | exact Kd.R_nil _ _ _ _ _ | exact Kd.N_nil _ _ _ _ _ | exact Kd.V_nil _ _ _ _ _ | exact Kd.Q_nil _ _ _ _ _ | exact Kd.S_nil _ _ _ _ _, by repeat (first | (with_reducible first | exact HB.out | apply bA_ | apply bN_ | apply bD_ | refine bS_ ?_ GE183.out | refine bS_ ?_ GE184.out) | exact HB.out)⟩
       ·rw [if_neg c28] at H
        have c28b0 : decide (32 < x185001_13) = false := decide_eq_false c28
        clear c28
        by_cases c32 : x6_13 = (a0.size : Int)
        ·rw [if_pos c32] at H
         have c32b0 : (x6_13 == (a0.size : Int)) = true := beq_iff_eq.mpr c32
         have c32b1 : (x6_13 != (a0.size : Int)) = false := bne_eq_false_iff_eq.mpr c32
         clear c32
         simp only [Option.some.injEq, Prod.mk.injEq] at H
         obtain ⟨rfl, rfl, rfl, rfl, rfl⟩ := H
         have hnb33 := NB184_183.out
         have hnc33 := NB183_184.out
         obtain ⟨hcz34_0, hcz34_1, hcz34_2⟩ := cells3_ BK184.out
         obtain ⟨hfz34_0, hfz34_1, hfz34_2⟩ := froz3_ BK184.out
         obtain ⟨hcz35_0, hcz35_1, hcz35_2⟩ := cells3_ BK183.out
         obtain ⟨hfz35_0, hfz35_1, hfz35_2⟩ := froz3_ BK183.out
         go_wp2
         refine bodyPost_ret (results_ctt rfl _ _ gb183 73 #[.bool false, .int .i64 0, .slice none 0 0] (0, 0) _ rfl (by (with_reducible repeat (first | refine kN_ ?_ _ | refine kD_ ?_ | refine kA_ ?_ _)); refine blk_put (cs := #[.bool false, .int .i64 0, .slice none 0 0]) ?_ 2 _ rfl; (with_reducible repeat (first | refine kN_ ?_ _ | refine kD_ ?_ | refine kA_ ?_ _)); refine blk_put (cs := #[.bool false, .int .i64 0, .slice none 0 0]) ?_ 1 _ rfl; (with_reducible repeat (first | refine kN_ ?_ _ | refine kD_ ?_ | refine kA_ ?_ _)); refine blk_put (cs := #[.bool false, .int .i64 0, .slice none 0 0]) ?_ 0 _ rfl; (with_reducible repeat (first | refine kN_ ?_ _ | refine kD_ ?_ | refine kA_ ?_ _)); exact BK183.out) Try.underlying73 rfl (by kernel_rfl)) rfl ?_
         exact ⟨_, by first | rfl | (simp [errW_none, errW_some] <;> rfl) | (simp [*, errW_none, errW_some] <;> rfl), by first | exact Kd.R_nil _ _ _ _ _ | exact Kd.N_nil _ _ _ _ _ | exact Kd.V_nil _ _ _ _ _ | exact Kd.Q_nil _ _ _ _ _ | exact Kd.S_nil _ _ _ _ _, by repeat (first | (with_reducible first | exact HB.out | apply bA_ | apply bN_ | apply bD_ | refine bS_ ?_ GE183.out | refine bS_ ?_ GE184.out) | exact HB.out)⟩
        ·rw [if_neg c32] at H
         have c32b0 : (x6_13 == (a0.size : Int)) = false := beq_eq_false_iff_ne.mpr c32
         have c32b1 : (x6_13 != (a0.size : Int)) = true := bne_iff_ne.mpr c32
         have HC36 := Aside0.mk H
         clear H
         have hnb37 := NB184_183.out
         have hnc37 := NB183_184.out
         obtain ⟨hcz38_0, hcz38_1, hcz38_2⟩ := cells3_ BK184.out
         obtain ⟨hfz38_0, hfz38_1, hfz38_2⟩ := froz3_ BK184.out
         go_upto_block 2 with (fail)
         go_cut [6, 7] (fun v6 v7 wc => ∃ (kq : Nat) (x6_35 : Int) (x7_35 : Int) (x184000_35 : Bool) (x184001_35 : Int), v6 = .int .i64 x6_35 ∧ v7 = .int .i64 x7_35 ∧ Aside0 (platformfwref05_ReadPath.j5 kq a0 x6_35 x7_35 x185000_9 x185001_13 = some (r1, r2, r3, r4, r5)) ∧ Aside0 (kq ≤ kj13) ∧ Aside0 (wc.heap[gb183]? = some (.cells #[.bool x184000_35, .int .i64 x184001_35, (.slice none 0 0)] 73 (0, 0))) ∧ Aside0 (wc.heap[gb184]? = some (.cells #[.bool x185000_9, .int .i64 x185001_13, (.slice none 0 0)] 73 (0, 0))) ∧ Aside0 (Below w.heap.size w wc))
         case first =>
          have H := HC36.out
          clear HC36
          by_cases c39 : 0 ≤ x6_13
          ·rw [if_pos c39] at H
           have c39b0 : decide (0 ≤ x6_13) = true := decide_eq_true c39
           clear c39
           (first | rw [c39b0] | (simp only [i64_w, i32_w]; rw [c39b0]) | skip)
           by_cases c40 : x6_13 < (a0.size : Int)
           ·rw [if_pos c40] at H
            have c40b0 : decide (x6_13 < (a0.size : Int)) = true := decide_eq_true c40
            clear c40
            by_cases c42 : (bt a0 x6_13) = 0
            ·rw [if_pos c42] at H
             have c42b0 : ((bt a0 x6_13) == 0) = true := beq_iff_eq.mpr c42
             have c42b1 : ((bt a0 x6_13) != 0) = false := bne_eq_false_iff_eq.mpr c42
             clear c42
             have H' := Aside0.mk H
             clear H
             have p41 : 0 ≤ (x6_13 : Int) := of_decide_eq_true (by first | (with_reducible assumption) | assumption)
             have q41 : x6_13 < (a0.size : Int) := of_decide_eq_true (by first | (with_reducible assumption) | assumption)
             have hx41 := bt_at a0 x6_13
             replace p41 := eq_true p41
             replace q41 := eq_true q41
             go_wp2
             go_meet
             case rel => exact ⟨_, (wrap64 (x6_13 + 1)), (0), (false), (0), (by first | rfl | (simp; done) | (simp [*]; done)), (by first | rfl | (simp; done) | (simp [*]; done)), H', ⟨by have := HJ1.out; have := HJ9.out; have := HJ13.out; first | omega | exact Nat.le_refl _⟩, ⟨by (with_reducible repeat (first | refine kN_ ?_ _ | refine kD_ ?_ | refine kA_ ?_ _)); exact BK183.out⟩, ⟨by (with_reducible repeat (first | refine kN_ ?_ _ | refine kD_ ?_ | refine kA_ ?_ _)); exact BK184.out⟩, ⟨by repeat (first | (with_reducible first | exact HB.out | apply bA_ | apply bN_ | apply bD_ | refine bS_ ?_ GE183.out | refine bS_ ?_ GE184.out) | exact HB.out)⟩⟩
            ·rw [if_neg c42] at H
             have c42b0 : ((bt a0 x6_13) == 0) = false := beq_eq_false_iff_ne.mpr c42
             have c42b1 : ((bt a0 x6_13) != 0) = true := bne_iff_ne.mpr c42
             by_cases c44 : (bt a0 x6_13) = 46
             ·rw [if_pos c44] at H
              have c44b0 : ((bt a0 x6_13) == 46) = true := beq_iff_eq.mpr c44
              have c44b1 : ((bt a0 x6_13) != 46) = false := bne_eq_false_iff_eq.mpr c44
              clear c44
              have H' := Aside0.mk H
              clear H
              have p41 : 0 ≤ (x6_13 : Int) := of_decide_eq_true (by first | (with_reducible assumption) | assumption)
              have q41 : x6_13 < (a0.size : Int) := of_decide_eq_true (by first | (with_reducible assumption) | assumption)
              have hx41 := bt_at a0 x6_13
              replace p41 := eq_true p41
              replace q41 := eq_true q41
              have p43 : 0 ≤ (x6_13 : Int) := of_decide_eq_true (by first | (with_reducible assumption) | assumption)
              have q43 : x6_13 < (a0.size : Int) := of_decide_eq_true (by first | (with_reducible assumption) | assumption)
              have hx43 := bt_at a0 x6_13
              replace p43 := eq_true p43
              replace q43 := eq_true q43
              go_wp2
              go_meet
              case rel => exact ⟨_, (wrap64 (x6_13 + 1)), (2), (false), (0), (by first | rfl | (simp; done) | (simp [*]; done)), (by first | rfl | (simp; done) | (simp [*]; done)), H', ⟨by have := HJ1.out; have := HJ9.out; have := HJ13.out; first | omega | exact Nat.le_refl _⟩, ⟨by (with_reducible repeat (first | refine kN_ ?_ _ | refine kD_ ?_ | refine kA_ ?_ _)); exact BK183.out⟩, ⟨by (with_reducible repeat (first | refine kN_ ?_ _ | refine kD_ ?_ | refine kA_ ?_ _)); exact BK184.out⟩, ⟨by repeat (first | (with_reducible first | exact HB.out | apply bA_ | apply bN_ | apply bD_ | refine bS_ ?_ GE183.out | refine bS_ ?_ GE184.out) | exact HB.out)⟩⟩
             ·rw [if_neg c44] at H
              have c44b0 : ((bt a0 x6_13) == 46) = false := beq_eq_false_iff_ne.mpr c44
              have c44b1 : ((bt a0 x6_13) != 46) = true := bne_iff_ne.mpr c44
              have HC45 := Aside0.mk H
              clear H
              have p41 : 0 ≤ (x6_13 : Int) := of_decide_eq_true (by first | (with_reducible assumption) | assumption)
              have q41 : x6_13 < (a0.size : Int) := of_decide_eq_true (by first | (with_reducible assumption) | assumption)
              have hx41 := bt_at a0 x6_13
              replace p41 := eq_true p41
              replace q41 := eq_true q41
              have p43 : 0 ≤ (x6_13 : Int) := of_decide_eq_true (by first | (with_reducible assumption) | assumption)
              have q43 : x6_13 < (a0.size : Int) := of_decide_eq_true (by first | (with_reducible assumption) | assumption)
              have hx43 := bt_at a0 x6_13
              replace p43 := eq_true p43
              replace q43 := eq_true q43
              go_upto_region 19 with (fail)
              go_cut [64] (fun v64 wc => ∃ (kq : Nat) (x64_44 : Bool), v64 = .bool x64_44 ∧ Aside0 (platformfwref05_ReadPath.j4 kq a0 x6_13 1 x64_44 x185000_9 x185001_13 = some (r1, r2, r3, r4, r5)) ∧ Aside0 (kq ≤ kj13) ∧ Aside0 (wc.heap[gb183]? = some (.cells #[.bool false, .int .i64 0, (.slice none 0 0)] 73 (0, 0))) ∧ Aside0 (wc.heap[gb184]? = some (.cells #[.bool x185000_9, .int .i64 x185001_13, (.slice none 0 0)] 73 (0, 0))) ∧ Aside0 (Below w.heap.size w wc))
              case first =>
               have H := HC45.out
               clear HC45
               by_cases c47 : (bt a0 x6_13) = 47
               ·rw [if_pos c47] at H
                have c47b0 : ((bt a0 x6_13) == 47) = true := beq_iff_eq.mpr c47
                have c47b1 : ((bt a0 x6_13) != 47) = false := bne_eq_false_iff_eq.mpr c47
                clear c47
                (first | rw [c47b0] | (simp only [i64_w, i32_w]; rw [c47b0]) | skip)
                have H' := Aside0.mk H
                clear H
                have p46 : 0 ≤ (x6_13 : Int) := of_decide_eq_true (by first | (with_reducible assumption) | assumption)
                have q46 : x6_13 < (a0.size : Int) := of_decide_eq_true (by first | (with_reducible assumption) | assumption)
                have hx46 := bt_at a0 x6_13
                replace p46 := eq_true p46
                replace q46 := eq_true q46
                go_wp2
                go_meet
                case rel => exact ⟨_, (((wrap64 (x6_13 + 1)) == (a0.size : Int))), (by first | rfl | (simp; done) | (simp [*]; done)), H', ⟨by have := HJ1.out; have := HJ9.out; have := HJ13.out; first | omega | exact Nat.le_refl _⟩, ⟨by (with_reducible repeat (first | refine kN_ ?_ _ | refine kD_ ?_ | refine kA_ ?_ _)); exact BK183.out⟩, ⟨by (with_reducible repeat (first | refine kN_ ?_ _ | refine kD_ ?_ | refine kA_ ?_ _)); exact BK184.out⟩, ⟨by repeat (first | (with_reducible first | exact HB.out | apply bA_ | apply bN_ | apply bD_ | refine bS_ ?_ GE183.out | refine bS_ ?_ GE184.out) | exact HB.out)⟩⟩
               ·rw [if_neg c47] at H
                have c47b0 : ((bt a0 x6_13) == 47) = false := beq_eq_false_iff_ne.mpr c47
                have c47b1 : ((bt a0 x6_13) != 47) = true := bne_iff_ne.mpr c47
                (first | rw [c47b0] | (simp only [i64_w, i32_w]; rw [c47b0]) | skip)
                have H' := Aside0.mk H
                clear H
                have p46 : 0 ≤ (x6_13 : Int) := of_decide_eq_true (by first | (with_reducible assumption) | assumption)
                have q46 : x6_13 < (a0.size : Int) := of_decide_eq_true (by first | (with_reducible assumption) | assumption)
                have hx46 := bt_at a0 x6_13
                replace p46 := eq_true p46
                replace q46 := eq_true q46
                go_wp2
                go_meet
                case rel => exact ⟨_, (false), (by first | rfl | (simp; done) | (simp [*]; done)), H', ⟨by have := HJ1.out; have := HJ9.out; have := HJ13.out; first | omega | exact Nat.le_refl _⟩, ⟨by (with_reducible repeat (first | refine kN_ ?_ _ | refine kD_ ?_ | refine kA_ ?_ _)); exact BK183.out⟩, ⟨by (with_reducible repeat (first | refine kN_ ?_ _ | refine kD_ ?_ | refine kA_ ?_ _)); exact BK184.out⟩, ⟨by repeat (first | (with_reducible first | exact HB.out | apply bA_ | apply bN_ | apply bD_ | refine bS_ ?_ GE183.out | refine bS_ ?_ GE184.out) | exact HB.out)⟩⟩
              case rest =>
               clear HC45
               try clear c1
               try clear c2
               try clear p2
               try clear q2
               try clear hx2
               try clear c3
               try clear c4
               try clear p4
               try clear q4
               try clear hx4
               try clear c5
               try clear p6
               try clear c7
               try clear c7b0
               try clear c7b1
               try clear c8
               try clear c8b0
               try clear c8b1
               try clear p9
               try clear q9
               try clear hx9
               try clear qi9
               try clear c11
               try clear c12
               try clear c15
               try clear c16
               try clear c18
               try clear c18b0
               try clear c19
               try clear c19b0
               try clear p20
               try clear q20
               try clear hx20
               try clear c21
               try clear c21b0
               try clear c21b1
               try clear c22
               try clear c24
               try clear c26
               try clear c28
               try clear c28b0
               try clear c29
               try clear c32
               try clear c32b0
               try clear c32b1
               try clear c33
               try clear c37
               try clear c39
               try clear c39b0
               try clear c40
               try clear c40b0
               try clear p41
               try clear q41
               try clear hx41
               try clear c42
               try clear c42b0
               try clear c42b1
               try clear p43
               try clear q43
               try clear hx43
               try clear c44
               try clear c44b0
               try clear c44b1
               try clear p46
               try clear q46
               try clear hx46
               try clear c47
               try clear c47b0
               try clear c47b1
               try clear hcz13_0 hcz13_1 hcz13_2
               try clear hcz17_0 hcz17_1 hcz17_2
               try clear hcz23_0 hcz23_1 hcz23_2
               try clear hcz25_0 hcz25_1 hcz25_2
               try clear hcz27_0 hcz27_1 hcz27_2
               try clear hcz30_0 hcz30_1 hcz30_2
               try clear hcz31_0 hcz31_1 hcz31_2
               try clear hcz34_0 hcz34_1 hcz34_2
               try clear hcz35_0 hcz35_1 hcz35_2
               try clear hcz38_0 hcz38_1 hcz38_2
               try clear hcz6_0 hcz6_1 hcz6_2
               try clear hfz13_0 hfz13_1 hfz13_2
               try clear hfz17_0 hfz17_1 hfz17_2
               try clear hfz23_0 hfz23_1 hfz23_2
               try clear hfz25_0 hfz25_1 hfz25_2
               try clear hfz27_0 hfz27_1 hfz27_2
               try clear hfz30_0 hfz30_1 hfz30_2
               try clear hfz31_0 hfz31_1 hfz31_2
               try clear hfz34_0 hfz34_1 hfz34_2
               try clear hfz35_0 hfz35_1 hfz35_2
               try clear hfz38_0 hfz38_1 hfz38_2
               try clear hfz6_0 hfz6_1 hfz6_2
               try clear p2
               try clear p20
               try clear p41
               try clear p43
               try clear p46
               try clear p6
               try clear p9
               try clear q2
               try clear q20
               try clear q41
               try clear q43
               try clear q46
               try clear q9
               obtain ⟨kq, x64_44, rfl, HA, HJ44, BK183, BK184, HB⟩ := hcut
               cases kq with
               | zero => exact absurd HA.out (by simp [platformfwref05_ReadPath.j4])
               | succ kj44 =>
                have H := HA.out
                clear HA
                simp only [platformfwref05_ReadPath.j4] at H
                by_cases c48 : x64_44 = true
                ·subst c48
                 have H1 : (if (wrap64 (x185001_13 + 3)) > 32 then (some (false, 0, ([] : List ByteArray), 0, 3)) else (some (false, 0, ([] : List ByteArray), 0, 4))) = some (r1, r2, r3, r4, r5) := by rw [if_pos rfl] at H; exact H
                 clear H
                 have H := H1
                 clear H1
                 by_cases c49 : (wrap64 (x185001_13 + 3)) > 32
                 ·rw [if_pos c49] at H
                  have c49b0 : decide (32 < (wrap64 (x185001_13 + 3))) = true := decide_eq_true c49
                  clear c49
                  simp only [Option.some.injEq, Prod.mk.injEq] at H
                  obtain ⟨rfl, rfl, rfl, rfl, rfl⟩ := H
                  have hnb50 := NB184_183.out
                  have hnc50 := NB183_184.out
                  obtain ⟨hcz51_0, hcz51_1, hcz51_2⟩ := cells3_ BK184.out
                  obtain ⟨hfz51_0, hfz51_1, hfz51_2⟩ := froz3_ BK184.out
                  obtain ⟨hcz52_0, hcz52_1, hcz52_2⟩ := cells3_ BK183.out
                  obtain ⟨hfz52_0, hfz52_1, hfz52_2⟩ := froz3_ BK183.out
                  go_wp2
                  refine bodyPost_ret (results_ctt rfl _ _ gb183 73 #[.bool false, .int .i64 0, .slice none 0 0] (0, 0) _ rfl (by (with_reducible repeat (first | refine kN_ ?_ _ | refine kD_ ?_ | refine kA_ ?_ _)); refine blk_put (cs := #[.bool false, .int .i64 0, .slice none 0 0]) ?_ 2 _ rfl; (with_reducible repeat (first | refine kN_ ?_ _ | refine kD_ ?_ | refine kA_ ?_ _)); refine blk_put (cs := #[.bool false, .int .i64 0, .slice none 0 0]) ?_ 1 _ rfl; (with_reducible repeat (first | refine kN_ ?_ _ | refine kD_ ?_ | refine kA_ ?_ _)); refine blk_put (cs := #[.bool false, .int .i64 0, .slice none 0 0]) ?_ 0 _ rfl; (with_reducible repeat (first | refine kN_ ?_ _ | refine kD_ ?_ | refine kA_ ?_ _)); exact BK183.out) Try.underlying73 rfl (by kernel_rfl)) rfl ?_
                  exact ⟨_, by first | rfl | (simp [errW_none, errW_some] <;> rfl) | (simp [*, errW_none, errW_some] <;> rfl), by first | exact Kd.R_nil _ _ _ _ _ | exact Kd.N_nil _ _ _ _ _ | exact Kd.V_nil _ _ _ _ _ | exact Kd.Q_nil _ _ _ _ _ | exact Kd.S_nil _ _ _ _ _, by repeat (first | (with_reducible first | exact HB.out | apply bA_ | apply bN_ | apply bD_ | refine bS_ ?_ GE183.out | refine bS_ ?_ GE184.out) | exact HB.out)⟩
                 ·rw [if_neg c49] at H
                  have c49b0 : decide (32 < (wrap64 (x185001_13 + 3))) = false := decide_eq_false c49
                  clear c49
                  simp only [Option.some.injEq, Prod.mk.injEq] at H
                  obtain ⟨rfl, rfl, rfl, rfl, rfl⟩ := H
                  have hnb53 := NB184_183.out
                  have hnc53 := NB183_184.out
                  obtain ⟨hcz54_0, hcz54_1, hcz54_2⟩ := cells3_ BK184.out
                  obtain ⟨hfz54_0, hfz54_1, hfz54_2⟩ := froz3_ BK184.out
                  obtain ⟨hcz55_0, hcz55_1, hcz55_2⟩ := cells3_ BK183.out
                  obtain ⟨hfz55_0, hfz55_1, hfz55_2⟩ := froz3_ BK183.out
                  go_wp2
                  refine bodyPost_ret (results_ctt rfl _ _ gb183 73 #[.bool false, .int .i64 0, .slice none 0 0] (0, 0) _ rfl (by (with_reducible repeat (first | refine kN_ ?_ _ | refine kD_ ?_ | refine kA_ ?_ _)); refine blk_put (cs := #[.bool false, .int .i64 0, .slice none 0 0]) ?_ 2 _ rfl; (with_reducible repeat (first | refine kN_ ?_ _ | refine kD_ ?_ | refine kA_ ?_ _)); refine blk_put (cs := #[.bool false, .int .i64 0, .slice none 0 0]) ?_ 1 _ rfl; (with_reducible repeat (first | refine kN_ ?_ _ | refine kD_ ?_ | refine kA_ ?_ _)); refine blk_put (cs := #[.bool false, .int .i64 0, .slice none 0 0]) ?_ 0 _ rfl; (with_reducible repeat (first | refine kN_ ?_ _ | refine kD_ ?_ | refine kA_ ?_ _)); exact BK183.out) Try.underlying73 rfl (by kernel_rfl)) rfl ?_
                  exact ⟨_, by first | rfl | (simp [errW_none, errW_some] <;> rfl) | (simp [*, errW_none, errW_some] <;> rfl), by first | exact Kd.R_nil _ _ _ _ _ | exact Kd.N_nil _ _ _ _ _ | exact Kd.V_nil _ _ _ _ _ | exact Kd.Q_nil _ _ _ _ _ | exact Kd.S_nil _ _ _ _ _, by repeat (first | (with_reducible first | exact HB.out | apply bA_ | apply bN_ | apply bD_ | refine bS_ ?_ GE183.out | refine bS_ ?_ GE184.out) | exact HB.out)⟩
                ·replace c48 := Bool.eq_false_iff.mpr c48
                 subst c48
                 have H1 : (if 0 ≤ x6_13 then (if x6_13 < (a0.size : Int) then (if (bt a0 x6_13) = 47 then (if 0 ≤ (wrap64 (x6_13 + 1)) then (if (wrap64 (x6_13 + 1)) < (a0.size : Int) then (if (wrap64 (bt a0 (wrap64 (x6_13 + 1)))) < 3 then (some (false, 0, ([] : List ByteArray), 0, 3)) else (platformfwref05_ReadPath.j5 kj44 a0 (wrap64 (x6_13 + 2)) (wrap64 (bt a0 (wrap64 (x6_13 + 1)))) x185000_9 x185001_13)) else (none)) else (none)) else (platformfwref05_ReadPath.j5 kj44 a0 x6_13 1 x185000_9 x185001_13)) else (none)) else (none)) = some (r1, r2, r3, r4, r5) := by rw [if_neg (show ¬ (false = true) by decide)] at H; exact H
                 clear H
                 have H := H1
                 clear H1
                 by_cases c56 : 0 ≤ x6_13
                 ·rw [if_pos c56] at H
                  have c56b0 : decide (0 ≤ x6_13) = true := decide_eq_true c56
                  clear c56
                  by_cases c57 : x6_13 < (a0.size : Int)
                  ·rw [if_pos c57] at H
                   have c57b0 : decide (x6_13 < (a0.size : Int)) = true := decide_eq_true c57
                   clear c57
                   by_cases c59 : (bt a0 x6_13) = 47
                   ·rw [if_pos c59] at H
                    have c59b0 : ((bt a0 x6_13) == 47) = true := beq_iff_eq.mpr c59
                    have c59b1 : ((bt a0 x6_13) != 47) = false := bne_eq_false_iff_eq.mpr c59
                    clear c59
                    obtain ⟨ji60, hji60⟩ : ∃ j_ : Int, (wrap64 (x6_13 + 1)) = j_ := ⟨_, rfl⟩
                    replace H : (if 0 ≤ (ji60) then (if (ji60) < (a0.size : Int) then (if (wrap64 (bt a0 (ji60))) < 3 then (some (false, 0, ([] : List ByteArray), 0, 3)) else (platformfwref05_ReadPath.j5 kj44 a0 (wrap64 (x6_13 + 2)) (wrap64 (bt a0 (ji60))) x185000_9 x185001_13)) else (none)) else (none)) = some (r1, r2, r3, r4, r5) := by first | (rw [hji60] at H; exact H) | (simp only [hji60] at H ⊢; exact H)
                    have hji60w : (IntKind.i64.wrap (x6_13 + 1)) = ji60 := (i64_w _).trans hji60
                    by_cases c61 : 0 ≤ (ji60)
                    ·rw [if_pos c61] at H
                     have c61b0 : decide (0 ≤ (ji60)) = true := decide_eq_true c61
                     clear c61
                     by_cases c62 : (ji60) < (a0.size : Int)
                     ·rw [if_pos c62] at H
                      have c62b0 : decide ((ji60) < (a0.size : Int)) = true := decide_eq_true c62
                      clear c62
                      by_cases c64 : (wrap64 (bt a0 (ji60))) < 3
                      ·rw [if_pos c64] at H
                       have c64b0 : decide ((wrap64 (bt a0 (ji60))) < 3) = true := decide_eq_true c64
                       clear c64
                       simp only [Option.some.injEq, Prod.mk.injEq] at H
                       obtain ⟨rfl, rfl, rfl, rfl, rfl⟩ := H
                       have p58 : 0 ≤ (x6_13 : Int) := of_decide_eq_true (by first | (with_reducible assumption) | assumption)
                       have q58 : x6_13 < (a0.size : Int) := of_decide_eq_true (by first | (with_reducible assumption) | assumption)
                       have hx58 := bt_at a0 x6_13
                       replace p58 := eq_true p58
                       replace q58 := eq_true q58
                       have p63 : 0 ≤ ((ji60) : Int) := of_decide_eq_true (by first | (with_reducible assumption) | assumption)
                       have q63 : (ji60) < (a0.size : Int) := of_decide_eq_true (by first | (with_reducible assumption) | assumption)
                       have hx63 := bt_at a0 (ji60)
                       replace p63 := eq_true p63
                       replace q63 := eq_true q63
                       have hnb65 := NB183_184.out
                       have hnc65 := NB184_183.out
                       obtain ⟨hcz66_0, hcz66_1, hcz66_2⟩ := cells3_ BK183.out
                       obtain ⟨hfz66_0, hfz66_1, hfz66_2⟩ := froz3_ BK183.out
                       go_wp2
                       refine bodyPost_ret (results_ctt rfl _ _ gb183 73 #[.bool false, .int .i64 0, .slice none 0 0] (0, 0) _ rfl (by (with_reducible repeat (first | refine kN_ ?_ _ | refine kD_ ?_ | refine kA_ ?_ _)); refine blk_put (cs := #[.bool false, .int .i64 0, .slice none 0 0]) ?_ 2 _ rfl; (with_reducible repeat (first | refine kN_ ?_ _ | refine kD_ ?_ | refine kA_ ?_ _)); refine blk_put (cs := #[.bool false, .int .i64 0, .slice none 0 0]) ?_ 1 _ rfl; (with_reducible repeat (first | refine kN_ ?_ _ | refine kD_ ?_ | refine kA_ ?_ _)); refine blk_put (cs := #[.bool false, .int .i64 0, .slice none 0 0]) ?_ 0 _ rfl; (with_reducible repeat (first | refine kN_ ?_ _ | refine kD_ ?_ | refine kA_ ?_ _)); exact BK183.out) Try.underlying73 rfl (by kernel_rfl)) rfl ?_
                       exact ⟨_, by first | rfl | (simp [errW_none, errW_some] <;> rfl) | (simp only [← hji60]; first | rfl | (simp [errW_none, errW_some] <;> rfl)) | (simp [*, errW_none, errW_some] <;> rfl), by first | exact Kd.R_nil _ _ _ _ _ | exact Kd.N_nil _ _ _ _ _ | exact Kd.V_nil _ _ _ _ _ | exact Kd.Q_nil _ _ _ _ _ | exact Kd.S_nil _ _ _ _ _, by repeat (first | (with_reducible first | exact HB.out | apply bA_ | apply bN_ | apply bD_ | refine bS_ ?_ GE183.out | refine bS_ ?_ GE184.out) | exact HB.out)⟩
                      ·rw [if_neg c64] at H
                       have c64b0 : decide ((wrap64 (bt a0 (ji60))) < 3) = false := decide_eq_false c64
                       clear c64
                       have H' := Aside0.mk H
                       clear H
                       have p58 : 0 ≤ (x6_13 : Int) := of_decide_eq_true (by first | (with_reducible assumption) | assumption)
                       have q58 : x6_13 < (a0.size : Int) := of_decide_eq_true (by first | (with_reducible assumption) | assumption)
                       have hx58 := bt_at a0 x6_13
                       replace p58 := eq_true p58
                       replace q58 := eq_true q58
                       have p63 : 0 ≤ ((ji60) : Int) := of_decide_eq_true (by first | (with_reducible assumption) | assumption)
                       have q63 : (ji60) < (a0.size : Int) := of_decide_eq_true (by first | (with_reducible assumption) | assumption)
                       have hx63 := bt_at a0 (ji60)
                       replace p63 := eq_true p63
                       replace q63 := eq_true q63
                       go_wp2
                       go_meet
                       case rel => exact ⟨_, (wrap64 (x6_13 + 2)), (wrap64 (bt a0 (ji60))), (false), (0), (by first | rfl | (simp; done) | (simp [*]; done)), (by first | rfl | (simp; done) | (simp only [← hji60] <;> (first | rfl | simp)) | (simp [*]; done)), H', ⟨by have := HJ1.out; have := HJ9.out; have := HJ13.out; have := HJ44.out; first | omega | exact Nat.le_refl _⟩, ⟨by (with_reducible repeat (first | refine kN_ ?_ _ | refine kD_ ?_ | refine kA_ ?_ _)); exact BK183.out⟩, ⟨by (with_reducible repeat (first | refine kN_ ?_ _ | refine kD_ ?_ | refine kA_ ?_ _)); exact BK184.out⟩, ⟨by repeat (first | (with_reducible first | exact HB.out | apply bA_ | apply bN_ | apply bD_ | refine bS_ ?_ GE183.out | refine bS_ ?_ GE184.out) | exact HB.out)⟩⟩
                     ·rw [if_neg c62] at H
                      exact absurd H (by simp)
                    ·rw [if_neg c61] at H
                     exact absurd H (by simp)
                   ·rw [if_neg c59] at H
                    have c59b0 : ((bt a0 x6_13) == 47) = false := beq_eq_false_iff_ne.mpr c59
                    have c59b1 : ((bt a0 x6_13) != 47) = true := bne_iff_ne.mpr c59
                    have H' := Aside0.mk H
                    clear H
                    have p58 : 0 ≤ (x6_13 : Int) := of_decide_eq_true (by first | (with_reducible assumption) | assumption)
                    have q58 : x6_13 < (a0.size : Int) := of_decide_eq_true (by first | (with_reducible assumption) | assumption)
                    have hx58 := bt_at a0 x6_13
                    replace p58 := eq_true p58
                    replace q58 := eq_true q58
                    go_wp2
                    go_meet
                    case rel => exact ⟨_, (x6_13), (1), (false), (0), (by first | rfl | (simp; done) | (simp [*]; done)), (by first | rfl | (simp; done) | (simp [*]; done)), H', ⟨by have := HJ1.out; have := HJ9.out; have := HJ13.out; have := HJ44.out; first | omega | exact Nat.le_refl _⟩, ⟨by (with_reducible repeat (first | refine kN_ ?_ _ | refine kD_ ?_ | refine kA_ ?_ _)); exact BK183.out⟩, ⟨by (with_reducible repeat (first | refine kN_ ?_ _ | refine kD_ ?_ | refine kA_ ?_ _)); exact BK184.out⟩, ⟨by repeat (first | (with_reducible first | exact HB.out | apply bA_ | apply bN_ | apply bD_ | refine bS_ ?_ GE183.out | refine bS_ ?_ GE184.out) | exact HB.out)⟩⟩
                  ·rw [if_neg c57] at H
                   exact absurd H (by simp)
                 ·rw [if_neg c56] at H
                  exact absurd H (by simp)
           ·rw [if_neg c40] at H
            exact absurd H (by simp)
          ·rw [if_neg c39] at H
           exact absurd H (by simp)
         case rest =>
          clear HC36
          try clear c1
          try clear c2
          try clear p2
          try clear q2
          try clear hx2
          try clear c3
          try clear c4
          try clear p4
          try clear q4
          try clear hx4
          try clear c5
          try clear p5
          try clear q5
          try clear hx5
          try clear c6
          try clear p6
          try clear q6
          try clear hx6
          try clear c7
          try clear c7b0
          try clear c7b1
          try clear c8
          try clear c8b0
          try clear c8b1
          try clear p9
          try clear q9
          try clear hx9
          try clear qi9
          try clear c11
          try clear c12
          try clear c15
          try clear c16
          try clear c18
          try clear c18b0
          try clear c19
          try clear c19b0
          try clear p20
          try clear q20
          try clear hx20
          try clear c21
          try clear c21b0
          try clear c21b1
          try clear c22
          try clear c24
          try clear c26
          try clear c28
          try clear c28b0
          try clear c29
          try clear c32
          try clear c32b0
          try clear c32b1
          try clear c33
          try clear c37
          try clear c39
          try clear c39b0
          try clear c40
          try clear c40b0
          try clear p41
          try clear q41
          try clear hx41
          try clear c42
          try clear c42b0
          try clear c42b1
          try clear p43
          try clear q43
          try clear hx43
          try clear c44
          try clear c44b0
          try clear c44b1
          try clear p46
          try clear q46
          try clear hx46
          try clear c47
          try clear c47b0
          try clear c47b1
          try clear c48
          try clear c49
          try clear c49b0
          try clear c50
          try clear c53
          try clear c56
          try clear c56b0
          try clear c57
          try clear c57b0
          try clear p58
          try clear q58
          try clear hx58
          try clear c59
          try clear c59b0
          try clear c59b1
          try clear c61
          try clear c61b0
          try clear c62
          try clear c62b0
          try clear p63
          try clear q63
          try clear hx63
          try clear c64
          try clear c64b0
          try clear p64
          try clear c65
          try clear hcz13_0 hcz13_1 hcz13_2
          try clear hcz17_0 hcz17_1 hcz17_2
          try clear hcz23_0 hcz23_1 hcz23_2
          try clear hcz25_0 hcz25_1 hcz25_2
          try clear hcz27_0 hcz27_1 hcz27_2
          try clear hcz30_0 hcz30_1 hcz30_2
          try clear hcz31_0 hcz31_1 hcz31_2
          try clear hcz34_0 hcz34_1 hcz34_2
          try clear hcz35_0 hcz35_1 hcz35_2
          try clear hcz38_0 hcz38_1 hcz38_2
          try clear hcz51_0 hcz51_1 hcz51_2
          try clear hcz52_0 hcz52_1 hcz52_2
          try clear hcz54_0 hcz54_1 hcz54_2
          try clear hcz55_0 hcz55_1 hcz55_2
          try clear hcz66_0 hcz66_1 hcz66_2
          try clear hcz6_0 hcz6_1 hcz6_2
          try clear hfz13_0 hfz13_1 hfz13_2
          try clear hfz17_0 hfz17_1 hfz17_2
          try clear hfz23_0 hfz23_1 hfz23_2
          try clear hfz25_0 hfz25_1 hfz25_2
          try clear hfz27_0 hfz27_1 hfz27_2
          try clear hfz30_0 hfz30_1 hfz30_2
          try clear hfz31_0 hfz31_1 hfz31_2
          try clear hfz34_0 hfz34_1 hfz34_2
          try clear hfz35_0 hfz35_1 hfz35_2
          try clear hfz38_0 hfz38_1 hfz38_2
          try clear hfz51_0 hfz51_1 hfz51_2
          try clear hfz52_0 hfz52_1 hfz52_2
          try clear hfz54_0 hfz54_1 hfz54_2
          try clear hfz55_0 hfz55_1 hfz55_2
          try clear hfz66_0 hfz66_1 hfz66_2
          try clear hfz6_0 hfz6_1 hfz6_2
          try clear p2
          try clear p20
          try clear p4
          try clear p41
          try clear p43
          try clear p46
          try clear p58
          try clear p6
          try clear p63
          try clear p9
          try clear q2
          try clear q20
          try clear q4
          try clear q41
          try clear q43
          try clear q46
          try clear q58
          try clear q63
          try clear q9
          obtain ⟨kq, x6_35, x7_35, x184000_35, x184001_35, rfl, rfl, HA, HJ35, BK183, BK184, HB⟩ := hcut
          cases kq with
          | zero => exact absurd HA.out (by simp [platformfwref05_ReadPath.j5])
          | succ kj35 =>
           have H := HA.out
           clear HA
           simp only [platformfwref05_ReadPath.j5] at H
           have HC67 := Aside0.mk H
           clear H
           go_upto_region 28 with (fail)
           go_cut [115] (fun v115 wc => ∃ (kq : Nat) (x115_66 : Bool), v115 = .bool x115_66 ∧ Aside0 (platformfwref05_ReadPath.j6 kq a0 x6_35 x7_35 x115_66 x185000_9 x185001_13 = some (r1, r2, r3, r4, r5)) ∧ Aside0 (kq ≤ kj35) ∧ Aside0 (wc.heap[gb183]? = some (.cells #[.bool x184000_35, .int .i64 x184001_35, (.slice none 0 0)] 73 (0, 0))) ∧ Aside0 (wc.heap[gb184]? = some (.cells #[.bool x185000_9, .int .i64 x185001_13, (.slice none 0 0)] 73 (0, 0))) ∧ Aside0 (Below w.heap.size w wc))
           case first =>
            have H := HC67.out
            clear HC67
            by_cases c68 : (wrap64 (x185001_13 + x7_35)) > 32
            ·rw [if_pos c68] at H
             have c68b0 : decide (32 < (wrap64 (x185001_13 + x7_35))) = true := decide_eq_true c68
             clear c68
             (first | rw [c68b0] | (simp only [i64_w, i32_w]; rw [c68b0]) | skip)
             have H' := Aside0.mk H
             clear H
             have hnb69 := NB184_183.out
             have hnc69 := NB183_184.out
             obtain ⟨hcz70_0, hcz70_1, hcz70_2⟩ := cells3_ BK184.out
             obtain ⟨hfz70_0, hfz70_1, hfz70_2⟩ := froz3_ BK184.out
             go_wp2
             go_meet
             case rel => exact ⟨_, (true), (by first | rfl | (simp; done) | (simp [*]; done)), H', ⟨by have := HJ1.out; have := HJ9.out; have := HJ13.out; have := HJ35.out; first | omega | exact Nat.le_refl _⟩, ⟨by (with_reducible repeat (first | refine kN_ ?_ _ | refine kD_ ?_ | refine kA_ ?_ _)); exact BK183.out⟩, ⟨by (with_reducible repeat (first | refine kN_ ?_ _ | refine kD_ ?_ | refine kA_ ?_ _)); exact BK184.out⟩, ⟨by repeat (first | (with_reducible first | exact HB.out | apply bA_ | apply bN_ | apply bD_ | refine bS_ ?_ GE183.out | refine bS_ ?_ GE184.out) | exact HB.out)⟩⟩
            ·rw [if_neg c68] at H
             have c68b0 : decide (32 < (wrap64 (x185001_13 + x7_35))) = false := decide_eq_false c68
             clear c68
             (first | rw [c68b0] | (simp only [i64_w, i32_w]; rw [c68b0]) | skip)
             by_cases c71 : x7_35 = 0
             ·rw [if_pos c71] at H
              have c71b0 : (x7_35 == 0) = true := beq_iff_eq.mpr c71
              have c71b1 : (x7_35 != 0) = false := bne_eq_false_iff_eq.mpr c71
              clear c71
              by_cases c72 : x185000_9 = true
              ·subst c72
               have H1 : (platformfwref05_ReadPath.j6 kj35 a0 x6_35 x7_35 false true x185001_13) = some (r1, r2, r3, r4, r5) := by rw [if_pos rfl] at H; exact H
               clear H
               have H := H1
               clear H1
               have H' := Aside0.mk H
               clear H
               have hnb73 := NB184_183.out
               have hnc73 := NB183_184.out
               obtain ⟨hcz74_0, hcz74_1, hcz74_2⟩ := cells3_ BK184.out
               obtain ⟨hfz74_0, hfz74_1, hfz74_2⟩ := froz3_ BK184.out
               go_wp2
               go_meet
               case rel => exact ⟨_, (false), (by first | rfl | (simp; done) | (simp [*]; done)), H', ⟨by have := HJ1.out; have := HJ9.out; have := HJ13.out; have := HJ35.out; first | omega | exact Nat.le_refl _⟩, ⟨by (with_reducible repeat (first | refine kN_ ?_ _ | refine kD_ ?_ | refine kA_ ?_ _)); exact BK183.out⟩, ⟨by (with_reducible repeat (first | refine kN_ ?_ _ | refine kD_ ?_ | refine kA_ ?_ _)); exact BK184.out⟩, ⟨by repeat (first | (with_reducible first | exact HB.out | apply bA_ | apply bN_ | apply bD_ | refine bS_ ?_ GE183.out | refine bS_ ?_ GE184.out) | exact HB.out)⟩⟩
              ·replace c72 := Bool.eq_false_iff.mpr c72
               subst c72
               have H1 : (platformfwref05_ReadPath.j6 kj35 a0 x6_35 x7_35 (x185001_13 == 0) false x185001_13) = some (r1, r2, r3, r4, r5) := by rw [if_neg (show ¬ (false = true) by decide)] at H; exact H
               clear H
               have H := H1
               clear H1
               have H' := Aside0.mk H
               clear H
               have hnb75 := NB184_183.out
               have hnc75 := NB183_184.out
               obtain ⟨hcz76_0, hcz76_1, hcz76_2⟩ := cells3_ BK184.out
               obtain ⟨hfz76_0, hfz76_1, hfz76_2⟩ := froz3_ BK184.out
               go_wp2
               go_meet
               case rel => exact ⟨_, ((x185001_13 == 0)), (by first | rfl | (simp; done) | (simp [*]; done)), H', ⟨by have := HJ1.out; have := HJ9.out; have := HJ13.out; have := HJ35.out; first | omega | exact Nat.le_refl _⟩, ⟨by (with_reducible repeat (first | refine kN_ ?_ _ | refine kD_ ?_ | refine kA_ ?_ _)); exact BK183.out⟩, ⟨by (with_reducible repeat (first | refine kN_ ?_ _ | refine kD_ ?_ | refine kA_ ?_ _)); exact BK184.out⟩, ⟨by repeat (first | (with_reducible first | exact HB.out | apply bA_ | apply bN_ | apply bD_ | refine bS_ ?_ GE183.out | refine bS_ ?_ GE184.out) | exact HB.out)⟩⟩
             ·rw [if_neg c71] at H
              have c71b0 : (x7_35 == 0) = false := beq_eq_false_iff_ne.mpr c71
              have c71b1 : (x7_35 != 0) = true := bne_iff_ne.mpr c71
              have H' := Aside0.mk H
              clear H
              have hnb77 := NB184_183.out
              have hnc77 := NB183_184.out
              obtain ⟨hcz78_0, hcz78_1, hcz78_2⟩ := cells3_ BK184.out
              obtain ⟨hfz78_0, hfz78_1, hfz78_2⟩ := froz3_ BK184.out
              go_wp2
              go_meet
              case rel => exact ⟨_, (false), (by first | rfl | (simp; done) | (simp [*]; done)), H', ⟨by have := HJ1.out; have := HJ9.out; have := HJ13.out; have := HJ35.out; first | omega | exact Nat.le_refl _⟩, ⟨by (with_reducible repeat (first | refine kN_ ?_ _ | refine kD_ ?_ | refine kA_ ?_ _)); exact BK183.out⟩, ⟨by (with_reducible repeat (first | refine kN_ ?_ _ | refine kD_ ?_ | refine kA_ ?_ _)); exact BK184.out⟩, ⟨by repeat (first | (with_reducible first | exact HB.out | apply bA_ | apply bN_ | apply bD_ | refine bS_ ?_ GE183.out | refine bS_ ?_ GE184.out) | exact HB.out)⟩⟩
           case rest =>
            clear HC67
            try clear c1
            try clear c2
            try clear p2
            try clear q2
            try clear hx2
            try clear c3
            try clear c4
            try clear p4
            try clear q4
            try clear hx4
            try clear c5
            try clear p5
            try clear q5
            try clear hx5
            try clear c6
            try clear p6
            try clear q6
            try clear hx6
            try clear c7
            try clear c7b0
            try clear c7b1
            try clear c8
            try clear c8b0
            try clear c8b1
            try clear p9
            try clear q9
            try clear hx9
            try clear qi9
            try clear c11
            try clear c12
            try clear c15
            try clear c16
            try clear c18
            try clear c18b0
            try clear c19
            try clear c19b0
            try clear p20
            try clear q20
            try clear hx20
            try clear c21
            try clear c21b0
            try clear c21b1
            try clear c22
            try clear c24
            try clear c26
            try clear c28
            try clear c28b0
            try clear c29
            try clear c32
            try clear c32b0
            try clear c32b1
            try clear c33
            try clear c37
            try clear c39
            try clear c39b0
            try clear c40
            try clear c40b0
            try clear p41
            try clear q41
            try clear hx41
            try clear c42
            try clear c42b0
            try clear c42b1
            try clear p43
            try clear q43
            try clear hx43
            try clear c44
            try clear c44b0
            try clear c44b1
            try clear p46
            try clear q46
            try clear hx46
            try clear c47
            try clear c47b0
            try clear c47b1
            try clear c48
            try clear c49
            try clear c49b0
            try clear c50
            try clear c53
            try clear c56
            try clear c56b0
            try clear c57
            try clear c57b0
            try clear p58
            try clear q58
            try clear hx58
            try clear c59
            try clear c59b0
            try clear c59b1
            try clear c61
            try clear c61b0
            try clear c62
            try clear c62b0
            try clear p63
            try clear q63
            try clear hx63
            try clear c64
            try clear c64b0
            try clear p64
            try clear c65
            try clear c68
            try clear c68b0
            try clear c69
            try clear c71
            try clear c71b0
            try clear c71b1
            try clear c72
            try clear c73
            try clear c75
            try clear c77
            try clear hcz13_0 hcz13_1 hcz13_2
            try clear hcz17_0 hcz17_1 hcz17_2
            try clear hcz23_0 hcz23_1 hcz23_2
            try clear hcz25_0 hcz25_1 hcz25_2
            try clear hcz27_0 hcz27_1 hcz27_2
            try clear hcz30_0 hcz30_1 hcz30_2
            try clear hcz31_0 hcz31_1 hcz31_2
            try clear hcz34_0 hcz34_1 hcz34_2
            try clear hcz35_0 hcz35_1 hcz35_2
            try clear hcz38_0 hcz38_1 hcz38_2
            try clear hcz51_0 hcz51_1 hcz51_2
            try clear hcz52_0 hcz52_1 hcz52_2
            try clear hcz54_0 hcz54_1 hcz54_2
            try clear hcz55_0 hcz55_1 hcz55_2
            try clear hcz66_0 hcz66_1 hcz66_2
            try clear hcz6_0 hcz6_1 hcz6_2
            try clear hcz70_0 hcz70_1 hcz70_2
            try clear hcz74_0 hcz74_1 hcz74_2
            try clear hcz76_0 hcz76_1 hcz76_2
            try clear hcz78_0 hcz78_1 hcz78_2
            try clear hfz13_0 hfz13_1 hfz13_2
            try clear hfz17_0 hfz17_1 hfz17_2
            try clear hfz23_0 hfz23_1 hfz23_2
            try clear hfz25_0 hfz25_1 hfz25_2
            try clear hfz27_0 hfz27_1 hfz27_2
            try clear hfz30_0 hfz30_1 hfz30_2
            try clear hfz31_0 hfz31_1 hfz31_2
            try clear hfz34_0 hfz34_1 hfz34_2
            try clear hfz35_0 hfz35_1 hfz35_2
            try clear hfz38_0 hfz38_1 hfz38_2
            try clear hfz51_0 hfz51_1 hfz51_2
            try clear hfz52_0 hfz52_1 hfz52_2
            try clear hfz54_0 hfz54_1 hfz54_2
            try clear hfz55_0 hfz55_1 hfz55_2
            try clear hfz66_0 hfz66_1 hfz66_2
            try clear hfz6_0 hfz6_1 hfz6_2
            try clear hfz70_0 hfz70_1 hfz70_2
            try clear hfz74_0 hfz74_1 hfz74_2
            try clear hfz76_0 hfz76_1 hfz76_2
            try clear hfz78_0 hfz78_1 hfz78_2
            try clear p2
            try clear p20
            try clear p4
            try clear p41
            try clear p43
            try clear p46
            try clear p5
            try clear p58
            try clear p6
            try clear p63
            try clear p64
            try clear p9
            try clear q2
            try clear q20
            try clear q4
            try clear q41
            try clear q43
            try clear q46
            try clear q5
            try clear q58
            try clear q6
            try clear q63
            try clear q9
            obtain ⟨kq, x115_66, rfl, HA, HJ66, BK183, BK184, HB⟩ := hcut
            cases kq with
            | zero => exact absurd HA.out (by simp [platformfwref05_ReadPath.j6])
            | succ kj66 =>
             have H := HA.out
             clear HA
             simp only [platformfwref05_ReadPath.j6] at H
             by_cases c79 : x115_66 = true
             ·subst c79
              have H1 : (some (false, 0, ([] : List ByteArray), 0, 3)) = some (r1, r2, r3, r4, r5) := by rw [if_pos rfl] at H; exact H
              clear H
              have H := H1
              clear H1
              simp only [Option.some.injEq, Prod.mk.injEq] at H
              obtain ⟨rfl, rfl, rfl, rfl, rfl⟩ := H
              have hnb80 := NB183_184.out
              have hnc80 := NB184_183.out
              obtain ⟨hcz81_0, hcz81_1, hcz81_2⟩ := cells3_ BK183.out
              obtain ⟨hfz81_0, hfz81_1, hfz81_2⟩ := froz3_ BK183.out
              go_wp2
              refine bodyPost_ret (results_ctt rfl _ _ gb183 73 #[.bool false, .int .i64 0, .slice none 0 0] (0, 0) _ rfl (by (with_reducible repeat (first | refine kN_ ?_ _ | refine kD_ ?_ | refine kA_ ?_ _)); refine blk_put (cs := #[.bool false, .int .i64 0, .slice none 0 0]) ?_ 2 _ rfl; (with_reducible repeat (first | refine kN_ ?_ _ | refine kD_ ?_ | refine kA_ ?_ _)); refine blk_put (cs := #[.bool false, .int .i64 x184001_35, .slice none 0 0]) ?_ 1 _ rfl; (with_reducible repeat (first | refine kN_ ?_ _ | refine kD_ ?_ | refine kA_ ?_ _)); refine blk_put (cs := #[.bool x184000_35, .int .i64 x184001_35, .slice none 0 0]) ?_ 0 _ rfl; (with_reducible repeat (first | refine kN_ ?_ _ | refine kD_ ?_ | refine kA_ ?_ _)); exact BK183.out) Try.underlying73 rfl (by kernel_rfl)) rfl ?_
              exact ⟨_, by first | rfl | (simp [errW_none, errW_some] <;> rfl) | (simp [*, errW_none, errW_some] <;> rfl), by first | exact Kd.R_nil _ _ _ _ _ | exact Kd.N_nil _ _ _ _ _ | exact Kd.V_nil _ _ _ _ _ | exact Kd.Q_nil _ _ _ _ _ | exact Kd.S_nil _ _ _ _ _, by repeat (first | (with_reducible first | exact HB.out | apply bA_ | apply bN_ | apply bD_ | refine bS_ ?_ GE183.out | refine bS_ ?_ GE184.out) | exact HB.out)⟩
             ·replace c79 := Bool.eq_false_iff.mpr c79
              subst c79
              have H1 : (platformfwref05_ReadPath.l1 kj66 a0 x6_35 x7_35 0 x185000_9 x185001_13 ([] : List ByteArray)) = some (r1, r2, r3, r4, r5) := by rw [if_neg (show ¬ (false = true) by decide)] at H; exact H
              clear H
              have H := H1
              clear H1
              have H' := Aside0.mk H
              clear H
              go_wp2
              go_loopg [6, 8] kj66 (fun kq v6 v8 w' => ∃ (x6_6 : Int) (x8_6 : Int) (x184000_6 : Bool) (x184001_6 : Int) (x185002_6 : List ByteArray) (u185002 : Value), v6 = .int .i64 x6_6 ∧ v8 = .int .i64 x8_6 ∧ Aside0 (platformfwref05_ReadPath.l1 kq a0 x6_6 x7_35 x8_6 x185000_9 x185001_13 x185002_6 = some (r1, r2, r3, r4, r5)) ∧ Aside0 (kq ≤ kj66) ∧ Aside0 (Kd.R Kd.string 9 w' w.heap.size (fun _ => True) u185002 x185002_6) ∧ Aside0 (w'.heap[gb183]? = some (.cells #[.bool x184000_6, .int .i64 x184001_6, (.slice none 0 0)] 73 (0, 0))) ∧ Aside0 (w'.heap[gb184]? = some (.cells #[.bool x185000_9, .int .i64 x185001_13, u185002] 73 (0, 0))) ∧ Aside0 (Below w.heap.size w w'))
              case atStart => exact ⟨(x6_35), (0), (x184000_35), (x184001_35), (([] : List ByteArray)), (.slice none 0 0), (by first | rfl | (simp; done) | (simp [*]; done)), (by first | rfl | (simp; done) | (simp [*]; done)), H', ⟨Nat.le_refl _⟩, ⟨by first | exact Kd.R_nil _ _ _ _ _ | exact Kd.N_nil _ _ _ _ _ | exact Kd.V_nil _ _ _ _ _ | exact Kd.Q_nil _ _ _ _ _ | exact Kd.S_nil _ _ _ _ _⟩, ⟨by (with_reducible repeat (first | refine kN_ ?_ _ | refine kD_ ?_ | refine kA_ ?_ _)); exact BK183.out⟩, ⟨by (with_reducible repeat (first | refine kN_ ?_ _ | refine kD_ ?_ | refine kA_ ?_ _)); exact BK184.out⟩, ⟨by repeat (first | (with_reducible first | exact HB.out | apply bA_ | apply bN_ | apply bD_ | refine bS_ ?_ GE183.out | refine bS_ ?_ GE184.out) | exact HB.out)⟩⟩
              case round =>
               clear H'
               try clear c1
               try clear c2
               try clear p2
               try clear q2
               try clear hx2
               try clear c3
               try clear c4
               try clear p4
               try clear q4
               try clear hx4
               try clear c5
               try clear p5
               try clear q5
               try clear hx5
               try clear c6
               try clear p6
               try clear q6
               try clear hx6
               try clear c7
               try clear c7b0
               try clear c7b1
               try clear c8
               try clear c8b0
               try clear c8b1
               try clear p9
               try clear q9
               try clear hx9
               try clear qi9
               try clear c11
               try clear c12
               try clear c15
               try clear c16
               try clear c18
               try clear c18b0
               try clear c19
               try clear c19b0
               try clear p20
               try clear q20
               try clear hx20
               try clear c21
               try clear c21b0
               try clear c21b1
               try clear c22
               try clear c24
               try clear c26
               try clear c28
               try clear c28b0
               try clear c29
               try clear c32
               try clear c32b0
               try clear c32b1
               try clear c33
               try clear c37
               try clear c39
               try clear c39b0
               try clear c40
               try clear c40b0
               try clear p41
               try clear q41
               try clear hx41
               try clear c42
               try clear c42b0
               try clear c42b1
               try clear p43
               try clear q43
               try clear hx43
               try clear c44
               try clear c44b0
               try clear c44b1
               try clear p46
               try clear q46
               try clear hx46
               try clear c47
               try clear c47b0
               try clear c47b1
               try clear c48
               try clear c49
               try clear c49b0
               try clear c50
               try clear c53
               try clear c56
               try clear c56b0
               try clear c57
               try clear c57b0
               try clear p58
               try clear q58
               try clear hx58
               try clear c59
               try clear c59b0
               try clear c59b1
               try clear c61
               try clear c61b0
               try clear c62
               try clear c62b0
               try clear p63
               try clear q63
               try clear hx63
               try clear c64
               try clear c64b0
               try clear p64
               try clear c65
               try clear c68
               try clear c68b0
               try clear c69
               try clear c71
               try clear c71b0
               try clear c71b1
               try clear c72
               try clear c73
               try clear c75
               try clear c77
               try clear c79
               try clear c80
               try clear hcz13_0 hcz13_1 hcz13_2
               try clear hcz17_0 hcz17_1 hcz17_2
               try clear hcz23_0 hcz23_1 hcz23_2
               try clear hcz25_0 hcz25_1 hcz25_2
               try clear hcz27_0 hcz27_1 hcz27_2
               try clear hcz30_0 hcz30_1 hcz30_2
               try clear hcz31_0 hcz31_1 hcz31_2
               try clear hcz34_0 hcz34_1 hcz34_2
               try clear hcz35_0 hcz35_1 hcz35_2
               try clear hcz38_0 hcz38_1 hcz38_2
               try clear hcz51_0 hcz51_1 hcz51_2
               try clear hcz52_0 hcz52_1 hcz52_2
               try clear hcz54_0 hcz54_1 hcz54_2
               try clear hcz55_0 hcz55_1 hcz55_2
               try clear hcz66_0 hcz66_1 hcz66_2
               try clear hcz6_0 hcz6_1 hcz6_2
               try clear hcz70_0 hcz70_1 hcz70_2
               try clear hcz74_0 hcz74_1 hcz74_2
               try clear hcz76_0 hcz76_1 hcz76_2
               try clear hcz78_0 hcz78_1 hcz78_2
               try clear hcz81_0 hcz81_1 hcz81_2
               try clear hfz13_0 hfz13_1 hfz13_2
               try clear hfz17_0 hfz17_1 hfz17_2
               try clear hfz23_0 hfz23_1 hfz23_2
               try clear hfz25_0 hfz25_1 hfz25_2
               try clear hfz27_0 hfz27_1 hfz27_2
               try clear hfz30_0 hfz30_1 hfz30_2
               try clear hfz31_0 hfz31_1 hfz31_2
               try clear hfz34_0 hfz34_1 hfz34_2
               try clear hfz35_0 hfz35_1 hfz35_2
               try clear hfz38_0 hfz38_1 hfz38_2
               try clear hfz51_0 hfz51_1 hfz51_2
               try clear hfz52_0 hfz52_1 hfz52_2
               try clear hfz54_0 hfz54_1 hfz54_2
               try clear hfz55_0 hfz55_1 hfz55_2
               try clear hfz66_0 hfz66_1 hfz66_2
               try clear hfz6_0 hfz6_1 hfz6_2
               try clear hfz70_0 hfz70_1 hfz70_2
               try clear hfz74_0 hfz74_1 hfz74_2
               try clear hfz76_0 hfz76_1 hfz76_2
               try clear hfz78_0 hfz78_1 hfz78_2
               try clear hfz81_0 hfz81_1 hfz81_2
               try clear p2
               try clear p20
               try clear p4
               try clear p41
               try clear p43
               try clear p46
               try clear p5
               try clear p58
               try clear p6
               try clear p63
               try clear p64
               try clear p9
               try clear q2
               try clear q20
               try clear q4
               try clear q41
               try clear q43
               try clear q46
               try clear q5
               try clear q58
               try clear q6
               try clear q63
               try clear q9
               obtain ⟨x6_6, x8_6, x184000_6, x184001_6, x185002_6, u185002, rfl, rfl, HA, HK6, HO_185002, BK183, BK184, HB⟩ := hrel
               cases gk with
               | zero => exact absurd HA.out (by simp [platformfwref05_ReadPath.l1])
               | succ k6 =>
                have H := HA.out
                clear HA
                simp only [platformfwref05_ReadPath.l1] at H
                by_cases c82 : x8_6 < x7_35
                ·rw [if_pos c82] at H
                 have c82b0 : decide (x8_6 < x7_35) = true := decide_eq_true c82
                 clear c82
                 by_cases c83 : 0 ≤ x6_6
                 ·rw [if_pos c83] at H
                  have c83b0 := eq_true c83
                  have c83b1 : decide (0 ≤ x6_6) = true := decide_eq_true c83
                  clear c83
                  by_cases c84 : x6_6 ≤ (a0.size : Int)
                  ·rw [if_pos c84] at H
                   have c84b0 := eq_true c84
                   have c84b1 : decide (x6_6 ≤ (a0.size : Int)) = true := decide_eq_true c84
                   clear c84
                   replace H := Option.bind_eq_some_iff.mp H
                   obtain ⟨⟨t185, t186⟩, A850, H⟩ := H
                   replace H : (if t186 = 0 then (if x185002_6.length < 8796093022208 then (platformfwref05_ReadPath.l1 k6 a0 (wrap64 (x6_6 + 4)) x7_35 (wrap64 (x8_6 + 1)) x185000_9 x185001_13 (x185002_6 ++ [t185])) else (none)) else (some (false, 0, ([] : List ByteArray), 0, t186))) = some (r1, r2, r3, r4, r5) := H
                   have A85 := Aside0.mk A850
                   clear A850
                   by_cases c86 : t186 = 0
                   ·rw [if_pos c86] at H
                    have c86b0 : (t186 == 0) = true := beq_iff_eq.mpr c86
                    have c86b1 : (t186 != 0) = false := bne_eq_false_iff_eq.mpr c86
                    clear c86
                    by_cases c87 : x185002_6.length < 8796093022208
                    ·rw [if_pos c87] at H
                     have LMc87 := Aside0.mk c87
                     clear c87
                     obtain ⟨y187, hy187⟩ : ∃ y_ : List ByteArray, y_ = (x185002_6 ++ [t185]) := ⟨_, rfl⟩
                     replace H : (platformfwref05_ReadPath.l1 k6 a0 (wrap64 (x6_6 + 4)) x7_35 (wrap64 (x8_6 + 1)) x185000_9 x185001_13 y187) = some (r1, r2, r3, r4, r5) := by first | (rw [hy187]; with_reducible exact H) | (have H2_ := (Option.bind_some _ _).symm.trans H; rw [hy187]; with_reducible exact H2_) | (have H2_ := (Option.bind_some _ _).symm.trans H; with_reducible exact H2_) | with_reducible exact H | (rw [hy187]; exact H) | exact H
                     have Ny187 := Aside0.mk hy187
                     clear hy187
                     have H' := Aside0.mk H
                     clear H
                     go_wp2_with (first | ((with_reducible refine gate_callee (f := 75) rfl ?_); refine goesL_ (some 126) rfl rfl Try.func75 (by kernel_rfl) rfl #[.string (a0.extract (x6_6 : Int).toNat a0.size)] rfl (by (try simp only [List.map_toArray, List.map_cons, List.map_nil]); first | done | rfl | (simp only [List.length_drop, List.length_take]; rfl)) ?_; (with_reducible refine (platformfwref05_segment.calls k6 (a0.extract (x6_6 : Int).toNat a0.size) t185 t186 _ A85.out).mono ?_); rintro e w' ⟨rfl, ⟨nd, rfl⟩⟩; refine ⟨_, rfl, ?_⟩; (try (rw [drewN_self wr]; generalize hq_ : World.drewN wr _ = wr; have n0_ : Aside0 (Kd.R Kd.string 9 wr w.heap.size (fun _ => True) u185002 x185002_6) := ⟨by rw [← hq_]; exact (by (with_reducible repeat (first | apply Kd.R_alloc | apply Kd.R_drewN | apply Kd.R_drew)); exact HO_185002.out)⟩; have n1_ : Aside0 (wr.heap[gb183]? = some (.cells #[.bool x184000_6, .int .i64 x184001_6, .slice none 0 0] 73 (0, 0))) := ⟨by rw [← hq_]; exact (by (with_reducible repeat (first | refine kN_ ?_ _ | refine kD_ ?_ | refine kA_ ?_ _)); exact BK183.out)⟩; have n2_ : Aside0 (wr.heap[gb184]? = some (.cells #[.bool x185000_9, .int .i64 x185001_13, u185002] 73 (0, 0))) := ⟨by rw [← hq_]; exact (by (with_reducible repeat (first | refine kN_ ?_ _ | refine kD_ ?_ | refine kA_ ?_ _)); exact BK184.out)⟩; have n3_ : Aside0 (Below w.heap.size w wr) := ⟨by rw [← hq_]; exact (by repeat (first | (with_reducible first | exact HB.out | apply bA_ | apply bN_ | apply bD_ | refine bS_ ?_ GE183.out | refine bS_ ?_ GE184.out) | exact HB.out))⟩; clear HO_185002 BK183 BK184 HB hq_; have HO_185002 := n0_; have BK183 := n1_; have BK184 := n2_; have HB := n3_; clear n0_ n1_ n2_ n3_)); have hnb88 := NB184_183.out; have hnc88 := NB183_184.out; obtain ⟨hcz89_0, hcz89_1, hcz89_2⟩ := cells3_ BK184.out; obtain ⟨hfz89_0, hfz89_1, hfz89_2⟩ := froz3_ BK184.out) | ((with_reducible refine gate_builtin (b := .append) (xs := #[.tmp 134, .tmp 136]) rfl ?_); (try (refine gate_guard (by rfl) ?_; dsimp only)); at_builtin; refine Kd.R_append Kd.string (w0 := w) w.heap.size rfl (.tmp 134) (.tmp 136) 71 9 (.string ⟨#[]⟩) 16 rfl Try.underlying71 info9 rfl (by decide) (by omega) u185002 x185002_6 t185 [.string t185] (fun _ => True) (fun _ => False) rfl rfl ?aP (fun _ hk => hk.elim) ?aF ?aO ?aB ?aS ?aL ?_; (case aP => exact rfl); (case aB => exact (by repeat (first | (with_reducible first | exact HB.out | apply bA_ | apply bN_ | apply bD_ | refine bS_ ?_ GE183.out | refine bS_ ?_ GE184.out) | exact HB.out))); (case aF => exact (fun _ _ => trivial)); (case aO => exact (by (with_reducible repeat (first | apply Kd.R_alloc | apply Kd.R_drewN | apply Kd.R_drew)); exact HO_185002.out)); (case aS => exact (below_size (by repeat (first | (with_reducible first | exact HB.out | apply bA_ | apply bN_ | apply bD_ | refine bS_ ?_ GE183.out | refine bS_ ?_ GE184.out) | exact HB.out)))); (case aL => have := LMc87.out; omega); intro v188 w90 ho hb hg hat; rw [← Ny187.out] at ho; have n0_ := Aside0.mk (blk_grown (g := gb183) (o := .cells #[.bool x184000_6, .int .i64 x184001_6, .slice none 0 0] 73 (0, 0)) (by (with_reducible repeat (first | refine kN_ ?_ _ | refine kD_ ?_ | refine kA_ ?_ _)); exact BK183.out) hg (Kd.R_ne HO_185002.out BK183.out (by decide))); have n1_ := Aside0.mk (blk_grown (g := gb184) (o := .cells #[.bool x185000_9, .int .i64 x185001_13, u185002] 73 (0, 0)) (by (with_reducible repeat (first | refine kN_ ?_ _ | refine kD_ ?_ | refine kA_ ?_ _)); exact BK184.out) hg (Kd.R_ne HO_185002.out BK184.out (by decide))); have n2_ := Aside0.mk (hb); have n3_ := Aside0.mk (ho); clear BK183; clear BK184; clear HB; clear HO_185002; have BK183 := n0_; have BK184 := n1_; have HB := n2_; have HO189 := n3_; clear n0_ n1_ n2_ n3_; clear ho hb hg hat; obtain ⟨Ao91, co91, eo91⟩ := Kd.R_slice HO189.out; subst eo91; obtain ⟨hcz92_0, hcz92_1, hcz92_2⟩ := cells3_ BK184.out; obtain ⟨hfz92_0, hfz92_1, hfz92_2⟩ := froz3_ BK184.out))
                     go_roundg k6
                     case measure => have := HJ1.out; have := HJ9.out; have := HJ13.out; have := HJ35.out; have := HJ66.out; have := HK6.out; omega
                     case rel => exact ⟨(wrap64 (x6_6 + 4)), (wrap64 (x8_6 + 1)), (x184000_6), (x184001_6), (y187), (.slice Ao91 y187.length co91), (by first | rfl | (simp; done) | (simp [*]; done)), (by first | rfl | (simp; done) | (simp [*]; done)), H', ⟨by have := HJ1.out; have := HJ9.out; have := HJ13.out; have := HJ35.out; have := HJ66.out; have := HK6.out; omega⟩, ⟨by (with_reducible repeat (first | apply Kd.R_alloc | apply Kd.R_drewN | apply Kd.R_drew)); exact Kd.R_mono (Kd.R_far (p := ⟨gb184, 2, none⟩) (Kd.R_types HO189.out BK184.out (by decide)) (fun _ hk => hk.2) (.slice Ao91 y187.length co91)) (fun _ hk => trivial)⟩, ⟨by (with_reducible repeat (first | refine kN_ ?_ _ | refine kD_ ?_ | refine kA_ ?_ _)); refine blk_far ?_ NB183_184.out _; (with_reducible repeat (first | refine kN_ ?_ _ | refine kD_ ?_ | refine kA_ ?_ _)); exact BK183.out⟩, ⟨by (with_reducible repeat (first | refine kN_ ?_ _ | refine kD_ ?_ | refine kA_ ?_ _)); refine blk_put (cs := #[.bool x185000_9, .int .i64 x185001_13, u185002]) ?_ 2 _ rfl; (with_reducible repeat (first | refine kN_ ?_ _ | refine kD_ ?_ | refine kA_ ?_ _)); exact BK184.out⟩, ⟨by repeat (first | (with_reducible first | exact HB.out | apply bA_ | apply bN_ | apply bD_ | refine bS_ ?_ GE183.out | refine bS_ ?_ GE184.out) | exact HB.out)⟩⟩
                    ·rw [if_neg c87] at H
                     exact absurd H (by simp)
                   ·rw [if_neg c86] at H
                    have c86b0 : (t186 == 0) = false := beq_eq_false_iff_ne.mpr c86
                    have c86b1 : (t186 != 0) = true := bne_iff_ne.mpr c86
                    simp only [Option.some.injEq, Prod.mk.injEq] at H
                    obtain ⟨rfl, rfl, rfl, rfl, rfl⟩ := H
                    go_wp2_with (first | ((with_reducible refine gate_callee (f := 75) rfl ?_); refine goesL_ (some 126) rfl rfl Try.func75 (by kernel_rfl) rfl #[.string (a0.extract (x6_6 : Int).toNat a0.size)] rfl (by (try simp only [List.map_toArray, List.map_cons, List.map_nil]); first | done | rfl | (simp only [List.length_drop, List.length_take]; rfl)) ?_; (with_reducible refine (platformfwref05_segment.calls k6 (a0.extract (x6_6 : Int).toNat a0.size) t185 t186 _ A85.out).mono ?_); rintro e w' ⟨rfl, ⟨nd, rfl⟩⟩; refine ⟨_, rfl, ?_⟩; (try (rw [drewN_self wr]; generalize hq_ : World.drewN wr _ = wr; have n0_ : Aside0 (Kd.R Kd.string 9 wr w.heap.size (fun _ => True) u185002 x185002_6) := ⟨by rw [← hq_]; exact (by (with_reducible repeat (first | apply Kd.R_alloc | apply Kd.R_drewN | apply Kd.R_drew)); exact HO_185002.out)⟩; have n1_ : Aside0 (wr.heap[gb183]? = some (.cells #[.bool x184000_6, .int .i64 x184001_6, .slice none 0 0] 73 (0, 0))) := ⟨by rw [← hq_]; exact (by (with_reducible repeat (first | refine kN_ ?_ _ | refine kD_ ?_ | refine kA_ ?_ _)); exact BK183.out)⟩; have n2_ : Aside0 (wr.heap[gb184]? = some (.cells #[.bool x185000_9, .int .i64 x185001_13, u185002] 73 (0, 0))) := ⟨by rw [← hq_]; exact (by (with_reducible repeat (first | refine kN_ ?_ _ | refine kD_ ?_ | refine kA_ ?_ _)); exact BK184.out)⟩; have n3_ : Aside0 (Below w.heap.size w wr) := ⟨by rw [← hq_]; exact (by repeat (first | (with_reducible first | exact HB.out | apply bA_ | apply bN_ | apply bD_ | refine bS_ ?_ GE183.out | refine bS_ ?_ GE184.out) | exact HB.out))⟩; clear HO_185002 BK183 BK184 HB hq_; have HO_185002 := n0_; have BK183 := n1_; have BK184 := n2_; have HB := n3_; clear n0_ n1_ n2_ n3_)); have hnb93 := NB183_184.out; have hnc93 := NB184_183.out; obtain ⟨hcz94_0, hcz94_1, hcz94_2⟩ := cells3_ BK183.out; obtain ⟨hfz94_0, hfz94_1, hfz94_2⟩ := froz3_ BK183.out))
                    refine bodyPost_ret (results_ctt rfl _ _ gb183 73 #[.bool false, .int .i64 0, .slice none 0 0] (0, 0) _ rfl (by (with_reducible repeat (first | refine kN_ ?_ _ | refine kD_ ?_ | refine kA_ ?_ _)); refine blk_put (cs := #[.bool false, .int .i64 0, .slice none 0 0]) ?_ 2 _ rfl; (with_reducible repeat (first | refine kN_ ?_ _ | refine kD_ ?_ | refine kA_ ?_ _)); refine blk_put (cs := #[.bool false, .int .i64 x184001_6, .slice none 0 0]) ?_ 1 _ rfl; (with_reducible repeat (first | refine kN_ ?_ _ | refine kD_ ?_ | refine kA_ ?_ _)); refine blk_put (cs := #[.bool x184000_6, .int .i64 x184001_6, .slice none 0 0]) ?_ 0 _ rfl; (with_reducible repeat (first | refine kN_ ?_ _ | refine kD_ ?_ | refine kA_ ?_ _)); exact BK183.out) Try.underlying73 rfl (by kernel_rfl)) rfl ?_
                    exact ⟨_, by first | rfl | (simp [errW_none, errW_some] <;> rfl) | (simp [*, errW_none, errW_some] <;> rfl), by first | exact Kd.R_nil _ _ _ _ _ | exact Kd.N_nil _ _ _ _ _ | exact Kd.V_nil _ _ _ _ _ | exact Kd.Q_nil _ _ _ _ _ | exact Kd.S_nil _ _ _ _ _, by repeat (first | (with_reducible first | exact HB.out | apply bA_ | apply bN_ | apply bD_ | refine bS_ ?_ GE183.out | refine bS_ ?_ GE184.out) | exact HB.out)⟩
                  ·rw [if_neg c84] at H
                   exact absurd H (by simp)
                 ·rw [if_neg c83] at H
                  exact absurd H (by simp)
                ·rw [if_neg c82] at H
                 have c82b0 : decide (x8_6 < x7_35) = false := decide_eq_false c82
                 clear c82
                 simp only [Option.some.injEq, Prod.mk.injEq] at H
                 obtain ⟨rfl, rfl, rfl, rfl, rfl⟩ := H
                 have hnb95 := NB184_183.out
                 have hnc95 := NB183_184.out
                 obtain ⟨hcz96_0, hcz96_1, hcz96_2⟩ := cells3_ BK184.out
                 obtain ⟨hfz96_0, hfz96_1, hfz96_2⟩ := froz3_ BK184.out
                 obtain ⟨hcz97_0, hcz97_1, hcz97_2⟩ := cells3_ BK183.out
                 obtain ⟨hfz97_0, hfz97_1, hfz97_2⟩ := froz3_ BK183.out
                 obtain ⟨Ao98, co98, eo98⟩ := Kd.R_slice HO_185002.out
                 subst eo98
                 go_wp2
                 refine bodyPost_ret (results_ctt rfl _ _ gb183 73 #[.bool x185000_9, .int .i64 x185001_13, .slice Ao98 x185002_6.length co98] (0, 0) _ rfl (by (with_reducible repeat (first | refine kN_ ?_ _ | refine kD_ ?_ | refine kA_ ?_ _)); refine blk_put (cs := #[.bool x185000_9, .int .i64 x185001_13, .slice none 0 0]) ?_ 2 _ rfl; (with_reducible repeat (first | refine kN_ ?_ _ | refine kD_ ?_ | refine kA_ ?_ _)); refine blk_put (cs := #[.bool x185000_9, .int .i64 x184001_6, .slice none 0 0]) ?_ 1 _ rfl; (with_reducible repeat (first | refine kN_ ?_ _ | refine kD_ ?_ | refine kA_ ?_ _)); refine blk_put (cs := #[.bool x184000_6, .int .i64 x184001_6, .slice none 0 0]) ?_ 0 _ rfl; (with_reducible repeat (first | refine kN_ ?_ _ | refine kD_ ?_ | refine kA_ ?_ _)); exact BK183.out) Try.underlying73 rfl (by kernel_rfl)) rfl ?_
                 exact ⟨_, by first | rfl | (simp [errW_none, errW_some] <;> rfl) | (simp [*, errW_none, errW_some] <;> rfl), by (with_reducible repeat (first | apply Kd.R_alloc | apply Kd.R_drewN | apply Kd.R_drew)); exact Kd.R_mono (Kd.R_far (p := ⟨gb183, 2, none⟩) (Kd.R_far (p := ⟨gb183, 1, none⟩) (Kd.R_far (p := ⟨gb183, 0, none⟩) (Kd.R_types HO_185002.out BK183.out (by decide)) (fun _ hk => hk.2) (.bool x185000_9)) (fun _ hk => hk.2) (.int .i64 x185001_13)) (fun _ hk => hk.2) (.slice Ao98 x185002_6.length co98)) (fun _ hk => trivial), by repeat (first | (with_reducible first | exact HB.out | apply bA_ | apply bN_ | apply bD_ | refine bS_ ?_ GE183.out | refine bS_ ?_ GE184.out) | exact HB.out)⟩

end Go.Proofs.Ytmnmidclaaiffaa.PBytecodeDecodesPaths
