-- Written by a program of this session's (wip/print_patch.py over the kit's print) out of the translation; Lean checks it.
import Derived.Test.YtmnmidclaaiffaaPFieldUnitsCoverx0
import Derived.Test.YtmnmidclaaiffaaPFieldUnitsCoverx2
import Derived.Test.YtmnmidclaaiffaaPFieldUnitsCoverx5
import Derived.Test.YtmnmidclaaiffaaPFieldUnitsCoverx7
import Derived.Test.YtmnmidclaaiffaaPFieldUnitsCoverx8
import Derived.Test.YtmnmidclaaiffaaPFieldUnitsCoverx9
import Derived.Test.YtmnmidclaaiffaaExt
namespace Go.Proofs.Ytmnmidclaaiffaa.PFieldUnitsCover
open Go.RowKit Go.Proofs.Ytmnmidclaaiffaa.Ext Go.Proofs.YtmnmidclaaiffaaW.PrintWords Go.Proofs.YtmnmidclaaiffaaW.PrintLast Go.Proofs.YtmnmidclaaiffaaW.PrintMore
attribute [local go_sem] max2_int min2_int max_two min_two max_three min_three max_four min_four   -- for this text's walks alone
set_option linter.unusedVariables false
set_option linter.unusedSimpArgs false

/-! ### platformfwlaw11_FieldUnitsCover: function 8 -/
mutual
def platformfwlaw11_FieldUnitsCover.l0 : Nat → List Int → List (S58) → Int → Int → Int → Int → Int → Int → Int → Int → Int → Int → Int → Option (Bool)
 | 0, _, _, _, _, _, _, _, _, _, _, _, _, _ => none
 | k + 1, x4, x5, x6, x7, x214000, x214001, x214002, x214003, x214004, x214005, x214006, x214007, x214008 => if x7 < (x4.length : Int) then (if 0 ≤ x7 then (if (rd x4 x7) = 0 then (some false) else (if x7 < (x5.length : Int) then (if ((rd_T58 x5 x7).f1) < x214001 then (some false) else (if (IntKind.u64.wrap ((IntKind.u64.wrap (((rd_T58 x5 x7).f1) - x214001)) + (IntKind.u64.wrap (x214005)))) > x214002 then (some false) else (if ((rd_T58 x5 x7).f2) = x214005 then (if (rd_T58 x5 x7).f3 = true then (some false) else (platformfwlaw11_FieldUnitsCover.l1 k x4 x5 x6 x7 (rd x4 x7) x214000 x214001 x214002 x214003 x214004 x214005 x214006 x214007 x214008)) else (some false)))) else (none))) else (none)) else (some (x6 == x214004))
def platformfwlaw11_FieldUnitsCover.l1 : Nat → List Int → List (S58) → Int → Int → Int → Int → Int → Int → Int → Int → Int → Int → Int → Int → Option (Bool)
 | 0, _, _, _, _, _, _, _, _, _, _, _, _, _, _ => none
 | k + 1, x4, x5, x6, x7, x8, x214000, x214001, x214002, x214003, x214004, x214005, x214006, x214007, x214008 => if x8 > 0 then (platformfwlaw11_FieldUnitsCover.l1 k x4 x5 (wrap64 (x6 + 1)) x7 (Go.bits .and .u64 x8 (IntKind.u64.wrap (x8 - 1))) x214000 x214001 x214002 x214003 x214004 x214005 x214006 x214007 x214008) else (platformfwlaw11_FieldUnitsCover.l0 k x4 x5 x6 (wrap64 (x7 + 1)) x214000 x214001 x214002 x214003 x214004 x214005 x214006 x214007 x214008)
end
def platformfwlaw11_FieldUnitsCover.f (k : Nat) (a0_0 : Int) (a0_1 : Int) (a0_2 : Int) (a0_3 : Int) (a0_4 : Int) (a0_5 : Int) (a0_6 : Int) (a0_7 : Int) (a0_8 : Int) : Option (Bool) := (platformfwlaw11_spec.f k a0_0 a0_1 a0_2 a0_3 a0_4 a0_5 a0_6 a0_7 a0_8).bind fun bt204 => ((platformfwref09_ValidField.f k bt204.1 bt204.2.1 bt204.2.2.1 bt204.2.2.2.1 bt204.2.2.2.2.1 bt204.2.2.2.2.2.1 bt204.2.2.2.2.2.2.1 bt204.2.2.2.2.2.2.2.1 bt204.2.2.2.2.2.2.2.2).bind fun t214 => (if t214 = true then ((field_Masks.f k bt204.1 bt204.2.1 bt204.2.2.1 bt204.2.2.2.1 bt204.2.2.2.2.1 bt204.2.2.2.2.2.1 bt204.2.2.2.2.2.2.1 bt204.2.2.2.2.2.2.2.1 bt204.2.2.2.2.2.2.2.2).bind fun t215 => ((field_Accesses.f k bt204.1 bt204.2.1 bt204.2.2.1 bt204.2.2.2.1 bt204.2.2.2.2.1 bt204.2.2.2.2.2.1 bt204.2.2.2.2.2.2.1 bt204.2.2.2.2.2.2.2.1 bt204.2.2.2.2.2.2.2.2).bind fun t218 => ((platformfwlaw11_awake.f k).bind fun t221 => (if t221 = true then (if (t215.length : Int) = (t218.length : Int) then (platformfwlaw11_FieldUnitsCover.l0 k t215 t218 0 0 bt204.1 bt204.2.1 bt204.2.2.1 bt204.2.2.2.1 bt204.2.2.2.2.1 bt204.2.2.2.2.2.1 bt204.2.2.2.2.2.2.1 bt204.2.2.2.2.2.2.2.1 bt204.2.2.2.2.2.2.2.2) else (some false)) else (some false))))) else ((platformfwlaw11_awake.f k).bind fun t228 => (if t228 = true then ((field_Masks.f k bt204.1 bt204.2.1 bt204.2.2.1 bt204.2.2.2.1 bt204.2.2.2.2.1 bt204.2.2.2.2.2.1 bt204.2.2.2.2.2.2.1 bt204.2.2.2.2.2.2.2.1 bt204.2.2.2.2.2.2.2.2).bind fun t229 => (if (t229.length : Int) = 0 then ((field_Accesses.f k bt204.1 bt204.2.1 bt204.2.2.1 bt204.2.2.2.1 bt204.2.2.2.2.1 bt204.2.2.2.2.2.1 bt204.2.2.2.2.2.2.1 bt204.2.2.2.2.2.2.2.1 bt204.2.2.2.2.2.2.2.2).bind fun t232 => (some ((t232.length : Int) == 0))) else (some false))) else (some false)))))
theorem platformfwlaw11_FieldUnitsCover.mono_l : ∀ k, (∀ y0 y1 y2 y3 y4 y5 y6 y7 y8 y9 y10 y11 y12, LeO (platformfwlaw11_FieldUnitsCover.l0 k y0 y1 y2 y3 y4 y5 y6 y7 y8 y9 y10 y11 y12) (platformfwlaw11_FieldUnitsCover.l0 (k + 1) y0 y1 y2 y3 y4 y5 y6 y7 y8 y9 y10 y11 y12)) ∧ (∀ y0 y1 y2 y3 y4 y5 y6 y7 y8 y9 y10 y11 y12 y13, LeO (platformfwlaw11_FieldUnitsCover.l1 k y0 y1 y2 y3 y4 y5 y6 y7 y8 y9 y10 y11 y12 y13) (platformfwlaw11_FieldUnitsCover.l1 (k + 1) y0 y1 y2 y3 y4 y5 y6 y7 y8 y9 y10 y11 y12 y13))
 | 0 => ⟨fun _ _ _ _ _ _ _ _ _ _ _ _ _ r h => by simp [platformfwlaw11_FieldUnitsCover.l0] at h, fun _ _ _ _ _ _ _ _ _ _ _ _ _ _ r h => by simp [platformfwlaw11_FieldUnitsCover.l1] at h⟩
 | k + 1 => by
  obtain ⟨ih0, ih1⟩ := platformfwlaw11_FieldUnitsCover.mono_l k
  refine ⟨?_, ?_⟩
  ·intro y0 y1 y2 y3 y4 y5 y6 y7 y8 y9 y10 y11 y12
   unfold platformfwlaw11_FieldUnitsCover.l0
   repeat' first
   | (with_reducible exact ih0 _ _ _ _ _ _ _ _ _ _ _ _ _)
   | (with_reducible exact ih1 _ _ _ _ _ _ _ _ _ _ _ _ _ _)
   | (with_reducible exact field_Accesses.mono _ _ _ _ _ _ _ _ _ _)
   | (with_reducible exact field_Masks.mono _ _ _ _ _ _ _ _ _ _)
   | (with_reducible exact platformfwlaw11_awake.mono _)
   | (with_reducible exact platformfwlaw11_spec.mono _ _ _ _ _ _ _ _ _ _)
   | (with_reducible exact platformfwref09_ValidField.mono _ _ _ _ _ _ _ _ _ _)
   | (with_reducible exact LeO.refl _)
   | (with_reducible exact LeO.none _)
   | (with_reducible refine LeO.ite ?_ ?_)
   | (with_reducible refine LeO.bind ?_ (fun _ => ?_))
   | exact ih0 _ _ _ _ _ _ _ _ _ _ _ _ _
   | exact ih1 _ _ _ _ _ _ _ _ _ _ _ _ _ _
   | exact field_Accesses.mono _ _ _ _ _ _ _ _ _ _
   | exact field_Masks.mono _ _ _ _ _ _ _ _ _ _
   | exact platformfwlaw11_awake.mono _
   | exact platformfwlaw11_spec.mono _ _ _ _ _ _ _ _ _ _
   | exact platformfwref09_ValidField.mono _ _ _ _ _ _ _ _ _ _
   | exact LeO.none _
   | refine LeO.ite ?_ ?_
   | refine LeO.bind ?_ (fun _ => ?_)
  ·intro y0 y1 y2 y3 y4 y5 y6 y7 y8 y9 y10 y11 y12 y13
   unfold platformfwlaw11_FieldUnitsCover.l1
   repeat' first
   | (with_reducible exact ih0 _ _ _ _ _ _ _ _ _ _ _ _ _)
   | (with_reducible exact ih1 _ _ _ _ _ _ _ _ _ _ _ _ _ _)
   | (with_reducible exact field_Accesses.mono _ _ _ _ _ _ _ _ _ _)
   | (with_reducible exact field_Masks.mono _ _ _ _ _ _ _ _ _ _)
   | (with_reducible exact platformfwlaw11_awake.mono _)
   | (with_reducible exact platformfwlaw11_spec.mono _ _ _ _ _ _ _ _ _ _)
   | (with_reducible exact platformfwref09_ValidField.mono _ _ _ _ _ _ _ _ _ _)
   | (with_reducible exact LeO.refl _)
   | (with_reducible exact LeO.none _)
   | (with_reducible refine LeO.ite ?_ ?_)
   | (with_reducible refine LeO.bind ?_ (fun _ => ?_))
   | exact ih0 _ _ _ _ _ _ _ _ _ _ _ _ _
   | exact ih1 _ _ _ _ _ _ _ _ _ _ _ _ _ _
   | exact field_Accesses.mono _ _ _ _ _ _ _ _ _ _
   | exact field_Masks.mono _ _ _ _ _ _ _ _ _ _
   | exact platformfwlaw11_awake.mono _
   | exact platformfwlaw11_spec.mono _ _ _ _ _ _ _ _ _ _
   | exact platformfwref09_ValidField.mono _ _ _ _ _ _ _ _ _ _
   | exact LeO.none _
   | refine LeO.ite ?_ ?_
   | refine LeO.bind ?_ (fun _ => ?_)
theorem platformfwlaw11_FieldUnitsCover.mono : ∀ a0 a1 a2 a3 a4 a5 a6 a7 a8 k, LeO (platformfwlaw11_FieldUnitsCover.f k a0 a1 a2 a3 a4 a5 a6 a7 a8) (platformfwlaw11_FieldUnitsCover.f (k + 1) a0 a1 a2 a3 a4 a5 a6 a7 a8) := by
 intro a0 a1 a2 a3 a4 a5 a6 a7 a8 k
 obtain ⟨ih0, ih1⟩ := platformfwlaw11_FieldUnitsCover.mono_l k
 unfold platformfwlaw11_FieldUnitsCover.f
 repeat' first
   | (with_reducible exact ih0 _ _ _ _ _ _ _ _ _ _ _ _ _)
   | (with_reducible exact ih1 _ _ _ _ _ _ _ _ _ _ _ _ _ _)
   | (with_reducible exact field_Accesses.mono _ _ _ _ _ _ _ _ _ _)
   | (with_reducible exact field_Masks.mono _ _ _ _ _ _ _ _ _ _)
   | (with_reducible exact platformfwlaw11_awake.mono _)
   | (with_reducible exact platformfwlaw11_spec.mono _ _ _ _ _ _ _ _ _ _)
   | (with_reducible exact platformfwref09_ValidField.mono _ _ _ _ _ _ _ _ _ _)
   | (with_reducible exact LeO.refl _)
   | (with_reducible exact LeO.none _)
   | (with_reducible refine LeO.ite ?_ ?_)
   | (with_reducible refine LeO.bind ?_ (fun _ => ?_))
   | exact ih0 _ _ _ _ _ _ _ _ _ _ _ _ _
   | exact ih1 _ _ _ _ _ _ _ _ _ _ _ _ _ _
   | exact field_Accesses.mono _ _ _ _ _ _ _ _ _ _
   | exact field_Masks.mono _ _ _ _ _ _ _ _ _ _
   | exact platformfwlaw11_awake.mono _
   | exact platformfwlaw11_spec.mono _ _ _ _ _ _ _ _ _ _
   | exact platformfwref09_ValidField.mono _ _ _ _ _ _ _ _ _ _
   | exact LeO.none _
   | refine LeO.ite ?_ ?_
   | refine LeO.bind ?_ (fun _ => ?_)
def platformfwlaw11_FieldUnitsCover.T11 : Bool × List (List Nat × List Nat) := (true, [([], []), ([], []), ([0, 1], [0, 1]), ([2], [2]), ([3], [3]), ([4], [4]), ([5], [5]), ([5], [5]), ([6, 7, 5], [5, 6, 7]), ([8, 5], [5, 8]), ([9, 5], [5, 9]), ([5], [5]), ([11, 5], [5, 11]), ([12, 5], [5, 12]), ([10, 13, 5], [5, 10, 13]), ([5, 14], [5, 14]), ([15, 5], [15]), ([16], [16]), ([16], [16]), ([17, 18, 16], [16, 17, 18]), ([19, 16], [16, 19]), ([20, 16], [16, 20]), ([16], [16]), ([22, 16], [16, 22]), ([23, 16], [16, 23]), ([21, 24, 16], [16, 21, 24]), ([16], [16]), ([26, 16], [16, 26]), ([27, 16], [16, 27]), ([25, 28, 16], [16, 25, 28]), ([16], [16]), ([30, 16], [16, 30]), ([31, 16], [16, 31]), ([29, 32, 16], [16, 29, 32]), ([16, 33], [16, 33]), ([34, 16], [34]), ([35], [35]), ([35], [35]), ([36, 37, 35], [35, 36, 37]), ([38, 35], [35, 38]), ([39, 35], [35, 39]), ([35], [35]), ([41, 35], [35, 41]), ([40, 42, 35], [35, 40, 42]), ([35, 43], [35, 43]), ([44, 35], [44]), ([45], [45]), ([45], [45]), ([46, 47, 45], [45, 46, 47]), ([48, 45], [45, 48]), ([49, 45], [45, 49]), ([45, 50], [45, 50])])
def platformfwlaw11_FieldUnitsCover.B11 : List Nat := [0, 0, 3, 7, 15, 31, 63, 63, 255, 511, 1023, 63, 2111, 6207, 16383, 32767, 65535, 131071, 131071, 524287, 1048575, 2097151, 131071, 4325375, 12713983, 33554431, 131071, 67239935, 201457663, 536870911, 131071, 1073872895, 3221356543, 8589934591, 17179869183, 34359738367, 68719476735, 68719476735, 274877906943, 549755813887, 1099511627775, 68719476735, 2267742732287, 8796093022207, 17592186044415, 35184372088831, 70368744177663, 70368744177663, 281474976710655, 562949953421311, 1125899906842623, 2251799813685247]
theorem platformfwlaw11_FieldUnitsCover.tab11 : rtab .any (opsOf Try.f8 11) = platformfwlaw11_FieldUnitsCover.T11 := by kernel_rfl
theorem platformfwlaw11_FieldUnitsCover.bits11 : waitsOk platformfwlaw11_FieldUnitsCover.T11.2 platformfwlaw11_FieldUnitsCover.B11 = true := by kernel_rfl
set_option maxHeartbeats 8000000 in
set_option maxRecDepth 100000 in
theorem platformfwlaw11_FieldUnitsCover.calls (k : Nat) (a0_0 : Int) (a0_1 : Int) (a0_2 : Int) (a0_3 : Int) (a0_4 : Int) (a0_5 : Int) (a0_6 : Int) (a0_7 : Int) (a0_8 : Int) (r : Bool) (w : World) (hr_ : Aside0 (r = true)) (h : platformfwlaw11_FieldUnitsCover.f k a0_0 a0_1 a0_2 a0_3 a0_4 a0_5 a0_6 a0_7 a0_8 = some r) :
  Calls Try.prog 8 #[.agg #[.int .i64 a0_0, .int .u64 a0_1, .int .u64 a0_2, .int .i64 a0_3, .int .i64 a0_4, .int .i64 a0_5, .int .i64 a0_6, .int .i64 a0_7, .int .i64 a0_8]] w fun e w' => e = .returned (.bool r) ∧ Below w.heap.size w w' := by
 have hu26 := Try.underlying26
 have HB := Aside0.mk (Below.refl w.heap.size w)
 have H : ((platformfwlaw11_spec.f k a0_0 a0_1 a0_2 a0_3 a0_4 a0_5 a0_6 a0_7 a0_8).bind fun bt204 => ((platformfwref09_ValidField.f k bt204.1 bt204.2.1 bt204.2.2.1 bt204.2.2.2.1 bt204.2.2.2.2.1 bt204.2.2.2.2.2.1 bt204.2.2.2.2.2.2.1 bt204.2.2.2.2.2.2.2.1 bt204.2.2.2.2.2.2.2.2).bind fun t214 => (if t214 = true then ((field_Masks.f k bt204.1 bt204.2.1 bt204.2.2.1 bt204.2.2.2.1 bt204.2.2.2.2.1 bt204.2.2.2.2.2.1 bt204.2.2.2.2.2.2.1 bt204.2.2.2.2.2.2.2.1 bt204.2.2.2.2.2.2.2.2).bind fun t215 => ((field_Accesses.f k bt204.1 bt204.2.1 bt204.2.2.1 bt204.2.2.2.1 bt204.2.2.2.2.1 bt204.2.2.2.2.2.1 bt204.2.2.2.2.2.2.1 bt204.2.2.2.2.2.2.2.1 bt204.2.2.2.2.2.2.2.2).bind fun t218 => ((platformfwlaw11_awake.f k).bind fun t221 => (if t221 = true then (if (t215.length : Int) = (t218.length : Int) then (platformfwlaw11_FieldUnitsCover.l0 k t215 t218 0 0 bt204.1 bt204.2.1 bt204.2.2.1 bt204.2.2.2.1 bt204.2.2.2.2.1 bt204.2.2.2.2.2.1 bt204.2.2.2.2.2.2.1 bt204.2.2.2.2.2.2.2.1 bt204.2.2.2.2.2.2.2.2) else (some false)) else (some false))))) else ((platformfwlaw11_awake.f k).bind fun t228 => (if t228 = true then ((field_Masks.f k bt204.1 bt204.2.1 bt204.2.2.1 bt204.2.2.2.1 bt204.2.2.2.2.1 bt204.2.2.2.2.2.1 bt204.2.2.2.2.2.2.1 bt204.2.2.2.2.2.2.2.1 bt204.2.2.2.2.2.2.2.2).bind fun t229 => (if (t229.length : Int) = 0 then ((field_Accesses.f k bt204.1 bt204.2.1 bt204.2.2.1 bt204.2.2.2.1 bt204.2.2.2.2.1 bt204.2.2.2.2.2.1 bt204.2.2.2.2.2.2.1 bt204.2.2.2.2.2.2.2.1 bt204.2.2.2.2.2.2.2.2).bind fun t232 => (some ((t232.length : Int) == 0))) else (some false))) else (some false)))))) = some r := h
 clear h
 replace H := Option.bind_eq_some_iff.mp H
 obtain ⟨⟨t204, t205, t206, t207, t208, t209, t210, t211, t212⟩, A20, H⟩ := H
 replace H : ((platformfwref09_ValidField.f k t204 t205 t206 t207 t208 t209 t210 t211 t212).bind fun t214 => (if t214 = true then ((field_Masks.f k t204 t205 t206 t207 t208 t209 t210 t211 t212).bind fun t215 => ((field_Accesses.f k t204 t205 t206 t207 t208 t209 t210 t211 t212).bind fun t218 => ((platformfwlaw11_awake.f k).bind fun t221 => (if t221 = true then (if (t215.length : Int) = (t218.length : Int) then (platformfwlaw11_FieldUnitsCover.l0 k t215 t218 0 0 t204 t205 t206 t207 t208 t209 t210 t211 t212) else (some false)) else (some false))))) else ((platformfwlaw11_awake.f k).bind fun t228 => (if t228 = true then ((field_Masks.f k t204 t205 t206 t207 t208 t209 t210 t211 t212).bind fun t229 => (if (t229.length : Int) = 0 then ((field_Accesses.f k t204 t205 t206 t207 t208 t209 t210 t211 t212).bind fun t232 => (some ((t232.length : Int) == 0))) else (some false))) else (some false))))) = some r := H
 have A2 := Aside0.mk A20
 clear A20
 replace H := Option.bind_eq_some_iff.mp H
 obtain ⟨t214, A30, H⟩ := H
 replace H : (if t214 = true then ((field_Masks.f k t204 t205 t206 t207 t208 t209 t210 t211 t212).bind fun t215 => ((field_Accesses.f k t204 t205 t206 t207 t208 t209 t210 t211 t212).bind fun t218 => ((platformfwlaw11_awake.f k).bind fun t221 => (if t221 = true then (if (t215.length : Int) = (t218.length : Int) then (platformfwlaw11_FieldUnitsCover.l0 k t215 t218 0 0 t204 t205 t206 t207 t208 t209 t210 t211 t212) else (some false)) else (some false))))) else ((platformfwlaw11_awake.f k).bind fun t228 => (if t228 = true then ((field_Masks.f k t204 t205 t206 t207 t208 t209 t210 t211 t212).bind fun t229 => (if (t229.length : Int) = 0 then ((field_Accesses.f k t204 t205 t206 t207 t208 t209 t210 t211 t212).bind fun t232 => (some ((t232.length : Int) == 0))) else (some false))) else (some false)))) = some r := H
 have A3 := Aside0.mk A30
 clear A30
 by_cases c4 : t214 = true
 ·subst c4
  have H1 : ((field_Masks.f k t204 t205 t206 t207 t208 t209 t210 t211 t212).bind fun t215 => ((field_Accesses.f k t204 t205 t206 t207 t208 t209 t210 t211 t212).bind fun t218 => ((platformfwlaw11_awake.f k).bind fun t221 => (if t221 = true then (if (t215.length : Int) = (t218.length : Int) then (platformfwlaw11_FieldUnitsCover.l0 k t215 t218 0 0 t204 t205 t206 t207 t208 t209 t210 t211 t212) else (some false)) else (some false))))) = some r := by rw [if_pos rfl] at H; exact H
  clear H
  have H := H1
  clear H1
  replace H := Option.bind_eq_some_iff.mp H
  obtain ⟨t215, A50, H⟩ := H
  replace H : ((field_Accesses.f k t204 t205 t206 t207 t208 t209 t210 t211 t212).bind fun t218 => ((platformfwlaw11_awake.f k).bind fun t221 => (if t221 = true then (if (t215.length : Int) = (t218.length : Int) then (platformfwlaw11_FieldUnitsCover.l0 k t215 t218 0 0 t204 t205 t206 t207 t208 t209 t210 t211 t212) else (some false)) else (some false)))) = some r := H
  have A5 := Aside0.mk A50
  clear A50
  replace H := Option.bind_eq_some_iff.mp H
  obtain ⟨t218, A60, H⟩ := H
  replace H : ((platformfwlaw11_awake.f k).bind fun t221 => (if t221 = true then (if (t215.length : Int) = (t218.length : Int) then (platformfwlaw11_FieldUnitsCover.l0 k t215 t218 0 0 t204 t205 t206 t207 t208 t209 t210 t211 t212) else (some false)) else (some false))) = some r := H
  have A6 := Aside0.mk A60
  clear A60
  replace H := Option.bind_eq_some_iff.mp H
  obtain ⟨t221, A70, H⟩ := H
  replace H : (if t221 = true then (if (t215.length : Int) = (t218.length : Int) then (platformfwlaw11_FieldUnitsCover.l0 k t215 t218 0 0 t204 t205 t206 t207 t208 t209 t210 t211 t212) else (some false)) else (some false)) = some r := H
  have A7 := Aside0.mk A70
  clear A70
  by_cases c8 : t221 = true
  ·subst c8
   have H1 : (if (t215.length : Int) = (t218.length : Int) then (platformfwlaw11_FieldUnitsCover.l0 k t215 t218 0 0 t204 t205 t206 t207 t208 t209 t210 t211 t212) else (some false)) = some r := by rw [if_pos rfl] at H; exact H
   clear H
   have H := H1
   clear H1
   by_cases c9 : (t215.length : Int) = (t218.length : Int)
   ·rw [if_pos c9] at H
    have c9b0 : ((t215.length : Int) == (t218.length : Int)) = true := beq_iff_eq.mpr c9
    have c9b1 : ((t215.length : Int) != (t218.length : Int)) = false := bne_eq_false_iff_eq.mpr c9
    have c9b2 : (t215.length == t218.length) = true := by first | simpa using c9 | (simp at c9 ⊢; omega)
    clear c9
    have H' := Aside0.mk H
    clear H
    go_enter Try.func8, Try.ntmps8
    try go_wp2_with (first | ((with_reducible refine gate_dst (N := 1) rfl ?_); (try (refine gate_guard (by rfl) ?_; dsimp only)); refine box_event ?hg (N := 1) ?hd (cs := #[.int .i64 a0_0, .int .u64 a0_1, .int .u64 a0_2, .int .i64 a0_3, .int .i64 a0_4, .int .i64 a0_5, .int .i64 a0_6, .int .i64 a0_7, .int .i64 a0_8]) (t := 26) ?hr ?_; (case hd => rfl); (case hg => rfl); (case hr => first | (go_simp; done) | (go_simp; rfl)); intro gb203 hg w10 hbox hb; have n0_ := Aside0.mk (below_step (by repeat (first | (with_reducible first | exact HB.out | apply bA_ | apply bN_ | apply bD_) | exact HB.out)) hb); have n1_ := Aside0.mk (hbox); have n2_ := Aside0.mk ((by rw [hg]; exact (below_size (by repeat (first | (with_reducible first | exact HB.out | apply bA_ | apply bN_ | apply bD_) | exact HB.out))) : w.heap.size ≤ gb203)); have n3_ := Aside0.mk ((by rw [hg]; exact (below_size (by repeat (first | (with_reducible first | exact HB.out | apply bA_ | apply bN_ | apply bD_) | exact HB.out))) : w.heap.size ≤ gb203)); clear HB; have HB := n0_; have BK203 := n1_; have GW203 := n2_; have GE203 := n3_; clear n0_ n1_ n2_ n3_; clear hb hbox hg; obtain ⟨hcz11_0, hcz11_1, hcz11_2, hcz11_3, hcz11_4, hcz11_5, hcz11_6, hcz11_7, hcz11_8⟩ := cells9_ BK203.out; obtain ⟨hfz11_0, hfz11_1, hfz11_2, hfz11_3, hfz11_4, hfz11_5, hfz11_6, hfz11_7, hfz11_8⟩ := froz9_ BK203.out) | ((with_reducible refine gate_callee (f := 15) rfl ?_); refine goesL_ (some 10) rfl rfl Try.func15 (by kernel_rfl) rfl #[.agg #[.int .i64 a0_0, .int .u64 a0_1, .int .u64 a0_2, .int .i64 a0_3, .int .i64 a0_4, .int .i64 a0_5, .int .i64 a0_6, .int .i64 a0_7, .int .i64 a0_8]] rfl (by (try simp only [List.map_toArray, List.map_cons, List.map_nil]); first | done | rfl | (simp only [List.length_drop, List.length_take]; rfl)) ?_; (with_reducible refine (platformfwlaw11_spec.calls k a0_0 a0_1 a0_2 a0_3 a0_4 a0_5 a0_6 a0_7 a0_8 t204 t205 t206 t207 t208 t209 t210 t211 t212 _ A2.out).mono ?_); rintro e w12 ⟨rfl, hb⟩; refine ⟨_, rfl, ?_⟩; have n0_ := Aside0.mk (blk_below (g := gb203) (o := .cells #[.int .i64 a0_0, .int .u64 a0_1, .int .u64 a0_2, .int .i64 a0_3, .int .i64 a0_4, .int .i64 a0_5, .int .i64 a0_6, .int .i64 a0_7, .int .i64 a0_8] 26 (0, 0)) (by (with_reducible repeat (first | refine kN_ ?_ _ | refine kD_ ?_ | refine kA_ ?_ _)); exact BK203.out) hb); have n1_ := Aside0.mk (below_step (by repeat (first | (with_reducible first | exact HB.out | apply bA_ | apply bN_ | apply bD_ | refine bS_ ?_ GE203.out) | exact HB.out)) hb); clear BK203; clear HB; have BK203 := n0_; have HB := n1_; clear n0_ n1_; (try clear hb); (try clear hb2); (try clear hk); (try clear hi)) | ((with_reducible refine gate_dst (N := 3) rfl ?_); (try (refine gate_guard (by rfl) ?_; dsimp only)); refine box_event ?hg (N := 3) ?hd (cs := #[.int .i64 0, .int .u64 0, .int .u64 0, .int .i64 0, .int .i64 0, .int .i64 0, .int .i64 0, .int .i64 0, .int .i64 0]) (t := 26) ?hr ?_; (case hd => rfl); (case hg => rfl); (case hr => first | (go_simp; done) | (go_simp; rfl)); intro gb213 hg w13 hbox hb; have n0_ := Aside0.mk (blk_below (g := gb203) (o := .cells #[.int .i64 a0_0, .int .u64 a0_1, .int .u64 a0_2, .int .i64 a0_3, .int .i64 a0_4, .int .i64 a0_5, .int .i64 a0_6, .int .i64 a0_7, .int .i64 a0_8] 26 (0, 0)) (by (with_reducible repeat (first | refine kN_ ?_ _ | refine kD_ ?_ | refine kA_ ?_ _)); exact BK203.out) hb); have n1_ := Aside0.mk (below_step (by repeat (first | (with_reducible first | exact HB.out | apply bA_ | apply bN_ | apply bD_ | refine bS_ ?_ GE203.out) | exact HB.out)) hb); have n2_ := Aside0.mk (hbox); have n3_ := Aside0.mk ((by rw [hg]; exact (below_size (by repeat (first | (with_reducible first | exact HB.out | apply bA_ | apply bN_ | apply bD_ | refine bS_ ?_ GE203.out) | exact HB.out))) : w.heap.size ≤ gb213)); have n4_ := Aside0.mk ((by rw [hg]; exact (below_size (by repeat (first | (with_reducible first | exact HB.out | apply bA_ | apply bN_ | apply bD_ | refine bS_ ?_ GE203.out) | exact HB.out))) : w.heap.size ≤ gb213)); have n5_ := Aside0.mk ((by rw [hg]; exact Nat.ne_of_lt (blk_lt (g := gb203) (o := .cells #[.int .i64 a0_0, .int .u64 a0_1, .int .u64 a0_2, .int .i64 a0_3, .int .i64 a0_4, .int .i64 a0_5, .int .i64 a0_6, .int .i64 a0_7, .int .i64 a0_8] 26 (0, 0)) (by (with_reducible repeat (first | refine kN_ ?_ _ | refine kD_ ?_ | refine kA_ ?_ _)); exact BK203.out)) : gb203 ≠ gb213)); have n6_ := Aside0.mk ((by rw [hg]; exact Nat.ne_of_gt (blk_lt (g := gb203) (o := .cells #[.int .i64 a0_0, .int .u64 a0_1, .int .u64 a0_2, .int .i64 a0_3, .int .i64 a0_4, .int .i64 a0_5, .int .i64 a0_6, .int .i64 a0_7, .int .i64 a0_8] 26 (0, 0)) (by (with_reducible repeat (first | refine kN_ ?_ _ | refine kD_ ?_ | refine kA_ ?_ _)); exact BK203.out)) : gb213 ≠ gb203)); clear BK203; clear HB; have BK203 := n0_; have HB := n1_; have BK213 := n2_; have GW213 := n3_; have GE213 := n4_; have NB203_213 := n5_; have NB213_203 := n6_; clear n0_ n1_ n2_ n3_ n4_ n5_ n6_; clear hb hbox hg; have hnb14 := NB213_203.out; have hnc14 := NB203_213.out; obtain ⟨hcz15_0, hcz15_1, hcz15_2, hcz15_3, hcz15_4, hcz15_5, hcz15_6, hcz15_7, hcz15_8⟩ := cells9_ BK213.out; obtain ⟨hfz15_0, hfz15_1, hfz15_2, hfz15_3, hfz15_4, hfz15_5, hfz15_6, hfz15_7, hfz15_8⟩ := froz9_ BK213.out) | ((with_reducible refine gate_callee (f := 29) rfl ?_); refine goesL_ (some 12) rfl rfl Try.func29 (by kernel_rfl) rfl #[.agg #[.int .i64 t204, .int .u64 t205, .int .u64 t206, .int .i64 t207, .int .i64 t208, .int .i64 t209, .int .i64 t210, .int .i64 t211, .int .i64 t212]] rfl (by (try simp only [List.map_toArray, List.map_cons, List.map_nil]); first | done | rfl | (simp only [List.length_drop, List.length_take]; rfl)) ?_; (with_reducible refine (platformfwref09_ValidField.calls k t204 t205 t206 t207 t208 t209 t210 t211 t212 true _ A3.out).mono ?_); rintro e w16 ⟨rfl, hb⟩; refine ⟨_, rfl, ?_⟩; have n0_ := Aside0.mk (blk_below (g := gb203) (o := .cells #[.int .i64 a0_0, .int .u64 a0_1, .int .u64 a0_2, .int .i64 a0_3, .int .i64 a0_4, .int .i64 a0_5, .int .i64 a0_6, .int .i64 a0_7, .int .i64 a0_8] 26 (0, 0)) (by (with_reducible repeat (first | refine kN_ ?_ _ | refine kD_ ?_ | refine kA_ ?_ _)); refine blk_far ?_ NB203_213.out _; (with_reducible repeat (first | refine kN_ ?_ _ | refine kD_ ?_ | refine kA_ ?_ _)); refine blk_far ?_ NB203_213.out _; (with_reducible repeat (first | refine kN_ ?_ _ | refine kD_ ?_ | refine kA_ ?_ _)); refine blk_far ?_ NB203_213.out _; (with_reducible repeat (first | refine kN_ ?_ _ | refine kD_ ?_ | refine kA_ ?_ _)); refine blk_far ?_ NB203_213.out _; (with_reducible repeat (first | refine kN_ ?_ _ | refine kD_ ?_ | refine kA_ ?_ _)); refine blk_far ?_ NB203_213.out _; (with_reducible repeat (first | refine kN_ ?_ _ | refine kD_ ?_ | refine kA_ ?_ _)); refine blk_far ?_ NB203_213.out _; (with_reducible repeat (first | refine kN_ ?_ _ | refine kD_ ?_ | refine kA_ ?_ _)); refine blk_far ?_ NB203_213.out _; (with_reducible repeat (first | refine kN_ ?_ _ | refine kD_ ?_ | refine kA_ ?_ _)); refine blk_far ?_ NB203_213.out _; (with_reducible repeat (first | refine kN_ ?_ _ | refine kD_ ?_ | refine kA_ ?_ _)); refine blk_far ?_ NB203_213.out _; (with_reducible repeat (first | refine kN_ ?_ _ | refine kD_ ?_ | refine kA_ ?_ _)); exact BK203.out) hb); have n1_ := Aside0.mk (blk_below (g := gb213) (o := .cells #[.int .i64 t204, .int .u64 t205, .int .u64 t206, .int .i64 t207, .int .i64 t208, .int .i64 t209, .int .i64 t210, .int .i64 t211, .int .i64 t212] 26 (0, 0)) (by (with_reducible repeat (first | refine kN_ ?_ _ | refine kD_ ?_ | refine kA_ ?_ _)); refine blk_put (cs := #[.int .i64 t204, .int .u64 t205, .int .u64 t206, .int .i64 t207, .int .i64 t208, .int .i64 t209, .int .i64 t210, .int .i64 t211, .int .i64 0]) ?_ 8 _ rfl; (with_reducible repeat (first | refine kN_ ?_ _ | refine kD_ ?_ | refine kA_ ?_ _)); refine blk_put (cs := #[.int .i64 t204, .int .u64 t205, .int .u64 t206, .int .i64 t207, .int .i64 t208, .int .i64 t209, .int .i64 t210, .int .i64 0, .int .i64 0]) ?_ 7 _ rfl; (with_reducible repeat (first | refine kN_ ?_ _ | refine kD_ ?_ | refine kA_ ?_ _)); refine blk_put (cs := #[.int .i64 t204, .int .u64 t205, .int .u64 t206, .int .i64 t207, .int .i64 t208, .int .i64 t209, .int .i64 0, .int .i64 0, .int .i64 0]) ?_ 6 _ rfl; (with_reducible repeat (first | refine kN_ ?_ _ | refine kD_ ?_ | refine kA_ ?_ _)); refine blk_put (cs := #[.int .i64 t204, .int .u64 t205, .int .u64 t206, .int .i64 t207, .int .i64 t208, .int .i64 0, .int .i64 0, .int .i64 0, .int .i64 0]) ?_ 5 _ rfl; (with_reducible repeat (first | refine kN_ ?_ _ | refine kD_ ?_ | refine kA_ ?_ _)); refine blk_put (cs := #[.int .i64 t204, .int .u64 t205, .int .u64 t206, .int .i64 t207, .int .i64 0, .int .i64 0, .int .i64 0, .int .i64 0, .int .i64 0]) ?_ 4 _ rfl; (with_reducible repeat (first | refine kN_ ?_ _ | refine kD_ ?_ | refine kA_ ?_ _)); refine blk_put (cs := #[.int .i64 t204, .int .u64 t205, .int .u64 t206, .int .i64 0, .int .i64 0, .int .i64 0, .int .i64 0, .int .i64 0, .int .i64 0]) ?_ 3 _ rfl; (with_reducible repeat (first | refine kN_ ?_ _ | refine kD_ ?_ | refine kA_ ?_ _)); refine blk_put (cs := #[.int .i64 t204, .int .u64 t205, .int .u64 0, .int .i64 0, .int .i64 0, .int .i64 0, .int .i64 0, .int .i64 0, .int .i64 0]) ?_ 2 _ rfl; (with_reducible repeat (first | refine kN_ ?_ _ | refine kD_ ?_ | refine kA_ ?_ _)); refine blk_put (cs := #[.int .i64 t204, .int .u64 0, .int .u64 0, .int .i64 0, .int .i64 0, .int .i64 0, .int .i64 0, .int .i64 0, .int .i64 0]) ?_ 1 _ rfl; (with_reducible repeat (first | refine kN_ ?_ _ | refine kD_ ?_ | refine kA_ ?_ _)); refine blk_put (cs := #[.int .i64 0, .int .u64 0, .int .u64 0, .int .i64 0, .int .i64 0, .int .i64 0, .int .i64 0, .int .i64 0, .int .i64 0]) ?_ 0 _ rfl; (with_reducible repeat (first | refine kN_ ?_ _ | refine kD_ ?_ | refine kA_ ?_ _)); exact BK213.out) hb); have n2_ := Aside0.mk (below_step (by repeat (first | (with_reducible first | exact HB.out | apply bA_ | apply bN_ | apply bD_ | refine bS_ ?_ GE203.out | refine bS_ ?_ GE213.out) | exact HB.out)) hb); clear BK203; clear BK213; clear HB; have BK203 := n0_; have BK213 := n1_; have HB := n2_; clear n0_ n1_ n2_; (try clear hb); (try clear hb2); (try clear hk); (try clear hi)))
    have n0_ := Aside0.mk (kD_ BK203.out)
    have n1_ := Aside0.mk (kD_ BK213.out)
    have n2_ := Aside0.mk (bD_ HB.out)
    clear BK203
    clear BK213
    clear HB
    have BK203 := n0_
    have BK213 := n1_
    have HB := n2_
    clear n0_ n1_ n2_
    refine start_ (n := 6) (S := fun w' => w'.cell? ⟨gb213, 0, none⟩ = some (.int .i64 t204) ∧ w'.cell? ⟨gb213, 1, none⟩ = some (.int .u64 t205) ∧ w'.cell? ⟨gb213, 2, none⟩ = some (.int .u64 t206) ∧ w'.cell? ⟨gb213, 3, none⟩ = some (.int .i64 t207) ∧ w'.cell? ⟨gb213, 4, none⟩ = some (.int .i64 t208) ∧ w'.cell? ⟨gb213, 5, none⟩ = some (.int .i64 t209) ∧ w'.cell? ⟨gb213, 6, none⟩ = some (.int .i64 t210) ∧ w'.cell? ⟨gb213, 7, none⟩ = some (.int .i64 t211) ∧ w'.cell? ⟨gb213, 8, none⟩ = some (.int .i64 t212)) (ds := []) #[false, false, false, false, false, false] (by kernel_rfl) rfl rfl (cells9_ BK213.out) (fun hHeld => ?_)
    generalize w16.drew = w17 at BK203 BK213 HB hHeld ⊢
    refine take_ (i := 0) (N := some 27) (v := ?_) (a' := ?_) (tf 6 1) rfl rfl (by kernel_rfl) (fun _ _ _ h => h) (Or.inl ⟨by rfl, ?_⟩) hHeld ?_ ?_
    rotate_left
    ·rintro w' ⟨s0, s1, s2, s3, s4, s5, s6, s7, s8⟩
     go_simp
     with_reducible rfl
    rotate_left
    ·simp only [Act.put, sA_, sB_, sC_, i64_w, i32_w]
     rfl
    refine take_ (i := 2) (N := some 29) (v := ?_) (a' := ?_) (tf 6 5) rfl rfl (by kernel_rfl) (fun _ _ _ h => h) (Or.inl ⟨by rfl, ?_⟩) hHeld ?_ ?_
    rotate_left
    ·rintro w' ⟨s0, s1, s2, s3, s4, s5, s6, s7, s8⟩
     go_simp
     with_reducible rfl
    rotate_left
    ·simp only [Act.put, sA_, sB_, sC_, i64_w, i32_w]
     rfl
    refine one_ (i := 1) (N := some 28) (tf 6 7) rfl rfl (by kernel_rfl) (by decide) (fun K hK => ?_)
    refine goes_ Try.func35 (by kernel_rfl) rfl #[.agg #[.int .i64 t204, .int .u64 t205, .int .u64 t206, .int .i64 t207, .int .i64 t208, .int .i64 t209, .int .i64 t210, .int .i64 t211, .int .i64 t212]] (by rfl) rfl rfl (by (try simp only [List.map_toArray, List.map_cons, List.map_nil]); first | done | rfl | (simp only [List.length_drop, List.length_take]; rfl)) ?_
    with_reducible refine (field_Masks.calls k t204 t205 t206 t207 t208 t209 t210 t211 t212 t215 _ A5.out).mono ?_
    rintro e w18 ⟨v216, rfl, ho0, hb⟩
    refine ⟨_, rfl, ?_⟩
    have n0_ := Aside0.mk (Kd.R_lower ho0 (below_size (by repeat (first | (with_reducible first | exact HB.out | apply bA_ | apply bN_ | apply bD_ | refine bS_ ?_ GE203.out | refine bS_ ?_ GE213.out) | exact HB.out))))
    have n1_ := Aside0.mk (blk_below (g := gb203) (o := .cells #[.int .i64 a0_0, .int .u64 a0_1, .int .u64 a0_2, .int .i64 a0_3, .int .i64 a0_4, .int .i64 a0_5, .int .i64 a0_6, .int .i64 a0_7, .int .i64 a0_8] 26 (0, 0)) (by (with_reducible repeat (first | refine kN_ ?_ _ | refine kD_ ?_ | refine kA_ ?_ _)); exact BK203.out) hb)
    have n2_ := Aside0.mk (blk_below (g := gb213) (o := .cells #[.int .i64 t204, .int .u64 t205, .int .u64 t206, .int .i64 t207, .int .i64 t208, .int .i64 t209, .int .i64 t210, .int .i64 t211, .int .i64 t212] 26 (0, 0)) (by (with_reducible repeat (first | refine kN_ ?_ _ | refine kD_ ?_ | refine kA_ ?_ _)); exact BK213.out) hb)
    have n3_ := Aside0.mk (below_step (by repeat (first | (with_reducible first | exact HB.out | apply bA_ | apply bN_ | apply bD_ | refine bS_ ?_ GE203.out | refine bS_ ?_ GE213.out) | exact HB.out)) hb)
    clear BK203
    clear BK213
    clear HB
    have HO217 := n0_
    have BK203 := n1_
    have BK213 := n2_
    have HB := n3_
    clear n0_ n1_ n2_ n3_
    (try clear hb)
    (try clear hb2)
    (try clear hk)
    (try clear hi)
    (try clear ho0)
    refine hK.out _ _ (cells9_ BK213.out) (fun hHeld => ?_)
    clear hK K
    refine norm_ (a' := ?_) ?_ ?_
    rotate_left
    ·show Act.put _ (some 28) _ = _
     simp only [Act.put, sA_, sB_, sC_, i64_w, i32_w]
     rfl
    refine one_ (i := 3) (N := some 30) (tf 6 15) rfl rfl (by kernel_rfl) (by decide) (fun K hK => ?_)
    refine goes_ Try.func36 (by kernel_rfl) rfl #[.agg #[.int .i64 t204, .int .u64 t205, .int .u64 t206, .int .i64 t207, .int .i64 t208, .int .i64 t209, .int .i64 t210, .int .i64 t211, .int .i64 t212]] (by rfl) rfl rfl (by (try simp only [List.map_toArray, List.map_cons, List.map_nil]); first | done | rfl | (simp only [List.length_drop, List.length_take]; rfl)) ?_
    with_reducible refine (field_Accesses.calls k t204 t205 t206 t207 t208 t209 t210 t211 t212 t218 _ A6.out).mono ?_
    rintro e w19 ⟨v219, rfl, ho0, hb⟩
    refine ⟨_, rfl, ?_⟩
    have n0_ := Aside0.mk (Kd.R_below (by (with_reducible repeat (first | apply Kd.R_alloc | apply Kd.R_drewN | apply Kd.R_drew)); exact HO217.out) hb)
    have n1_ := Aside0.mk (Kd.R_lower ho0 (below_size (by repeat (first | (with_reducible first | exact HB.out | apply bA_ | apply bN_ | apply bD_ | refine bS_ ?_ GE203.out | refine bS_ ?_ GE213.out) | exact HB.out))))
    have n2_ := Aside0.mk (blk_below (g := gb203) (o := .cells #[.int .i64 a0_0, .int .u64 a0_1, .int .u64 a0_2, .int .i64 a0_3, .int .i64 a0_4, .int .i64 a0_5, .int .i64 a0_6, .int .i64 a0_7, .int .i64 a0_8] 26 (0, 0)) (by (with_reducible repeat (first | refine kN_ ?_ _ | refine kD_ ?_ | refine kA_ ?_ _)); exact BK203.out) hb)
    have n3_ := Aside0.mk (blk_below (g := gb213) (o := .cells #[.int .i64 t204, .int .u64 t205, .int .u64 t206, .int .i64 t207, .int .i64 t208, .int .i64 t209, .int .i64 t210, .int .i64 t211, .int .i64 t212] 26 (0, 0)) (by (with_reducible repeat (first | refine kN_ ?_ _ | refine kD_ ?_ | refine kA_ ?_ _)); exact BK213.out) hb)
    have n4_ := Aside0.mk (below_step (by repeat (first | (with_reducible first | exact HB.out | apply bA_ | apply bN_ | apply bD_ | refine bS_ ?_ GE203.out | refine bS_ ?_ GE213.out) | exact HB.out)) hb)
    clear HO217
    clear BK203
    clear BK213
    clear HB
    have HO217 := n0_
    have HO220 := n1_
    have BK203 := n2_
    have BK213 := n3_
    have HB := n4_
    clear n0_ n1_ n2_ n3_ n4_
    (try clear hb)
    (try clear hb2)
    (try clear hk)
    (try clear hi)
    (try clear ho0)
    refine hK.out _ _ (cells9_ BK213.out) (fun hHeld => ?_)
    clear hK K
    refine norm_ (a' := ?_) ?_ ?_
    rotate_left
    ·show Act.put _ (some 30) _ = _
     simp only [Act.put, sA_, sB_, sC_, i64_w, i32_w]
     rfl
    refine pure_ (i := 4) (N := some 4) (v := ?_) (a' := ?_) (tf 6 31) rfl rfl (by kernel_rfl) (fun _ _ _ h => h) (Or.inl ⟨by rfl, ?_⟩) ?_ ?_
    rotate_left
    ·intro w'
     go_simp
     with_reducible rfl
    rotate_left
    ·simp only [Act.put, sA_, sB_, sC_, i64_w, i32_w]
     rfl
    refine pure_ (i := 5) (N := some 5) (v := ?_) (a' := ?_) (tf 6 63) rfl rfl (by kernel_rfl) (fun _ _ _ h => h) (Or.inl ⟨by rfl, ?_⟩) ?_ ?_
    rotate_left
    ·intro w'
     go_simp
     with_reducible rfl
    rotate_left
    ·simp only [Act.put, sA_, sB_, sC_, i64_w, i32_w]
     rfl
    refine done_ (by kernel_rfl) ?_
    try go_wp2_with (first | ((with_reducible refine gate_callee (f := 18) rfl ?_); refine goesL_ (some 31) rfl rfl Try.func18 (by kernel_rfl) rfl #[] rfl (by (try simp only [List.map_toArray, List.map_cons, List.map_nil]); first | done | rfl | (simp only [List.length_drop, List.length_take]; rfl)) ?_; (with_reducible refine (platformfwlaw11_awake.calls k  true _ A7.out).mono ?_); rintro e w20 ⟨rfl, hb⟩; refine ⟨_, rfl, ?_⟩; have n0_ := Aside0.mk (Kd.R_below (by (with_reducible repeat (first | apply Kd.R_alloc | apply Kd.R_drewN | apply Kd.R_drew)); exact HO217.out) hb); have n1_ := Aside0.mk (Kd.R_below (by (with_reducible repeat (first | apply Kd.R_alloc | apply Kd.R_drewN | apply Kd.R_drew)); exact HO220.out) hb); have n2_ := Aside0.mk (blk_below (g := gb203) (o := .cells #[.int .i64 a0_0, .int .u64 a0_1, .int .u64 a0_2, .int .i64 a0_3, .int .i64 a0_4, .int .i64 a0_5, .int .i64 a0_6, .int .i64 a0_7, .int .i64 a0_8] 26 (0, 0)) (by (with_reducible repeat (first | refine kN_ ?_ _ | refine kD_ ?_ | refine kA_ ?_ _)); exact BK203.out) hb); have n3_ := Aside0.mk (blk_below (g := gb213) (o := .cells #[.int .i64 t204, .int .u64 t205, .int .u64 t206, .int .i64 t207, .int .i64 t208, .int .i64 t209, .int .i64 t210, .int .i64 t211, .int .i64 t212] 26 (0, 0)) (by (with_reducible repeat (first | refine kN_ ?_ _ | refine kD_ ?_ | refine kA_ ?_ _)); exact BK213.out) hb); have n4_ := Aside0.mk (below_step (by repeat (first | (with_reducible first | exact HB.out | apply bA_ | apply bN_ | apply bD_ | refine bS_ ?_ GE203.out | refine bS_ ?_ GE213.out) | exact HB.out)) hb); clear HO217; clear HO220; clear BK203; clear BK213; clear HB; have HO217 := n0_; have HO220 := n1_; have BK203 := n2_; have BK213 := n3_; have HB := n4_; clear n0_ n1_ n2_ n3_ n4_; (try clear hb); (try clear hb2); (try clear hk); (try clear hi); obtain ⟨Ao21, co21, eo21⟩ := Kd.R_slice HO217.out; subst eo21; obtain ⟨Ao22, co22, eo22⟩ := Kd.R_slice HO220.out; subst eo22))
    go_loopg [6, 7] k (fun kq v6 v7 w' => ∃ (x6_1 : Int) (x7_1 : Int), v6 = .int .i64 x6_1 ∧ v7 = .int .i64 x7_1 ∧ Aside0 (platformfwlaw11_FieldUnitsCover.l0 kq t215 t218 x6_1 x7_1 t204 t205 t206 t207 t208 t209 t210 t211 t212 = some r) ∧ Aside0 (kq ≤ k) ∧ Aside0 (Kd.R (Kd.int .u64) 22 w' w.heap.size (fun _ => True) (.slice Ao21 t215.length co21) t215) ∧ Aside0 (Kd.R k58 58 w' w.heap.size (fun _ => True) (.slice Ao22 t218.length co22) t218) ∧ Aside0 (w'.heap[gb203]? = some (.cells #[.int .i64 a0_0, .int .u64 a0_1, .int .u64 a0_2, .int .i64 a0_3, .int .i64 a0_4, .int .i64 a0_5, .int .i64 a0_6, .int .i64 a0_7, .int .i64 a0_8] 26 (0, 0))) ∧ Aside0 (w'.heap[gb213]? = some (.cells #[.int .i64 t204, .int .u64 t205, .int .u64 t206, .int .i64 t207, .int .i64 t208, .int .i64 t209, .int .i64 t210, .int .i64 t211, .int .i64 t212] 26 (0, 0))) ∧ Aside0 (Below w.heap.size w w'))
    case atStart => exact ⟨(0), (0), (by first | rfl | (simp; done) | (simp [*]; done)), (by first | rfl | (simp; done) | (simp [*]; done)), H', ⟨Nat.le_refl _⟩, ⟨by (with_reducible repeat (first | apply Kd.R_alloc | apply Kd.R_drewN | apply Kd.R_drew)); exact HO217.out⟩, ⟨by (with_reducible repeat (first | apply Kd.R_alloc | apply Kd.R_drewN | apply Kd.R_drew)); exact HO220.out⟩, ⟨by (with_reducible repeat (first | refine kN_ ?_ _ | refine kD_ ?_ | refine kA_ ?_ _)); exact BK203.out⟩, ⟨by (with_reducible repeat (first | refine kN_ ?_ _ | refine kD_ ?_ | refine kA_ ?_ _)); exact BK213.out⟩, ⟨by repeat (first | (with_reducible first | exact HB.out | apply bA_ | apply bN_ | apply bD_ | refine bS_ ?_ GE203.out | refine bS_ ?_ GE213.out) | exact HB.out)⟩⟩
    case round =>
     clear H'
     try clear c1
     try clear c2
     try clear p2
     try clear c3
     try clear c4
     try clear c8
     try clear c9
     try clear c9b0
     try clear c9b1
     try clear c9b2
     try clear c14
     try clear c15
     try clear c18
     try clear hcz11_0 hcz11_1 hcz11_2 hcz11_3 hcz11_4 hcz11_5 hcz11_6 hcz11_7 hcz11_8
     try clear hcz15_0 hcz15_1 hcz15_2 hcz15_3 hcz15_4 hcz15_5 hcz15_6 hcz15_7 hcz15_8
     try clear hfz11_0 hfz11_1 hfz11_2 hfz11_3 hfz11_4 hfz11_5 hfz11_6 hfz11_7 hfz11_8
     try clear hfz15_0 hfz15_1 hfz15_2 hfz15_3 hfz15_4 hfz15_5 hfz15_6 hfz15_7 hfz15_8
     obtain ⟨x6_1, x7_1, rfl, rfl, HA, HK1, HO_4, HO_5, BK203, BK213, HB⟩ := hrel
     cases gk with
     | zero => exact absurd HA.out (by simp [platformfwlaw11_FieldUnitsCover.l0])
     | succ k1 =>
      have H := HA.out
      clear HA
      simp only [platformfwlaw11_FieldUnitsCover.l0] at H
      by_cases c23 : x7_1 < (t215.length : Int)
      ·rw [if_pos c23] at H
       have c23b0 : decide (x7_1 < (t215.length : Int)) = true := decide_eq_true c23
       clear c23
       by_cases c24 : 0 ≤ x7_1
       ·rw [if_pos c24] at H
        have c24b0 : decide (0 ≤ x7_1) = true := decide_eq_true c24
        clear c24
        by_cases c25 : (rd t215 x7_1) = 0
        ·rw [if_pos c25] at H
         have c25b0 : ((rd t215 x7_1) == 0) = true := beq_iff_eq.mpr c25
         have c25b1 : ((rd t215 x7_1) != 0) = false := bne_eq_false_iff_eq.mpr c25
         clear c25
         obtain rfl := Option.some.inj H
         exact absurd hr_.out (by simp)
        ·rw [if_neg c25] at H
         have c25b0 : ((rd t215 x7_1) == 0) = false := beq_eq_false_iff_ne.mpr c25
         have c25b1 : ((rd t215 x7_1) != 0) = true := bne_iff_ne.mpr c25
         by_cases c26 : x7_1 < (t218.length : Int)
         ·rw [if_pos c26] at H
          have c26b0 : decide (x7_1 < (t218.length : Int)) = true := decide_eq_true c26
          clear c26
          by_cases c27 : ((rd_T58 t218 x7_1).f1) < t205
          ·rw [if_pos c27] at H
           have c27b0 : decide (((rd_T58 t218 x7_1).f1) < t205) = true := decide_eq_true c27
           clear c27
           obtain rfl := Option.some.inj H
           exact absurd hr_.out (by simp)
          ·rw [if_neg c27] at H
           have c27b0 : decide (((rd_T58 t218 x7_1).f1) < t205) = false := decide_eq_false c27
           clear c27
           by_cases c28 : (IntKind.u64.wrap ((IntKind.u64.wrap (((rd_T58 t218 x7_1).f1) - t205)) + (IntKind.u64.wrap (t209)))) > t206
           ·rw [if_pos c28] at H
            have c28b0 : decide (t206 < (IntKind.u64.wrap ((IntKind.u64.wrap (((rd_T58 t218 x7_1).f1) - t205)) + (IntKind.u64.wrap (t209))))) = true := decide_eq_true c28
            clear c28
            obtain rfl := Option.some.inj H
            exact absurd hr_.out (by simp)
           ·rw [if_neg c28] at H
            have c28b0 : decide (t206 < (IntKind.u64.wrap ((IntKind.u64.wrap (((rd_T58 t218 x7_1).f1) - t205)) + (IntKind.u64.wrap (t209))))) = false := decide_eq_false c28
            clear c28
            by_cases c29 : ((rd_T58 t218 x7_1).f2) = t209
            ·rw [if_pos c29] at H
             have c29b0 : (((rd_T58 t218 x7_1).f2) == t209) = true := beq_iff_eq.mpr c29
             have c29b1 : (((rd_T58 t218 x7_1).f2) != t209) = false := bne_eq_false_iff_eq.mpr c29
             clear c29
             obtain ⟨bq30, hbq30⟩ : ∃ b_ : Bool, b_ = ((rd_T58 t218 x7_1).f3) := ⟨_, rfl⟩
             replace H : (if bq30 = true then (some false) else (platformfwlaw11_FieldUnitsCover.l1 k1 t215 t218 x6_1 x7_1 (rd t215 x7_1) t204 t205 t206 t207 t208 t209 t210 t211 t212)) = some r := by rw [← hbq30] at H; exact H
             have Nbq30 := Aside0.mk hbq30
             clear hbq30
             by_cases c31 : bq30 = true
             ·subst c31
              have H1 : (some false) = some r := by rw [if_pos rfl] at H; exact H
              clear H
              have H := H1
              clear H1
              obtain rfl := Option.some.inj H
              exact absurd hr_.out (by simp)
             ·replace c31 := Bool.eq_false_iff.mpr c31
              subst c31
              have H1 : (platformfwlaw11_FieldUnitsCover.l1 k1 t215 t218 x6_1 x7_1 (rd t215 x7_1) t204 t205 t206 t207 t208 t209 t210 t211 t212) = some r := by rw [if_neg (show ¬ (false = true) by decide)] at H; exact H
              clear H
              have H := H1
              clear H1
              have H' := Aside0.mk H
              clear H
              try go_wp2
              have n0_ := Aside0.mk (Kd.R_drew HO_4.out)
              have n1_ := Aside0.mk (Kd.R_drew HO_5.out)
              have n2_ := Aside0.mk (kD_ BK203.out)
              have n3_ := Aside0.mk (kD_ BK213.out)
              have n4_ := Aside0.mk (bD_ HB.out)
              clear HO_4
              clear HO_5
              clear BK203
              clear BK213
              clear HB
              have HO_4 := n0_
              have HO_5 := n1_
              have BK203 := n2_
              have BK213 := n3_
              have HB := n4_
              clear n0_ n1_ n2_ n3_ n4_
              have p222 : 0 ≤ (x7_1 : Int) := of_decide_eq_true (by first | (with_reducible assumption) | assumption)
              have q222 : x7_1 < (t215.length : Int) := of_decide_eq_true (by first | (with_reducible assumption) | assumption)
              obtain ⟨ad222, e222, hx222_0⟩ := Kd.at_int (Kd.R_reads' HO_4.out).2.2 x7_1 p222 q222
              cases e222
              replace p222 := eq_true p222
              replace q222 := eq_true q222
              have p223 : 0 ≤ (x7_1 : Int) := of_decide_eq_true (by first | (with_reducible assumption) | assumption)
              have q223 : x7_1 < (t218.length : Int) := of_decide_eq_true (by first | (with_reducible assumption) | assumption)
              obtain ⟨ad223, e223, hx223_0, hx223_1, hx223_2, hx223_3, hx223_4⟩ := at_T58 (Kd.R_reads' HO_5.out).2.2 x7_1 p223 q223
              (try rw [← Nbq30.out] at hx223_3)
              cases e223
              replace p223 := eq_true p223
              replace q223 := eq_true q223
              have p224 : 0 ≤ (x7_1 : Int) := of_decide_eq_true (by first | (with_reducible assumption) | assumption)
              have q224 : x7_1 < (t218.length : Int) := of_decide_eq_true (by first | (with_reducible assumption) | assumption)
              obtain ⟨ad224, e224, hx224_0, hx224_1, hx224_2, hx224_3, hx224_4⟩ := at_T58 (Kd.R_reads' HO_5.out).2.2 x7_1 p224 q224
              (try rw [← Nbq30.out] at hx224_3)
              obtain rfl : ad223 = ad224 := (by injection e224)
              replace p224 := eq_true p224
              replace q224 := eq_true q224
              have p225 : 0 ≤ (x7_1 : Int) := of_decide_eq_true (by first | (with_reducible assumption) | assumption)
              have q225 : x7_1 < (t218.length : Int) := of_decide_eq_true (by first | (with_reducible assumption) | assumption)
              obtain ⟨ad225, e225, hx225_0, hx225_1, hx225_2, hx225_3, hx225_4⟩ := at_T58 (Kd.R_reads' HO_5.out).2.2 x7_1 p225 q225
              (try rw [← Nbq30.out] at hx225_3)
              obtain rfl : ad223 = ad225 := (by injection e225)
              replace p225 := eq_true p225
              replace q225 := eq_true q225
              have p226 : 0 ≤ (x7_1 : Int) := of_decide_eq_true (by first | (with_reducible assumption) | assumption)
              have q226 : x7_1 < (t218.length : Int) := of_decide_eq_true (by first | (with_reducible assumption) | assumption)
              obtain ⟨ad226, e226, hx226_0, hx226_1, hx226_2, hx226_3, hx226_4⟩ := at_T58 (Kd.R_reads' HO_5.out).2.2 x7_1 p226 q226
              (try rw [← Nbq30.out] at hx226_3)
              obtain rfl : ad223 = ad226 := (by injection e226)
              replace p226 := eq_true p226
              replace q226 := eq_true q226
              refine start_ (n := 52) (S := fun w' => w'.cell? ⟨gb213, 0, none⟩ = some (.int .i64 t204) ∧ w'.cell? ⟨gb213, 1, none⟩ = some (.int .u64 t205) ∧ w'.cell? ⟨gb213, 2, none⟩ = some (.int .u64 t206) ∧ w'.cell? ⟨gb213, 3, none⟩ = some (.int .i64 t207) ∧ w'.cell? ⟨gb213, 4, none⟩ = some (.int .i64 t208) ∧ w'.cell? ⟨gb213, 5, none⟩ = some (.int .i64 t209) ∧ w'.cell? ⟨gb213, 6, none⟩ = some (.int .i64 t210) ∧ w'.cell? ⟨gb213, 7, none⟩ = some (.int .i64 t211) ∧ w'.cell? ⟨gb213, 8, none⟩ = some (.int .i64 t212) ∧ w'.cell? (ad222.add (x7_1).toNat) = some (.int .u64 (rd t215 x7_1)) ∧ w'.cell? (ad223.add ((x7_1).toNat * 5)) = some (.int .i64 ((rd_T58 t218 x7_1).f0)) ∧ w'.cell? ⟨(ad223.add ((x7_1).toNat * 5)).block, (ad223.add ((x7_1).toNat * 5)).off + 1, none⟩ = some (.int .u64 ((rd_T58 t218 x7_1).f1)) ∧ w'.cell? ⟨(ad223.add ((x7_1).toNat * 5)).block, (ad223.add ((x7_1).toNat * 5)).off + 2, none⟩ = some (.int .i64 ((rd_T58 t218 x7_1).f2)) ∧ w'.cell? ⟨(ad223.add ((x7_1).toNat * 5)).block, (ad223.add ((x7_1).toNat * 5)).off + 3, none⟩ = some (.bool false) ∧ w'.cell? ⟨(ad223.add ((x7_1).toNat * 5)).block, (ad223.add ((x7_1).toNat * 5)).off + 4, none⟩ = some (.int .u64 ((rd_T58 t218 x7_1).f4)) ∧ w'.cell? (ad223.add ((x7_1).toNat * 5)) = some (.int .i64 ((rd_T58 t218 x7_1).f0)) ∧ w'.cell? ⟨(ad223.add ((x7_1).toNat * 5)).block, (ad223.add ((x7_1).toNat * 5)).off + 1, none⟩ = some (.int .u64 ((rd_T58 t218 x7_1).f1)) ∧ w'.cell? ⟨(ad223.add ((x7_1).toNat * 5)).block, (ad223.add ((x7_1).toNat * 5)).off + 2, none⟩ = some (.int .i64 ((rd_T58 t218 x7_1).f2)) ∧ w'.cell? ⟨(ad223.add ((x7_1).toNat * 5)).block, (ad223.add ((x7_1).toNat * 5)).off + 3, none⟩ = some (.bool false) ∧ w'.cell? ⟨(ad223.add ((x7_1).toNat * 5)).block, (ad223.add ((x7_1).toNat * 5)).off + 4, none⟩ = some (.int .u64 ((rd_T58 t218 x7_1).f4)) ∧ w'.cell? (ad223.add ((x7_1).toNat * 5)) = some (.int .i64 ((rd_T58 t218 x7_1).f0)) ∧ w'.cell? ⟨(ad223.add ((x7_1).toNat * 5)).block, (ad223.add ((x7_1).toNat * 5)).off + 1, none⟩ = some (.int .u64 ((rd_T58 t218 x7_1).f1)) ∧ w'.cell? ⟨(ad223.add ((x7_1).toNat * 5)).block, (ad223.add ((x7_1).toNat * 5)).off + 2, none⟩ = some (.int .i64 ((rd_T58 t218 x7_1).f2)) ∧ w'.cell? ⟨(ad223.add ((x7_1).toNat * 5)).block, (ad223.add ((x7_1).toNat * 5)).off + 3, none⟩ = some (.bool false) ∧ w'.cell? ⟨(ad223.add ((x7_1).toNat * 5)).block, (ad223.add ((x7_1).toNat * 5)).off + 4, none⟩ = some (.int .u64 ((rd_T58 t218 x7_1).f4)) ∧ w'.cell? (ad223.add ((x7_1).toNat * 5)) = some (.int .i64 ((rd_T58 t218 x7_1).f0)) ∧ w'.cell? ⟨(ad223.add ((x7_1).toNat * 5)).block, (ad223.add ((x7_1).toNat * 5)).off + 1, none⟩ = some (.int .u64 ((rd_T58 t218 x7_1).f1)) ∧ w'.cell? ⟨(ad223.add ((x7_1).toNat * 5)).block, (ad223.add ((x7_1).toNat * 5)).off + 2, none⟩ = some (.int .i64 ((rd_T58 t218 x7_1).f2)) ∧ w'.cell? ⟨(ad223.add ((x7_1).toNat * 5)).block, (ad223.add ((x7_1).toNat * 5)).off + 3, none⟩ = some (.bool false) ∧ w'.cell? ⟨(ad223.add ((x7_1).toNat * 5)).block, (ad223.add ((x7_1).toNat * 5)).off + 4, none⟩ = some (.int .u64 ((rd_T58 t218 x7_1).f4))) (ds := []) #[false, false, false, false, false, false, false, false, false, false, false, false, false, false, false, false, false, false, false, false, false, false, false, false, false, false, false, false, false, false, false, false, false, false, false, false, false, false, false, false, false, false, false, false, false, false, false, false, false, false, false, false] (by kernel_rfl) rfl rfl ⟨(blk_cell BK213.out 0).trans rfl, (blk_cell BK213.out 1).trans rfl, (blk_cell BK213.out 2).trans rfl, (blk_cell BK213.out 3).trans rfl, (blk_cell BK213.out 4).trans rfl, (blk_cell BK213.out 5).trans rfl, (blk_cell BK213.out 6).trans rfl, (blk_cell BK213.out 7).trans rfl, (blk_cell BK213.out 8).trans rfl, hx222_0, hx223_0, hx223_1, hx223_2, hx223_3, hx223_4, hx224_0, hx224_1, hx224_2, hx224_3, hx224_4, hx225_0, hx225_1, hx225_2, hx225_3, hx225_4, hx226_0, hx226_1, hx226_2, hx226_3, hx226_4⟩ (fun hHeld => ?_); refine with_tabW platformfwlaw11_FieldUnitsCover.tab11 platformfwlaw11_FieldUnitsCover.bits11 (fun HT_ HW_ => ?_)
              generalize wr.drew = w32 at HO_4 HO_5 BK203 BK213 HB hx222_0 hx223_0 hx223_1 hx223_2 hx223_3 hx223_4 hx224_0 hx224_1 hx224_2 hx224_3 hx224_4 hx225_0 hx225_1 hx225_2 hx225_3 hx225_4 hx226_0 hx226_1 hx226_2 hx226_3 hx226_4 hHeld ⊢
              refine pure_ (i := 0) (N := some 46) (v := ?_) (a' := ?_) (tf 52 1) rfl rfl (any_of HT_.out (by kernel_rfl)) (fun _ _ _ h => h) (Or.inl ⟨by rfl, ?_⟩) ?_ ?_
              rotate_left
              ·intro w'
               go_simp
               with_reducible rfl
              rotate_left
              ·simp only [Act.put, sA_, sB_, sC_, i64_w, i32_w]
               rfl
              refine pure_ (i := 1) (N := some 47) (v := ?_) (a' := ?_) (tf 52 3) rfl rfl (any_of HT_.out (by kernel_rfl)) (fun _ _ _ h => h) (Or.inl ⟨by rfl, ?_⟩) ?_ ?_
              rotate_left
              ·intro w'
               go_simp
               with_reducible rfl
              rotate_left
              ·simp only [Act.put, sA_, sB_, sC_, i64_w, i32_w]
               rfl
              refine pure_ (i := 2) (N := some 48) (v := ?_) (a' := ?_) (tf 52 7) rfl rfl (any_of HT_.out (by kernel_rfl)) (fun _ _ _ h => h) (Or.inl ⟨by rfl, ?_⟩) ?_ ?_
              rotate_left
              ·intro w'
               go_simp
               with_reducible rfl
              rotate_left
              ·simp only [Act.put, sA_, sB_, sC_, i64_w, i32_w]
               rfl
              refine take_ (i := 3) (N := some 49) (v := ?_) (a' := ?_) (tf 52 15) rfl rfl (take_ofW HT_.out HW_.out (by kernel_rfl)) (fun _ _ _ h => h) (Or.inl ⟨by rfl, ?_⟩) hHeld ?_ ?_
              rotate_left
              ·rintro w' ⟨s0, s1, s2, s3, s4, s5, s6, s7, s8, s9, s10, s11, s12, s13, s14, s15, s16, s17, s18, s19, s20, s21, s22, s23, s24, s25, s26, s27, s28, s29⟩
               go_simp
               with_reducible rfl
              rotate_left
              ·simp only [Act.put, sA_, sB_, sC_, i64_w, i32_w]
               rfl
              refine pure_ (i := 4) (N := some 50) (v := ?_) (a' := ?_) (tf 52 31) rfl rfl (any_of HT_.out (by kernel_rfl)) (fun _ _ _ h => h) (Or.inl ⟨by rfl, ?_⟩) ?_ ?_
              rotate_left
              ·intro w'
               go_simp
               with_reducible rfl
              rotate_left
              ·simp only [Act.put, sA_, sB_, sC_, i64_w, i32_w]
               rfl
              refine pure_ (i := 5) (N := some 51) (v := ?_) (a' := ?_) (tf 52 63) rfl rfl (any_of HT_.out (by kernel_rfl)) (fun _ _ _ h => h) (Or.inl ⟨by rfl, ?_⟩) ?_ ?_
              rotate_left
              ·intro w'
               go_simp
               with_reducible rfl
              rotate_left
              ·simp only [Act.put, sA_, sB_, sC_, i64_w, i32_w]
               rfl
              refine pure_ (i := 6) (N := some 52) (v := ?_) (a' := ?_) (tf 52 127) rfl rfl (any_of HT_.out (by kernel_rfl)) (fun _ _ _ h => h) (Or.inl ⟨by rfl, ?_⟩) ?_ ?_
              rotate_left
              ·intro w'
               go_simp
               with_reducible rfl
              rotate_left
              ·simp only [Act.put, sA_, sB_, sC_, i64_w, i32_w]
               rfl
              refine pure_ (i := 7) (N := some 53) (v := ?_) (a' := ?_) (tf 52 255) rfl rfl (any_of HT_.out (by kernel_rfl)) (fun _ _ _ h => h) (Or.inl ⟨by rfl, ?_⟩) ?_ ?_
              rotate_left
              ·intro w'
               go_simp
               with_reducible rfl
              rotate_left
              ·simp only [Act.put, sA_, sB_, sC_, i64_w, i32_w]
               rfl
              refine pure_ (i := 8) (N := some 54) (v := ?_) (a' := ?_) (tf 52 511) rfl rfl (any_of HT_.out (by kernel_rfl)) (fun _ _ _ h => h) (Or.inl ⟨by rfl, ?_⟩) ?_ ?_
              rotate_left
              ·intro w'
               go_simp
               with_reducible rfl
              rotate_left
              ·simp only [Act.put, sA_, sB_, sC_, i64_w, i32_w]
               rfl
              refine pure_ (i := 9) (N := some 55) (v := ?_) (a' := ?_) (tf 52 1023) rfl rfl (any_of HT_.out (by kernel_rfl)) (fun _ _ _ h => h) (Or.inl ⟨by rfl, ?_⟩) ?_ ?_
              rotate_left
              ·intro w'
               go_simp
               with_reducible rfl
              rotate_left
              ·simp only [Act.put, sA_, sB_, sC_, i64_w, i32_w]
               rfl
              refine pure_ (i := 11) (N := some 57) (v := ?_) (a' := ?_) (tf 52 3071) rfl rfl (any_of HT_.out (by kernel_rfl)) (fun _ _ _ h => h) (Or.inl ⟨by rfl, ?_⟩) ?_ ?_
              rotate_left
              ·intro w'
               go_simp
               with_reducible rfl
              rotate_left
              ·simp only [Act.put, sA_, sB_, sC_, i64_w, i32_w]
               rfl
              refine pure_ (i := 12) (N := some 58) (v := ?_) (a' := ?_) (tf 52 7167) rfl rfl (any_of HT_.out (by kernel_rfl)) (fun _ _ _ h => h) (Or.inl ⟨by rfl, ?_⟩) ?_ ?_
              rotate_left
              ·intro w'
               go_simp
               with_reducible rfl
              rotate_left
              ·simp only [Act.put, sA_, sB_, sC_, i64_w, i32_w]
               rfl
              refine take_ (i := 10) (N := some 56) (v := ?_) (a' := ?_) (tf 52 8191) rfl rfl (take_ofW HT_.out HW_.out (by kernel_rfl)) (fun _ _ _ h => h) (Or.inl ⟨by rfl, ?_⟩) hHeld ?_ ?_
              rotate_left
              ·rintro w' ⟨s0, s1, s2, s3, s4, s5, s6, s7, s8, s9, s10, s11, s12, s13, s14, s15, s16, s17, s18, s19, s20, s21, s22, s23, s24, s25, s26, s27, s28, s29⟩
               go_simp
               with_reducible rfl
              rotate_left
              ·simp only [Act.put, sA_, sB_, sC_, i64_w, i32_w]
               rfl
              refine take_ (i := 13) (N := some 59) (v := ?_) (a' := ?_) (tf 52 16383) rfl rfl (take_ofW HT_.out HW_.out (by kernel_rfl)) (fun _ _ _ h => h) (Or.inl ⟨by rfl, ?_⟩) hHeld ?_ ?_
              rotate_left
              ·rintro w' ⟨s0, s1, s2, s3, s4, s5, s6, s7, s8, s9, s10, s11, s12, s13, s14, s15, s16, s17, s18, s19, s20, s21, s22, s23, s24, s25, s26, s27, s28, s29⟩
               go_simp
               with_reducible rfl
              rotate_left
              ·simp only [Act.put, sA_, sB_, sC_, i64_w, i32_w]
               rfl
              refine pure_ (i := 14) (N := some 60) (v := ?_) (a' := ?_) (tf 52 32767) rfl rfl (any_of HT_.out (by kernel_rfl)) (fun _ _ _ h => h) (Or.inl ⟨by rfl, ?_⟩) ?_ ?_
              rotate_left
              ·intro w'
               go_simp
               with_reducible rfl
              rotate_left
              ·simp only [Act.put, sA_, sB_, sC_, i64_w, i32_w]
               rfl
              refine pure_ (i := 15) (N := some 61) (v := ?_) (a' := ?_) (tf 52 65535) rfl rfl (any_of HT_.out (by kernel_rfl)) (fun _ _ _ h => h) (Or.inl ⟨by rfl, ?_⟩) ?_ ?_
              rotate_left
              ·intro w'
               go_simp
               with_reducible rfl
              rotate_left
              ·simp only [Act.put, sA_, sB_, sC_, i64_w, i32_w]
               rfl
              refine pure_ (i := 16) (N := some 62) (v := ?_) (a' := ?_) (tf 52 131071) rfl rfl (any_of HT_.out (by kernel_rfl)) (fun _ _ _ h => h) (Or.inl ⟨by rfl, ?_⟩) ?_ ?_
              rotate_left
              ·intro w'
               go_simp
               with_reducible rfl
              rotate_left
              ·simp only [Act.put, sA_, sB_, sC_, i64_w, i32_w]
               rfl
              refine pure_ (i := 17) (N := some 63) (v := ?_) (a' := ?_) (tf 52 262143) rfl rfl (any_of HT_.out (by kernel_rfl)) (fun _ _ _ h => h) (Or.inl ⟨by rfl, ?_⟩) ?_ ?_
              rotate_left
              ·intro w'
               go_simp
               with_reducible rfl
              rotate_left
              ·simp only [Act.put, sA_, sB_, sC_, i64_w, i32_w]
               rfl
              refine pure_ (i := 18) (N := some 64) (v := ?_) (a' := ?_) (tf 52 524287) rfl rfl (any_of HT_.out (by kernel_rfl)) (fun _ _ _ h => h) (Or.inl ⟨by rfl, ?_⟩) ?_ ?_
              rotate_left
              ·intro w'
               go_simp
               with_reducible rfl
              rotate_left
              ·simp only [Act.put, sA_, sB_, sC_, i64_w, i32_w]
               rfl
              refine pure_ (i := 19) (N := some 65) (v := ?_) (a' := ?_) (tf 52 1048575) rfl rfl (any_of HT_.out (by kernel_rfl)) (fun _ _ _ h => h) (Or.inl ⟨by rfl, ?_⟩) ?_ ?_
              rotate_left
              ·intro w'
               go_simp
               with_reducible rfl
              rotate_left
              ·simp only [Act.put, sA_, sB_, sC_, i64_w, i32_w]
               rfl
              refine pure_ (i := 20) (N := some 66) (v := ?_) (a' := ?_) (tf 52 2097151) rfl rfl (any_of HT_.out (by kernel_rfl)) (fun _ _ _ h => h) (Or.inl ⟨by rfl, ?_⟩) ?_ ?_
              rotate_left
              ·intro w'
               go_simp
               with_reducible rfl
              rotate_left
              ·simp only [Act.put, sA_, sB_, sC_, i64_w, i32_w]
               rfl
              refine pure_ (i := 22) (N := some 68) (v := ?_) (a' := ?_) (tf 52 6291455) rfl rfl (any_of HT_.out (by kernel_rfl)) (fun _ _ _ h => h) (Or.inl ⟨by rfl, ?_⟩) ?_ ?_
              rotate_left
              ·intro w'
               go_simp
               with_reducible rfl
              rotate_left
              ·simp only [Act.put, sA_, sB_, sC_, i64_w, i32_w]
               rfl
              refine pure_ (i := 23) (N := some 69) (v := ?_) (a' := ?_) (tf 52 14680063) rfl rfl (any_of HT_.out (by kernel_rfl)) (fun _ _ _ h => h) (Or.inl ⟨by rfl, ?_⟩) ?_ ?_
              rotate_left
              ·intro w'
               go_simp
               with_reducible rfl
              rotate_left
              ·simp only [Act.put, sA_, sB_, sC_, i64_w, i32_w]
               rfl
              refine pure_ (i := 26) (N := some 72) (v := ?_) (a' := ?_) (tf 52 81788927) rfl rfl (any_of HT_.out (by kernel_rfl)) (fun _ _ _ h => h) (Or.inl ⟨by rfl, ?_⟩) ?_ ?_
              rotate_left
              ·intro w'
               go_simp
               with_reducible rfl
              rotate_left
              ·simp only [Act.put, sA_, sB_, sC_, i64_w, i32_w]
               rfl
              refine pure_ (i := 30) (N := some 76) (v := ?_) (a' := ?_) (tf 52 1155530751) rfl rfl (any_of HT_.out (by kernel_rfl)) (fun _ _ _ h => h) (Or.inl ⟨by rfl, ?_⟩) ?_ ?_
              rotate_left
              ·intro w'
               go_simp
               with_reducible rfl
              rotate_left
              ·simp only [Act.put, sA_, sB_, sC_, i64_w, i32_w]
               rfl
              refine pure_ (i := 31) (N := some 77) (v := ?_) (a' := ?_) (tf 52 3303014399) rfl rfl (any_of HT_.out (by kernel_rfl)) (fun _ _ _ h => h) (Or.inl ⟨by rfl, ?_⟩) ?_ ?_
              rotate_left
              ·intro w'
               go_simp
               with_reducible rfl
              rotate_left
              ·simp only [Act.put, sA_, sB_, sC_, i64_w, i32_w]
               rfl
              refine take_ (i := 21) (N := some 67) (v := ?_) (a' := ?_) (tf 52 3305111551) rfl rfl (take_ofW HT_.out HW_.out (by kernel_rfl)) (fun _ _ _ h => h) (Or.inl ⟨by rfl, ?_⟩) hHeld ?_ ?_
              rotate_left
              ·rintro w' ⟨s0, s1, s2, s3, s4, s5, s6, s7, s8, s9, s10, s11, s12, s13, s14, s15, s16, s17, s18, s19, s20, s21, s22, s23, s24, s25, s26, s27, s28, s29⟩
               go_simp
               with_reducible rfl
              rotate_left
              ·simp only [Act.put, sA_, sB_, sC_, i64_w, i32_w]
               rfl
              refine take_ (i := 24) (N := some 70) (v := ?_) (a' := ?_) (tf 52 3321888767) rfl rfl (take_ofW HT_.out HW_.out (by kernel_rfl)) (fun _ _ _ h => h) (Or.inl ⟨by rfl, ?_⟩) hHeld ?_ ?_
              rotate_left
              ·rintro w' ⟨s0, s1, s2, s3, s4, s5, s6, s7, s8, s9, s10, s11, s12, s13, s14, s15, s16, s17, s18, s19, s20, s21, s22, s23, s24, s25, s26, s27, s28, s29⟩
               go_simp
               with_reducible rfl
              rotate_left
              ·simp only [Act.put, sA_, sB_, sC_, i64_w, i32_w]
               rfl
              refine pure_ (i := 25) (N := some 71) (v := ?_) (a' := ?_) (tf 52 3355443199) rfl rfl (any_of HT_.out (by kernel_rfl)) (fun _ _ _ h => h) (Or.inl ⟨by rfl, ?_⟩) ?_ ?_
              rotate_left
              ·intro w'
               go_simp
               with_reducible rfl
              rotate_left
              ·simp only [Act.put, sA_, sB_, sC_, i64_w, i32_w]
               rfl
              refine take_ (i := 27) (N := some 73) (v := ?_) (a' := ?_) (tf 52 3489660927) rfl rfl (take_ofW HT_.out HW_.out (by kernel_rfl)) (fun _ _ _ h => h) (Or.inl ⟨by rfl, ?_⟩) hHeld ?_ ?_
              rotate_left
              ·rintro w' ⟨s0, s1, s2, s3, s4, s5, s6, s7, s8, s9, s10, s11, s12, s13, s14, s15, s16, s17, s18, s19, s20, s21, s22, s23, s24, s25, s26, s27, s28, s29⟩
               go_simp
               with_reducible rfl
              rotate_left
              ·simp only [Act.put, sA_, sB_, sC_, i64_w, i32_w]
               rfl
              refine pure_ (i := 28) (N := some 74) (v := ?_) (a' := ?_) (tf 52 3758096383) rfl rfl (any_of HT_.out (by kernel_rfl)) (fun _ _ _ h => h) (Or.inl ⟨by rfl, ?_⟩) ?_ ?_
              rotate_left
              ·intro w'
               go_simp
               with_reducible rfl
              rotate_left
              ·simp only [Act.put, sA_, sB_, sC_, i64_w, i32_w]
               rfl
              refine pure_ (i := 29) (N := some 75) (v := ?_) (a' := ?_) (tf 52 4294967295) rfl rfl (any_of HT_.out (by kernel_rfl)) (fun _ _ _ h => h) (Or.inl ⟨by rfl, ?_⟩) ?_ ?_
              rotate_left
              ·intro w'
               go_simp
               with_reducible rfl
              rotate_left
              ·simp only [Act.put, sA_, sB_, sC_, i64_w, i32_w]
               rfl
              refine take_ (i := 32) (N := some 78) (v := ?_) (a' := ?_) (tf 52 8589934591) rfl rfl (take_ofW HT_.out HW_.out (by kernel_rfl)) (fun _ _ _ h => h) (Or.inl ⟨by rfl, ?_⟩) hHeld ?_ ?_
              rotate_left
              ·rintro w' ⟨s0, s1, s2, s3, s4, s5, s6, s7, s8, s9, s10, s11, s12, s13, s14, s15, s16, s17, s18, s19, s20, s21, s22, s23, s24, s25, s26, s27, s28, s29⟩
               go_simp
               with_reducible rfl
              rotate_left
              ·simp only [Act.put, sA_, sB_, sC_, i64_w, i32_w]
               rfl
              refine pure_ (i := 33) (N := some 79) (v := ?_) (a' := ?_) (tf 52 17179869183) rfl rfl (any_of HT_.out (by kernel_rfl)) (fun _ _ _ h => h) (Or.inl ⟨by rfl, ?_⟩) ?_ ?_
              rotate_left
              ·intro w'
               go_simp
               with_reducible rfl
              rotate_left
              ·simp only [Act.put, sA_, sB_, sC_, i64_w, i32_w]
               rfl
              refine pure_ (i := 34) (N := some 80) (v := ?_) (a' := ?_) (tf 52 34359738367) rfl rfl (any_of HT_.out (by kernel_rfl)) (fun _ _ _ h => h) (Or.inl ⟨by rfl, ?_⟩) ?_ ?_
              rotate_left
              ·intro w'
               go_simp
               with_reducible rfl
              rotate_left
              ·simp only [Act.put, sA_, sB_, sC_, i64_w, i32_w]
               rfl
              refine pure_ (i := 35) (N := some 81) (v := ?_) (a' := ?_) (tf 52 68719476735) rfl rfl (any_of HT_.out (by kernel_rfl)) (fun _ _ _ h => h) (Or.inl ⟨by rfl, ?_⟩) ?_ ?_
              rotate_left
              ·intro w'
               go_simp
               with_reducible rfl
              rotate_left
              ·simp only [Act.put, sA_, sB_, sC_, i64_w, i32_w]
               rfl
              refine pure_ (i := 36) (N := some 82) (v := ?_) (a' := ?_) (tf 52 137438953471) rfl rfl (any_of HT_.out (by kernel_rfl)) (fun _ _ _ h => h) (Or.inl ⟨by rfl, ?_⟩) ?_ ?_
              rotate_left
              ·intro w'
               go_simp
               with_reducible rfl
              rotate_left
              ·simp only [Act.put, sA_, sB_, sC_, i64_w, i32_w]
               rfl
              refine pure_ (i := 37) (N := some 83) (v := ?_) (a' := ?_) (tf 52 274877906943) rfl rfl (any_of HT_.out (by kernel_rfl)) (fun _ _ _ h => h) (Or.inl ⟨by rfl, ?_⟩) ?_ ?_
              rotate_left
              ·intro w'
               go_simp
               with_reducible rfl
              rotate_left
              ·simp only [Act.put, sA_, sB_, sC_, i64_w, i32_w]
               rfl
              refine pure_ (i := 38) (N := some 84) (v := ?_) (a' := ?_) (tf 52 549755813887) rfl rfl (any_of HT_.out (by kernel_rfl)) (fun _ _ _ h => h) (Or.inl ⟨by rfl, ?_⟩) ?_ ?_
              rotate_left
              ·intro w'
               go_simp
               with_reducible rfl
              rotate_left
              ·simp only [Act.put, sA_, sB_, sC_, i64_w, i32_w]
               rfl
              refine pure_ (i := 39) (N := some 85) (v := ?_) (a' := ?_) (tf 52 1099511627775) rfl rfl (any_of HT_.out (by kernel_rfl)) (fun _ _ _ h => h) (Or.inl ⟨by rfl, ?_⟩) ?_ ?_
              rotate_left
              ·intro w'
               go_simp
               with_reducible rfl
              rotate_left
              ·simp only [Act.put, sA_, sB_, sC_, i64_w, i32_w]
               rfl
              refine pure_ (i := 41) (N := some 87) (v := ?_) (a' := ?_) (tf 52 3298534883327) rfl rfl (any_of HT_.out (by kernel_rfl)) (fun _ _ _ h => h) (Or.inl ⟨by rfl, ?_⟩) ?_ ?_
              rotate_left
              ·intro w'
               go_simp
               with_reducible rfl
              rotate_left
              ·simp only [Act.put, sA_, sB_, sC_, i64_w, i32_w]
               rfl
              refine take_ (i := 40) (N := some 86) (v := ?_) (a' := ?_) (tf 52 4398046511103) rfl rfl (take_ofW HT_.out HW_.out (by kernel_rfl)) (fun _ _ _ h => h) (Or.inl ⟨by rfl, ?_⟩) hHeld ?_ ?_
              rotate_left
              ·rintro w' ⟨s0, s1, s2, s3, s4, s5, s6, s7, s8, s9, s10, s11, s12, s13, s14, s15, s16, s17, s18, s19, s20, s21, s22, s23, s24, s25, s26, s27, s28, s29⟩
               go_simp
               with_reducible rfl
              rotate_left
              ·simp only [Act.put, sA_, sB_, sC_, i64_w, i32_w]
               rfl
              refine take_ (i := 42) (N := some 88) (v := ?_) (a' := ?_) (tf 52 8796093022207) rfl rfl (take_ofW HT_.out HW_.out (by kernel_rfl)) (fun _ _ _ h => h) (Or.inl ⟨by rfl, ?_⟩) hHeld ?_ ?_
              rotate_left
              ·rintro w' ⟨s0, s1, s2, s3, s4, s5, s6, s7, s8, s9, s10, s11, s12, s13, s14, s15, s16, s17, s18, s19, s20, s21, s22, s23, s24, s25, s26, s27, s28, s29⟩
               go_simp
               with_reducible rfl
              rotate_left
              ·simp only [Act.put, sA_, sB_, sC_, i64_w, i32_w]
               rfl
              refine pure_ (i := 43) (N := some 89) (v := ?_) (a' := ?_) (tf 52 17592186044415) rfl rfl (any_of HT_.out (by kernel_rfl)) (fun _ _ _ h => h) (Or.inl ⟨by rfl, ?_⟩) ?_ ?_
              rotate_left
              ·intro w'
               go_simp
               with_reducible rfl
              rotate_left
              ·simp only [Act.put, sA_, sB_, sC_, i64_w, i32_w]
               rfl
              refine pure_ (i := 44) (N := some 90) (v := ?_) (a' := ?_) (tf 52 35184372088831) rfl rfl (any_of HT_.out (by kernel_rfl)) (fun _ _ _ h => h) (Or.inl ⟨by rfl, ?_⟩) ?_ ?_
              rotate_left
              ·intro w'
               go_simp
               with_reducible rfl
              rotate_left
              ·simp only [Act.put, sA_, sB_, sC_, i64_w, i32_w]
               rfl
              refine pure_ (i := 45) (N := some 91) (v := ?_) (a' := ?_) (tf 52 70368744177663) rfl rfl (any_of HT_.out (by kernel_rfl)) (fun _ _ _ h => h) (Or.inl ⟨by rfl, ?_⟩) ?_ ?_
              rotate_left
              ·intro w'
               go_simp
               with_reducible rfl
              rotate_left
              ·simp only [Act.put, sA_, sB_, sC_, i64_w, i32_w]
               rfl
              refine pure_ (i := 46) (N := some 92) (v := ?_) (a' := ?_) (tf 52 140737488355327) rfl rfl (any_of HT_.out (by kernel_rfl)) (fun _ _ _ h => h) (Or.inl ⟨by rfl, ?_⟩) ?_ ?_
              rotate_left
              ·intro w'
               go_simp
               with_reducible rfl
              rotate_left
              ·simp only [Act.put, sA_, sB_, sC_, i64_w, i32_w]
               rfl
              refine pure_ (i := 47) (N := some 93) (v := ?_) (a' := ?_) (tf 52 281474976710655) rfl rfl (any_of HT_.out (by kernel_rfl)) (fun _ _ _ h => h) (Or.inl ⟨by rfl, ?_⟩) ?_ ?_
              rotate_left
              ·intro w'
               go_simp
               with_reducible rfl
              rotate_left
              ·simp only [Act.put, sA_, sB_, sC_, i64_w, i32_w]
               rfl
              refine pure_ (i := 48) (N := some 94) (v := ?_) (a' := ?_) (tf 52 562949953421311) rfl rfl (any_of HT_.out (by kernel_rfl)) (fun _ _ _ h => h) (Or.inl ⟨by rfl, ?_⟩) ?_ ?_
              rotate_left
              ·intro w'
               go_simp
               with_reducible rfl
              rotate_left
              ·simp only [Act.put, sA_, sB_, sC_, i64_w, i32_w]
               rfl
              refine pure_ (i := 49) (N := some 95) (v := ?_) (a' := ?_) (tf 52 1125899906842623) rfl rfl (any_of HT_.out (by kernel_rfl)) (fun _ _ _ h => h) (Or.inl ⟨by rfl, ?_⟩) ?_ ?_
              rotate_left
              ·intro w'
               go_simp
               with_reducible rfl
              rotate_left
              ·simp only [Act.put, sA_, sB_, sC_, i64_w, i32_w]
               rfl
              refine take_ (i := 50) (N := some 96) (v := ?_) (a' := ?_) (tf 52 2251799813685247) rfl rfl (take_ofW HT_.out HW_.out (by kernel_rfl)) (fun _ _ _ h => h) (Or.inl ⟨by rfl, ?_⟩) hHeld ?_ ?_
              rotate_left
              ·rintro w' ⟨s0, s1, s2, s3, s4, s5, s6, s7, s8, s9, s10, s11, s12, s13, s14, s15, s16, s17, s18, s19, s20, s21, s22, s23, s24, s25, s26, s27, s28, s29⟩
               go_simp
               with_reducible rfl
              rotate_left
              ·simp only [Act.put, sA_, sB_, sC_, i64_w, i32_w]
               rfl
              refine pure_ (i := 51) (N := some 97) (v := ?_) (a' := ?_) (tf 52 4503599627370495) rfl rfl (any_of HT_.out (by kernel_rfl)) (fun _ _ _ h => h) (Or.inl ⟨by rfl, ?_⟩) ?_ ?_
              rotate_left
              ·intro w'
               go_simp
               with_reducible rfl
              rotate_left
              ·simp only [Act.put, sA_, sB_, sC_, i64_w, i32_w]
               rfl
              refine done_ (done_of HT_.out (by kernel_rfl)) ?_
              have p227 : 0 ≤ (x7_1 : Int) := of_decide_eq_true (by first | (with_reducible assumption) | assumption)
              have q227 : x7_1 < (t215.length : Int) := of_decide_eq_true (by first | (with_reducible assumption) | assumption)
              obtain ⟨ad227, e227, hx227_0⟩ := Kd.at_int (Kd.R_reads' HO_4.out).2.2 x7_1 p227 q227
              obtain rfl : ad222 = ad227 := (by injection e227)
              replace p227 := eq_true p227
              replace q227 := eq_true q227
              try go_wp2
              go_loopg [6, 8] k1 (fun kq v6 v8 w' => ∃ (x6_2 : Int) (x8_2 : Int), v6 = .int .i64 x6_2 ∧ v8 = .int .u64 x8_2 ∧ Aside0 (platformfwlaw11_FieldUnitsCover.l1 kq t215 t218 x6_2 x7_1 x8_2 t204 t205 t206 t207 t208 t209 t210 t211 t212 = some r) ∧ Aside0 (kq ≤ k1) ∧ Aside0 (Kd.R (Kd.int .u64) 22 w' w.heap.size (fun _ => True) (.slice (some ad222) t215.length co21) t215) ∧ Aside0 (Kd.R k58 58 w' w.heap.size (fun _ => True) (.slice (some ad223) t218.length co22) t218) ∧ Aside0 (w'.heap[gb203]? = some (.cells #[.int .i64 a0_0, .int .u64 a0_1, .int .u64 a0_2, .int .i64 a0_3, .int .i64 a0_4, .int .i64 a0_5, .int .i64 a0_6, .int .i64 a0_7, .int .i64 a0_8] 26 (0, 0))) ∧ Aside0 (w'.heap[gb213]? = some (.cells #[.int .i64 t204, .int .u64 t205, .int .u64 t206, .int .i64 t207, .int .i64 t208, .int .i64 t209, .int .i64 t210, .int .i64 t211, .int .i64 t212] 26 (0, 0))) ∧ Aside0 (Below w.heap.size w w'))
              case atStart => exact ⟨(x6_1), (rd t215 x7_1), (by first | rfl | (simp; done) | (simp [*]; done)), (by first | rfl | (simp; done) | (simp [*]; done)), H', ⟨Nat.le_refl _⟩, ⟨by (with_reducible repeat (first | apply Kd.R_alloc | apply Kd.R_drewN | apply Kd.R_drew)); exact HO_4.out⟩, ⟨by (with_reducible repeat (first | apply Kd.R_alloc | apply Kd.R_drewN | apply Kd.R_drew)); exact HO_5.out⟩, ⟨by (with_reducible repeat (first | refine kN_ ?_ _ | refine kD_ ?_ | refine kA_ ?_ _)); exact BK203.out⟩, ⟨by (with_reducible repeat (first | refine kN_ ?_ _ | refine kD_ ?_ | refine kA_ ?_ _)); exact BK213.out⟩, ⟨by repeat (first | (with_reducible first | exact HB.out | apply bA_ | apply bN_ | apply bD_ | refine bS_ ?_ GE203.out | refine bS_ ?_ GE213.out) | exact HB.out)⟩⟩
              case round =>
               clear H'
               try clear c1
               try clear c2
               try clear p2
               try clear q2
               try clear hx2
               try clear c3
               try clear q3
               try clear c4
               try clear c8
               try clear c9
               try clear c9b0
               try clear c9b1
               try clear c9b2
               try clear c14
               try clear c15
               try clear c18
               try clear p22
               try clear q22
               try clear hx22
               try clear c23
               try clear c23b0
               try clear c24
               try clear c24b0
               try clear c25
               try clear c25b0
               try clear c25b1
               try clear c26
               try clear c26b0
               try clear c27
               try clear c27b0
               try clear c28
               try clear c28b0
               try clear c29
               try clear c29b0
               try clear c29b1
               try clear q30
               try clear c31
               try clear hcz11_0 hcz11_1 hcz11_2 hcz11_3 hcz11_4 hcz11_5 hcz11_6 hcz11_7 hcz11_8
               try clear hcz15_0 hcz15_1 hcz15_2 hcz15_3 hcz15_4 hcz15_5 hcz15_6 hcz15_7 hcz15_8
               try clear hfz11_0 hfz11_1 hfz11_2 hfz11_3 hfz11_4 hfz11_5 hfz11_6 hfz11_7 hfz11_8
               try clear hfz15_0 hfz15_1 hfz15_2 hfz15_3 hfz15_4 hfz15_5 hfz15_6 hfz15_7 hfz15_8
               try clear hx222_0
               try clear hx223_0
               try clear hx223_1
               try clear hx223_2
               try clear hx223_3
               try clear hx223_4
               try clear hx224_0
               try clear hx224_1
               try clear hx224_2
               try clear hx224_3
               try clear hx224_4
               try clear hx225_0
               try clear hx225_1
               try clear hx225_2
               try clear hx225_3
               try clear hx225_4
               try clear hx226_0
               try clear hx226_1
               try clear hx226_2
               try clear hx226_3
               try clear hx226_4
               try clear hx227_0
               try clear p2
               try clear p222
               try clear p223
               try clear p224
               try clear p225
               try clear p226
               try clear p227
               try clear q222
               try clear q223
               try clear q224
               try clear q225
               try clear q226
               try clear q227
               obtain ⟨x6_2, x8_2, rfl, rfl, HA, HK2, HO_4, HO_5, BK203, BK213, HB⟩ := hrel
               cases gk with
               | zero => exact absurd HA.out (by simp [platformfwlaw11_FieldUnitsCover.l1])
               | succ k2 =>
                have H := HA.out
                clear HA
                simp only [platformfwlaw11_FieldUnitsCover.l1] at H
                by_cases c33 : x8_2 > 0
                ·rw [if_pos c33] at H
                 have c33b0 : decide (0 < x8_2) = true := decide_eq_true c33
                 clear c33
                 have H' := Aside0.mk H
                 clear H
                 go_wp2
                 go_roundg k2
                 case measure => have := HK1.out; have := HK2.out; omega
                 case rel => exact ⟨(wrap64 (x6_2 + 1)), (Go.bits .and .u64 x8_2 (IntKind.u64.wrap (x8_2 - 1))), (by first | rfl | (simp; done) | (simp [*]; done)), (by first | rfl | (simp; done) | (simp [*]; done)), H', ⟨by have := HK1.out; have := HK2.out; omega⟩, ⟨by (with_reducible repeat (first | apply Kd.R_alloc | apply Kd.R_drewN | apply Kd.R_drew)); exact HO_4.out⟩, ⟨by (with_reducible repeat (first | apply Kd.R_alloc | apply Kd.R_drewN | apply Kd.R_drew)); exact HO_5.out⟩, ⟨by (with_reducible repeat (first | refine kN_ ?_ _ | refine kD_ ?_ | refine kA_ ?_ _)); exact BK203.out⟩, ⟨by (with_reducible repeat (first | refine kN_ ?_ _ | refine kD_ ?_ | refine kA_ ?_ _)); exact BK213.out⟩, ⟨by repeat (first | (with_reducible first | exact HB.out | apply bA_ | apply bN_ | apply bD_ | refine bS_ ?_ GE203.out | refine bS_ ?_ GE213.out) | exact HB.out)⟩⟩
                ·rw [if_neg c33] at H
                 have c33b0 : decide (0 < x8_2) = false := decide_eq_false c33
                 clear c33
                 have H' := Aside0.mk H
                 clear H
                 go_wp2
                 go_roundg k2
                 case measure => have := HK1.out; have := HK2.out; omega
                 case rel => exact ⟨(x6_2), (wrap64 (x7_1 + 1)), (by first | rfl | (simp; done) | (simp [*]; done)), (by first | rfl | (simp; done) | (simp [*]; done)), H', ⟨by have := HK1.out; have := HK2.out; omega⟩, ⟨by (with_reducible repeat (first | apply Kd.R_alloc | apply Kd.R_drewN | apply Kd.R_drew)); exact HO_4.out⟩, ⟨by (with_reducible repeat (first | apply Kd.R_alloc | apply Kd.R_drewN | apply Kd.R_drew)); exact HO_5.out⟩, ⟨by (with_reducible repeat (first | refine kN_ ?_ _ | refine kD_ ?_ | refine kA_ ?_ _)); exact BK203.out⟩, ⟨by (with_reducible repeat (first | refine kN_ ?_ _ | refine kD_ ?_ | refine kA_ ?_ _)); exact BK213.out⟩, ⟨by repeat (first | (with_reducible first | exact HB.out | apply bA_ | apply bN_ | apply bD_ | refine bS_ ?_ GE203.out | refine bS_ ?_ GE213.out) | exact HB.out)⟩⟩
            ·rw [if_neg c29] at H
             have c29b0 : (((rd_T58 t218 x7_1).f2) == t209) = false := beq_eq_false_iff_ne.mpr c29
             have c29b1 : (((rd_T58 t218 x7_1).f2) != t209) = true := bne_iff_ne.mpr c29
             obtain rfl := Option.some.inj H
             exact absurd hr_.out (by simp)
         ·rw [if_neg c26] at H
          exact absurd H (by simp)
       ·rw [if_neg c24] at H
        exact absurd H (by simp)
      ·rw [if_neg c23] at H
       have c23b0 : decide (x7_1 < (t215.length : Int)) = false := decide_eq_false c23
       clear c23
       obtain rfl := Option.some.inj H
       have hnb34 := NB213_203.out
       have hnc34 := NB203_213.out
       obtain ⟨hcz35_0, hcz35_1, hcz35_2, hcz35_3, hcz35_4, hcz35_5, hcz35_6, hcz35_7, hcz35_8⟩ := cells9_ BK213.out
       obtain ⟨hfz35_0, hfz35_1, hfz35_2, hfz35_3, hfz35_4, hfz35_5, hfz35_6, hfz35_7, hfz35_8⟩ := froz9_ BK213.out
       go_wp2
       go_ret
       exact ⟨by first | rfl | (simp [errW_none, errW_some] <;> rfl) | (simp [*, errW_none, errW_some] <;> rfl), by repeat (first | (with_reducible first | exact HB.out | apply bA_ | apply bN_ | apply bD_ | refine bS_ ?_ GE203.out | refine bS_ ?_ GE213.out) | exact HB.out)⟩
   ·rw [if_neg c9] at H
    have c9b0 : ((t215.length : Int) == (t218.length : Int)) = false := beq_eq_false_iff_ne.mpr c9
    have c9b1 : ((t215.length : Int) != (t218.length : Int)) = true := bne_iff_ne.mpr c9
    have c9b2 : (t215.length == t218.length) = false := by first | simpa using c9 | (simp at c9 ⊢; omega)
    obtain rfl := Option.some.inj H
    exact absurd hr_.out (by simp)
  ·replace c8 := Bool.eq_false_iff.mpr c8
   subst c8
   have H1 : (some false) = some r := by rw [if_neg (show ¬ (false = true) by decide)] at H; exact H
   clear H
   have H := H1
   clear H1
   obtain rfl := Option.some.inj H
   exact absurd hr_.out (by simp)
 ·replace c4 := Bool.eq_false_iff.mpr c4
  subst c4
  have H1 : ((platformfwlaw11_awake.f k).bind fun t228 => (if t228 = true then ((field_Masks.f k t204 t205 t206 t207 t208 t209 t210 t211 t212).bind fun t229 => (if (t229.length : Int) = 0 then ((field_Accesses.f k t204 t205 t206 t207 t208 t209 t210 t211 t212).bind fun t232 => (some ((t232.length : Int) == 0))) else (some false))) else (some false))) = some r := by rw [if_neg (show ¬ (false = true) by decide)] at H; exact H
  clear H
  have H := H1
  clear H1
  replace H := Option.bind_eq_some_iff.mp H
  obtain ⟨t228, A360, H⟩ := H
  replace H : (if t228 = true then ((field_Masks.f k t204 t205 t206 t207 t208 t209 t210 t211 t212).bind fun t229 => (if (t229.length : Int) = 0 then ((field_Accesses.f k t204 t205 t206 t207 t208 t209 t210 t211 t212).bind fun t232 => (some ((t232.length : Int) == 0))) else (some false))) else (some false)) = some r := H
  have A36 := Aside0.mk A360
  clear A360
  by_cases c37 : t228 = true
  ·subst c37
   have H1 : ((field_Masks.f k t204 t205 t206 t207 t208 t209 t210 t211 t212).bind fun t229 => (if (t229.length : Int) = 0 then ((field_Accesses.f k t204 t205 t206 t207 t208 t209 t210 t211 t212).bind fun t232 => (some ((t232.length : Int) == 0))) else (some false))) = some r := by rw [if_pos rfl] at H; exact H
   clear H
   have H := H1
   clear H1
   replace H := Option.bind_eq_some_iff.mp H
   obtain ⟨t229, A380, H⟩ := H
   replace H : (if (t229.length : Int) = 0 then ((field_Accesses.f k t204 t205 t206 t207 t208 t209 t210 t211 t212).bind fun t232 => (some ((t232.length : Int) == 0))) else (some false)) = some r := H
   have A38 := Aside0.mk A380
   clear A380
   by_cases c39 : (t229.length : Int) = 0
   ·rw [if_pos c39] at H
    have c39b0 : ((t229.length : Int) == 0) = true := beq_iff_eq.mpr c39
    have c39b1 : ((t229.length : Int) != 0) = false := bne_eq_false_iff_eq.mpr c39
    clear c39
    replace H := Option.bind_eq_some_iff.mp H
    obtain ⟨t232, A400, H⟩ := H
    replace H : (some ((t232.length : Int) == 0)) = some r := H
    have A40 := Aside0.mk A400
    clear A400
    obtain rfl := Option.some.inj H
    go_enter Try.func8, Try.ntmps8
    go_wp2_with (first | ((with_reducible refine gate_dst (N := 1) rfl ?_); (try (refine gate_guard (by rfl) ?_; dsimp only)); refine box_event ?hg (N := 1) ?hd (cs := #[.int .i64 a0_0, .int .u64 a0_1, .int .u64 a0_2, .int .i64 a0_3, .int .i64 a0_4, .int .i64 a0_5, .int .i64 a0_6, .int .i64 a0_7, .int .i64 a0_8]) (t := 26) ?hr ?_; (case hd => rfl); (case hg => rfl); (case hr => first | (go_simp; done) | (go_simp; rfl)); intro gb203 hg w41 hbox hb; have n0_ := Aside0.mk (below_step (by repeat (first | (with_reducible first | exact HB.out | apply bA_ | apply bN_ | apply bD_) | exact HB.out)) hb); have n1_ := Aside0.mk (hbox); have n2_ := Aside0.mk ((by rw [hg]; exact (below_size (by repeat (first | (with_reducible first | exact HB.out | apply bA_ | apply bN_ | apply bD_) | exact HB.out))) : w.heap.size ≤ gb203)); have n3_ := Aside0.mk ((by rw [hg]; exact (below_size (by repeat (first | (with_reducible first | exact HB.out | apply bA_ | apply bN_ | apply bD_) | exact HB.out))) : w.heap.size ≤ gb203)); clear HB; have HB := n0_; have BK203 := n1_; have GW203 := n2_; have GE203 := n3_; clear n0_ n1_ n2_ n3_; clear hb hbox hg; obtain ⟨hcz42_0, hcz42_1, hcz42_2, hcz42_3, hcz42_4, hcz42_5, hcz42_6, hcz42_7, hcz42_8⟩ := cells9_ BK203.out; obtain ⟨hfz42_0, hfz42_1, hfz42_2, hfz42_3, hfz42_4, hfz42_5, hfz42_6, hfz42_7, hfz42_8⟩ := froz9_ BK203.out) | ((with_reducible refine gate_callee (f := 15) rfl ?_); refine goesL_ (some 10) rfl rfl Try.func15 (by kernel_rfl) rfl #[.agg #[.int .i64 a0_0, .int .u64 a0_1, .int .u64 a0_2, .int .i64 a0_3, .int .i64 a0_4, .int .i64 a0_5, .int .i64 a0_6, .int .i64 a0_7, .int .i64 a0_8]] rfl (by (try simp only [List.map_toArray, List.map_cons, List.map_nil]); first | done | rfl | (simp only [List.length_drop, List.length_take]; rfl)) ?_; (with_reducible refine (platformfwlaw11_spec.calls k a0_0 a0_1 a0_2 a0_3 a0_4 a0_5 a0_6 a0_7 a0_8 t204 t205 t206 t207 t208 t209 t210 t211 t212 _ A2.out).mono ?_); rintro e w43 ⟨rfl, hb⟩; refine ⟨_, rfl, ?_⟩; have n0_ := Aside0.mk (blk_below (g := gb203) (o := .cells #[.int .i64 a0_0, .int .u64 a0_1, .int .u64 a0_2, .int .i64 a0_3, .int .i64 a0_4, .int .i64 a0_5, .int .i64 a0_6, .int .i64 a0_7, .int .i64 a0_8] 26 (0, 0)) (by (with_reducible repeat (first | refine kN_ ?_ _ | refine kD_ ?_ | refine kA_ ?_ _)); exact BK203.out) hb); have n1_ := Aside0.mk (below_step (by repeat (first | (with_reducible first | exact HB.out | apply bA_ | apply bN_ | apply bD_ | refine bS_ ?_ GE203.out) | exact HB.out)) hb); clear BK203; clear HB; have BK203 := n0_; have HB := n1_; clear n0_ n1_; (try clear hb); (try clear hb2); (try clear hk); (try clear hi)) | ((with_reducible refine gate_dst (N := 3) rfl ?_); (try (refine gate_guard (by rfl) ?_; dsimp only)); refine box_event ?hg (N := 3) ?hd (cs := #[.int .i64 0, .int .u64 0, .int .u64 0, .int .i64 0, .int .i64 0, .int .i64 0, .int .i64 0, .int .i64 0, .int .i64 0]) (t := 26) ?hr ?_; (case hd => rfl); (case hg => rfl); (case hr => first | (go_simp; done) | (go_simp; rfl)); intro gb213 hg w44 hbox hb; have n0_ := Aside0.mk (blk_below (g := gb203) (o := .cells #[.int .i64 a0_0, .int .u64 a0_1, .int .u64 a0_2, .int .i64 a0_3, .int .i64 a0_4, .int .i64 a0_5, .int .i64 a0_6, .int .i64 a0_7, .int .i64 a0_8] 26 (0, 0)) (by (with_reducible repeat (first | refine kN_ ?_ _ | refine kD_ ?_ | refine kA_ ?_ _)); exact BK203.out) hb); have n1_ := Aside0.mk (below_step (by repeat (first | (with_reducible first | exact HB.out | apply bA_ | apply bN_ | apply bD_ | refine bS_ ?_ GE203.out) | exact HB.out)) hb); have n2_ := Aside0.mk (hbox); have n3_ := Aside0.mk ((by rw [hg]; exact (below_size (by repeat (first | (with_reducible first | exact HB.out | apply bA_ | apply bN_ | apply bD_ | refine bS_ ?_ GE203.out) | exact HB.out))) : w.heap.size ≤ gb213)); have n4_ := Aside0.mk ((by rw [hg]; exact (below_size (by repeat (first | (with_reducible first | exact HB.out | apply bA_ | apply bN_ | apply bD_ | refine bS_ ?_ GE203.out) | exact HB.out))) : w.heap.size ≤ gb213)); have n5_ := Aside0.mk ((by rw [hg]; exact Nat.ne_of_lt (blk_lt (g := gb203) (o := .cells #[.int .i64 a0_0, .int .u64 a0_1, .int .u64 a0_2, .int .i64 a0_3, .int .i64 a0_4, .int .i64 a0_5, .int .i64 a0_6, .int .i64 a0_7, .int .i64 a0_8] 26 (0, 0)) (by (with_reducible repeat (first | refine kN_ ?_ _ | refine kD_ ?_ | refine kA_ ?_ _)); exact BK203.out)) : gb203 ≠ gb213)); have n6_ := Aside0.mk ((by rw [hg]; exact Nat.ne_of_gt (blk_lt (g := gb203) (o := .cells #[.int .i64 a0_0, .int .u64 a0_1, .int .u64 a0_2, .int .i64 a0_3, .int .i64 a0_4, .int .i64 a0_5, .int .i64 a0_6, .int .i64 a0_7, .int .i64 a0_8] 26 (0, 0)) (by (with_reducible repeat (first | refine kN_ ?_ _ | refine kD_ ?_ | refine kA_ ?_ _)); exact BK203.out)) : gb213 ≠ gb203)); clear BK203; clear HB; have BK203 := n0_; have HB := n1_; have BK213 := n2_; have GW213 := n3_; have GE213 := n4_; have NB203_213 := n5_; have NB213_203 := n6_; clear n0_ n1_ n2_ n3_ n4_ n5_ n6_; clear hb hbox hg; have hnb45 := NB213_203.out; have hnc45 := NB203_213.out; obtain ⟨hcz46_0, hcz46_1, hcz46_2, hcz46_3, hcz46_4, hcz46_5, hcz46_6, hcz46_7, hcz46_8⟩ := cells9_ BK213.out; obtain ⟨hfz46_0, hfz46_1, hfz46_2, hfz46_3, hfz46_4, hfz46_5, hfz46_6, hfz46_7, hfz46_8⟩ := froz9_ BK213.out) | ((with_reducible refine gate_callee (f := 29) rfl ?_); refine goesL_ (some 12) rfl rfl Try.func29 (by kernel_rfl) rfl #[.agg #[.int .i64 t204, .int .u64 t205, .int .u64 t206, .int .i64 t207, .int .i64 t208, .int .i64 t209, .int .i64 t210, .int .i64 t211, .int .i64 t212]] rfl (by (try simp only [List.map_toArray, List.map_cons, List.map_nil]); first | done | rfl | (simp only [List.length_drop, List.length_take]; rfl)) ?_; (with_reducible refine (platformfwref09_ValidField.calls k t204 t205 t206 t207 t208 t209 t210 t211 t212 false _ A3.out).mono ?_); rintro e w47 ⟨rfl, hb⟩; refine ⟨_, rfl, ?_⟩; have n0_ := Aside0.mk (blk_below (g := gb203) (o := .cells #[.int .i64 a0_0, .int .u64 a0_1, .int .u64 a0_2, .int .i64 a0_3, .int .i64 a0_4, .int .i64 a0_5, .int .i64 a0_6, .int .i64 a0_7, .int .i64 a0_8] 26 (0, 0)) (by (with_reducible repeat (first | refine kN_ ?_ _ | refine kD_ ?_ | refine kA_ ?_ _)); refine blk_far ?_ NB203_213.out _; (with_reducible repeat (first | refine kN_ ?_ _ | refine kD_ ?_ | refine kA_ ?_ _)); refine blk_far ?_ NB203_213.out _; (with_reducible repeat (first | refine kN_ ?_ _ | refine kD_ ?_ | refine kA_ ?_ _)); refine blk_far ?_ NB203_213.out _; (with_reducible repeat (first | refine kN_ ?_ _ | refine kD_ ?_ | refine kA_ ?_ _)); refine blk_far ?_ NB203_213.out _; (with_reducible repeat (first | refine kN_ ?_ _ | refine kD_ ?_ | refine kA_ ?_ _)); refine blk_far ?_ NB203_213.out _; (with_reducible repeat (first | refine kN_ ?_ _ | refine kD_ ?_ | refine kA_ ?_ _)); refine blk_far ?_ NB203_213.out _; (with_reducible repeat (first | refine kN_ ?_ _ | refine kD_ ?_ | refine kA_ ?_ _)); refine blk_far ?_ NB203_213.out _; (with_reducible repeat (first | refine kN_ ?_ _ | refine kD_ ?_ | refine kA_ ?_ _)); refine blk_far ?_ NB203_213.out _; (with_reducible repeat (first | refine kN_ ?_ _ | refine kD_ ?_ | refine kA_ ?_ _)); refine blk_far ?_ NB203_213.out _; (with_reducible repeat (first | refine kN_ ?_ _ | refine kD_ ?_ | refine kA_ ?_ _)); exact BK203.out) hb); have n1_ := Aside0.mk (blk_below (g := gb213) (o := .cells #[.int .i64 t204, .int .u64 t205, .int .u64 t206, .int .i64 t207, .int .i64 t208, .int .i64 t209, .int .i64 t210, .int .i64 t211, .int .i64 t212] 26 (0, 0)) (by (with_reducible repeat (first | refine kN_ ?_ _ | refine kD_ ?_ | refine kA_ ?_ _)); refine blk_put (cs := #[.int .i64 t204, .int .u64 t205, .int .u64 t206, .int .i64 t207, .int .i64 t208, .int .i64 t209, .int .i64 t210, .int .i64 t211, .int .i64 0]) ?_ 8 _ rfl; (with_reducible repeat (first | refine kN_ ?_ _ | refine kD_ ?_ | refine kA_ ?_ _)); refine blk_put (cs := #[.int .i64 t204, .int .u64 t205, .int .u64 t206, .int .i64 t207, .int .i64 t208, .int .i64 t209, .int .i64 t210, .int .i64 0, .int .i64 0]) ?_ 7 _ rfl; (with_reducible repeat (first | refine kN_ ?_ _ | refine kD_ ?_ | refine kA_ ?_ _)); refine blk_put (cs := #[.int .i64 t204, .int .u64 t205, .int .u64 t206, .int .i64 t207, .int .i64 t208, .int .i64 t209, .int .i64 0, .int .i64 0, .int .i64 0]) ?_ 6 _ rfl; (with_reducible repeat (first | refine kN_ ?_ _ | refine kD_ ?_ | refine kA_ ?_ _)); refine blk_put (cs := #[.int .i64 t204, .int .u64 t205, .int .u64 t206, .int .i64 t207, .int .i64 t208, .int .i64 0, .int .i64 0, .int .i64 0, .int .i64 0]) ?_ 5 _ rfl; (with_reducible repeat (first | refine kN_ ?_ _ | refine kD_ ?_ | refine kA_ ?_ _)); refine blk_put (cs := #[.int .i64 t204, .int .u64 t205, .int .u64 t206, .int .i64 t207, .int .i64 0, .int .i64 0, .int .i64 0, .int .i64 0, .int .i64 0]) ?_ 4 _ rfl; (with_reducible repeat (first | refine kN_ ?_ _ | refine kD_ ?_ | refine kA_ ?_ _)); refine blk_put (cs := #[.int .i64 t204, .int .u64 t205, .int .u64 t206, .int .i64 0, .int .i64 0, .int .i64 0, .int .i64 0, .int .i64 0, .int .i64 0]) ?_ 3 _ rfl; (with_reducible repeat (first | refine kN_ ?_ _ | refine kD_ ?_ | refine kA_ ?_ _)); refine blk_put (cs := #[.int .i64 t204, .int .u64 t205, .int .u64 0, .int .i64 0, .int .i64 0, .int .i64 0, .int .i64 0, .int .i64 0, .int .i64 0]) ?_ 2 _ rfl; (with_reducible repeat (first | refine kN_ ?_ _ | refine kD_ ?_ | refine kA_ ?_ _)); refine blk_put (cs := #[.int .i64 t204, .int .u64 0, .int .u64 0, .int .i64 0, .int .i64 0, .int .i64 0, .int .i64 0, .int .i64 0, .int .i64 0]) ?_ 1 _ rfl; (with_reducible repeat (first | refine kN_ ?_ _ | refine kD_ ?_ | refine kA_ ?_ _)); refine blk_put (cs := #[.int .i64 0, .int .u64 0, .int .u64 0, .int .i64 0, .int .i64 0, .int .i64 0, .int .i64 0, .int .i64 0, .int .i64 0]) ?_ 0 _ rfl; (with_reducible repeat (first | refine kN_ ?_ _ | refine kD_ ?_ | refine kA_ ?_ _)); exact BK213.out) hb); have n2_ := Aside0.mk (below_step (by repeat (first | (with_reducible first | exact HB.out | apply bA_ | apply bN_ | apply bD_ | refine bS_ ?_ GE203.out | refine bS_ ?_ GE213.out) | exact HB.out)) hb); clear BK203; clear BK213; clear HB; have BK203 := n0_; have BK213 := n1_; have HB := n2_; clear n0_ n1_ n2_; (try clear hb); (try clear hb2); (try clear hk); (try clear hi)) | ((with_reducible refine gate_callee (f := 18) rfl ?_); refine goesL_ (some 14) rfl rfl Try.func18 (by kernel_rfl) rfl #[] rfl (by (try simp only [List.map_toArray, List.map_cons, List.map_nil]); first | done | rfl | (simp only [List.length_drop, List.length_take]; rfl)) ?_; (with_reducible refine (platformfwlaw11_awake.calls k  true _ A36.out).mono ?_); rintro e w48 ⟨rfl, hb⟩; refine ⟨_, rfl, ?_⟩; have n0_ := Aside0.mk (blk_below (g := gb203) (o := .cells #[.int .i64 a0_0, .int .u64 a0_1, .int .u64 a0_2, .int .i64 a0_3, .int .i64 a0_4, .int .i64 a0_5, .int .i64 a0_6, .int .i64 a0_7, .int .i64 a0_8] 26 (0, 0)) (by (with_reducible repeat (first | refine kN_ ?_ _ | refine kD_ ?_ | refine kA_ ?_ _)); exact BK203.out) hb); have n1_ := Aside0.mk (blk_below (g := gb213) (o := .cells #[.int .i64 t204, .int .u64 t205, .int .u64 t206, .int .i64 t207, .int .i64 t208, .int .i64 t209, .int .i64 t210, .int .i64 t211, .int .i64 t212] 26 (0, 0)) (by (with_reducible repeat (first | refine kN_ ?_ _ | refine kD_ ?_ | refine kA_ ?_ _)); exact BK213.out) hb); have n2_ := Aside0.mk (below_step (by repeat (first | (with_reducible first | exact HB.out | apply bA_ | apply bN_ | apply bD_ | refine bS_ ?_ GE203.out | refine bS_ ?_ GE213.out) | exact HB.out)) hb); clear BK203; clear BK213; clear HB; have BK203 := n0_; have BK213 := n1_; have HB := n2_; clear n0_ n1_ n2_; (try clear hb); (try clear hb2); (try clear hk); (try clear hi); obtain ⟨hcz49_0, hcz49_1, hcz49_2, hcz49_3, hcz49_4, hcz49_5, hcz49_6, hcz49_7, hcz49_8⟩ := cells9_ BK213.out; obtain ⟨hfz49_0, hfz49_1, hfz49_2, hfz49_3, hfz49_4, hfz49_5, hfz49_6, hfz49_7, hfz49_8⟩ := froz9_ BK213.out) | (go_at_call 35; (with_reducible refine (field_Masks.calls k t204 t205 t206 t207 t208 t209 t210 t211 t212 t229 _ A38.out).mono ?_); rintro e w50 ⟨v230, rfl, ho0, hb⟩; have n0_ := Aside0.mk (Kd.R_lower ho0 (below_size (by repeat (first | (with_reducible first | exact HB.out | apply bA_ | apply bN_ | apply bD_ | refine bS_ ?_ GE203.out | refine bS_ ?_ GE213.out) | exact HB.out)))); have n1_ := Aside0.mk (blk_below (g := gb203) (o := .cells #[.int .i64 a0_0, .int .u64 a0_1, .int .u64 a0_2, .int .i64 a0_3, .int .i64 a0_4, .int .i64 a0_5, .int .i64 a0_6, .int .i64 a0_7, .int .i64 a0_8] 26 (0, 0)) (by (with_reducible repeat (first | refine kN_ ?_ _ | refine kD_ ?_ | refine kA_ ?_ _)); exact BK203.out) hb); have n2_ := Aside0.mk (blk_below (g := gb213) (o := .cells #[.int .i64 t204, .int .u64 t205, .int .u64 t206, .int .i64 t207, .int .i64 t208, .int .i64 t209, .int .i64 t210, .int .i64 t211, .int .i64 t212] 26 (0, 0)) (by (with_reducible repeat (first | refine kN_ ?_ _ | refine kD_ ?_ | refine kA_ ?_ _)); exact BK213.out) hb); have n3_ := Aside0.mk (below_step (by repeat (first | (with_reducible first | exact HB.out | apply bA_ | apply bN_ | apply bD_ | refine bS_ ?_ GE203.out | refine bS_ ?_ GE213.out) | exact HB.out)) hb); clear BK203; clear BK213; clear HB; have HO231 := n0_; have BK203 := n1_; have BK213 := n2_; have HB := n3_; clear n0_ n1_ n2_ n3_; (try clear hb); (try clear hb2); (try clear hk); (try clear hi); (try clear ho0); obtain ⟨Ao51, co51, eo51⟩ := Kd.R_slice HO231.out; subst eo51; obtain ⟨hcz52_0, hcz52_1, hcz52_2, hcz52_3, hcz52_4, hcz52_5, hcz52_6, hcz52_7, hcz52_8⟩ := cells9_ BK213.out; obtain ⟨hfz52_0, hfz52_1, hfz52_2, hfz52_3, hfz52_4, hfz52_5, hfz52_6, hfz52_7, hfz52_8⟩ := froz9_ BK213.out) | (go_at_call 36; (with_reducible refine (field_Accesses.calls k t204 t205 t206 t207 t208 t209 t210 t211 t212 t232 _ A40.out).mono ?_); rintro e w53 ⟨v233, rfl, ho0, hb⟩; have n0_ := Aside0.mk (Kd.R_below (by (with_reducible repeat (first | apply Kd.R_alloc | apply Kd.R_drewN | apply Kd.R_drew)); exact HO231.out) hb); have n1_ := Aside0.mk (Kd.R_lower ho0 (below_size (by repeat (first | (with_reducible first | exact HB.out | apply bA_ | apply bN_ | apply bD_ | refine bS_ ?_ GE203.out | refine bS_ ?_ GE213.out) | exact HB.out)))); have n2_ := Aside0.mk (blk_below (g := gb203) (o := .cells #[.int .i64 a0_0, .int .u64 a0_1, .int .u64 a0_2, .int .i64 a0_3, .int .i64 a0_4, .int .i64 a0_5, .int .i64 a0_6, .int .i64 a0_7, .int .i64 a0_8] 26 (0, 0)) (by (with_reducible repeat (first | refine kN_ ?_ _ | refine kD_ ?_ | refine kA_ ?_ _)); exact BK203.out) hb); have n3_ := Aside0.mk (blk_below (g := gb213) (o := .cells #[.int .i64 t204, .int .u64 t205, .int .u64 t206, .int .i64 t207, .int .i64 t208, .int .i64 t209, .int .i64 t210, .int .i64 t211, .int .i64 t212] 26 (0, 0)) (by (with_reducible repeat (first | refine kN_ ?_ _ | refine kD_ ?_ | refine kA_ ?_ _)); exact BK213.out) hb); have n4_ := Aside0.mk (below_step (by repeat (first | (with_reducible first | exact HB.out | apply bA_ | apply bN_ | apply bD_ | refine bS_ ?_ GE203.out | refine bS_ ?_ GE213.out) | exact HB.out)) hb); clear HO231; clear BK203; clear BK213; clear HB; have HO231 := n0_; have HO234 := n1_; have BK203 := n2_; have BK213 := n3_; have HB := n4_; clear n0_ n1_ n2_ n3_ n4_; (try clear hb); (try clear hb2); (try clear hk); (try clear hi); (try clear ho0); obtain ⟨Ao54, co54, eo54⟩ := Kd.R_slice HO234.out; subst eo54))
    go_ret
    exact ⟨by first | rfl | (simp [errW_none, errW_some] <;> rfl) | (simp [*, errW_none, errW_some] <;> rfl), by repeat (first | (with_reducible first | exact HB.out | apply bA_ | apply bN_ | apply bD_ | refine bS_ ?_ GE203.out | refine bS_ ?_ GE213.out) | exact HB.out)⟩
   ·rw [if_neg c39] at H
    have c39b0 : ((t229.length : Int) == 0) = false := beq_eq_false_iff_ne.mpr c39
    have c39b1 : ((t229.length : Int) != 0) = true := bne_iff_ne.mpr c39
    have c39b2 : ¬ (t229 = []) := fun h_ => c39 (by rw [h_]; rfl)
    obtain rfl := Option.some.inj H
    exact absurd hr_.out (by simp)
  ·replace c37 := Bool.eq_false_iff.mpr c37
   subst c37
   have H1 : (some false) = some r := by rw [if_neg (show ¬ (false = true) by decide)] at H; exact H
   clear H
   have H := H1
   clear H1
   obtain rfl := Option.some.inj H
   exact absurd hr_.out (by simp)

end Go.Proofs.Ytmnmidclaaiffaa.PFieldUnitsCover
