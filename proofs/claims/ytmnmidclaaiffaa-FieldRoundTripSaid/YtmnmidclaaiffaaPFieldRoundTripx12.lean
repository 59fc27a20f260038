-- Written by a program of this session's (wip/print_patch.py over the kit's print) out of the translation; Lean checks it.
import Derived.Test.YtmnmidclaaiffaaPFieldRoundTripx0
import Derived.Test.YtmnmidclaaiffaaPFieldRoundTripx2
import Derived.Test.YtmnmidclaaiffaaPFieldRoundTripx4
import Derived.Test.YtmnmidclaaiffaaPFieldRoundTripx6
import Derived.Test.YtmnmidclaaiffaaPFieldRoundTripx8
import Derived.Test.YtmnmidclaaiffaaPFieldRoundTripx9
import Derived.Test.YtmnmidclaaiffaaPFieldRoundTripx10
import Derived.Test.YtmnmidclaaiffaaPFieldRoundTripx11
import Derived.Test.YtmnmidclaaiffaaExt
namespace Go.Proofs.Ytmnmidclaaiffaa.PFieldRoundTrip
open Go.RowKit Go.Proofs.Ytmnmidclaaiffaa.Ext Go.Proofs.YtmnmidclaaiffaaW.PrintWords Go.Proofs.YtmnmidclaaiffaaW.PrintLast Go.Proofs.YtmnmidclaaiffaaW.PrintMore
attribute [local go_sem] max2_int min2_int max_two min_two max_three min_three max_four min_four   -- for this text's walks alone
set_option linter.unusedVariables false
set_option linter.unusedSimpArgs false

/-! ### platformfwlaw11_FieldRoundTrip: function 4 -/
mutual
def platformfwlaw11_FieldRoundTrip.j0 : Nat → Int → List Int → List Int → Bool → Int → Int → Int → Int → Int → Int → Int → Int → Int → Option (Bool)
 | 0, _, _, _, _, _, _, _, _, _, _, _, _, _ => none
 | k + 1, x11, x12, x13, x55, x241000, x241001, x241002, x241003, x241004, x241005, x241006, x241007, x241008 => if x55 = true then (some false) else ((platformfwref09_Masks.f k x241000 x241001 x241002 x241003 x241004 x241005 x241006 x241007 x241008).bind fun t258 => (platformfwlaw11_FieldRoundTrip.l0 k x11 x12 x13 t258 0 x241000 x241001 x241002 x241003 x241004 x241005 x241006 x241007 x241008))
def platformfwlaw11_FieldRoundTrip.l0 : Nat → Int → List Int → List Int → List Int → Int → Int → Int → Int → Int → Int → Int → Int → Int → Int → Option (Bool)
 | 0, _, _, _, _, _, _, _, _, _, _, _, _, _, _ => none
 | k + 1, x11, x12, x13, x14, x15, x241000, x241001, x241002, x241003, x241004, x241005, x241006, x241007, x241008 => if x15 < x11 then (if x241006 = 0 then (if 0 ≤ x15 then (if x15 < (x13.length : Int) then (if x15 < (x12.length : Int) then ((platformfwref09_Ones.f x241005).bind fun t263 => (if x15 < (x14.length : Int) then (if (Go.bits .andNot .u64 (Go.bits .and .u64 (Go.bits .xor .u64 (rd x13 x15) (rd x12 x15)) t263) (rd x14 x15)) = 0 then ((platformfwref09_Ones.f x241005).bind fun t266 => (platformfwlaw11_FieldRoundTrip.j2 k x11 x12 x13 x14 x15 ((Go.bits .andNot .u64 (rd x13 x15) t263) != 0) x241000 x241001 x241002 x241003 x241004 x241005 x241006 x241007 x241008)) else (platformfwlaw11_FieldRoundTrip.j2 k x11 x12 x13 x14 x15 true x241000 x241001 x241002 x241003 x241004 x241005 x241006 x241007 x241008)) else (none))) else (none)) else (none)) else (none)) else (if 0 ≤ x15 then (if x15 < (x13.length : Int) then ((platformfwref09_Ones.f x241005).bind fun t268 => (platformfwlaw11_FieldRoundTrip.j2 k x11 x12 x13 x14 x15 ((Go.bits .andNot .u64 (rd x13 x15) t268) != 0) x241000 x241001 x241002 x241003 x241004 x241005 x241006 x241007 x241008)) else (none)) else (none))) else (some true)
def platformfwlaw11_FieldRoundTrip.j2 : Nat → Int → List Int → List Int → List Int → Int → Bool → Int → Int → Int → Int → Int → Int → Int → Int → Int → Option (Bool)
 | 0, _, _, _, _, _, _, _, _, _, _, _, _, _, _, _ => none
 | k + 1, x11, x12, x13, x14, x15, x97, x241000, x241001, x241002, x241003, x241004, x241005, x241006, x241007, x241008 => if x97 = true then (some false) else (platformfwlaw11_FieldRoundTrip.l0 k x11 x12 x13 x14 (wrap64 (x15 + 1)) x241000 x241001 x241002 x241003 x241004 x241005 x241006 x241007 x241008)
end
def platformfwlaw11_FieldRoundTrip.f (k : Nat) (a0_0 : Int) (a0_1 : Int) (a0_2 : Int) (a0_3 : Int) (a0_4 : Int) (a0_5 : Int) (a0_6 : Int) (a0_7 : Int) (a0_8 : Int) (a1_0 : Int) (a1_1 : Int) (a1_2 : ByteArray) (a1_3 : Int) (l2 : List Int) : Option (Bool) := (platformfwlaw11_spec.f k a0_0 a0_1 a0_2 a0_3 a0_4 a0_5 a0_6 a0_7 a0_8).bind fun bt231 => ((platformfwref08_Number.f a1_1).bind fun bt241 => ((platformfwref09_FromValue.f k bt231.1 bt231.2.1 bt231.2.2.1 bt231.2.2.2.1 bt231.2.2.2.2.1 bt231.2.2.2.2.2.1 bt231.2.2.2.2.2.2.1 bt231.2.2.2.2.2.2.2.1 bt231.2.2.2.2.2.2.2.2 bt241.1 bt241.2.1 bt241.2.2.1 bt241.2.2.2).bind fun bt245 => (if bt245.2 = 0 then ((platformfwref09_Units.f k bt231.1 bt231.2.1 bt231.2.2.1 bt231.2.2.2.1 bt231.2.2.2.2.1 bt231.2.2.2.2.2.1 bt231.2.2.2.2.2.2.1 bt231.2.2.2.2.2.2.2.1 bt231.2.2.2.2.2.2.2.2).bind fun bt248 => ((platformfwlaw11_fit.f l2 bt248.2).bind fun t250 => ((field_Insert.f k bt231.1 bt231.2.1 bt231.2.2.1 bt231.2.2.2.1 bt231.2.2.2.2.1 bt231.2.2.2.2.2.1 bt231.2.2.2.2.2.2.1 bt231.2.2.2.2.2.2.2.1 bt231.2.2.2.2.2.2.2.2 bt245.1 t250).bind fun t253 => ((platformfwlaw11_awake.f k).bind fun t256 => (if t256 = true then ((field_Extract.f k bt231.1 bt231.2.1 bt231.2.2.1 bt231.2.2.2.1 bt231.2.2.2.2.1 bt231.2.2.2.2.2.1 bt231.2.2.2.2.2.2.1 bt231.2.2.2.2.2.2.2.1 bt231.2.2.2.2.2.2.2.2 t253).bind fun t257 => (if t257.toList = bt245.1.toList then (platformfwlaw11_FieldRoundTrip.j0 k bt248.2 t250 t253 ((t253.length : Int) != bt248.2) bt231.1 bt231.2.1 bt231.2.2.1 bt231.2.2.2.1 bt231.2.2.2.2.1 bt231.2.2.2.2.2.1 bt231.2.2.2.2.2.2.1 bt231.2.2.2.2.2.2.2.1 bt231.2.2.2.2.2.2.2.2) else (platformfwlaw11_FieldRoundTrip.j0 k bt248.2 t250 t253 true bt231.1 bt231.2.1 bt231.2.2.1 bt231.2.2.2.1 bt231.2.2.2.2.1 bt231.2.2.2.2.2.1 bt231.2.2.2.2.2.2.1 bt231.2.2.2.2.2.2.2.1 bt231.2.2.2.2.2.2.2.2))) else (platformfwlaw11_FieldRoundTrip.j0 k bt248.2 t250 t253 true bt231.1 bt231.2.1 bt231.2.2.1 bt231.2.2.2.1 bt231.2.2.2.2.1 bt231.2.2.2.2.2.1 bt231.2.2.2.2.2.2.1 bt231.2.2.2.2.2.2.2.1 bt231.2.2.2.2.2.2.2.2)))))) else ((platformfwlaw11_awake.f k).bind fun t247 => (some t247)))))
theorem platformfwlaw11_FieldRoundTrip.mono_l : ∀ k, (∀ y0 y1 y2 y3 y4 y5 y6 y7 y8 y9 y10 y11 y12, LeO (platformfwlaw11_FieldRoundTrip.j0 k y0 y1 y2 y3 y4 y5 y6 y7 y8 y9 y10 y11 y12) (platformfwlaw11_FieldRoundTrip.j0 (k + 1) y0 y1 y2 y3 y4 y5 y6 y7 y8 y9 y10 y11 y12)) ∧ (∀ y0 y1 y2 y3 y4 y5 y6 y7 y8 y9 y10 y11 y12 y13, LeO (platformfwlaw11_FieldRoundTrip.l0 k y0 y1 y2 y3 y4 y5 y6 y7 y8 y9 y10 y11 y12 y13) (platformfwlaw11_FieldRoundTrip.l0 (k + 1) y0 y1 y2 y3 y4 y5 y6 y7 y8 y9 y10 y11 y12 y13)) ∧ (∀ y0 y1 y2 y3 y4 y5 y6 y7 y8 y9 y10 y11 y12 y13 y14, LeO (platformfwlaw11_FieldRoundTrip.j2 k y0 y1 y2 y3 y4 y5 y6 y7 y8 y9 y10 y11 y12 y13 y14) (platformfwlaw11_FieldRoundTrip.j2 (k + 1) y0 y1 y2 y3 y4 y5 y6 y7 y8 y9 y10 y11 y12 y13 y14))
 | 0 => ⟨fun _ _ _ _ _ _ _ _ _ _ _ _ _ r h => by simp [platformfwlaw11_FieldRoundTrip.j0] at h, fun _ _ _ _ _ _ _ _ _ _ _ _ _ _ r h => by simp [platformfwlaw11_FieldRoundTrip.l0] at h, fun _ _ _ _ _ _ _ _ _ _ _ _ _ _ _ r h => by simp [platformfwlaw11_FieldRoundTrip.j2] at h⟩
 | k + 1 => by
  obtain ⟨ih0, ih1, ih2⟩ := platformfwlaw11_FieldRoundTrip.mono_l k
  refine ⟨?_, ?_, ?_⟩
  ·intro y0 y1 y2 y3 y4 y5 y6 y7 y8 y9 y10 y11 y12
   unfold platformfwlaw11_FieldRoundTrip.j0
   repeat' first
   | (with_reducible exact ih0 _ _ _ _ _ _ _ _ _ _ _ _ _)
   | (with_reducible exact ih1 _ _ _ _ _ _ _ _ _ _ _ _ _ _)
   | (with_reducible exact ih2 _ _ _ _ _ _ _ _ _ _ _ _ _ _ _)
   | (with_reducible exact field_Extract.mono _ _ _ _ _ _ _ _ _ _ _)
   | (with_reducible exact field_Insert.mono _ _ _ _ _ _ _ _ _ _ _ _)
   | (with_reducible exact platformfwlaw11_awake.mono _)
   | (with_reducible exact platformfwlaw11_spec.mono _ _ _ _ _ _ _ _ _ _)
   | (with_reducible exact platformfwref09_FromValue.mono _ _ _ _ _ _ _ _ _ _ _ _ _ _)
   | (with_reducible exact platformfwref09_Masks.mono _ _ _ _ _ _ _ _ _ _)
   | (with_reducible exact platformfwref09_Units.mono _ _ _ _ _ _ _ _ _ _)
   | (with_reducible exact LeO.refl _)
   | (with_reducible exact LeO.none _)
   | (with_reducible refine LeO.ite ?_ ?_)
   | (with_reducible refine LeO.bind ?_ (fun _ => ?_))
   | exact ih0 _ _ _ _ _ _ _ _ _ _ _ _ _
   | exact ih1 _ _ _ _ _ _ _ _ _ _ _ _ _ _
   | exact ih2 _ _ _ _ _ _ _ _ _ _ _ _ _ _ _
   | exact field_Extract.mono _ _ _ _ _ _ _ _ _ _ _
   | exact field_Insert.mono _ _ _ _ _ _ _ _ _ _ _ _
   | exact platformfwlaw11_awake.mono _
   | exact platformfwlaw11_spec.mono _ _ _ _ _ _ _ _ _ _
   | exact platformfwref09_FromValue.mono _ _ _ _ _ _ _ _ _ _ _ _ _ _
   | exact platformfwref09_Masks.mono _ _ _ _ _ _ _ _ _ _
   | exact platformfwref09_Units.mono _ _ _ _ _ _ _ _ _ _
   | exact LeO.none _
   | refine LeO.ite ?_ ?_
   | refine LeO.bind ?_ (fun _ => ?_)
  ·intro y0 y1 y2 y3 y4 y5 y6 y7 y8 y9 y10 y11 y12 y13
   unfold platformfwlaw11_FieldRoundTrip.l0
   repeat' first
   | (with_reducible exact ih0 _ _ _ _ _ _ _ _ _ _ _ _ _)
   | (with_reducible exact ih1 _ _ _ _ _ _ _ _ _ _ _ _ _ _)
   | (with_reducible exact ih2 _ _ _ _ _ _ _ _ _ _ _ _ _ _ _)
   | (with_reducible exact field_Extract.mono _ _ _ _ _ _ _ _ _ _ _)
   | (with_reducible exact field_Insert.mono _ _ _ _ _ _ _ _ _ _ _ _)
   | (with_reducible exact platformfwlaw11_awake.mono _)
   | (with_reducible exact platformfwlaw11_spec.mono _ _ _ _ _ _ _ _ _ _)
   | (with_reducible exact platformfwref09_FromValue.mono _ _ _ _ _ _ _ _ _ _ _ _ _ _)
   | (with_reducible exact platformfwref09_Masks.mono _ _ _ _ _ _ _ _ _ _)
   | (with_reducible exact platformfwref09_Units.mono _ _ _ _ _ _ _ _ _ _)
   | (with_reducible exact LeO.refl _)
   | (with_reducible exact LeO.none _)
   | (with_reducible refine LeO.ite ?_ ?_)
   | (with_reducible refine LeO.bind ?_ (fun _ => ?_))
   | exact ih0 _ _ _ _ _ _ _ _ _ _ _ _ _
   | exact ih1 _ _ _ _ _ _ _ _ _ _ _ _ _ _
   | exact ih2 _ _ _ _ _ _ _ _ _ _ _ _ _ _ _
   | exact field_Extract.mono _ _ _ _ _ _ _ _ _ _ _
   | exact field_Insert.mono _ _ _ _ _ _ _ _ _ _ _ _
   | exact platformfwlaw11_awake.mono _
   | exact platformfwlaw11_spec.mono _ _ _ _ _ _ _ _ _ _
   | exact platformfwref09_FromValue.mono _ _ _ _ _ _ _ _ _ _ _ _ _ _
   | exact platformfwref09_Masks.mono _ _ _ _ _ _ _ _ _ _
   | exact platformfwref09_Units.mono _ _ _ _ _ _ _ _ _ _
   | exact LeO.none _
   | refine LeO.ite ?_ ?_
   | refine LeO.bind ?_ (fun _ => ?_)
  ·intro y0 y1 y2 y3 y4 y5 y6 y7 y8 y9 y10 y11 y12 y13 y14
   unfold platformfwlaw11_FieldRoundTrip.j2
   repeat' first
   | (with_reducible exact ih0 _ _ _ _ _ _ _ _ _ _ _ _ _)
   | (with_reducible exact ih1 _ _ _ _ _ _ _ _ _ _ _ _ _ _)
   | (with_reducible exact ih2 _ _ _ _ _ _ _ _ _ _ _ _ _ _ _)
   | (with_reducible exact field_Extract.mono _ _ _ _ _ _ _ _ _ _ _)
   | (with_reducible exact field_Insert.mono _ _ _ _ _ _ _ _ _ _ _ _)
   | (with_reducible exact platformfwlaw11_awake.mono _)
   | (with_reducible exact platformfwlaw11_spec.mono _ _ _ _ _ _ _ _ _ _)
   | (with_reducible exact platformfwref09_FromValue.mono _ _ _ _ _ _ _ _ _ _ _ _ _ _)
   | (with_reducible exact platformfwref09_Masks.mono _ _ _ _ _ _ _ _ _ _)
   | (with_reducible exact platformfwref09_Units.mono _ _ _ _ _ _ _ _ _ _)
   | (with_reducible exact LeO.refl _)
   | (with_reducible exact LeO.none _)
   | (with_reducible refine LeO.ite ?_ ?_)
   | (with_reducible refine LeO.bind ?_ (fun _ => ?_))
   | exact ih0 _ _ _ _ _ _ _ _ _ _ _ _ _
   | exact ih1 _ _ _ _ _ _ _ _ _ _ _ _ _ _
   | exact ih2 _ _ _ _ _ _ _ _ _ _ _ _ _ _ _
   | exact field_Extract.mono _ _ _ _ _ _ _ _ _ _ _
   | exact field_Insert.mono _ _ _ _ _ _ _ _ _ _ _ _
   | exact platformfwlaw11_awake.mono _
   | exact platformfwlaw11_spec.mono _ _ _ _ _ _ _ _ _ _
   | exact platformfwref09_FromValue.mono _ _ _ _ _ _ _ _ _ _ _ _ _ _
   | exact platformfwref09_Masks.mono _ _ _ _ _ _ _ _ _ _
   | exact platformfwref09_Units.mono _ _ _ _ _ _ _ _ _ _
   | exact LeO.none _
   | refine LeO.ite ?_ ?_
   | refine LeO.bind ?_ (fun _ => ?_)
theorem platformfwlaw11_FieldRoundTrip.mono : ∀ a0 a1 a2 a3 a4 a5 a6 a7 a8 a9 a10 a11 a12 a13 k, LeO (platformfwlaw11_FieldRoundTrip.f k a0 a1 a2 a3 a4 a5 a6 a7 a8 a9 a10 a11 a12 a13) (platformfwlaw11_FieldRoundTrip.f (k + 1) a0 a1 a2 a3 a4 a5 a6 a7 a8 a9 a10 a11 a12 a13) := by
 intro a0 a1 a2 a3 a4 a5 a6 a7 a8 a9 a10 a11 a12 a13 k
 obtain ⟨ih0, ih1, ih2⟩ := platformfwlaw11_FieldRoundTrip.mono_l k
 unfold platformfwlaw11_FieldRoundTrip.f
 repeat' first
   | (with_reducible exact ih0 _ _ _ _ _ _ _ _ _ _ _ _ _)
   | (with_reducible exact ih1 _ _ _ _ _ _ _ _ _ _ _ _ _ _)
   | (with_reducible exact ih2 _ _ _ _ _ _ _ _ _ _ _ _ _ _ _)
   | (with_reducible exact field_Extract.mono _ _ _ _ _ _ _ _ _ _ _)
   | (with_reducible exact field_Insert.mono _ _ _ _ _ _ _ _ _ _ _ _)
   | (with_reducible exact platformfwlaw11_awake.mono _)
   | (with_reducible exact platformfwlaw11_spec.mono _ _ _ _ _ _ _ _ _ _)
   | (with_reducible exact platformfwref09_FromValue.mono _ _ _ _ _ _ _ _ _ _ _ _ _ _)
   | (with_reducible exact platformfwref09_Masks.mono _ _ _ _ _ _ _ _ _ _)
   | (with_reducible exact platformfwref09_Units.mono _ _ _ _ _ _ _ _ _ _)
   | (with_reducible exact LeO.refl _)
   | (with_reducible exact LeO.none _)
   | (with_reducible refine LeO.ite ?_ ?_)
   | (with_reducible refine LeO.bind ?_ (fun _ => ?_))
   | exact ih0 _ _ _ _ _ _ _ _ _ _ _ _ _
   | exact ih1 _ _ _ _ _ _ _ _ _ _ _ _ _ _
   | exact ih2 _ _ _ _ _ _ _ _ _ _ _ _ _ _ _
   | exact field_Extract.mono _ _ _ _ _ _ _ _ _ _ _
   | exact field_Insert.mono _ _ _ _ _ _ _ _ _ _ _ _
   | exact platformfwlaw11_awake.mono _
   | exact platformfwlaw11_spec.mono _ _ _ _ _ _ _ _ _ _
   | exact platformfwref09_FromValue.mono _ _ _ _ _ _ _ _ _ _ _ _ _ _
   | exact platformfwref09_Masks.mono _ _ _ _ _ _ _ _ _ _
   | exact platformfwref09_Units.mono _ _ _ _ _ _ _ _ _ _
   | exact LeO.none _
   | refine LeO.ite ?_ ?_
   | refine LeO.bind ?_ (fun _ => ?_)
def platformfwlaw11_FieldRoundTrip.T2 : Bool × List (List Nat × List Nat) := (true, [([], []), ([], []), ([1], [1]), ([2], [2]), ([0, 3, 3], [0, 3]), ([4], [4]), ([5], [5]), ([5], [5]), ([6, 4, 0, 1, 2, 3, 4, 5, 6], [6]), ([7, 8, 0, 1, 2, 3, 4, 5, 6, 7, 8], [7])])
def platformfwlaw11_FieldRoundTrip.B2 : List Nat := [0, 0, 2, 6, 15, 31, 63, 63, 127, 511]
theorem platformfwlaw11_FieldRoundTrip.tab2 : rtab .any (opsOf Try.f4 2) = platformfwlaw11_FieldRoundTrip.T2 := by kernel_rfl
theorem platformfwlaw11_FieldRoundTrip.bits2 : waitsOk platformfwlaw11_FieldRoundTrip.T2.2 platformfwlaw11_FieldRoundTrip.B2 = true := by kernel_rfl
def platformfwlaw11_FieldRoundTrip.T14 : Bool × List (List Nat × List Nat) := (true, [([], []), ([0], [0]), ([1], [1]), ([2], [2]), ([3], [3]), ([3], [3]), ([4, 5, 3], [3, 4, 5]), ([6, 3], [3, 6]), ([3], [3]), ([3], [3]), ([8, 9, 3], [3, 8, 9]), ([10, 3], [3, 10]), ([7, 11, 3], [3, 7, 11]), ([3], [3]), ([13, 3], [3, 13]), ([14, 3, 3], [3, 14]), ([12, 15, 3], [3, 12, 15]), ([3], [3]), ([3], [3]), ([17, 18, 3], [3, 17, 18]), ([19, 3], [3, 19]), ([16, 20, 3], [3, 16, 20]), ([21, 3], [3, 21]), ([3, 22], [3, 22]), ([23, 15], [23]), ([24], [24]), ([24], [24]), ([25, 26, 24], [24, 25, 26]), ([27, 24], [24, 27]), ([24], [24]), ([29, 24], [24, 29]), ([30, 24, 24], [24, 30]), ([28, 31, 24], [24, 28, 31]), ([32, 24], [24, 32]), ([24, 33], [24, 33])])
def platformfwlaw11_FieldRoundTrip.B14 : List Nat := [0, 1, 3, 7, 15, 15, 63, 127, 15, 15, 783, 1807, 4095, 15, 8207, 24591, 65535, 15, 15, 393231, 917519, 2097151, 4194303, 8388607, 16777215, 33554431, 33554431, 134217727, 268435455, 33554431, 570425343, 1644167167, 4294967295, 8589934591, 17179869183]
theorem platformfwlaw11_FieldRoundTrip.tab14 : rtab .any (opsOf Try.f4 14) = platformfwlaw11_FieldRoundTrip.T14 := by kernel_rfl
theorem platformfwlaw11_FieldRoundTrip.bits14 : waitsOk platformfwlaw11_FieldRoundTrip.T14.2 platformfwlaw11_FieldRoundTrip.B14 = true := by kernel_rfl
set_option maxHeartbeats 8000000 in
set_option maxRecDepth 100000 in
theorem platformfwlaw11_FieldRoundTrip.calls (k : Nat) (a0_0 : Int) (a0_1 : Int) (a0_2 : Int) (a0_3 : Int) (a0_4 : Int) (a0_5 : Int) (a0_6 : Int) (a0_7 : Int) (a0_8 : Int) (a1_0 : Int) (a1_1 : Int) (a1_2 : ByteArray) (a1_3 : Int) (A2 : Option Addr) (c2 : Nat) (l2 : List Int) (r : Bool) (w : World) (hr2 : Kd.C (Kd.int .u64) w A2 l2.length l2) (hc2 : l2.length ≤ c2) (hr_ : Aside0 (r = true)) (h : platformfwlaw11_FieldRoundTrip.f k a0_0 a0_1 a0_2 a0_3 a0_4 a0_5 a0_6 a0_7 a0_8 a1_0 a1_1 a1_2 a1_3 l2 = some r) :
  Calls Try.prog 4 #[.agg #[.int .i64 a0_0, .int .u64 a0_1, .int .u64 a0_2, .int .i64 a0_3, .int .i64 a0_4, .int .i64 a0_5, .int .i64 a0_6, .int .i64 a0_7, .int .i64 a0_8], .agg #[.int .i64 a1_0, .int .u64 a1_1, .string a1_2, .int .i64 a1_3], .slice A2 l2.length c2] w fun e w' => e = .returned (.bool r) ∧ Below w.heap.size w w' := by
 have hu26 := Try.underlying26
 have hu38 := Try.underlying38
 have HR2 := Aside0.mk hr2
 have HC2 := Aside0.mk hc2
 clear hr2 hc2
 have HB := Aside0.mk (Below.refl w.heap.size w)
 have H : ((platformfwlaw11_spec.f k a0_0 a0_1 a0_2 a0_3 a0_4 a0_5 a0_6 a0_7 a0_8).bind fun bt231 => ((platformfwref08_Number.f a1_1).bind fun bt241 => ((platformfwref09_FromValue.f k bt231.1 bt231.2.1 bt231.2.2.1 bt231.2.2.2.1 bt231.2.2.2.2.1 bt231.2.2.2.2.2.1 bt231.2.2.2.2.2.2.1 bt231.2.2.2.2.2.2.2.1 bt231.2.2.2.2.2.2.2.2 bt241.1 bt241.2.1 bt241.2.2.1 bt241.2.2.2).bind fun bt245 => (if bt245.2 = 0 then ((platformfwref09_Units.f k bt231.1 bt231.2.1 bt231.2.2.1 bt231.2.2.2.1 bt231.2.2.2.2.1 bt231.2.2.2.2.2.1 bt231.2.2.2.2.2.2.1 bt231.2.2.2.2.2.2.2.1 bt231.2.2.2.2.2.2.2.2).bind fun bt248 => ((platformfwlaw11_fit.f l2 bt248.2).bind fun t250 => ((field_Insert.f k bt231.1 bt231.2.1 bt231.2.2.1 bt231.2.2.2.1 bt231.2.2.2.2.1 bt231.2.2.2.2.2.1 bt231.2.2.2.2.2.2.1 bt231.2.2.2.2.2.2.2.1 bt231.2.2.2.2.2.2.2.2 bt245.1 t250).bind fun t253 => ((platformfwlaw11_awake.f k).bind fun t256 => (if t256 = true then ((field_Extract.f k bt231.1 bt231.2.1 bt231.2.2.1 bt231.2.2.2.1 bt231.2.2.2.2.1 bt231.2.2.2.2.2.1 bt231.2.2.2.2.2.2.1 bt231.2.2.2.2.2.2.2.1 bt231.2.2.2.2.2.2.2.2 t253).bind fun t257 => (if t257.toList = bt245.1.toList then (platformfwlaw11_FieldRoundTrip.j0 k bt248.2 t250 t253 ((t253.length : Int) != bt248.2) bt231.1 bt231.2.1 bt231.2.2.1 bt231.2.2.2.1 bt231.2.2.2.2.1 bt231.2.2.2.2.2.1 bt231.2.2.2.2.2.2.1 bt231.2.2.2.2.2.2.2.1 bt231.2.2.2.2.2.2.2.2) else (platformfwlaw11_FieldRoundTrip.j0 k bt248.2 t250 t253 true bt231.1 bt231.2.1 bt231.2.2.1 bt231.2.2.2.1 bt231.2.2.2.2.1 bt231.2.2.2.2.2.1 bt231.2.2.2.2.2.2.1 bt231.2.2.2.2.2.2.2.1 bt231.2.2.2.2.2.2.2.2))) else (platformfwlaw11_FieldRoundTrip.j0 k bt248.2 t250 t253 true bt231.1 bt231.2.1 bt231.2.2.1 bt231.2.2.2.1 bt231.2.2.2.2.1 bt231.2.2.2.2.2.1 bt231.2.2.2.2.2.2.1 bt231.2.2.2.2.2.2.2.1 bt231.2.2.2.2.2.2.2.2)))))) else ((platformfwlaw11_awake.f k).bind fun t247 => (some t247)))))) = some r := h
 clear h
 replace H := Option.bind_eq_some_iff.mp H
 obtain ⟨⟨t231, t232, t233, t234, t235, t236, t237, t238, t239⟩, A40, H⟩ := H
 replace H : ((platformfwref08_Number.f a1_1).bind fun bt241 => ((platformfwref09_FromValue.f k t231 t232 t233 t234 t235 t236 t237 t238 t239 bt241.1 bt241.2.1 bt241.2.2.1 bt241.2.2.2).bind fun bt245 => (if bt245.2 = 0 then ((platformfwref09_Units.f k t231 t232 t233 t234 t235 t236 t237 t238 t239).bind fun bt248 => ((platformfwlaw11_fit.f l2 bt248.2).bind fun t250 => ((field_Insert.f k t231 t232 t233 t234 t235 t236 t237 t238 t239 bt245.1 t250).bind fun t253 => ((platformfwlaw11_awake.f k).bind fun t256 => (if t256 = true then ((field_Extract.f k t231 t232 t233 t234 t235 t236 t237 t238 t239 t253).bind fun t257 => (if t257.toList = bt245.1.toList then (platformfwlaw11_FieldRoundTrip.j0 k bt248.2 t250 t253 ((t253.length : Int) != bt248.2) t231 t232 t233 t234 t235 t236 t237 t238 t239) else (platformfwlaw11_FieldRoundTrip.j0 k bt248.2 t250 t253 true t231 t232 t233 t234 t235 t236 t237 t238 t239))) else (platformfwlaw11_FieldRoundTrip.j0 k bt248.2 t250 t253 true t231 t232 t233 t234 t235 t236 t237 t238 t239)))))) else ((platformfwlaw11_awake.f k).bind fun t247 => (some t247))))) = some r := H
 have A4 := Aside0.mk A40
 clear A40
 replace H := Option.bind_eq_some_iff.mp H
 obtain ⟨⟨t241, t242, t243, t244⟩, A50, H⟩ := H
 replace H : ((platformfwref09_FromValue.f k t231 t232 t233 t234 t235 t236 t237 t238 t239 t241 t242 t243 t244).bind fun bt245 => (if bt245.2 = 0 then ((platformfwref09_Units.f k t231 t232 t233 t234 t235 t236 t237 t238 t239).bind fun bt248 => ((platformfwlaw11_fit.f l2 bt248.2).bind fun t250 => ((field_Insert.f k t231 t232 t233 t234 t235 t236 t237 t238 t239 bt245.1 t250).bind fun t253 => ((platformfwlaw11_awake.f k).bind fun t256 => (if t256 = true then ((field_Extract.f k t231 t232 t233 t234 t235 t236 t237 t238 t239 t253).bind fun t257 => (if t257.toList = bt245.1.toList then (platformfwlaw11_FieldRoundTrip.j0 k bt248.2 t250 t253 ((t253.length : Int) != bt248.2) t231 t232 t233 t234 t235 t236 t237 t238 t239) else (platformfwlaw11_FieldRoundTrip.j0 k bt248.2 t250 t253 true t231 t232 t233 t234 t235 t236 t237 t238 t239))) else (platformfwlaw11_FieldRoundTrip.j0 k bt248.2 t250 t253 true t231 t232 t233 t234 t235 t236 t237 t238 t239)))))) else ((platformfwlaw11_awake.f k).bind fun t247 => (some t247)))) = some r := H
 have A5 := Aside0.mk A50
 clear A50
 replace H := Option.bind_eq_some_iff.mp H
 obtain ⟨⟨t245, t246⟩, A60, H⟩ := H
 replace H : (if t246 = 0 then ((platformfwref09_Units.f k t231 t232 t233 t234 t235 t236 t237 t238 t239).bind fun bt248 => ((platformfwlaw11_fit.f l2 bt248.2).bind fun t250 => ((field_Insert.f k t231 t232 t233 t234 t235 t236 t237 t238 t239 t245 t250).bind fun t253 => ((platformfwlaw11_awake.f k).bind fun t256 => (if t256 = true then ((field_Extract.f k t231 t232 t233 t234 t235 t236 t237 t238 t239 t253).bind fun t257 => (if t257.toList = t245.toList then (platformfwlaw11_FieldRoundTrip.j0 k bt248.2 t250 t253 ((t253.length : Int) != bt248.2) t231 t232 t233 t234 t235 t236 t237 t238 t239) else (platformfwlaw11_FieldRoundTrip.j0 k bt248.2 t250 t253 true t231 t232 t233 t234 t235 t236 t237 t238 t239))) else (platformfwlaw11_FieldRoundTrip.j0 k bt248.2 t250 t253 true t231 t232 t233 t234 t235 t236 t237 t238 t239)))))) else ((platformfwlaw11_awake.f k).bind fun t247 => (some t247))) = some r := H
 have A6 := Aside0.mk A60
 clear A60
 by_cases c7 : t246 = 0
 ·rw [if_pos c7] at H
  have c7b0 : (t246 == 0) = true := beq_iff_eq.mpr c7
  have c7b1 : (t246 != 0) = false := bne_eq_false_iff_eq.mpr c7
  clear c7
  replace H := Option.bind_eq_some_iff.mp H
  obtain ⟨⟨t248, t249⟩, A80, H⟩ := H
  replace H : ((platformfwlaw11_fit.f l2 t249).bind fun t250 => ((field_Insert.f k t231 t232 t233 t234 t235 t236 t237 t238 t239 t245 t250).bind fun t253 => ((platformfwlaw11_awake.f k).bind fun t256 => (if t256 = true then ((field_Extract.f k t231 t232 t233 t234 t235 t236 t237 t238 t239 t253).bind fun t257 => (if t257.toList = t245.toList then (platformfwlaw11_FieldRoundTrip.j0 k t249 t250 t253 ((t253.length : Int) != t249) t231 t232 t233 t234 t235 t236 t237 t238 t239) else (platformfwlaw11_FieldRoundTrip.j0 k t249 t250 t253 true t231 t232 t233 t234 t235 t236 t237 t238 t239))) else (platformfwlaw11_FieldRoundTrip.j0 k t249 t250 t253 true t231 t232 t233 t234 t235 t236 t237 t238 t239))))) = some r := H
  have A8 := Aside0.mk A80
  clear A80
  replace H := Option.bind_eq_some_iff.mp H
  obtain ⟨t250, A90, H⟩ := H
  replace H : ((field_Insert.f k t231 t232 t233 t234 t235 t236 t237 t238 t239 t245 t250).bind fun t253 => ((platformfwlaw11_awake.f k).bind fun t256 => (if t256 = true then ((field_Extract.f k t231 t232 t233 t234 t235 t236 t237 t238 t239 t253).bind fun t257 => (if t257.toList = t245.toList then (platformfwlaw11_FieldRoundTrip.j0 k t249 t250 t253 ((t253.length : Int) != t249) t231 t232 t233 t234 t235 t236 t237 t238 t239) else (platformfwlaw11_FieldRoundTrip.j0 k t249 t250 t253 true t231 t232 t233 t234 t235 t236 t237 t238 t239))) else (platformfwlaw11_FieldRoundTrip.j0 k t249 t250 t253 true t231 t232 t233 t234 t235 t236 t237 t238 t239)))) = some r := H
  have A9 := Aside0.mk A90
  clear A90
  replace H := Option.bind_eq_some_iff.mp H
  obtain ⟨t253, A100, H⟩ := H
  replace H : ((platformfwlaw11_awake.f k).bind fun t256 => (if t256 = true then ((field_Extract.f k t231 t232 t233 t234 t235 t236 t237 t238 t239 t253).bind fun t257 => (if t257.toList = t245.toList then (platformfwlaw11_FieldRoundTrip.j0 k t249 t250 t253 ((t253.length : Int) != t249) t231 t232 t233 t234 t235 t236 t237 t238 t239) else (platformfwlaw11_FieldRoundTrip.j0 k t249 t250 t253 true t231 t232 t233 t234 t235 t236 t237 t238 t239))) else (platformfwlaw11_FieldRoundTrip.j0 k t249 t250 t253 true t231 t232 t233 t234 t235 t236 t237 t238 t239))) = some r := H
  have A10 := Aside0.mk A100
  clear A100
  have HC11 := Aside0.mk H
  clear H
  go_enter Try.func4, Try.ntmps4
  try go_wp2_with (first | ((with_reducible refine gate_dst (N := 3) rfl ?_); (try (refine gate_guard (by rfl) ?_; dsimp only)); refine box_event ?hg (N := 3) ?hd (cs := #[.int .i64 a0_0, .int .u64 a0_1, .int .u64 a0_2, .int .i64 a0_3, .int .i64 a0_4, .int .i64 a0_5, .int .i64 a0_6, .int .i64 a0_7, .int .i64 a0_8]) (t := 26) ?hr ?_; (case hd => rfl); (case hg => rfl); (case hr => first | (go_simp; done) | (go_simp; rfl)); intro gb229 hg w12 hbox hb; have n0_ := Aside0.mk (below_step (by repeat (first | (with_reducible first | exact HB.out | apply bA_ | apply bN_ | apply bD_) | exact HB.out)) hb); have n1_ := Aside0.mk (hbox); have n2_ := Aside0.mk ((by rw [hg]; exact (below_size (by repeat (first | (with_reducible first | exact HB.out | apply bA_ | apply bN_ | apply bD_) | exact HB.out))) : w.heap.size ≤ gb229)); have n3_ := Aside0.mk ((by rw [hg]; exact (below_size (by repeat (first | (with_reducible first | exact HB.out | apply bA_ | apply bN_ | apply bD_) | exact HB.out))) : w.heap.size ≤ gb229)); clear HB; have HB := n0_; have BK229 := n1_; have GW229 := n2_; have GE229 := n3_; clear n0_ n1_ n2_ n3_; clear hb hbox hg) | ((with_reducible refine gate_dst (N := 4) rfl ?_); (try (refine gate_guard (by rfl) ?_; dsimp only)); refine box_event ?hg (N := 4) ?hd (cs := #[.int .i64 a1_0, .int .u64 a1_1, .string a1_2, .int .i64 a1_3]) (t := 38) ?hr ?_; (case hd => rfl); (case hg => rfl); (case hr => first | (go_simp; done) | (go_simp; rfl)); intro gb230 hg w13 hbox hb; have n0_ := Aside0.mk (blk_below (g := gb229) (o := .cells #[.int .i64 a0_0, .int .u64 a0_1, .int .u64 a0_2, .int .i64 a0_3, .int .i64 a0_4, .int .i64 a0_5, .int .i64 a0_6, .int .i64 a0_7, .int .i64 a0_8] 26 (0, 0)) (by (with_reducible repeat (first | refine kN_ ?_ _ | refine kD_ ?_ | refine kA_ ?_ _)); exact BK229.out) hb); have n1_ := Aside0.mk (below_step (by repeat (first | (with_reducible first | exact HB.out | apply bA_ | apply bN_ | apply bD_ | refine bS_ ?_ GE229.out) | exact HB.out)) hb); have n2_ := Aside0.mk (hbox); have n3_ := Aside0.mk ((by rw [hg]; exact (below_size (by repeat (first | (with_reducible first | exact HB.out | apply bA_ | apply bN_ | apply bD_ | refine bS_ ?_ GE229.out) | exact HB.out))) : w.heap.size ≤ gb230)); have n4_ := Aside0.mk ((by rw [hg]; exact (below_size (by repeat (first | (with_reducible first | exact HB.out | apply bA_ | apply bN_ | apply bD_ | refine bS_ ?_ GE229.out) | exact HB.out))) : w.heap.size ≤ gb230)); have n5_ := Aside0.mk ((by rw [hg]; exact Nat.ne_of_lt (blk_lt (g := gb229) (o := .cells #[.int .i64 a0_0, .int .u64 a0_1, .int .u64 a0_2, .int .i64 a0_3, .int .i64 a0_4, .int .i64 a0_5, .int .i64 a0_6, .int .i64 a0_7, .int .i64 a0_8] 26 (0, 0)) (by (with_reducible repeat (first | refine kN_ ?_ _ | refine kD_ ?_ | refine kA_ ?_ _)); exact BK229.out)) : gb229 ≠ gb230)); have n6_ := Aside0.mk ((by rw [hg]; exact Nat.ne_of_gt (blk_lt (g := gb229) (o := .cells #[.int .i64 a0_0, .int .u64 a0_1, .int .u64 a0_2, .int .i64 a0_3, .int .i64 a0_4, .int .i64 a0_5, .int .i64 a0_6, .int .i64 a0_7, .int .i64 a0_8] 26 (0, 0)) (by (with_reducible repeat (first | refine kN_ ?_ _ | refine kD_ ?_ | refine kA_ ?_ _)); exact BK229.out)) : gb230 ≠ gb229)); clear BK229; clear HB; have BK229 := n0_; have HB := n1_; have BK230 := n2_; have GW230 := n3_; have GE230 := n4_; have NB229_230 := n5_; have NB230_229 := n6_; clear n0_ n1_ n2_ n3_ n4_ n5_ n6_; clear hb hbox hg; have hnb14 := NB229_230.out; have hnc14 := NB230_229.out; obtain ⟨hcz15_0, hcz15_1, hcz15_2, hcz15_3, hcz15_4, hcz15_5, hcz15_6, hcz15_7, hcz15_8⟩ := cells9_ BK229.out; obtain ⟨hfz15_0, hfz15_1, hfz15_2, hfz15_3, hfz15_4, hfz15_5, hfz15_6, hfz15_7, hfz15_8⟩ := froz9_ BK229.out) | ((with_reducible refine gate_callee (f := 15) rfl ?_); refine goesL_ (some 17) rfl rfl Try.func15 (by kernel_rfl) rfl #[.agg #[.int .i64 a0_0, .int .u64 a0_1, .int .u64 a0_2, .int .i64 a0_3, .int .i64 a0_4, .int .i64 a0_5, .int .i64 a0_6, .int .i64 a0_7, .int .i64 a0_8]] rfl (by (try simp only [List.map_toArray, List.map_cons, List.map_nil]); first | done | rfl | (simp only [List.length_drop, List.length_take]; rfl)) ?_; (with_reducible refine (platformfwlaw11_spec.calls k a0_0 a0_1 a0_2 a0_3 a0_4 a0_5 a0_6 a0_7 a0_8 t231 t232 t233 t234 t235 t236 t237 t238 t239 _ A4.out).mono ?_); rintro e w16 ⟨rfl, hb⟩; refine ⟨_, rfl, ?_⟩; have n0_ := Aside0.mk (blk_below (g := gb229) (o := .cells #[.int .i64 a0_0, .int .u64 a0_1, .int .u64 a0_2, .int .i64 a0_3, .int .i64 a0_4, .int .i64 a0_5, .int .i64 a0_6, .int .i64 a0_7, .int .i64 a0_8] 26 (0, 0)) (by (with_reducible repeat (first | refine kN_ ?_ _ | refine kD_ ?_ | refine kA_ ?_ _)); exact BK229.out) hb); have n1_ := Aside0.mk (blk_below (g := gb230) (o := .cells #[.int .i64 a1_0, .int .u64 a1_1, .string a1_2, .int .i64 a1_3] 38 (0, 0)) (by (with_reducible repeat (first | refine kN_ ?_ _ | refine kD_ ?_ | refine kA_ ?_ _)); exact BK230.out) hb); have n2_ := Aside0.mk (below_step (by repeat (first | (with_reducible first | exact HB.out | apply bA_ | apply bN_ | apply bD_ | refine bS_ ?_ GE229.out | refine bS_ ?_ GE230.out) | exact HB.out)) hb); clear BK229; clear BK230; clear HB; have BK229 := n0_; have BK230 := n1_; have HB := n2_; clear n0_ n1_ n2_; (try clear hb); (try clear hb2); (try clear hk); (try clear hi)) | ((with_reducible refine gate_dst (N := 7) rfl ?_); (try (refine gate_guard (by rfl) ?_; dsimp only)); refine box_event ?hg (N := 7) ?hd (cs := #[.int .i64 0, .int .u64 0, .int .u64 0, .int .i64 0, .int .i64 0, .int .i64 0, .int .i64 0, .int .i64 0, .int .i64 0]) (t := 26) ?hr ?_; (case hd => rfl); (case hg => rfl); (case hr => first | (go_simp; done) | (go_simp; rfl)); intro gb240 hg w17 hbox hb; have n0_ := Aside0.mk (blk_below (g := gb229) (o := .cells #[.int .i64 a0_0, .int .u64 a0_1, .int .u64 a0_2, .int .i64 a0_3, .int .i64 a0_4, .int .i64 a0_5, .int .i64 a0_6, .int .i64 a0_7, .int .i64 a0_8] 26 (0, 0)) (by (with_reducible repeat (first | refine kN_ ?_ _ | refine kD_ ?_ | refine kA_ ?_ _)); exact BK229.out) hb); have n1_ := Aside0.mk (blk_below (g := gb230) (o := .cells #[.int .i64 a1_0, .int .u64 a1_1, .string a1_2, .int .i64 a1_3] 38 (0, 0)) (by (with_reducible repeat (first | refine kN_ ?_ _ | refine kD_ ?_ | refine kA_ ?_ _)); exact BK230.out) hb); have n2_ := Aside0.mk (below_step (by repeat (first | (with_reducible first | exact HB.out | apply bA_ | apply bN_ | apply bD_ | refine bS_ ?_ GE229.out | refine bS_ ?_ GE230.out) | exact HB.out)) hb); have n3_ := Aside0.mk (hbox); have n4_ := Aside0.mk ((by rw [hg]; exact (below_size (by repeat (first | (with_reducible first | exact HB.out | apply bA_ | apply bN_ | apply bD_ | refine bS_ ?_ GE229.out | refine bS_ ?_ GE230.out) | exact HB.out))) : w.heap.size ≤ gb240)); have n5_ := Aside0.mk ((by rw [hg]; exact (below_size (by repeat (first | (with_reducible first | exact HB.out | apply bA_ | apply bN_ | apply bD_ | refine bS_ ?_ GE229.out | refine bS_ ?_ GE230.out) | exact HB.out))) : w.heap.size ≤ gb240)); have n6_ := Aside0.mk ((by rw [hg]; exact Nat.ne_of_lt (blk_lt (g := gb229) (o := .cells #[.int .i64 a0_0, .int .u64 a0_1, .int .u64 a0_2, .int .i64 a0_3, .int .i64 a0_4, .int .i64 a0_5, .int .i64 a0_6, .int .i64 a0_7, .int .i64 a0_8] 26 (0, 0)) (by (with_reducible repeat (first | refine kN_ ?_ _ | refine kD_ ?_ | refine kA_ ?_ _)); exact BK229.out)) : gb229 ≠ gb240)); have n7_ := Aside0.mk ((by rw [hg]; exact Nat.ne_of_gt (blk_lt (g := gb229) (o := .cells #[.int .i64 a0_0, .int .u64 a0_1, .int .u64 a0_2, .int .i64 a0_3, .int .i64 a0_4, .int .i64 a0_5, .int .i64 a0_6, .int .i64 a0_7, .int .i64 a0_8] 26 (0, 0)) (by (with_reducible repeat (first | refine kN_ ?_ _ | refine kD_ ?_ | refine kA_ ?_ _)); exact BK229.out)) : gb240 ≠ gb229)); have n8_ := Aside0.mk ((by rw [hg]; exact Nat.ne_of_lt (blk_lt (g := gb230) (o := .cells #[.int .i64 a1_0, .int .u64 a1_1, .string a1_2, .int .i64 a1_3] 38 (0, 0)) (by (with_reducible repeat (first | refine kN_ ?_ _ | refine kD_ ?_ | refine kA_ ?_ _)); exact BK230.out)) : gb230 ≠ gb240)); have n9_ := Aside0.mk ((by rw [hg]; exact Nat.ne_of_gt (blk_lt (g := gb230) (o := .cells #[.int .i64 a1_0, .int .u64 a1_1, .string a1_2, .int .i64 a1_3] 38 (0, 0)) (by (with_reducible repeat (first | refine kN_ ?_ _ | refine kD_ ?_ | refine kA_ ?_ _)); exact BK230.out)) : gb240 ≠ gb230)); clear BK229; clear BK230; clear HB; have BK229 := n0_; have BK230 := n1_; have HB := n2_; have BK240 := n3_; have GW240 := n4_; have GE240 := n5_; have NB229_240 := n6_; have NB240_229 := n7_; have NB230_240 := n8_; have NB240_230 := n9_; clear n0_ n1_ n2_ n3_ n4_ n5_ n6_ n7_ n8_ n9_; clear hb hbox hg; have hnb18 := NB240_229.out; have hnc18 := NB229_240.out; have hnb19 := NB240_230.out; have hnc19 := NB230_240.out; obtain ⟨hcz20_0, hcz20_1, hcz20_2, hcz20_3, hcz20_4, hcz20_5, hcz20_6, hcz20_7, hcz20_8⟩ := cells9_ BK240.out; obtain ⟨hfz20_0, hfz20_1, hfz20_2, hfz20_3, hfz20_4, hfz20_5, hfz20_6, hfz20_7, hfz20_8⟩ := froz9_ BK240.out))
  have n0_ : Aside0 ((((((((((w17.setCell ⟨gb240, 0, none⟩ (.int .i64 t231)).setCell ⟨gb240, 1, none⟩ (.int .u64 t232)).setCell ⟨gb240, 2, none⟩ (.int .u64 t233)).setCell ⟨gb240, 3, none⟩ (.int .i64 t234)).setCell ⟨gb240, 4, none⟩ (.int .i64 t235)).setCell ⟨gb240, 5, none⟩ (.int .i64 t236)).setCell ⟨gb240, 6, none⟩ (.int .i64 t237)).setCell ⟨gb240, 7, none⟩ (.int .i64 t238)).setCell ⟨gb240, 8, none⟩ (.int .i64 t239)).heap[gb229]? = some (.cells #[.int .i64 a0_0, .int .u64 a0_1, .int .u64 a0_2, .int .i64 a0_3, .int .i64 a0_4, .int .i64 a0_5, .int .i64 a0_6, .int .i64 a0_7, .int .i64 a0_8] 26 (0, 0))) := ⟨by (with_reducible repeat (first | refine kN_ ?_ _ | refine kD_ ?_ | refine kA_ ?_ _)); refine blk_far ?_ NB229_240.out _; (with_reducible repeat (first | refine kN_ ?_ _ | refine kD_ ?_ | refine kA_ ?_ _)); refine blk_far ?_ NB229_240.out _; (with_reducible repeat (first | refine kN_ ?_ _ | refine kD_ ?_ | refine kA_ ?_ _)); refine blk_far ?_ NB229_240.out _; (with_reducible repeat (first | refine kN_ ?_ _ | refine kD_ ?_ | refine kA_ ?_ _)); refine blk_far ?_ NB229_240.out _; (with_reducible repeat (first | refine kN_ ?_ _ | refine kD_ ?_ | refine kA_ ?_ _)); refine blk_far ?_ NB229_240.out _; (with_reducible repeat (first | refine kN_ ?_ _ | refine kD_ ?_ | refine kA_ ?_ _)); refine blk_far ?_ NB229_240.out _; (with_reducible repeat (first | refine kN_ ?_ _ | refine kD_ ?_ | refine kA_ ?_ _)); refine blk_far ?_ NB229_240.out _; (with_reducible repeat (first | refine kN_ ?_ _ | refine kD_ ?_ | refine kA_ ?_ _)); refine blk_far ?_ NB229_240.out _; (with_reducible repeat (first | refine kN_ ?_ _ | refine kD_ ?_ | refine kA_ ?_ _)); refine blk_far ?_ NB229_240.out _; (with_reducible repeat (first | refine kN_ ?_ _ | refine kD_ ?_ | refine kA_ ?_ _)); exact BK229.out⟩
  have n1_ : Aside0 ((((((((((w17.setCell ⟨gb240, 0, none⟩ (.int .i64 t231)).setCell ⟨gb240, 1, none⟩ (.int .u64 t232)).setCell ⟨gb240, 2, none⟩ (.int .u64 t233)).setCell ⟨gb240, 3, none⟩ (.int .i64 t234)).setCell ⟨gb240, 4, none⟩ (.int .i64 t235)).setCell ⟨gb240, 5, none⟩ (.int .i64 t236)).setCell ⟨gb240, 6, none⟩ (.int .i64 t237)).setCell ⟨gb240, 7, none⟩ (.int .i64 t238)).setCell ⟨gb240, 8, none⟩ (.int .i64 t239)).heap[gb230]? = some (.cells #[.int .i64 a1_0, .int .u64 a1_1, .string a1_2, .int .i64 a1_3] 38 (0, 0))) := ⟨by (with_reducible repeat (first | refine kN_ ?_ _ | refine kD_ ?_ | refine kA_ ?_ _)); refine blk_far ?_ NB230_240.out _; (with_reducible repeat (first | refine kN_ ?_ _ | refine kD_ ?_ | refine kA_ ?_ _)); refine blk_far ?_ NB230_240.out _; (with_reducible repeat (first | refine kN_ ?_ _ | refine kD_ ?_ | refine kA_ ?_ _)); refine blk_far ?_ NB230_240.out _; (with_reducible repeat (first | refine kN_ ?_ _ | refine kD_ ?_ | refine kA_ ?_ _)); refine blk_far ?_ NB230_240.out _; (with_reducible repeat (first | refine kN_ ?_ _ | refine kD_ ?_ | refine kA_ ?_ _)); refine blk_far ?_ NB230_240.out _; (with_reducible repeat (first | refine kN_ ?_ _ | refine kD_ ?_ | refine kA_ ?_ _)); refine blk_far ?_ NB230_240.out _; (with_reducible repeat (first | refine kN_ ?_ _ | refine kD_ ?_ | refine kA_ ?_ _)); refine blk_far ?_ NB230_240.out _; (with_reducible repeat (first | refine kN_ ?_ _ | refine kD_ ?_ | refine kA_ ?_ _)); refine blk_far ?_ NB230_240.out _; (with_reducible repeat (first | refine kN_ ?_ _ | refine kD_ ?_ | refine kA_ ?_ _)); refine blk_far ?_ NB230_240.out _; (with_reducible repeat (first | refine kN_ ?_ _ | refine kD_ ?_ | refine kA_ ?_ _)); exact BK230.out⟩
  have n2_ : Aside0 ((((((((((w17.setCell ⟨gb240, 0, none⟩ (.int .i64 t231)).setCell ⟨gb240, 1, none⟩ (.int .u64 t232)).setCell ⟨gb240, 2, none⟩ (.int .u64 t233)).setCell ⟨gb240, 3, none⟩ (.int .i64 t234)).setCell ⟨gb240, 4, none⟩ (.int .i64 t235)).setCell ⟨gb240, 5, none⟩ (.int .i64 t236)).setCell ⟨gb240, 6, none⟩ (.int .i64 t237)).setCell ⟨gb240, 7, none⟩ (.int .i64 t238)).setCell ⟨gb240, 8, none⟩ (.int .i64 t239)).heap[gb240]? = some (.cells #[.int .i64 t231, .int .u64 t232, .int .u64 t233, .int .i64 t234, .int .i64 t235, .int .i64 t236, .int .i64 t237, .int .i64 t238, .int .i64 t239] 26 (0, 0))) := ⟨by (with_reducible repeat (first | refine kN_ ?_ _ | refine kD_ ?_ | refine kA_ ?_ _)); refine blk_put (cs := #[.int .i64 t231, .int .u64 t232, .int .u64 t233, .int .i64 t234, .int .i64 t235, .int .i64 t236, .int .i64 t237, .int .i64 t238, .int .i64 0]) ?_ 8 _ rfl; (with_reducible repeat (first | refine kN_ ?_ _ | refine kD_ ?_ | refine kA_ ?_ _)); refine blk_put (cs := #[.int .i64 t231, .int .u64 t232, .int .u64 t233, .int .i64 t234, .int .i64 t235, .int .i64 t236, .int .i64 t237, .int .i64 0, .int .i64 0]) ?_ 7 _ rfl; (with_reducible repeat (first | refine kN_ ?_ _ | refine kD_ ?_ | refine kA_ ?_ _)); refine blk_put (cs := #[.int .i64 t231, .int .u64 t232, .int .u64 t233, .int .i64 t234, .int .i64 t235, .int .i64 t236, .int .i64 0, .int .i64 0, .int .i64 0]) ?_ 6 _ rfl; (with_reducible repeat (first | refine kN_ ?_ _ | refine kD_ ?_ | refine kA_ ?_ _)); refine blk_put (cs := #[.int .i64 t231, .int .u64 t232, .int .u64 t233, .int .i64 t234, .int .i64 t235, .int .i64 0, .int .i64 0, .int .i64 0, .int .i64 0]) ?_ 5 _ rfl; (with_reducible repeat (first | refine kN_ ?_ _ | refine kD_ ?_ | refine kA_ ?_ _)); refine blk_put (cs := #[.int .i64 t231, .int .u64 t232, .int .u64 t233, .int .i64 t234, .int .i64 0, .int .i64 0, .int .i64 0, .int .i64 0, .int .i64 0]) ?_ 4 _ rfl; (with_reducible repeat (first | refine kN_ ?_ _ | refine kD_ ?_ | refine kA_ ?_ _)); refine blk_put (cs := #[.int .i64 t231, .int .u64 t232, .int .u64 t233, .int .i64 0, .int .i64 0, .int .i64 0, .int .i64 0, .int .i64 0, .int .i64 0]) ?_ 3 _ rfl; (with_reducible repeat (first | refine kN_ ?_ _ | refine kD_ ?_ | refine kA_ ?_ _)); refine blk_put (cs := #[.int .i64 t231, .int .u64 t232, .int .u64 0, .int .i64 0, .int .i64 0, .int .i64 0, .int .i64 0, .int .i64 0, .int .i64 0]) ?_ 2 _ rfl; (with_reducible repeat (first | refine kN_ ?_ _ | refine kD_ ?_ | refine kA_ ?_ _)); refine blk_put (cs := #[.int .i64 t231, .int .u64 0, .int .u64 0, .int .i64 0, .int .i64 0, .int .i64 0, .int .i64 0, .int .i64 0, .int .i64 0]) ?_ 1 _ rfl; (with_reducible repeat (first | refine kN_ ?_ _ | refine kD_ ?_ | refine kA_ ?_ _)); refine blk_put (cs := #[.int .i64 0, .int .u64 0, .int .u64 0, .int .i64 0, .int .i64 0, .int .i64 0, .int .i64 0, .int .i64 0, .int .i64 0]) ?_ 0 _ rfl; (with_reducible repeat (first | refine kN_ ?_ _ | refine kD_ ?_ | refine kA_ ?_ _)); exact BK240.out⟩
  have n3_ : Aside0 (Below w.heap.size w (((((((((w17.setCell ⟨gb240, 0, none⟩ (.int .i64 t231)).setCell ⟨gb240, 1, none⟩ (.int .u64 t232)).setCell ⟨gb240, 2, none⟩ (.int .u64 t233)).setCell ⟨gb240, 3, none⟩ (.int .i64 t234)).setCell ⟨gb240, 4, none⟩ (.int .i64 t235)).setCell ⟨gb240, 5, none⟩ (.int .i64 t236)).setCell ⟨gb240, 6, none⟩ (.int .i64 t237)).setCell ⟨gb240, 7, none⟩ (.int .i64 t238)).setCell ⟨gb240, 8, none⟩ (.int .i64 t239))) := ⟨by repeat (first | (with_reducible first | exact HB.out | apply bA_ | apply bN_ | apply bD_ | refine bS_ ?_ GE229.out | refine bS_ ?_ GE230.out | refine bS_ ?_ GE240.out) | exact HB.out)⟩
  (try clear BK229)
  (try clear BK230)
  (try clear BK240)
  (try clear HB)
  generalize (((((((((w17.setCell ⟨gb240, 0, none⟩ (.int .i64 t231)).setCell ⟨gb240, 1, none⟩ (.int .u64 t232)).setCell ⟨gb240, 2, none⟩ (.int .u64 t233)).setCell ⟨gb240, 3, none⟩ (.int .i64 t234)).setCell ⟨gb240, 4, none⟩ (.int .i64 t235)).setCell ⟨gb240, 5, none⟩ (.int .i64 t236)).setCell ⟨gb240, 6, none⟩ (.int .i64 t237)).setCell ⟨gb240, 7, none⟩ (.int .i64 t238)).setCell ⟨gb240, 8, none⟩ (.int .i64 t239)) = w21 at n0_ n1_ n2_ n3_ ⊢
  have BK229 := n0_
  have BK230 := n1_
  have BK240 := n2_
  have HB := n3_
  clear n0_ n1_ n2_ n3_
  have n0_ := Aside0.mk (kD_ BK229.out)
  have n1_ := Aside0.mk (kD_ BK230.out)
  have n2_ := Aside0.mk (kD_ BK240.out)
  have n3_ := Aside0.mk (bD_ HB.out)
  clear BK229
  clear BK230
  clear BK240
  clear HB
  have BK229 := n0_
  have BK230 := n1_
  have BK240 := n2_
  have HB := n3_
  clear n0_ n1_ n2_ n3_
  refine start_ (n := 10) (S := fun w' => w'.cell? ⟨gb240, 0, none⟩ = some (.int .i64 t231) ∧ w'.cell? ⟨gb240, 1, none⟩ = some (.int .u64 t232) ∧ w'.cell? ⟨gb240, 2, none⟩ = some (.int .u64 t233) ∧ w'.cell? ⟨gb240, 3, none⟩ = some (.int .i64 t234) ∧ w'.cell? ⟨gb240, 4, none⟩ = some (.int .i64 t235) ∧ w'.cell? ⟨gb240, 5, none⟩ = some (.int .i64 t236) ∧ w'.cell? ⟨gb240, 6, none⟩ = some (.int .i64 t237) ∧ w'.cell? ⟨gb240, 7, none⟩ = some (.int .i64 t238) ∧ w'.cell? ⟨gb240, 8, none⟩ = some (.int .i64 t239) ∧ w'.cell? ⟨gb230, 0, none⟩ = some (.int .i64 a1_0) ∧ w'.cell? ⟨gb230, 1, none⟩ = some (.int .u64 a1_1) ∧ w'.cell? ⟨gb230, 2, none⟩ = some (.string a1_2) ∧ w'.cell? ⟨gb230, 3, none⟩ = some (.int .i64 a1_3)) (ds := []) #[false, false, false, false, false, false, false, false, false, false] (by kernel_rfl) rfl rfl ⟨(blk_cell BK240.out 0).trans rfl, (blk_cell BK240.out 1).trans rfl, (blk_cell BK240.out 2).trans rfl, (blk_cell BK240.out 3).trans rfl, (blk_cell BK240.out 4).trans rfl, (blk_cell BK240.out 5).trans rfl, (blk_cell BK240.out 6).trans rfl, (blk_cell BK240.out 7).trans rfl, (blk_cell BK240.out 8).trans rfl, (blk_cell BK230.out 0).trans rfl, (blk_cell BK230.out 1).trans rfl, (blk_cell BK230.out 2).trans rfl, (blk_cell BK230.out 3).trans rfl⟩ (fun hHeld => ?_); refine with_tabW platformfwlaw11_FieldRoundTrip.tab2 platformfwlaw11_FieldRoundTrip.bits2 (fun HT_ HW_ => ?_)
  generalize w21.drew = w22 at BK229 BK230 BK240 HB hHeld ⊢
  refine pure_ (i := 1) (N := some 20) (v := ?_) (a' := ?_) (tf 10 2) rfl rfl (any_of HT_.out (by kernel_rfl)) (fun _ _ _ h => h) (Or.inl ⟨by rfl, ?_⟩) ?_ ?_
  rotate_left
  ·intro w'
   go_simp
   with_reducible rfl
  rotate_left
  ·simp only [Act.put, sA_, sB_, sC_, i64_w, i32_w]
   rfl
  refine take_ (i := 0) (N := some 19) (v := ?_) (a' := ?_) (tf 10 3) rfl rfl (take_ofW HT_.out HW_.out (by kernel_rfl)) (fun _ _ _ h => h) (Or.inl ⟨by rfl, ?_⟩) hHeld ?_ ?_
  rotate_left
  ·rintro w' ⟨s0, s1, s2, s3, s4, s5, s6, s7, s8, s9, s10, s11, s12⟩
   go_simp
   with_reducible rfl
  rotate_left
  ·simp only [Act.put, sA_, sB_, sC_, i64_w, i32_w]
   rfl
  refine take_ (i := 2) (N := some 21) (v := ?_) (a' := ?_) (tf 10 7) rfl rfl (take_ofW HT_.out HW_.out (by kernel_rfl)) (fun _ _ _ h => h) (Or.inl ⟨by rfl, ?_⟩) hHeld ?_ ?_
  rotate_left
  ·rintro w' ⟨s0, s1, s2, s3, s4, s5, s6, s7, s8, s9, s10, s11, s12⟩
   go_simp
   with_reducible rfl
  rotate_left
  ·simp only [Act.put, sA_, sB_, sC_, i64_w, i32_w]
   rfl
  refine one_ (i := 3) (N := some 22) (tf 10 15) rfl rfl (one_of HT_.out (by kernel_rfl)) (by decide) (fun K hK => ?_)
  refine goes_ Try.func25 (by kernel_rfl) rfl #[.int .u64 a1_1] (by rfl) rfl rfl (by (try simp only [List.map_toArray, List.map_cons, List.map_nil]); first | done | rfl | (simp only [List.length_drop, List.length_take]; rfl)) ?_
  with_reducible refine (platformfwref08_Number.calls a1_1 t241 t242 t243 t244 _ A5.out).mono ?_
  rintro e w23 ⟨rfl, hb⟩
  refine ⟨_, rfl, ?_⟩
  have n0_ := Aside0.mk (blk_below (g := gb229) (o := .cells #[.int .i64 a0_0, .int .u64 a0_1, .int .u64 a0_2, .int .i64 a0_3, .int .i64 a0_4, .int .i64 a0_5, .int .i64 a0_6, .int .i64 a0_7, .int .i64 a0_8] 26 (0, 0)) (by (with_reducible repeat (first | refine kN_ ?_ _ | refine kD_ ?_ | refine kA_ ?_ _)); exact BK229.out) hb)
  have n1_ := Aside0.mk (blk_below (g := gb230) (o := .cells #[.int .i64 a1_0, .int .u64 a1_1, .string a1_2, .int .i64 a1_3] 38 (0, 0)) (by (with_reducible repeat (first | refine kN_ ?_ _ | refine kD_ ?_ | refine kA_ ?_ _)); exact BK230.out) hb)
  have n2_ := Aside0.mk (blk_below (g := gb240) (o := .cells #[.int .i64 t231, .int .u64 t232, .int .u64 t233, .int .i64 t234, .int .i64 t235, .int .i64 t236, .int .i64 t237, .int .i64 t238, .int .i64 t239] 26 (0, 0)) (by (with_reducible repeat (first | refine kN_ ?_ _ | refine kD_ ?_ | refine kA_ ?_ _)); exact BK240.out) hb)
  have n3_ := Aside0.mk (below_step (by repeat (first | (with_reducible first | exact HB.out | apply bA_ | apply bN_ | apply bD_ | refine bS_ ?_ GE229.out | refine bS_ ?_ GE230.out | refine bS_ ?_ GE240.out) | exact HB.out)) hb)
  clear BK229
  clear BK230
  clear BK240
  clear HB
  have BK229 := n0_
  have BK230 := n1_
  have BK240 := n2_
  have HB := n3_
  clear n0_ n1_ n2_ n3_
  (try clear hb)
  (try clear hb2)
  (try clear hk)
  (try clear hi)
  refine hK.out _ _ ⟨(blk_cell BK240.out 0).trans rfl, (blk_cell BK240.out 1).trans rfl, (blk_cell BK240.out 2).trans rfl, (blk_cell BK240.out 3).trans rfl, (blk_cell BK240.out 4).trans rfl, (blk_cell BK240.out 5).trans rfl, (blk_cell BK240.out 6).trans rfl, (blk_cell BK240.out 7).trans rfl, (blk_cell BK240.out 8).trans rfl, (blk_cell BK230.out 0).trans rfl, (blk_cell BK230.out 1).trans rfl, (blk_cell BK230.out 2).trans rfl, (blk_cell BK230.out 3).trans rfl⟩ (fun hHeld => ?_)
  clear hK K
  refine norm_ (a' := ?_) ?_ ?_
  rotate_left
  ·show Act.put _ (some 22) _ = _
   simp only [Act.put, sA_, sB_, sC_, i64_w, i32_w]
   rfl
  refine one_ (i := 4) (N := some 23) (tf 10 31) rfl rfl (one_of HT_.out (by kernel_rfl)) (by decide) (fun K hK => ?_)
  refine goes_ Try.func24 (by kernel_rfl) rfl #[.agg #[.int .i64 t231, .int .u64 t232, .int .u64 t233, .int .i64 t234, .int .i64 t235, .int .i64 t236, .int .i64 t237, .int .i64 t238, .int .i64 t239], .agg #[.int .i64 t241, .int .u64 t242, .string t243, .int .i64 t244]] (by rfl) rfl rfl (by (try simp only [List.map_toArray, List.map_cons, List.map_nil]); first | done | rfl | (simp only [List.length_drop, List.length_take]; rfl)) ?_
  with_reducible refine (platformfwref09_FromValue.calls k t231 t232 t233 t234 t235 t236 t237 t238 t239 t241 t242 t243 t244 t245 t246 _ A6.out).mono ?_
  rintro e w24 ⟨rfl, hb⟩
  refine ⟨_, rfl, ?_⟩
  have n0_ := Aside0.mk (blk_below (g := gb229) (o := .cells #[.int .i64 a0_0, .int .u64 a0_1, .int .u64 a0_2, .int .i64 a0_3, .int .i64 a0_4, .int .i64 a0_5, .int .i64 a0_6, .int .i64 a0_7, .int .i64 a0_8] 26 (0, 0)) (by (with_reducible repeat (first | refine kN_ ?_ _ | refine kD_ ?_ | refine kA_ ?_ _)); exact BK229.out) hb)
  have n1_ := Aside0.mk (blk_below (g := gb230) (o := .cells #[.int .i64 a1_0, .int .u64 a1_1, .string a1_2, .int .i64 a1_3] 38 (0, 0)) (by (with_reducible repeat (first | refine kN_ ?_ _ | refine kD_ ?_ | refine kA_ ?_ _)); exact BK230.out) hb)
  have n2_ := Aside0.mk (blk_below (g := gb240) (o := .cells #[.int .i64 t231, .int .u64 t232, .int .u64 t233, .int .i64 t234, .int .i64 t235, .int .i64 t236, .int .i64 t237, .int .i64 t238, .int .i64 t239] 26 (0, 0)) (by (with_reducible repeat (first | refine kN_ ?_ _ | refine kD_ ?_ | refine kA_ ?_ _)); exact BK240.out) hb)
  have n3_ := Aside0.mk (below_step (by repeat (first | (with_reducible first | exact HB.out | apply bA_ | apply bN_ | apply bD_ | refine bS_ ?_ GE229.out | refine bS_ ?_ GE230.out | refine bS_ ?_ GE240.out) | exact HB.out)) hb)
  clear BK229
  clear BK230
  clear BK240
  clear HB
  have BK229 := n0_
  have BK230 := n1_
  have BK240 := n2_
  have HB := n3_
  clear n0_ n1_ n2_ n3_
  (try clear hb)
  (try clear hb2)
  (try clear hk)
  (try clear hi)
  refine hK.out _ _ ⟨(blk_cell BK240.out 0).trans rfl, (blk_cell BK240.out 1).trans rfl, (blk_cell BK240.out 2).trans rfl, (blk_cell BK240.out 3).trans rfl, (blk_cell BK240.out 4).trans rfl, (blk_cell BK240.out 5).trans rfl, (blk_cell BK240.out 6).trans rfl, (blk_cell BK240.out 7).trans rfl, (blk_cell BK240.out 8).trans rfl, (blk_cell BK230.out 0).trans rfl, (blk_cell BK230.out 1).trans rfl, (blk_cell BK230.out 2).trans rfl, (blk_cell BK230.out 3).trans rfl⟩ (fun hHeld => ?_)
  clear hK K
  refine norm_ (a' := ?_) ?_ ?_
  rotate_left
  ·show Act.put _ (some 23) _ = _
   simp only [Act.put, sA_, sB_, sC_, i64_w, i32_w]
   rfl
  refine pure_ (i := 5) (N := some 18) (v := ?_) (a' := ?_) (tf 10 63) rfl rfl (any_of HT_.out (by kernel_rfl)) (fun _ _ _ h => h) (Or.inl ⟨by rfl, ?_⟩) ?_ ?_
  rotate_left
  ·intro w'
   go_simp
   with_reducible rfl
  rotate_left
  ·simp only [Act.put, sA_, sB_, sC_, i64_w, i32_w]
   rfl
  refine pure_ (i := 6) (N := some 24) (v := ?_) (a' := ?_) (tf 10 127) rfl rfl (any_of HT_.out (by kernel_rfl)) (fun _ _ _ h => h) (Or.inl ⟨by rfl, ?_⟩) ?_ ?_
  rotate_left
  ·intro w'
   go_simp
   with_reducible rfl
  rotate_left
  ·simp only [Act.put, sA_, sB_, sC_, i64_w, i32_w]
   rfl
  refine pure_ (i := 7) (N := some 25) (v := ?_) (a' := ?_) (tf 10 255) rfl rfl (any_of HT_.out (by kernel_rfl)) (fun _ _ _ h => h) (Or.inl ⟨by rfl, ?_⟩) ?_ ?_
  rotate_left
  ·intro w'
   go_simp
   with_reducible rfl
  rotate_left
  ·simp only [Act.put, sA_, sB_, sC_, i64_w, i32_w]
   rfl
  refine pure_ (i := 8) (N := some 8) (v := ?_) (a' := ?_) (tf 10 511) rfl rfl (any_of HT_.out (by kernel_rfl)) (fun _ _ _ h => h) (Or.inl ⟨by rfl, ?_⟩) ?_ ?_
  rotate_left
  ·intro w'
   go_simp
   with_reducible rfl
  rotate_left
  ·simp only [Act.put, sA_, sB_, sC_, i64_w, i32_w]
   rfl
  refine pure_ (i := 9) (N := some 9) (v := ?_) (a' := ?_) (tf 10 1023) rfl rfl (any_of HT_.out (by kernel_rfl)) (fun _ _ _ h => h) (Or.inl ⟨by rfl, ?_⟩) ?_ ?_
  rotate_left
  ·intro w'
   go_simp
   with_reducible rfl
  rotate_left
  ·simp only [Act.put, sA_, sB_, sC_, i64_w, i32_w]
   rfl
  refine done_ (done_of HT_.out (by kernel_rfl)) ?_
  obtain ⟨hcz25_0, hcz25_1, hcz25_2, hcz25_3, hcz25_4, hcz25_5, hcz25_6, hcz25_7, hcz25_8⟩ := cells9_ BK240.out
  obtain ⟨hfz25_0, hfz25_1, hfz25_2, hfz25_3, hfz25_4, hfz25_5, hfz25_6, hfz25_7, hfz25_8⟩ := froz9_ BK240.out
  go_upto_region 8 with (first | ((with_reducible refine gate_callee (f := 16) rfl ?_); refine goesL_ (some 31) rfl rfl Try.func16 (by kernel_rfl) rfl #[.agg #[.int .i64 t231, .int .u64 t232, .int .u64 t233, .int .i64 t234, .int .i64 t235, .int .i64 t236, .int .i64 t237, .int .i64 t238, .int .i64 t239]] rfl (by (try simp only [List.map_toArray, List.map_cons, List.map_nil]); first | done | rfl | (simp only [List.length_drop, List.length_take]; rfl)) ?_; (with_reducible refine (platformfwref09_Units.calls k t231 t232 t233 t234 t235 t236 t237 t238 t239 t248 t249 _ A8.out).mono ?_); rintro e w26 ⟨rfl, hb⟩; refine ⟨_, rfl, ?_⟩; have n0_ := Aside0.mk (blk_below (g := gb229) (o := .cells #[.int .i64 a0_0, .int .u64 a0_1, .int .u64 a0_2, .int .i64 a0_3, .int .i64 a0_4, .int .i64 a0_5, .int .i64 a0_6, .int .i64 a0_7, .int .i64 a0_8] 26 (0, 0)) (by (with_reducible repeat (first | refine kN_ ?_ _ | refine kD_ ?_ | refine kA_ ?_ _)); exact BK229.out) hb); have n1_ := Aside0.mk (blk_below (g := gb230) (o := .cells #[.int .i64 a1_0, .int .u64 a1_1, .string a1_2, .int .i64 a1_3] 38 (0, 0)) (by (with_reducible repeat (first | refine kN_ ?_ _ | refine kD_ ?_ | refine kA_ ?_ _)); exact BK230.out) hb); have n2_ := Aside0.mk (blk_below (g := gb240) (o := .cells #[.int .i64 t231, .int .u64 t232, .int .u64 t233, .int .i64 t234, .int .i64 t235, .int .i64 t236, .int .i64 t237, .int .i64 t238, .int .i64 t239] 26 (0, 0)) (by (with_reducible repeat (first | refine kN_ ?_ _ | refine kD_ ?_ | refine kA_ ?_ _)); exact BK240.out) hb); have n3_ := Aside0.mk (below_step (by repeat (first | (with_reducible first | exact HB.out | apply bA_ | apply bN_ | apply bD_ | refine bS_ ?_ GE229.out | refine bS_ ?_ GE230.out | refine bS_ ?_ GE240.out) | exact HB.out)) hb); clear BK229; clear BK230; clear BK240; clear HB; have BK229 := n0_; have BK230 := n1_; have BK240 := n2_; have HB := n3_; clear n0_ n1_ n2_ n3_; (try clear hb); (try clear hb2); (try clear hk); (try clear hi)) | ((with_reducible refine gate_callee (f := 17) rfl ?_); refine goesL_ (some 36) rfl rfl Try.func17 (by kernel_rfl) rfl #[.slice A2 l2.length c2, .int .i64 t249] rfl (by (try simp only [List.map_toArray, List.map_cons, List.map_nil]); first | done | rfl | (simp only [List.length_drop, List.length_take]; rfl)) ?_; (with_reducible refine (platformfwlaw11_fit.calls _ _ l2 t249 t250 _ ?side1 ?side2 A9.out).mono ?_); (case side1 => repeat (first | exact (Kd.C_below HR2.out HB.out) | (with_reducible refine Kd.C_alloc ?_ _) | (with_reducible refine Kd.C_drewN ?_ _) | (with_reducible refine Kd.C_drew ?_))); (case side2 => exact HC2.out); rintro e w27 ⟨v251, rfl, ho0, hb⟩; refine ⟨_, rfl, ?_⟩; have n0_ := Aside0.mk (Kd.R_lower ho0 (below_size (by repeat (first | (with_reducible first | exact HB.out | apply bA_ | apply bN_ | apply bD_ | refine bS_ ?_ GE229.out | refine bS_ ?_ GE230.out | refine bS_ ?_ GE240.out) | exact HB.out)))); have n1_ := Aside0.mk (blk_below (g := gb229) (o := .cells #[.int .i64 a0_0, .int .u64 a0_1, .int .u64 a0_2, .int .i64 a0_3, .int .i64 a0_4, .int .i64 a0_5, .int .i64 a0_6, .int .i64 a0_7, .int .i64 a0_8] 26 (0, 0)) (by (with_reducible repeat (first | refine kN_ ?_ _ | refine kD_ ?_ | refine kA_ ?_ _)); exact BK229.out) hb); have n2_ := Aside0.mk (blk_below (g := gb230) (o := .cells #[.int .i64 a1_0, .int .u64 a1_1, .string a1_2, .int .i64 a1_3] 38 (0, 0)) (by (with_reducible repeat (first | refine kN_ ?_ _ | refine kD_ ?_ | refine kA_ ?_ _)); exact BK230.out) hb); have n3_ := Aside0.mk (blk_below (g := gb240) (o := .cells #[.int .i64 t231, .int .u64 t232, .int .u64 t233, .int .i64 t234, .int .i64 t235, .int .i64 t236, .int .i64 t237, .int .i64 t238, .int .i64 t239] 26 (0, 0)) (by (with_reducible repeat (first | refine kN_ ?_ _ | refine kD_ ?_ | refine kA_ ?_ _)); exact BK240.out) hb); have n4_ := Aside0.mk (below_step (by repeat (first | (with_reducible first | exact HB.out | apply bA_ | apply bN_ | apply bD_ | refine bS_ ?_ GE229.out | refine bS_ ?_ GE230.out | refine bS_ ?_ GE240.out) | exact HB.out)) hb); clear BK229; clear BK230; clear BK240; clear HB; have HO252 := n0_; have BK229 := n1_; have BK230 := n2_; have BK240 := n3_; have HB := n4_; clear n0_ n1_ n2_ n3_ n4_; (try clear hb); (try clear hb2); (try clear hk); (try clear hi); (try clear ho0); obtain ⟨hcz28_0, hcz28_1, hcz28_2, hcz28_3, hcz28_4, hcz28_5, hcz28_6, hcz28_7, hcz28_8⟩ := cells9_ BK240.out; obtain ⟨hfz28_0, hfz28_1, hfz28_2, hfz28_3, hfz28_4, hfz28_5, hfz28_6, hfz28_7, hfz28_8⟩ := froz9_ BK240.out; obtain ⟨Ao29, co29, eo29⟩ := Kd.R_slice HO252.out; subst eo29) | ((with_reducible refine gate_callee (f := 22) rfl ?_); refine goesL_ (some 40) rfl rfl Try.func22 (by kernel_rfl) rfl #[.agg #[.int .i64 t231, .int .u64 t232, .int .u64 t233, .int .i64 t234, .int .i64 t235, .int .i64 t236, .int .i64 t237, .int .i64 t238, .int .i64 t239], .string t245, .slice Ao29 t250.length co29] rfl (by (try simp only [List.map_toArray, List.map_cons, List.map_nil]); first | done | rfl | (simp only [List.length_drop, List.length_take]; rfl)) ?_; (with_reducible refine (field_Insert.calls k t231 t232 t233 t234 t235 t236 t237 t238 t239 t245 _ _ t250 t253 _ ?side1 ?side2 A10.out).mono ?_); (case side1 => repeat (first | exact (Kd.R_reads' HO252.out).2.2 | (with_reducible refine Kd.C_alloc ?_ _) | (with_reducible refine Kd.C_drewN ?_ _) | (with_reducible refine Kd.C_drew ?_))); (case side2 => exact (Kd.R_reads' HO252.out).2.1); rintro e w30 ⟨v254, rfl, ho0, hb⟩; refine ⟨_, rfl, ?_⟩; have n0_ := Aside0.mk (Kd.R_elder' (by (with_reducible repeat (first | apply Kd.R_alloc | apply Kd.R_drewN | apply Kd.R_drew)); exact HO252.out) (Kd.R_base ho0) hb); have n1_ := Aside0.mk (Kd.R_lower (Kd.R_new' ho0 (Kd.R_lt (by (with_reducible repeat (first | apply Kd.R_alloc | apply Kd.R_drewN | apply Kd.R_drew)); exact HO252.out))) (below_size (by repeat (first | (with_reducible first | exact HB.out | apply bA_ | apply bN_ | apply bD_ | refine bS_ ?_ GE229.out | refine bS_ ?_ GE230.out | refine bS_ ?_ GE240.out) | exact HB.out)))); have n2_ := Aside0.mk (blk_below (g := gb229) (o := .cells #[.int .i64 a0_0, .int .u64 a0_1, .int .u64 a0_2, .int .i64 a0_3, .int .i64 a0_4, .int .i64 a0_5, .int .i64 a0_6, .int .i64 a0_7, .int .i64 a0_8] 26 (0, 0)) (by (with_reducible repeat (first | refine kN_ ?_ _ | refine kD_ ?_ | refine kA_ ?_ _)); exact BK229.out) hb); have n3_ := Aside0.mk (blk_below (g := gb230) (o := .cells #[.int .i64 a1_0, .int .u64 a1_1, .string a1_2, .int .i64 a1_3] 38 (0, 0)) (by (with_reducible repeat (first | refine kN_ ?_ _ | refine kD_ ?_ | refine kA_ ?_ _)); exact BK230.out) hb); have n4_ := Aside0.mk (blk_below (g := gb240) (o := .cells #[.int .i64 t231, .int .u64 t232, .int .u64 t233, .int .i64 t234, .int .i64 t235, .int .i64 t236, .int .i64 t237, .int .i64 t238, .int .i64 t239] 26 (0, 0)) (by (with_reducible repeat (first | refine kN_ ?_ _ | refine kD_ ?_ | refine kA_ ?_ _)); exact BK240.out) hb); have n5_ := Aside0.mk (below_step (by repeat (first | (with_reducible first | exact HB.out | apply bA_ | apply bN_ | apply bD_ | refine bS_ ?_ GE229.out | refine bS_ ?_ GE230.out | refine bS_ ?_ GE240.out) | exact HB.out)) hb); clear HO252; clear BK229; clear BK230; clear BK240; clear HB; have HO252 := n0_; have HO255 := n1_; have BK229 := n2_; have BK230 := n3_; have BK240 := n4_; have HB := n5_; clear n0_ n1_ n2_ n3_ n4_ n5_; (try clear hb); (try clear hb2); (try clear hk); (try clear hi); (try clear ho0)))
  (try simp only [Act.put, sA_, sB_, sC_])
  go_cut [55] (fun v55 wc => ∃ (kq : Nat) (x55_10 : Bool), v55 = .bool x55_10 ∧ Aside0 (platformfwlaw11_FieldRoundTrip.j0 kq t249 t250 t253 x55_10 t231 t232 t233 t234 t235 t236 t237 t238 t239 = some r) ∧ Aside0 (kq ≤ k) ∧ Aside0 (Kd.R (Kd.int .u64) 22 wc w.heap.size (fun k_ => some k_ ≠ (v254 : Value).ownBlock) (.slice Ao29 t250.length co29) t250) ∧ Aside0 (Kd.R (Kd.int .u64) 22 wc w.heap.size (fun k_ => some k_ ≠ ((.slice Ao29 t250.length co29) : Value).ownBlock) v254 t253) ∧ Aside0 (wc.heap[gb229]? = some (.cells #[.int .i64 a0_0, .int .u64 a0_1, .int .u64 a0_2, .int .i64 a0_3, .int .i64 a0_4, .int .i64 a0_5, .int .i64 a0_6, .int .i64 a0_7, .int .i64 a0_8] 26 (0, 0))) ∧ Aside0 (wc.heap[gb230]? = some (.cells #[.int .i64 a1_0, .int .u64 a1_1, .string a1_2, .int .i64 a1_3] 38 (0, 0))) ∧ Aside0 (wc.heap[gb240]? = some (.cells #[.int .i64 t231, .int .u64 t232, .int .u64 t233, .int .i64 t234, .int .i64 t235, .int .i64 t236, .int .i64 t237, .int .i64 t238, .int .i64 t239] 26 (0, 0))) ∧ Aside0 (Below w.heap.size w wc))
  case first =>
   have H := HC11.out
   clear HC11
   replace H := Option.bind_eq_some_iff.mp H
   obtain ⟨t256, A310, H⟩ := H
   replace H : (if t256 = true then ((field_Extract.f k t231 t232 t233 t234 t235 t236 t237 t238 t239 t253).bind fun t257 => (if t257.toList = t245.toList then (platformfwlaw11_FieldRoundTrip.j0 k t249 t250 t253 ((t253.length : Int) != t249) t231 t232 t233 t234 t235 t236 t237 t238 t239) else (platformfwlaw11_FieldRoundTrip.j0 k t249 t250 t253 true t231 t232 t233 t234 t235 t236 t237 t238 t239))) else (platformfwlaw11_FieldRoundTrip.j0 k t249 t250 t253 true t231 t232 t233 t234 t235 t236 t237 t238 t239)) = some r := H
   have A31 := Aside0.mk A310
   clear A310
   by_cases c32 : t256 = true
   ·subst c32
    have H1 : ((field_Extract.f k t231 t232 t233 t234 t235 t236 t237 t238 t239 t253).bind fun t257 => (if t257.toList = t245.toList then (platformfwlaw11_FieldRoundTrip.j0 k t249 t250 t253 ((t253.length : Int) != t249) t231 t232 t233 t234 t235 t236 t237 t238 t239) else (platformfwlaw11_FieldRoundTrip.j0 k t249 t250 t253 true t231 t232 t233 t234 t235 t236 t237 t238 t239))) = some r := by rw [if_pos rfl] at H; exact H
    clear H
    have H := H1
    clear H1
    replace H := Option.bind_eq_some_iff.mp H
    obtain ⟨t257, A330, H⟩ := H
    replace H : (if t257.toList = t245.toList then (platformfwlaw11_FieldRoundTrip.j0 k t249 t250 t253 ((t253.length : Int) != t249) t231 t232 t233 t234 t235 t236 t237 t238 t239) else (platformfwlaw11_FieldRoundTrip.j0 k t249 t250 t253 true t231 t232 t233 t234 t235 t236 t237 t238 t239)) = some r := H
    have A33 := Aside0.mk A330
    clear A330
    by_cases c34 : t257.toList = t245.toList
    ·rw [if_pos c34] at H
     have c34b0 : (t257.toList == t245.toList) = true := beq_iff_eq.mpr c34
     have c34b1 : (t257.toList != t245.toList) = false := bne_eq_false_iff_eq.mpr c34
     clear c34
     (first | rw [c34b0] | (simp only [i64_w, i32_w]; rw [c34b0]) | skip)
     have H' := Aside0.mk H
     clear H
     go_wp2_with (first | ((with_reducible refine gate_callee (f := 18) rfl ?_); refine goesL_ (some 41) rfl rfl Try.func18 (by kernel_rfl) rfl #[] rfl (by (try simp only [List.map_toArray, List.map_cons, List.map_nil]); first | done | rfl | (simp only [List.length_drop, List.length_take]; rfl)) ?_; (with_reducible refine (platformfwlaw11_awake.calls k  true _ A31.out).mono ?_); rintro e w35 ⟨rfl, hb⟩; refine ⟨_, rfl, ?_⟩; have n0_ := Aside0.mk (Kd.R_below (by (with_reducible repeat (first | apply Kd.R_alloc | apply Kd.R_drewN | apply Kd.R_drew)); exact HO252.out) hb); have n1_ := Aside0.mk (Kd.R_below (by (with_reducible repeat (first | apply Kd.R_alloc | apply Kd.R_drewN | apply Kd.R_drew)); exact HO255.out) hb); have n2_ := Aside0.mk (blk_below (g := gb229) (o := .cells #[.int .i64 a0_0, .int .u64 a0_1, .int .u64 a0_2, .int .i64 a0_3, .int .i64 a0_4, .int .i64 a0_5, .int .i64 a0_6, .int .i64 a0_7, .int .i64 a0_8] 26 (0, 0)) (by (with_reducible repeat (first | refine kN_ ?_ _ | refine kD_ ?_ | refine kA_ ?_ _)); exact BK229.out) hb); have n3_ := Aside0.mk (blk_below (g := gb230) (o := .cells #[.int .i64 a1_0, .int .u64 a1_1, .string a1_2, .int .i64 a1_3] 38 (0, 0)) (by (with_reducible repeat (first | refine kN_ ?_ _ | refine kD_ ?_ | refine kA_ ?_ _)); exact BK230.out) hb); have n4_ := Aside0.mk (blk_below (g := gb240) (o := .cells #[.int .i64 t231, .int .u64 t232, .int .u64 t233, .int .i64 t234, .int .i64 t235, .int .i64 t236, .int .i64 t237, .int .i64 t238, .int .i64 t239] 26 (0, 0)) (by (with_reducible repeat (first | refine kN_ ?_ _ | refine kD_ ?_ | refine kA_ ?_ _)); exact BK240.out) hb); have n5_ := Aside0.mk (below_step (by repeat (first | (with_reducible first | exact HB.out | apply bA_ | apply bN_ | apply bD_ | refine bS_ ?_ GE229.out | refine bS_ ?_ GE230.out | refine bS_ ?_ GE240.out) | exact HB.out)) hb); clear HO252; clear HO255; clear BK229; clear BK230; clear BK240; clear HB; have HO252 := n0_; have HO255 := n1_; have BK229 := n2_; have BK230 := n3_; have BK240 := n4_; have HB := n5_; clear n0_ n1_ n2_ n3_ n4_ n5_; (try clear hb); (try clear hb2); (try clear hk); (try clear hi); have hnb36 := NB240_229.out; have hnc36 := NB229_240.out; have hnb37 := NB240_230.out; have hnc37 := NB230_240.out; obtain ⟨hcz38_0, hcz38_1, hcz38_2, hcz38_3, hcz38_4, hcz38_5, hcz38_6, hcz38_7, hcz38_8⟩ := cells9_ BK240.out; obtain ⟨hfz38_0, hfz38_1, hfz38_2, hfz38_3, hfz38_4, hfz38_5, hfz38_6, hfz38_7, hfz38_8⟩ := froz9_ BK240.out; obtain ⟨Ao39, co39, eo39⟩ := Kd.R_slice HO255.out; subst eo39) | (go_at_call 19; (with_reducible refine (field_Extract.calls k t231 t232 t233 t234 t235 t236 t237 t238 t239 _ _ t253 t257 _ ?side1 ?side2 A33.out).mono ?_); (case side1 => repeat (first | exact (Kd.R_reads' HO255.out).2.2 | (with_reducible refine Kd.C_alloc ?_ _) | (with_reducible refine Kd.C_drewN ?_ _) | (with_reducible refine Kd.C_drew ?_))); (case side2 => exact (Kd.R_reads' HO255.out).2.1); rintro e w40 ⟨rfl, hb⟩; have n0_ := Aside0.mk (Kd.R_below (by (with_reducible repeat (first | apply Kd.R_alloc | apply Kd.R_drewN | apply Kd.R_drew)); exact HO252.out) hb); have n1_ := Aside0.mk (Kd.R_below (by (with_reducible repeat (first | apply Kd.R_alloc | apply Kd.R_drewN | apply Kd.R_drew)); exact HO255.out) hb); have n2_ := Aside0.mk (blk_below (g := gb229) (o := .cells #[.int .i64 a0_0, .int .u64 a0_1, .int .u64 a0_2, .int .i64 a0_3, .int .i64 a0_4, .int .i64 a0_5, .int .i64 a0_6, .int .i64 a0_7, .int .i64 a0_8] 26 (0, 0)) (by (with_reducible repeat (first | refine kN_ ?_ _ | refine kD_ ?_ | refine kA_ ?_ _)); exact BK229.out) hb); have n3_ := Aside0.mk (blk_below (g := gb230) (o := .cells #[.int .i64 a1_0, .int .u64 a1_1, .string a1_2, .int .i64 a1_3] 38 (0, 0)) (by (with_reducible repeat (first | refine kN_ ?_ _ | refine kD_ ?_ | refine kA_ ?_ _)); exact BK230.out) hb); have n4_ := Aside0.mk (blk_below (g := gb240) (o := .cells #[.int .i64 t231, .int .u64 t232, .int .u64 t233, .int .i64 t234, .int .i64 t235, .int .i64 t236, .int .i64 t237, .int .i64 t238, .int .i64 t239] 26 (0, 0)) (by (with_reducible repeat (first | refine kN_ ?_ _ | refine kD_ ?_ | refine kA_ ?_ _)); exact BK240.out) hb); have n5_ := Aside0.mk (below_step (by repeat (first | (with_reducible first | exact HB.out | apply bA_ | apply bN_ | apply bD_ | refine bS_ ?_ GE229.out | refine bS_ ?_ GE230.out | refine bS_ ?_ GE240.out) | exact HB.out)) hb); clear HO252; clear HO255; clear BK229; clear BK230; clear BK240; clear HB; have HO252 := n0_; have HO255 := n1_; have BK229 := n2_; have BK230 := n3_; have BK240 := n4_; have HB := n5_; clear n0_ n1_ n2_ n3_ n4_ n5_; (try clear hb); (try clear hb2); (try clear hk); (try clear hi)))
     go_meet
     case rel => exact ⟨_, (((t253.length : Int) != t249)), (by first | rfl | (simp; done) | (simp [*]; done)), H', ⟨by first | omega | exact Nat.le_refl _⟩, ⟨by (with_reducible repeat (first | apply Kd.R_alloc | apply Kd.R_drewN | apply Kd.R_drew)); exact Kd.R_mono HO252.out (fun _ hk => hk.2)⟩, ⟨by (with_reducible repeat (first | apply Kd.R_alloc | apply Kd.R_drewN | apply Kd.R_drew)); exact Kd.R_mono HO255.out (fun _ hk => hk.2)⟩, ⟨by (with_reducible repeat (first | refine kN_ ?_ _ | refine kD_ ?_ | refine kA_ ?_ _)); exact BK229.out⟩, ⟨by (with_reducible repeat (first | refine kN_ ?_ _ | refine kD_ ?_ | refine kA_ ?_ _)); exact BK230.out⟩, ⟨by (with_reducible repeat (first | refine kN_ ?_ _ | refine kD_ ?_ | refine kA_ ?_ _)); exact BK240.out⟩, ⟨by repeat (first | (with_reducible first | exact HB.out | apply bA_ | apply bN_ | apply bD_ | refine bS_ ?_ GE229.out | refine bS_ ?_ GE230.out | refine bS_ ?_ GE240.out) | exact HB.out)⟩⟩
    ·rw [if_neg c34] at H
     have c34b0 : (t257.toList == t245.toList) = false := beq_eq_false_iff_ne.mpr c34
     have c34b1 : (t257.toList != t245.toList) = true := bne_iff_ne.mpr c34
     (first | rw [c34b0] | (simp only [i64_w, i32_w]; rw [c34b0]) | skip)
     have H' := Aside0.mk H
     clear H
     go_wp2_with (first | ((with_reducible refine gate_callee (f := 18) rfl ?_); refine goesL_ (some 41) rfl rfl Try.func18 (by kernel_rfl) rfl #[] rfl (by (try simp only [List.map_toArray, List.map_cons, List.map_nil]); first | done | rfl | (simp only [List.length_drop, List.length_take]; rfl)) ?_; (with_reducible refine (platformfwlaw11_awake.calls k  true _ A31.out).mono ?_); rintro e w41 ⟨rfl, hb⟩; refine ⟨_, rfl, ?_⟩; have n0_ := Aside0.mk (Kd.R_below (by (with_reducible repeat (first | apply Kd.R_alloc | apply Kd.R_drewN | apply Kd.R_drew)); exact HO252.out) hb); have n1_ := Aside0.mk (Kd.R_below (by (with_reducible repeat (first | apply Kd.R_alloc | apply Kd.R_drewN | apply Kd.R_drew)); exact HO255.out) hb); have n2_ := Aside0.mk (blk_below (g := gb229) (o := .cells #[.int .i64 a0_0, .int .u64 a0_1, .int .u64 a0_2, .int .i64 a0_3, .int .i64 a0_4, .int .i64 a0_5, .int .i64 a0_6, .int .i64 a0_7, .int .i64 a0_8] 26 (0, 0)) (by (with_reducible repeat (first | refine kN_ ?_ _ | refine kD_ ?_ | refine kA_ ?_ _)); exact BK229.out) hb); have n3_ := Aside0.mk (blk_below (g := gb230) (o := .cells #[.int .i64 a1_0, .int .u64 a1_1, .string a1_2, .int .i64 a1_3] 38 (0, 0)) (by (with_reducible repeat (first | refine kN_ ?_ _ | refine kD_ ?_ | refine kA_ ?_ _)); exact BK230.out) hb); have n4_ := Aside0.mk (blk_below (g := gb240) (o := .cells #[.int .i64 t231, .int .u64 t232, .int .u64 t233, .int .i64 t234, .int .i64 t235, .int .i64 t236, .int .i64 t237, .int .i64 t238, .int .i64 t239] 26 (0, 0)) (by (with_reducible repeat (first | refine kN_ ?_ _ | refine kD_ ?_ | refine kA_ ?_ _)); exact BK240.out) hb); have n5_ := Aside0.mk (below_step (by repeat (first | (with_reducible first | exact HB.out | apply bA_ | apply bN_ | apply bD_ | refine bS_ ?_ GE229.out | refine bS_ ?_ GE230.out | refine bS_ ?_ GE240.out) | exact HB.out)) hb); clear HO252; clear HO255; clear BK229; clear BK230; clear BK240; clear HB; have HO252 := n0_; have HO255 := n1_; have BK229 := n2_; have BK230 := n3_; have BK240 := n4_; have HB := n5_; clear n0_ n1_ n2_ n3_ n4_ n5_; (try clear hb); (try clear hb2); (try clear hk); (try clear hi); have hnb42 := NB240_229.out; have hnc42 := NB229_240.out; have hnb43 := NB240_230.out; have hnc43 := NB230_240.out; obtain ⟨hcz44_0, hcz44_1, hcz44_2, hcz44_3, hcz44_4, hcz44_5, hcz44_6, hcz44_7, hcz44_8⟩ := cells9_ BK240.out; obtain ⟨hfz44_0, hfz44_1, hfz44_2, hfz44_3, hfz44_4, hfz44_5, hfz44_6, hfz44_7, hfz44_8⟩ := froz9_ BK240.out; obtain ⟨Ao45, co45, eo45⟩ := Kd.R_slice HO255.out; subst eo45) | (go_at_call 19; (with_reducible refine (field_Extract.calls k t231 t232 t233 t234 t235 t236 t237 t238 t239 _ _ t253 t257 _ ?side1 ?side2 A33.out).mono ?_); (case side1 => repeat (first | exact (Kd.R_reads' HO255.out).2.2 | (with_reducible refine Kd.C_alloc ?_ _) | (with_reducible refine Kd.C_drewN ?_ _) | (with_reducible refine Kd.C_drew ?_))); (case side2 => exact (Kd.R_reads' HO255.out).2.1); rintro e w46 ⟨rfl, hb⟩; have n0_ := Aside0.mk (Kd.R_below (by (with_reducible repeat (first | apply Kd.R_alloc | apply Kd.R_drewN | apply Kd.R_drew)); exact HO252.out) hb); have n1_ := Aside0.mk (Kd.R_below (by (with_reducible repeat (first | apply Kd.R_alloc | apply Kd.R_drewN | apply Kd.R_drew)); exact HO255.out) hb); have n2_ := Aside0.mk (blk_below (g := gb229) (o := .cells #[.int .i64 a0_0, .int .u64 a0_1, .int .u64 a0_2, .int .i64 a0_3, .int .i64 a0_4, .int .i64 a0_5, .int .i64 a0_6, .int .i64 a0_7, .int .i64 a0_8] 26 (0, 0)) (by (with_reducible repeat (first | refine kN_ ?_ _ | refine kD_ ?_ | refine kA_ ?_ _)); exact BK229.out) hb); have n3_ := Aside0.mk (blk_below (g := gb230) (o := .cells #[.int .i64 a1_0, .int .u64 a1_1, .string a1_2, .int .i64 a1_3] 38 (0, 0)) (by (with_reducible repeat (first | refine kN_ ?_ _ | refine kD_ ?_ | refine kA_ ?_ _)); exact BK230.out) hb); have n4_ := Aside0.mk (blk_below (g := gb240) (o := .cells #[.int .i64 t231, .int .u64 t232, .int .u64 t233, .int .i64 t234, .int .i64 t235, .int .i64 t236, .int .i64 t237, .int .i64 t238, .int .i64 t239] 26 (0, 0)) (by (with_reducible repeat (first | refine kN_ ?_ _ | refine kD_ ?_ | refine kA_ ?_ _)); exact BK240.out) hb); have n5_ := Aside0.mk (below_step (by repeat (first | (with_reducible first | exact HB.out | apply bA_ | apply bN_ | apply bD_ | refine bS_ ?_ GE229.out | refine bS_ ?_ GE230.out | refine bS_ ?_ GE240.out) | exact HB.out)) hb); clear HO252; clear HO255; clear BK229; clear BK230; clear BK240; clear HB; have HO252 := n0_; have HO255 := n1_; have BK229 := n2_; have BK230 := n3_; have BK240 := n4_; have HB := n5_; clear n0_ n1_ n2_ n3_ n4_ n5_; (try clear hb); (try clear hb2); (try clear hk); (try clear hi)))
     go_meet
     case rel => exact ⟨_, (true), (by first | rfl | (simp; done) | (simp [*]; done)), H', ⟨by first | omega | exact Nat.le_refl _⟩, ⟨by (with_reducible repeat (first | apply Kd.R_alloc | apply Kd.R_drewN | apply Kd.R_drew)); exact Kd.R_mono HO252.out (fun _ hk => hk.2)⟩, ⟨by (with_reducible repeat (first | apply Kd.R_alloc | apply Kd.R_drewN | apply Kd.R_drew)); exact Kd.R_mono HO255.out (fun _ hk => hk.2)⟩, ⟨by (with_reducible repeat (first | refine kN_ ?_ _ | refine kD_ ?_ | refine kA_ ?_ _)); exact BK229.out⟩, ⟨by (with_reducible repeat (first | refine kN_ ?_ _ | refine kD_ ?_ | refine kA_ ?_ _)); exact BK230.out⟩, ⟨by (with_reducible repeat (first | refine kN_ ?_ _ | refine kD_ ?_ | refine kA_ ?_ _)); exact BK240.out⟩, ⟨by repeat (first | (with_reducible first | exact HB.out | apply bA_ | apply bN_ | apply bD_ | refine bS_ ?_ GE229.out | refine bS_ ?_ GE230.out | refine bS_ ?_ GE240.out) | exact HB.out)⟩⟩
   ·replace c32 := Bool.eq_false_iff.mpr c32
    subst c32
    have H1 : (platformfwlaw11_FieldRoundTrip.j0 k t249 t250 t253 true t231 t232 t233 t234 t235 t236 t237 t238 t239) = some r := by rw [if_neg (show ¬ (false = true) by decide)] at H; exact H
    clear H
    have H := H1
    clear H1
    have H' := Aside0.mk H
    clear H
    go_wp2_with (first | ((with_reducible refine gate_callee (f := 18) rfl ?_); refine goesL_ (some 41) rfl rfl Try.func18 (by kernel_rfl) rfl #[] rfl (by (try simp only [List.map_toArray, List.map_cons, List.map_nil]); first | done | rfl | (simp only [List.length_drop, List.length_take]; rfl)) ?_; (with_reducible refine (platformfwlaw11_awake.calls k  false _ A31.out).mono ?_); rintro e w47 ⟨rfl, hb⟩; refine ⟨_, rfl, ?_⟩; have n0_ := Aside0.mk (Kd.R_below (by (with_reducible repeat (first | apply Kd.R_alloc | apply Kd.R_drewN | apply Kd.R_drew)); exact HO252.out) hb); have n1_ := Aside0.mk (Kd.R_below (by (with_reducible repeat (first | apply Kd.R_alloc | apply Kd.R_drewN | apply Kd.R_drew)); exact HO255.out) hb); have n2_ := Aside0.mk (blk_below (g := gb229) (o := .cells #[.int .i64 a0_0, .int .u64 a0_1, .int .u64 a0_2, .int .i64 a0_3, .int .i64 a0_4, .int .i64 a0_5, .int .i64 a0_6, .int .i64 a0_7, .int .i64 a0_8] 26 (0, 0)) (by (with_reducible repeat (first | refine kN_ ?_ _ | refine kD_ ?_ | refine kA_ ?_ _)); exact BK229.out) hb); have n3_ := Aside0.mk (blk_below (g := gb230) (o := .cells #[.int .i64 a1_0, .int .u64 a1_1, .string a1_2, .int .i64 a1_3] 38 (0, 0)) (by (with_reducible repeat (first | refine kN_ ?_ _ | refine kD_ ?_ | refine kA_ ?_ _)); exact BK230.out) hb); have n4_ := Aside0.mk (blk_below (g := gb240) (o := .cells #[.int .i64 t231, .int .u64 t232, .int .u64 t233, .int .i64 t234, .int .i64 t235, .int .i64 t236, .int .i64 t237, .int .i64 t238, .int .i64 t239] 26 (0, 0)) (by (with_reducible repeat (first | refine kN_ ?_ _ | refine kD_ ?_ | refine kA_ ?_ _)); exact BK240.out) hb); have n5_ := Aside0.mk (below_step (by repeat (first | (with_reducible first | exact HB.out | apply bA_ | apply bN_ | apply bD_ | refine bS_ ?_ GE229.out | refine bS_ ?_ GE230.out | refine bS_ ?_ GE240.out) | exact HB.out)) hb); clear HO252; clear HO255; clear BK229; clear BK230; clear BK240; clear HB; have HO252 := n0_; have HO255 := n1_; have BK229 := n2_; have BK230 := n3_; have BK240 := n4_; have HB := n5_; clear n0_ n1_ n2_ n3_ n4_ n5_; (try clear hb); (try clear hb2); (try clear hk); (try clear hi)))
    go_meet
    case rel => exact ⟨_, (true), (by first | rfl | (simp; done) | (simp [*]; done)), H', ⟨by first | omega | exact Nat.le_refl _⟩, ⟨by (with_reducible repeat (first | apply Kd.R_alloc | apply Kd.R_drewN | apply Kd.R_drew)); exact Kd.R_mono HO252.out (fun _ hk => hk.2)⟩, ⟨by (with_reducible repeat (first | apply Kd.R_alloc | apply Kd.R_drewN | apply Kd.R_drew)); exact Kd.R_mono HO255.out (fun _ hk => hk.2)⟩, ⟨by (with_reducible repeat (first | refine kN_ ?_ _ | refine kD_ ?_ | refine kA_ ?_ _)); exact BK229.out⟩, ⟨by (with_reducible repeat (first | refine kN_ ?_ _ | refine kD_ ?_ | refine kA_ ?_ _)); exact BK230.out⟩, ⟨by (with_reducible repeat (first | refine kN_ ?_ _ | refine kD_ ?_ | refine kA_ ?_ _)); exact BK240.out⟩, ⟨by repeat (first | (with_reducible first | exact HB.out | apply bA_ | apply bN_ | apply bD_ | refine bS_ ?_ GE229.out | refine bS_ ?_ GE230.out | refine bS_ ?_ GE240.out) | exact HB.out)⟩⟩
  case rest =>
   clear HC11
   try clear c1
   try clear c2
   try clear p2
   try clear c3
   try clear c4
   try clear c7
   try clear c7b0
   try clear c7b1
   try clear c14
   try clear c15
   try clear c16
   try clear c17
   try clear c18
   try clear c19
   try clear c22
   try clear c24
   try clear c25
   try clear c32
   try clear c34
   try clear c34b0
   try clear c34b1
   try clear c36
   try clear c37
   try clear c42
   try clear c43
   try clear hcz15_0 hcz15_1 hcz15_2 hcz15_3 hcz15_4 hcz15_5 hcz15_6 hcz15_7 hcz15_8
   try clear hcz20_0 hcz20_1 hcz20_2 hcz20_3 hcz20_4 hcz20_5 hcz20_6 hcz20_7 hcz20_8
   try clear hcz25_0 hcz25_1 hcz25_2 hcz25_3 hcz25_4 hcz25_5 hcz25_6 hcz25_7 hcz25_8
   try clear hcz28_0 hcz28_1 hcz28_2 hcz28_3 hcz28_4 hcz28_5 hcz28_6 hcz28_7 hcz28_8
   try clear hcz38_0 hcz38_1 hcz38_2 hcz38_3 hcz38_4 hcz38_5 hcz38_6 hcz38_7 hcz38_8
   try clear hcz44_0 hcz44_1 hcz44_2 hcz44_3 hcz44_4 hcz44_5 hcz44_6 hcz44_7 hcz44_8
   try clear hfz15_0 hfz15_1 hfz15_2 hfz15_3 hfz15_4 hfz15_5 hfz15_6 hfz15_7 hfz15_8
   try clear hfz20_0 hfz20_1 hfz20_2 hfz20_3 hfz20_4 hfz20_5 hfz20_6 hfz20_7 hfz20_8
   try clear hfz25_0 hfz25_1 hfz25_2 hfz25_3 hfz25_4 hfz25_5 hfz25_6 hfz25_7 hfz25_8
   try clear hfz28_0 hfz28_1 hfz28_2 hfz28_3 hfz28_4 hfz28_5 hfz28_6 hfz28_7 hfz28_8
   try clear hfz38_0 hfz38_1 hfz38_2 hfz38_3 hfz38_4 hfz38_5 hfz38_6 hfz38_7 hfz38_8
   try clear hfz44_0 hfz44_1 hfz44_2 hfz44_3 hfz44_4 hfz44_5 hfz44_6 hfz44_7 hfz44_8
   obtain ⟨kq, x55_10, rfl, HA, HJ10, HO_12, HO_13, BK229, BK230, BK240, HB⟩ := hcut
   cases kq with
   | zero => exact absurd HA.out (by simp [platformfwlaw11_FieldRoundTrip.j0])
   | succ kj10 =>
    have H := HA.out
    clear HA
    simp only [platformfwlaw11_FieldRoundTrip.j0] at H
    by_cases c48 : x55_10 = true
    ·subst c48
     have H1 : (some false) = some r := by rw [if_pos rfl] at H; exact H
     clear H
     have H := H1
     clear H1
     obtain rfl := Option.some.inj H
     exact absurd hr_.out (by simp)
    ·replace c48 := Bool.eq_false_iff.mpr c48
     subst c48
     have H1 : ((platformfwref09_Masks.f kj10 t231 t232 t233 t234 t235 t236 t237 t238 t239).bind fun t258 => (platformfwlaw11_FieldRoundTrip.l0 kj10 t249 t250 t253 t258 0 t231 t232 t233 t234 t235 t236 t237 t238 t239)) = some r := by rw [if_neg (show ¬ (false = true) by decide)] at H; exact H
     clear H
     have H := H1
     clear H1
     replace H := Option.bind_eq_some_iff.mp H
     obtain ⟨t258, A490, H⟩ := H
     replace H : (platformfwlaw11_FieldRoundTrip.l0 kj10 t249 t250 t253 t258 0 t231 t232 t233 t234 t235 t236 t237 t238 t239) = some r := H
     have A49 := Aside0.mk A490
     clear A490
     have H' := Aside0.mk H
     clear H
     have hnb50 := NB240_229.out
     have hnc50 := NB229_240.out
     have hnb51 := NB240_230.out
     have hnc51 := NB230_240.out
     obtain ⟨hcz52_0, hcz52_1, hcz52_2, hcz52_3, hcz52_4, hcz52_5, hcz52_6, hcz52_7, hcz52_8⟩ := cells9_ BK240.out
     obtain ⟨hfz52_0, hfz52_1, hfz52_2, hfz52_3, hfz52_4, hfz52_5, hfz52_6, hfz52_7, hfz52_8⟩ := froz9_ BK240.out
     go_wp2_with (first | ((with_reducible refine gate_callee (f := 26) rfl ?_); refine goesL_ (some 57) rfl rfl Try.func26 (by kernel_rfl) rfl #[.agg #[.int .i64 t231, .int .u64 t232, .int .u64 t233, .int .i64 t234, .int .i64 t235, .int .i64 t236, .int .i64 t237, .int .i64 t238, .int .i64 t239]] rfl (by (try simp only [List.map_toArray, List.map_cons, List.map_nil]); first | done | rfl | (simp only [List.length_drop, List.length_take]; rfl)) ?_; (with_reducible refine (platformfwref09_Masks.calls kj10 t231 t232 t233 t234 t235 t236 t237 t238 t239 t258 _ A49.out).mono ?_); rintro e w53 ⟨v259, rfl, ho0, hb⟩; refine ⟨_, rfl, ?_⟩; have n0_ := Aside0.mk (Kd.R_elder' (by (with_reducible repeat (first | apply Kd.R_alloc | apply Kd.R_drewN | apply Kd.R_drew)); exact HO_12.out) (Kd.R_base ho0) hb); have n1_ := Aside0.mk (Kd.R_elder' (by (with_reducible repeat (first | apply Kd.R_alloc | apply Kd.R_drewN | apply Kd.R_drew)); exact HO_13.out) (Kd.R_base ho0) hb); have n2_ := Aside0.mk (Kd.R_lower (Kd.R_new' (Kd.R_new' ho0 (Kd.R_lt (by (with_reducible repeat (first | apply Kd.R_alloc | apply Kd.R_drewN | apply Kd.R_drew)); exact HO_12.out))) (Kd.R_lt (by (with_reducible repeat (first | apply Kd.R_alloc | apply Kd.R_drewN | apply Kd.R_drew)); exact HO_13.out))) (below_size (by repeat (first | (with_reducible first | exact HB.out | apply bA_ | apply bN_ | apply bD_ | refine bS_ ?_ GE229.out | refine bS_ ?_ GE230.out | refine bS_ ?_ GE240.out) | exact HB.out)))); have n3_ := Aside0.mk (blk_below (g := gb229) (o := .cells #[.int .i64 a0_0, .int .u64 a0_1, .int .u64 a0_2, .int .i64 a0_3, .int .i64 a0_4, .int .i64 a0_5, .int .i64 a0_6, .int .i64 a0_7, .int .i64 a0_8] 26 (0, 0)) (by (with_reducible repeat (first | refine kN_ ?_ _ | refine kD_ ?_ | refine kA_ ?_ _)); exact BK229.out) hb); have n4_ := Aside0.mk (blk_below (g := gb230) (o := .cells #[.int .i64 a1_0, .int .u64 a1_1, .string a1_2, .int .i64 a1_3] 38 (0, 0)) (by (with_reducible repeat (first | refine kN_ ?_ _ | refine kD_ ?_ | refine kA_ ?_ _)); exact BK230.out) hb); have n5_ := Aside0.mk (blk_below (g := gb240) (o := .cells #[.int .i64 t231, .int .u64 t232, .int .u64 t233, .int .i64 t234, .int .i64 t235, .int .i64 t236, .int .i64 t237, .int .i64 t238, .int .i64 t239] 26 (0, 0)) (by (with_reducible repeat (first | refine kN_ ?_ _ | refine kD_ ?_ | refine kA_ ?_ _)); exact BK240.out) hb); have n6_ := Aside0.mk (below_step (by repeat (first | (with_reducible first | exact HB.out | apply bA_ | apply bN_ | apply bD_ | refine bS_ ?_ GE229.out | refine bS_ ?_ GE230.out | refine bS_ ?_ GE240.out) | exact HB.out)) hb); clear HO_12; clear HO_13; clear BK229; clear BK230; clear BK240; clear HB; have HO_12 := n0_; have HO_13 := n1_; have HO260 := n2_; have BK229 := n3_; have BK230 := n4_; have BK240 := n5_; have HB := n6_; clear n0_ n1_ n2_ n3_ n4_ n5_ n6_; (try clear hb); (try clear hb2); (try clear hk); (try clear hi); (try clear ho0)))
     go_loopg [15] kj10 (fun kq v15 w' => ∃ (x15_2 : Int), v15 = .int .i64 x15_2 ∧ Aside0 (platformfwlaw11_FieldRoundTrip.l0 kq t249 t250 t253 t258 x15_2 t231 t232 t233 t234 t235 t236 t237 t238 t239 = some r) ∧ Aside0 (kq ≤ kj10) ∧ Aside0 (Kd.R (Kd.int .u64) 22 w' w.heap.size (fun k_ => some k_ ≠ (v254 : Value).ownBlock ∧ some k_ ≠ (v259 : Value).ownBlock) (.slice Ao29 t250.length co29) t250) ∧ Aside0 (Kd.R (Kd.int .u64) 22 w' w.heap.size (fun k_ => some k_ ≠ ((.slice Ao29 t250.length co29) : Value).ownBlock ∧ some k_ ≠ (v259 : Value).ownBlock) v254 t253) ∧ Aside0 (Kd.R (Kd.int .u64) 22 w' w.heap.size (fun k_ => some k_ ≠ ((.slice Ao29 t250.length co29) : Value).ownBlock ∧ some k_ ≠ (v254 : Value).ownBlock) v259 t258) ∧ Aside0 (w'.heap[gb229]? = some (.cells #[.int .i64 a0_0, .int .u64 a0_1, .int .u64 a0_2, .int .i64 a0_3, .int .i64 a0_4, .int .i64 a0_5, .int .i64 a0_6, .int .i64 a0_7, .int .i64 a0_8] 26 (0, 0))) ∧ Aside0 (w'.heap[gb230]? = some (.cells #[.int .i64 a1_0, .int .u64 a1_1, .string a1_2, .int .i64 a1_3] 38 (0, 0))) ∧ Aside0 (w'.heap[gb240]? = some (.cells #[.int .i64 t231, .int .u64 t232, .int .u64 t233, .int .i64 t234, .int .i64 t235, .int .i64 t236, .int .i64 t237, .int .i64 t238, .int .i64 t239] 26 (0, 0))) ∧ Aside0 (Below w.heap.size w w'))
     case atStart => exact ⟨(0), (by first | rfl | (simp; done) | (simp [*]; done)), H', ⟨Nat.le_refl _⟩, ⟨by (with_reducible repeat (first | apply Kd.R_alloc | apply Kd.R_drewN | apply Kd.R_drew)); exact HO_12.out⟩, ⟨by (with_reducible repeat (first | apply Kd.R_alloc | apply Kd.R_drewN | apply Kd.R_drew)); exact HO_13.out⟩, ⟨by (with_reducible repeat (first | apply Kd.R_alloc | apply Kd.R_drewN | apply Kd.R_drew)); exact Kd.R_mono HO260.out (fun _ hk => ⟨hk.1.2, hk.2⟩)⟩, ⟨by (with_reducible repeat (first | refine kN_ ?_ _ | refine kD_ ?_ | refine kA_ ?_ _)); exact BK229.out⟩, ⟨by (with_reducible repeat (first | refine kN_ ?_ _ | refine kD_ ?_ | refine kA_ ?_ _)); exact BK230.out⟩, ⟨by (with_reducible repeat (first | refine kN_ ?_ _ | refine kD_ ?_ | refine kA_ ?_ _)); exact BK240.out⟩, ⟨by repeat (first | (with_reducible first | exact HB.out | apply bA_ | apply bN_ | apply bD_ | refine bS_ ?_ GE229.out | refine bS_ ?_ GE230.out | refine bS_ ?_ GE240.out) | exact HB.out)⟩⟩
     case round =>
      clear H'
      try clear c1
      try clear c2
      try clear p2
      try clear c3
      try clear c4
      try clear c5
      try clear c7
      try clear c7b0
      try clear c7b1
      try clear c14
      try clear c15
      try clear c16
      try clear c17
      try clear c18
      try clear c19
      try clear c22
      try clear c24
      try clear c25
      try clear c26
      try clear c32
      try clear c34
      try clear c34b0
      try clear c34b1
      try clear c36
      try clear c37
      try clear c42
      try clear c43
      try clear c48
      try clear c50
      try clear c51
      try clear hcz15_0 hcz15_1 hcz15_2 hcz15_3 hcz15_4 hcz15_5 hcz15_6 hcz15_7 hcz15_8
      try clear hcz20_0 hcz20_1 hcz20_2 hcz20_3 hcz20_4 hcz20_5 hcz20_6 hcz20_7 hcz20_8
      try clear hcz25_0 hcz25_1 hcz25_2 hcz25_3 hcz25_4 hcz25_5 hcz25_6 hcz25_7 hcz25_8
      try clear hcz28_0 hcz28_1 hcz28_2 hcz28_3 hcz28_4 hcz28_5 hcz28_6 hcz28_7 hcz28_8
      try clear hcz38_0 hcz38_1 hcz38_2 hcz38_3 hcz38_4 hcz38_5 hcz38_6 hcz38_7 hcz38_8
      try clear hcz44_0 hcz44_1 hcz44_2 hcz44_3 hcz44_4 hcz44_5 hcz44_6 hcz44_7 hcz44_8
      try clear hcz52_0 hcz52_1 hcz52_2 hcz52_3 hcz52_4 hcz52_5 hcz52_6 hcz52_7 hcz52_8
      try clear hfz15_0 hfz15_1 hfz15_2 hfz15_3 hfz15_4 hfz15_5 hfz15_6 hfz15_7 hfz15_8
      try clear hfz20_0 hfz20_1 hfz20_2 hfz20_3 hfz20_4 hfz20_5 hfz20_6 hfz20_7 hfz20_8
      try clear hfz25_0 hfz25_1 hfz25_2 hfz25_3 hfz25_4 hfz25_5 hfz25_6 hfz25_7 hfz25_8
      try clear hfz28_0 hfz28_1 hfz28_2 hfz28_3 hfz28_4 hfz28_5 hfz28_6 hfz28_7 hfz28_8
      try clear hfz38_0 hfz38_1 hfz38_2 hfz38_3 hfz38_4 hfz38_5 hfz38_6 hfz38_7 hfz38_8
      try clear hfz44_0 hfz44_1 hfz44_2 hfz44_3 hfz44_4 hfz44_5 hfz44_6 hfz44_7 hfz44_8
      try clear hfz52_0 hfz52_1 hfz52_2 hfz52_3 hfz52_4 hfz52_5 hfz52_6 hfz52_7 hfz52_8
      try clear p2
      obtain ⟨x15_2, rfl, HA, HK2, HO_12, HO_13, HO_14, BK229, BK230, BK240, HB⟩ := hrel
      cases gk with
      | zero => exact absurd HA.out (by simp [platformfwlaw11_FieldRoundTrip.l0])
      | succ k2 =>
       have H := HA.out
       clear HA
       simp only [platformfwlaw11_FieldRoundTrip.l0] at H
       by_cases c54 : x15_2 < t249
       ·rw [if_pos c54] at H
        have c54b0 : decide (x15_2 < t249) = true := decide_eq_true c54
        clear c54
        have HC55 := Aside0.mk H
        clear H
        go_upto_region 14 with (fail)
        go_cut [97] (fun v97 wc => ∃ (kq : Nat) (x97_54 : Bool), v97 = .bool x97_54 ∧ Aside0 (platformfwlaw11_FieldRoundTrip.j2 kq t249 t250 t253 t258 x15_2 x97_54 t231 t232 t233 t234 t235 t236 t237 t238 t239 = some r) ∧ Aside0 (kq ≤ k2) ∧ Aside0 (Kd.R (Kd.int .u64) 22 wc w.heap.size (fun k_ => some k_ ≠ (v254 : Value).ownBlock ∧ some k_ ≠ (v259 : Value).ownBlock) (.slice Ao29 t250.length co29) t250) ∧ Aside0 (Kd.R (Kd.int .u64) 22 wc w.heap.size (fun k_ => some k_ ≠ ((.slice Ao29 t250.length co29) : Value).ownBlock ∧ some k_ ≠ (v259 : Value).ownBlock) v254 t253) ∧ Aside0 (Kd.R (Kd.int .u64) 22 wc w.heap.size (fun k_ => some k_ ≠ ((.slice Ao29 t250.length co29) : Value).ownBlock ∧ some k_ ≠ (v254 : Value).ownBlock) v259 t258) ∧ Aside0 (wc.heap[gb229]? = some (.cells #[.int .i64 a0_0, .int .u64 a0_1, .int .u64 a0_2, .int .i64 a0_3, .int .i64 a0_4, .int .i64 a0_5, .int .i64 a0_6, .int .i64 a0_7, .int .i64 a0_8] 26 (0, 0))) ∧ Aside0 (wc.heap[gb230]? = some (.cells #[.int .i64 a1_0, .int .u64 a1_1, .string a1_2, .int .i64 a1_3] 38 (0, 0))) ∧ Aside0 (wc.heap[gb240]? = some (.cells #[.int .i64 t231, .int .u64 t232, .int .u64 t233, .int .i64 t234, .int .i64 t235, .int .i64 t236, .int .i64 t237, .int .i64 t238, .int .i64 t239] 26 (0, 0))) ∧ Aside0 (Below w.heap.size w wc))
        case first =>
         have H := HC55.out
         clear HC55
         by_cases c56 : t237 = 0
         ·rw [if_pos c56] at H
          have c56b0 : (t237 == 0) = true := beq_iff_eq.mpr c56
          have c56b1 : (t237 != 0) = false := bne_eq_false_iff_eq.mpr c56
          clear c56
          (first | rw [c56b0] | (simp only [i64_w, i32_w]; rw [c56b0]) | skip)
          by_cases c57 : 0 ≤ x15_2
          ·rw [if_pos c57] at H
           have c57b0 : decide (0 ≤ x15_2) = true := decide_eq_true c57
           clear c57
           by_cases c58 : x15_2 < (t253.length : Int)
           ·rw [if_pos c58] at H
            have c58b0 : decide (x15_2 < (t253.length : Int)) = true := decide_eq_true c58
            clear c58
            by_cases c59 : x15_2 < (t250.length : Int)
            ·rw [if_pos c59] at H
             have c59b0 : decide (x15_2 < (t250.length : Int)) = true := decide_eq_true c59
             clear c59
             replace H := Option.bind_eq_some_iff.mp H
             obtain ⟨t263, A600, H⟩ := H
             replace H : (if x15_2 < (t258.length : Int) then (if (Go.bits .andNot .u64 (Go.bits .and .u64 (Go.bits .xor .u64 (rd t253 x15_2) (rd t250 x15_2)) t263) (rd t258 x15_2)) = 0 then ((platformfwref09_Ones.f t236).bind fun t266 => (platformfwlaw11_FieldRoundTrip.j2 k2 t249 t250 t253 t258 x15_2 ((Go.bits .andNot .u64 (rd t253 x15_2) t263) != 0) t231 t232 t233 t234 t235 t236 t237 t238 t239)) else (platformfwlaw11_FieldRoundTrip.j2 k2 t249 t250 t253 t258 x15_2 true t231 t232 t233 t234 t235 t236 t237 t238 t239)) else (none)) = some r := H
             have A60 := Aside0.mk A600
             clear A600
             by_cases c61 : x15_2 < (t258.length : Int)
             ·rw [if_pos c61] at H
              have c61b0 : decide (x15_2 < (t258.length : Int)) = true := decide_eq_true c61
              clear c61
              by_cases c62 : (Go.bits .andNot .u64 (Go.bits .and .u64 (Go.bits .xor .u64 (rd t253 x15_2) (rd t250 x15_2)) t263) (rd t258 x15_2)) = 0
              ·rw [if_pos c62] at H
               have c62b0 : ((Go.bits .andNot .u64 (Go.bits .and .u64 (Go.bits .xor .u64 (rd t253 x15_2) (rd t250 x15_2)) t263) (rd t258 x15_2)) == 0) = true := beq_iff_eq.mpr c62
               have c62b1 : ((Go.bits .andNot .u64 (Go.bits .and .u64 (Go.bits .xor .u64 (rd t253 x15_2) (rd t250 x15_2)) t263) (rd t258 x15_2)) != 0) = false := bne_eq_false_iff_eq.mpr c62
               clear c62
               replace H := Option.bind_eq_some_iff.mp H
               obtain ⟨t266, A630, H⟩ := H
               replace H : (platformfwlaw11_FieldRoundTrip.j2 k2 t249 t250 t253 t258 x15_2 ((Go.bits .andNot .u64 (rd t253 x15_2) t263) != 0) t231 t232 t233 t234 t235 t236 t237 t238 t239) = some r := H
               have DA63 := Option.some.inj (A60.out.symm.trans A630)
               obtain rfl := DA63
               have A63 := Aside0.mk A630
               clear A630
               have H' := Aside0.mk H
               clear H
               try go_wp2
               have n0_ := Aside0.mk (Kd.R_drew HO_12.out)
               have n1_ := Aside0.mk (Kd.R_drew HO_13.out)
               have n2_ := Aside0.mk (Kd.R_drew HO_14.out)
               have n3_ := Aside0.mk (kD_ BK229.out)
               have n4_ := Aside0.mk (kD_ BK230.out)
               have n5_ := Aside0.mk (kD_ BK240.out)
               have n6_ := Aside0.mk (bD_ HB.out)
               clear HO_12
               clear HO_13
               clear HO_14
               clear BK229
               clear BK230
               clear BK240
               clear HB
               have HO_12 := n0_
               have HO_13 := n1_
               have HO_14 := n2_
               have BK229 := n3_
               have BK230 := n4_
               have BK240 := n5_
               have HB := n6_
               clear n0_ n1_ n2_ n3_ n4_ n5_ n6_
               obtain ⟨Ao65, co65, eo65⟩ := Kd.R_slice HO_13.out
               (first | subst eo65 | (injection eo65 with f1_ f2_ f3_; have f4_ := f1_.symm; have f5_ := f3_.symm; clear f1_ f2_ f3_; subst f4_; subst f5_))
               have p261 : 0 ≤ (x15_2 : Int) := of_decide_eq_true (by first | (with_reducible assumption) | assumption)
               have q261 : x15_2 < (t253.length : Int) := of_decide_eq_true (by first | (with_reducible assumption) | assumption)
               obtain ⟨ad261, e261, hx261_0⟩ := Kd.at_int (Kd.R_reads' HO_13.out).2.2 x15_2 p261 q261
               cases e261
               replace p261 := eq_true p261
               replace q261 := eq_true q261
               have p262 : 0 ≤ (x15_2 : Int) := of_decide_eq_true (by first | (with_reducible assumption) | assumption)
               have q262 : x15_2 < (t250.length : Int) := of_decide_eq_true (by first | (with_reducible assumption) | assumption)
               obtain ⟨ad262, e262, hx262_0⟩ := Kd.at_int (Kd.R_reads' HO_12.out).2.2 x15_2 p262 q262
               cases e262
               replace p262 := eq_true p262
               replace q262 := eq_true q262
               obtain ⟨Ao66, co66, eo66⟩ := Kd.R_slice HO_14.out
               (first | subst eo66 | (injection eo66 with f1_ f2_ f3_; have f4_ := f1_.symm; have f5_ := f3_.symm; clear f1_ f2_ f3_; subst f4_; subst f5_))
               have p264 : 0 ≤ (x15_2 : Int) := of_decide_eq_true (by first | (with_reducible assumption) | assumption)
               have q264 : x15_2 < (t258.length : Int) := of_decide_eq_true (by first | (with_reducible assumption) | assumption)
               obtain ⟨ad264, e264, hx264_0⟩ := Kd.at_int (Kd.R_reads' HO_14.out).2.2 x15_2 p264 q264
               cases e264
               replace p264 := eq_true p264
               replace q264 := eq_true q264
               have p265 : 0 ≤ (x15_2 : Int) := of_decide_eq_true (by first | (with_reducible assumption) | assumption)
               have q265 : x15_2 < (t253.length : Int) := of_decide_eq_true (by first | (with_reducible assumption) | assumption)
               obtain ⟨ad265, e265, hx265_0⟩ := Kd.at_int (Kd.R_reads' HO_13.out).2.2 x15_2 p265 q265
               obtain rfl : ad261 = ad265 := (by injection e265)
               replace p265 := eq_true p265
               replace q265 := eq_true q265
               refine start_ (n := 35) (S := fun w' => w'.cell? ⟨gb240, 0, none⟩ = some (.int .i64 t231) ∧ w'.cell? ⟨gb240, 1, none⟩ = some (.int .u64 t232) ∧ w'.cell? ⟨gb240, 2, none⟩ = some (.int .u64 t233) ∧ w'.cell? ⟨gb240, 3, none⟩ = some (.int .i64 t234) ∧ w'.cell? ⟨gb240, 4, none⟩ = some (.int .i64 t235) ∧ w'.cell? ⟨gb240, 5, none⟩ = some (.int .i64 t236) ∧ w'.cell? ⟨gb240, 6, none⟩ = some (.int .i64 t237) ∧ w'.cell? ⟨gb240, 7, none⟩ = some (.int .i64 t238) ∧ w'.cell? ⟨gb240, 8, none⟩ = some (.int .i64 t239) ∧ w'.cell? (ad261.add (x15_2).toNat) = some (.int .u64 (rd t253 x15_2)) ∧ w'.cell? (ad262.add (x15_2).toNat) = some (.int .u64 (rd t250 x15_2)) ∧ w'.cell? (ad264.add (x15_2).toNat) = some (.int .u64 (rd t258 x15_2)) ∧ w'.cell? (ad261.add (x15_2).toNat) = some (.int .u64 (rd t253 x15_2))) (ds := []) #[false, false, false, false, false, false, false, false, false, false, false, false, false, false, false, false, false, false, false, false, false, false, false, false, false, false, false, false, false, false, false, false, false, false, false] (by kernel_rfl) rfl rfl ⟨(blk_cell BK240.out 0).trans rfl, (blk_cell BK240.out 1).trans rfl, (blk_cell BK240.out 2).trans rfl, (blk_cell BK240.out 3).trans rfl, (blk_cell BK240.out 4).trans rfl, (blk_cell BK240.out 5).trans rfl, (blk_cell BK240.out 6).trans rfl, (blk_cell BK240.out 7).trans rfl, (blk_cell BK240.out 8).trans rfl, hx261_0, hx262_0, hx264_0, hx265_0⟩ (fun hHeld => ?_); refine with_tabW platformfwlaw11_FieldRoundTrip.tab14 platformfwlaw11_FieldRoundTrip.bits14 (fun HT_ HW_ => ?_)
               generalize wr.drew = w64 at HO_12 HO_13 HO_14 BK229 BK230 BK240 HB hx261_0 hx262_0 hx264_0 hx265_0 hHeld ⊢
               refine pure_ (i := 0) (N := some 63) (v := ?_) (a' := ?_) (tf 35 1) rfl rfl (any_of HT_.out (by kernel_rfl)) (fun _ _ _ h => h) (Or.inl ⟨by rfl, ?_⟩) ?_ ?_
               rotate_left
               ·intro w'
                go_simp
                with_reducible rfl
               rotate_left
               ·simp only [Act.put, sA_, sB_, sC_, i64_w, i32_w]
                rfl
               refine take_ (i := 1) (N := some 64) (v := ?_) (a' := ?_) (tf 35 3) rfl rfl (take_ofW HT_.out HW_.out (by kernel_rfl)) (fun _ _ _ h => h) (Or.inl ⟨by rfl, ?_⟩) hHeld ?_ ?_
               rotate_left
               ·rintro w' ⟨s0, s1, s2, s3, s4, s5, s6, s7, s8, s9, s10, s11, s12⟩
                go_simp
                with_reducible rfl
               rotate_left
               ·simp only [Act.put, sA_, sB_, sC_, i64_w, i32_w]
                rfl
               refine pure_ (i := 2) (N := some 65) (v := ?_) (a' := ?_) (tf 35 7) rfl rfl (any_of HT_.out (by kernel_rfl)) (fun _ _ _ h => h) (Or.inl ⟨by rfl, ?_⟩) ?_ ?_
               rotate_left
               ·intro w'
                go_simp
                with_reducible rfl
               rotate_left
               ·simp only [Act.put, sA_, sB_, sC_, i64_w, i32_w]
                rfl
               refine pure_ (i := 3) (N := some 66) (v := ?_) (a' := ?_) (tf 35 15) rfl rfl (any_of HT_.out (by kernel_rfl)) (fun _ _ _ h => h) (Or.inl ⟨by rfl, ?_⟩) ?_ ?_
               rotate_left
               ·intro w'
                go_simp
                with_reducible rfl
               rotate_left
               ·simp only [Act.put, sA_, sB_, sC_, i64_w, i32_w]
                rfl
               refine pure_ (i := 4) (N := some 67) (v := ?_) (a' := ?_) (tf 35 31) rfl rfl (any_of HT_.out (by kernel_rfl)) (fun _ _ _ h => h) (Or.inl ⟨by rfl, ?_⟩) ?_ ?_
               rotate_left
               ·intro w'
                go_simp
                with_reducible rfl
               rotate_left
               ·simp only [Act.put, sA_, sB_, sC_, i64_w, i32_w]
                rfl
               refine pure_ (i := 5) (N := some 68) (v := ?_) (a' := ?_) (tf 35 63) rfl rfl (any_of HT_.out (by kernel_rfl)) (fun _ _ _ h => h) (Or.inl ⟨by rfl, ?_⟩) ?_ ?_
               rotate_left
               ·intro w'
                go_simp
                with_reducible rfl
               rotate_left
               ·simp only [Act.put, sA_, sB_, sC_, i64_w, i32_w]
                rfl
               refine pure_ (i := 6) (N := some 69) (v := ?_) (a' := ?_) (tf 35 127) rfl rfl (any_of HT_.out (by kernel_rfl)) (fun _ _ _ h => h) (Or.inl ⟨by rfl, ?_⟩) ?_ ?_
               rotate_left
               ·intro w'
                go_simp
                with_reducible rfl
               rotate_left
               ·simp only [Act.put, sA_, sB_, sC_, i64_w, i32_w]
                rfl
               refine pure_ (i := 8) (N := some 71) (v := ?_) (a' := ?_) (tf 35 383) rfl rfl (any_of HT_.out (by kernel_rfl)) (fun _ _ _ h => h) (Or.inl ⟨by rfl, ?_⟩) ?_ ?_
               rotate_left
               ·intro w'
                go_simp
                with_reducible rfl
               rotate_left
               ·simp only [Act.put, sA_, sB_, sC_, i64_w, i32_w]
                rfl
               refine pure_ (i := 9) (N := some 72) (v := ?_) (a' := ?_) (tf 35 895) rfl rfl (any_of HT_.out (by kernel_rfl)) (fun _ _ _ h => h) (Or.inl ⟨by rfl, ?_⟩) ?_ ?_
               rotate_left
               ·intro w'
                go_simp
                with_reducible rfl
               rotate_left
               ·simp only [Act.put, sA_, sB_, sC_, i64_w, i32_w]
                rfl
               refine pure_ (i := 10) (N := some 73) (v := ?_) (a' := ?_) (tf 35 1919) rfl rfl (any_of HT_.out (by kernel_rfl)) (fun _ _ _ h => h) (Or.inl ⟨by rfl, ?_⟩) ?_ ?_
               rotate_left
               ·intro w'
                go_simp
                with_reducible rfl
               rotate_left
               ·simp only [Act.put, sA_, sB_, sC_, i64_w, i32_w]
                rfl
               refine pure_ (i := 13) (N := some 76) (v := ?_) (a' := ?_) (tf 35 10111) rfl rfl (any_of HT_.out (by kernel_rfl)) (fun _ _ _ h => h) (Or.inl ⟨by rfl, ?_⟩) ?_ ?_
               rotate_left
               ·intro w'
                go_simp
                with_reducible rfl
               rotate_left
               ·simp only [Act.put, sA_, sB_, sC_, i64_w, i32_w]
                rfl
               refine pure_ (i := 17) (N := some 80) (v := ?_) (a' := ?_) (tf 35 141183) rfl rfl (any_of HT_.out (by kernel_rfl)) (fun _ _ _ h => h) (Or.inl ⟨by rfl, ?_⟩) ?_ ?_
               rotate_left
               ·intro w'
                go_simp
                with_reducible rfl
               rotate_left
               ·simp only [Act.put, sA_, sB_, sC_, i64_w, i32_w]
                rfl
               refine pure_ (i := 18) (N := some 81) (v := ?_) (a' := ?_) (tf 35 403327) rfl rfl (any_of HT_.out (by kernel_rfl)) (fun _ _ _ h => h) (Or.inl ⟨by rfl, ?_⟩) ?_ ?_
               rotate_left
               ·intro w'
                go_simp
                with_reducible rfl
               rotate_left
               ·simp only [Act.put, sA_, sB_, sC_, i64_w, i32_w]
                rfl
               refine pure_ (i := 19) (N := some 82) (v := ?_) (a' := ?_) (tf 35 927615) rfl rfl (any_of HT_.out (by kernel_rfl)) (fun _ _ _ h => h) (Or.inl ⟨by rfl, ?_⟩) ?_ ?_
               rotate_left
               ·intro w'
                go_simp
                with_reducible rfl
               rotate_left
               ·simp only [Act.put, sA_, sB_, sC_, i64_w, i32_w]
                rfl
               refine take_ (i := 7) (N := some 70) (v := ?_) (a' := ?_) (tf 35 927743) rfl rfl (take_ofW HT_.out HW_.out (by kernel_rfl)) (fun _ _ _ h => h) (Or.inl ⟨by rfl, ?_⟩) hHeld ?_ ?_
               rotate_left
               ·rintro w' ⟨s0, s1, s2, s3, s4, s5, s6, s7, s8, s9, s10, s11, s12⟩
                go_simp
                with_reducible rfl
               rotate_left
               ·simp only [Act.put, sA_, sB_, sC_, i64_w, i32_w]
                rfl
               refine take_ (i := 11) (N := some 74) (v := ?_) (a' := ?_) (tf 35 929791) rfl rfl (take_ofW HT_.out HW_.out (by kernel_rfl)) (fun _ _ _ h => h) (Or.inl ⟨by rfl, ?_⟩) hHeld ?_ ?_
               rotate_left
               ·rintro w' ⟨s0, s1, s2, s3, s4, s5, s6, s7, s8, s9, s10, s11, s12⟩
                go_simp
                with_reducible rfl
               rotate_left
               ·simp only [Act.put, sA_, sB_, sC_, i64_w, i32_w]
                rfl
               refine pure_ (i := 12) (N := some 75) (v := ?_) (a' := ?_) (tf 35 933887) rfl rfl (any_of HT_.out (by kernel_rfl)) (fun _ _ _ h => h) (Or.inl ⟨by rfl, ?_⟩) ?_ ?_
               rotate_left
               ·intro w'
                go_simp
                with_reducible rfl
               rotate_left
               ·simp only [Act.put, sA_, sB_, sC_, i64_w, i32_w]
                rfl
               refine take_ (i := 14) (N := some 77) (v := ?_) (a' := ?_) (tf 35 950271) rfl rfl (take_ofW HT_.out HW_.out (by kernel_rfl)) (fun _ _ _ h => h) (Or.inl ⟨by rfl, ?_⟩) hHeld ?_ ?_
               rotate_left
               ·rintro w' ⟨s0, s1, s2, s3, s4, s5, s6, s7, s8, s9, s10, s11, s12⟩
                go_simp
                with_reducible rfl
               rotate_left
               ·simp only [Act.put, sA_, sB_, sC_, i64_w, i32_w]
                rfl
               refine take_ (i := 20) (N := some 83) (v := ?_) (a' := ?_) (tf 35 1998847) rfl rfl (take_ofW HT_.out HW_.out (by kernel_rfl)) (fun _ _ _ h => h) (Or.inl ⟨by rfl, ?_⟩) hHeld ?_ ?_
               rotate_left
               ·rintro w' ⟨s0, s1, s2, s3, s4, s5, s6, s7, s8, s9, s10, s11, s12⟩
                go_simp
                with_reducible rfl
               rotate_left
               ·simp only [Act.put, sA_, sB_, sC_, i64_w, i32_w]
                rfl
               refine one_ (i := 15) (N := some 78) (tf 35 2031615) rfl rfl (one_of HT_.out (by kernel_rfl)) (by decide) (fun K hK => ?_)
               refine goes_ Try.func27 (by kernel_rfl) rfl #[.int .i64 t236] (by rfl) rfl rfl (by (try simp only [List.map_toArray, List.map_cons, List.map_nil]); first | done | rfl | (simp only [List.length_drop, List.length_take]; rfl)) ?_
               with_reducible refine (platformfwref09_Ones.calls t236 t263 _ A60.out).mono ?_
               rintro e w' ⟨rfl, ⟨nd, rfl⟩⟩
               refine ⟨_, rfl, ?_⟩
               refine hK.out _ _ ⟨(blk_cell BK240.out 0).trans rfl, (blk_cell BK240.out 1).trans rfl, (blk_cell BK240.out 2).trans rfl, (blk_cell BK240.out 3).trans rfl, (blk_cell BK240.out 4).trans rfl, (blk_cell BK240.out 5).trans rfl, (blk_cell BK240.out 6).trans rfl, (blk_cell BK240.out 7).trans rfl, (blk_cell BK240.out 8).trans rfl, hHeld.2.2.2.2.2.2.2.2.2.1, hHeld.2.2.2.2.2.2.2.2.2.2.1, hHeld.2.2.2.2.2.2.2.2.2.2.2.1, hHeld.2.2.2.2.2.2.2.2.2.2.2.2⟩ (fun hHeld => ?_)
               clear hK K
               refine norm_ (a' := ?_) ?_ ?_
               rotate_left
               ·show Act.put _ (some 78) _ = _
                simp only [Act.put, sA_, sB_, sC_, i64_w, i32_w]
                rfl
               refine pure_ (i := 16) (N := some 79) (v := ?_) (a' := ?_) (tf 35 2097151) rfl rfl (any_of HT_.out (by kernel_rfl)) (fun _ _ _ h => h) (Or.inl ⟨by rfl, ?_⟩) ?_ ?_
               rotate_left
               ·intro w'
                go_simp
                with_reducible rfl
               rotate_left
               ·simp only [Act.put, sA_, sB_, sC_, i64_w, i32_w]
                rfl
               refine pure_ (i := 21) (N := some 84) (v := ?_) (a' := ?_) (tf 35 4194303) rfl rfl (any_of HT_.out (by kernel_rfl)) (fun _ _ _ h => h) (Or.inl ⟨by rfl, ?_⟩) ?_ ?_
               rotate_left
               ·intro w'
                go_simp
                with_reducible rfl
               rotate_left
               ·simp only [Act.put, sA_, sB_, sC_, i64_w, i32_w]
                rfl
               refine pure_ (i := 22) (N := some 85) (v := ?_) (a' := ?_) (tf 35 8388607) rfl rfl (any_of HT_.out (by kernel_rfl)) (fun _ _ _ h => h) (Or.inl ⟨by rfl, ?_⟩) ?_ ?_
               rotate_left
               ·intro w'
                go_simp
                with_reducible rfl
               rotate_left
               ·simp only [Act.put, sA_, sB_, sC_, i64_w, i32_w]
                rfl
               refine pure_ (i := 23) (N := some 86) (v := ?_) (a' := ?_) (tf 35 16777215) rfl rfl (any_of HT_.out (by kernel_rfl)) (fun _ _ _ h => h) (Or.inl ⟨by rfl, ?_⟩) ?_ ?_
               rotate_left
               ·intro w'
                go_simp
                with_reducible rfl
               rotate_left
               ·simp only [Act.put, sA_, sB_, sC_, i64_w, i32_w]
                rfl
               refine pure_ (i := 24) (N := some 87) (v := ?_) (a' := ?_) (tf 35 33554431) rfl rfl (any_of HT_.out (by kernel_rfl)) (fun _ _ _ h => h) (Or.inl ⟨by rfl, ?_⟩) ?_ ?_
               rotate_left
               ·intro w'
                go_simp
                with_reducible rfl
               rotate_left
               ·simp only [Act.put, sA_, sB_, sC_, i64_w, i32_w]
                rfl
               refine pure_ (i := 25) (N := some 88) (v := ?_) (a' := ?_) (tf 35 67108863) rfl rfl (any_of HT_.out (by kernel_rfl)) (fun _ _ _ h => h) (Or.inl ⟨by rfl, ?_⟩) ?_ ?_
               rotate_left
               ·intro w'
                go_simp
                with_reducible rfl
               rotate_left
               ·simp only [Act.put, sA_, sB_, sC_, i64_w, i32_w]
                rfl
               refine pure_ (i := 26) (N := some 89) (v := ?_) (a' := ?_) (tf 35 134217727) rfl rfl (any_of HT_.out (by kernel_rfl)) (fun _ _ _ h => h) (Or.inl ⟨by rfl, ?_⟩) ?_ ?_
               rotate_left
               ·intro w'
                go_simp
                with_reducible rfl
               rotate_left
               ·simp only [Act.put, sA_, sB_, sC_, i64_w, i32_w]
                rfl
               refine pure_ (i := 27) (N := some 90) (v := ?_) (a' := ?_) (tf 35 268435455) rfl rfl (any_of HT_.out (by kernel_rfl)) (fun _ _ _ h => h) (Or.inl ⟨by rfl, ?_⟩) ?_ ?_
               rotate_left
               ·intro w'
                go_simp
                with_reducible rfl
               rotate_left
               ·simp only [Act.put, sA_, sB_, sC_, i64_w, i32_w]
                rfl
               refine pure_ (i := 29) (N := some 92) (v := ?_) (a' := ?_) (tf 35 805306367) rfl rfl (any_of HT_.out (by kernel_rfl)) (fun _ _ _ h => h) (Or.inl ⟨by rfl, ?_⟩) ?_ ?_
               rotate_left
               ·intro w'
                go_simp
                with_reducible rfl
               rotate_left
               ·simp only [Act.put, sA_, sB_, sC_, i64_w, i32_w]
                rfl
               refine take_ (i := 28) (N := some 91) (v := ?_) (a' := ?_) (tf 35 1073741823) rfl rfl (take_ofW HT_.out HW_.out (by kernel_rfl)) (fun _ _ _ h => h) (Or.inl ⟨by rfl, ?_⟩) hHeld ?_ ?_
               rotate_left
               ·rintro w' ⟨s0, s1, s2, s3, s4, s5, s6, s7, s8, s9, s10, s11, s12⟩
                go_simp
                with_reducible rfl
               rotate_left
               ·simp only [Act.put, sA_, sB_, sC_, i64_w, i32_w]
                rfl
               refine take_ (i := 30) (N := some 93) (v := ?_) (a' := ?_) (tf 35 2147483647) rfl rfl (take_ofW HT_.out HW_.out (by kernel_rfl)) (fun _ _ _ h => h) (Or.inl ⟨by rfl, ?_⟩) hHeld ?_ ?_
               rotate_left
               ·rintro w' ⟨s0, s1, s2, s3, s4, s5, s6, s7, s8, s9, s10, s11, s12⟩
                go_simp
                with_reducible rfl
               rotate_left
               ·simp only [Act.put, sA_, sB_, sC_, i64_w, i32_w]
                rfl
               refine one_ (i := 31) (N := some 94) (tf 35 4294967295) rfl rfl (one_of HT_.out (by kernel_rfl)) (by decide) (fun K hK => ?_)
               refine goes_ Try.func27 (by kernel_rfl) rfl #[.int .i64 t236] (by rfl) rfl rfl (by (try simp only [List.map_toArray, List.map_cons, List.map_nil]); first | done | rfl | (simp only [List.length_drop, List.length_take]; rfl)) ?_
               with_reducible refine (platformfwref09_Ones.calls t236 t263 _ A63.out).mono ?_
               rintro e w' ⟨rfl, ⟨nd, rfl⟩⟩
               refine ⟨_, rfl, ?_⟩
               refine hK.out _ _ ⟨(blk_cell BK240.out 0).trans rfl, (blk_cell BK240.out 1).trans rfl, (blk_cell BK240.out 2).trans rfl, (blk_cell BK240.out 3).trans rfl, (blk_cell BK240.out 4).trans rfl, (blk_cell BK240.out 5).trans rfl, (blk_cell BK240.out 6).trans rfl, (blk_cell BK240.out 7).trans rfl, (blk_cell BK240.out 8).trans rfl, hHeld.2.2.2.2.2.2.2.2.2.1, hHeld.2.2.2.2.2.2.2.2.2.2.1, hHeld.2.2.2.2.2.2.2.2.2.2.2.1, hHeld.2.2.2.2.2.2.2.2.2.2.2.2⟩ (fun hHeld => ?_)
               clear hK K
               refine norm_ (a' := ?_) ?_ ?_
               rotate_left
               ·show Act.put _ (some 94) _ = _
                simp only [Act.put, sA_, sB_, sC_, i64_w, i32_w]
                rfl
               refine pure_ (i := 32) (N := some 95) (v := ?_) (a' := ?_) (tf 35 8589934591) rfl rfl (any_of HT_.out (by kernel_rfl)) (fun _ _ _ h => h) (Or.inl ⟨by rfl, ?_⟩) ?_ ?_
               rotate_left
               ·intro w'
                go_simp
                with_reducible rfl
               rotate_left
               ·simp only [Act.put, sA_, sB_, sC_, i64_w, i32_w]
                rfl
               refine pure_ (i := 33) (N := some 96) (v := ?_) (a' := ?_) (tf 35 17179869183) rfl rfl (any_of HT_.out (by kernel_rfl)) (fun _ _ _ h => h) (Or.inl ⟨by rfl, ?_⟩) ?_ ?_
               rotate_left
               ·intro w'
                go_simp
                with_reducible rfl
               rotate_left
               ·simp only [Act.put, sA_, sB_, sC_, i64_w, i32_w]
                rfl
               refine pure_ (i := 34) (N := some 97) (v := ?_) (a' := ?_) (tf 35 34359738367) rfl rfl (any_of HT_.out (by kernel_rfl)) (fun _ _ _ h => h) (Or.inl ⟨by rfl, ?_⟩) ?_ ?_
               rotate_left
               ·intro w'
                go_simp
                with_reducible rfl
               rotate_left
               ·simp only [Act.put, sA_, sB_, sC_, i64_w, i32_w]
                rfl
               refine done_ (done_of HT_.out (by kernel_rfl)) ?_
               try go_wp2
               go_meet
               case rel => exact ⟨_, (((Go.bits .andNot .u64 (rd t253 x15_2) t263) != 0)), (by first | rfl | (simp; done) | (simp [*]; done)), H', ⟨by have := HJ10.out; have := HK2.out; first | omega | exact Nat.le_refl _⟩, ⟨by (with_reducible repeat (first | apply Kd.R_alloc | apply Kd.R_drewN | apply Kd.R_drew)); exact HO_12.out⟩, ⟨by (with_reducible repeat (first | apply Kd.R_alloc | apply Kd.R_drewN | apply Kd.R_drew)); exact HO_13.out⟩, ⟨by (with_reducible repeat (first | apply Kd.R_alloc | apply Kd.R_drewN | apply Kd.R_drew)); exact HO_14.out⟩, ⟨by (with_reducible repeat (first | refine kN_ ?_ _ | refine kD_ ?_ | refine kA_ ?_ _)); exact BK229.out⟩, ⟨by (with_reducible repeat (first | refine kN_ ?_ _ | refine kD_ ?_ | refine kA_ ?_ _)); exact BK230.out⟩, ⟨by (with_reducible repeat (first | refine kN_ ?_ _ | refine kD_ ?_ | refine kA_ ?_ _)); exact BK240.out⟩, ⟨by repeat (first | (with_reducible first | exact HB.out | apply bA_ | apply bN_ | apply bD_ | refine bS_ ?_ GE229.out | refine bS_ ?_ GE230.out | refine bS_ ?_ GE240.out) | exact HB.out)⟩⟩
              ·rw [if_neg c62] at H
               have c62b0 : ((Go.bits .andNot .u64 (Go.bits .and .u64 (Go.bits .xor .u64 (rd t253 x15_2) (rd t250 x15_2)) t263) (rd t258 x15_2)) == 0) = false := beq_eq_false_iff_ne.mpr c62
               have c62b1 : ((Go.bits .andNot .u64 (Go.bits .and .u64 (Go.bits .xor .u64 (rd t253 x15_2) (rd t250 x15_2)) t263) (rd t258 x15_2)) != 0) = true := bne_iff_ne.mpr c62
               have H' := Aside0.mk H
               clear H
               try go_wp2
               have n0_ := Aside0.mk (Kd.R_drew HO_12.out)
               have n1_ := Aside0.mk (Kd.R_drew HO_13.out)
               have n2_ := Aside0.mk (Kd.R_drew HO_14.out)
               have n3_ := Aside0.mk (kD_ BK229.out)
               have n4_ := Aside0.mk (kD_ BK230.out)
               have n5_ := Aside0.mk (kD_ BK240.out)
               have n6_ := Aside0.mk (bD_ HB.out)
               clear HO_12
               clear HO_13
               clear HO_14
               clear BK229
               clear BK230
               clear BK240
               clear HB
               have HO_12 := n0_
               have HO_13 := n1_
               have HO_14 := n2_
               have BK229 := n3_
               have BK230 := n4_
               have BK240 := n5_
               have HB := n6_
               clear n0_ n1_ n2_ n3_ n4_ n5_ n6_
               obtain ⟨Ao68, co68, eo68⟩ := Kd.R_slice HO_13.out
               (first | subst eo68 | (injection eo68 with f1_ f2_ f3_; have f4_ := f1_.symm; have f5_ := f3_.symm; clear f1_ f2_ f3_; subst f4_; subst f5_))
               have p261 : 0 ≤ (x15_2 : Int) := of_decide_eq_true (by first | (with_reducible assumption) | assumption)
               have q261 : x15_2 < (t253.length : Int) := of_decide_eq_true (by first | (with_reducible assumption) | assumption)
               obtain ⟨ad261, e261, hx261_0⟩ := Kd.at_int (Kd.R_reads' HO_13.out).2.2 x15_2 p261 q261
               cases e261
               replace p261 := eq_true p261
               replace q261 := eq_true q261
               have p262 : 0 ≤ (x15_2 : Int) := of_decide_eq_true (by first | (with_reducible assumption) | assumption)
               have q262 : x15_2 < (t250.length : Int) := of_decide_eq_true (by first | (with_reducible assumption) | assumption)
               obtain ⟨ad262, e262, hx262_0⟩ := Kd.at_int (Kd.R_reads' HO_12.out).2.2 x15_2 p262 q262
               cases e262
               replace p262 := eq_true p262
               replace q262 := eq_true q262
               obtain ⟨Ao69, co69, eo69⟩ := Kd.R_slice HO_14.out
               (first | subst eo69 | (injection eo69 with f1_ f2_ f3_; have f4_ := f1_.symm; have f5_ := f3_.symm; clear f1_ f2_ f3_; subst f4_; subst f5_))
               have p264 : 0 ≤ (x15_2 : Int) := of_decide_eq_true (by first | (with_reducible assumption) | assumption)
               have q264 : x15_2 < (t258.length : Int) := of_decide_eq_true (by first | (with_reducible assumption) | assumption)
               obtain ⟨ad264, e264, hx264_0⟩ := Kd.at_int (Kd.R_reads' HO_14.out).2.2 x15_2 p264 q264
               cases e264
               replace p264 := eq_true p264
               replace q264 := eq_true q264
               refine start_ (n := 35) (S := fun w' => w'.cell? ⟨gb240, 0, none⟩ = some (.int .i64 t231) ∧ w'.cell? ⟨gb240, 1, none⟩ = some (.int .u64 t232) ∧ w'.cell? ⟨gb240, 2, none⟩ = some (.int .u64 t233) ∧ w'.cell? ⟨gb240, 3, none⟩ = some (.int .i64 t234) ∧ w'.cell? ⟨gb240, 4, none⟩ = some (.int .i64 t235) ∧ w'.cell? ⟨gb240, 5, none⟩ = some (.int .i64 t236) ∧ w'.cell? ⟨gb240, 6, none⟩ = some (.int .i64 t237) ∧ w'.cell? ⟨gb240, 7, none⟩ = some (.int .i64 t238) ∧ w'.cell? ⟨gb240, 8, none⟩ = some (.int .i64 t239) ∧ w'.cell? (ad261.add (x15_2).toNat) = some (.int .u64 (rd t253 x15_2)) ∧ w'.cell? (ad262.add (x15_2).toNat) = some (.int .u64 (rd t250 x15_2)) ∧ w'.cell? (ad264.add (x15_2).toNat) = some (.int .u64 (rd t258 x15_2))) (ds := []) #[false, false, false, false, false, false, false, false, false, false, false, false, false, false, false, false, false, false, false, false, false, false, false, false, false, false, false, false, false, false, false, false, false, false, false] (by kernel_rfl) rfl rfl ⟨(blk_cell BK240.out 0).trans rfl, (blk_cell BK240.out 1).trans rfl, (blk_cell BK240.out 2).trans rfl, (blk_cell BK240.out 3).trans rfl, (blk_cell BK240.out 4).trans rfl, (blk_cell BK240.out 5).trans rfl, (blk_cell BK240.out 6).trans rfl, (blk_cell BK240.out 7).trans rfl, (blk_cell BK240.out 8).trans rfl, hx261_0, hx262_0, hx264_0⟩ (fun hHeld => ?_); refine with_tabW platformfwlaw11_FieldRoundTrip.tab14 platformfwlaw11_FieldRoundTrip.bits14 (fun HT_ HW_ => ?_)
               generalize wr.drew = w67 at HO_12 HO_13 HO_14 BK229 BK230 BK240 HB hx261_0 hx262_0 hx264_0 hHeld ⊢
               refine pure_ (i := 0) (N := some 63) (v := ?_) (a' := ?_) (tf 35 1) rfl rfl (any_of HT_.out (by kernel_rfl)) (fun _ _ _ h => h) (Or.inl ⟨by rfl, ?_⟩) ?_ ?_
               rotate_left
               ·intro w'
                go_simp
                with_reducible rfl
               rotate_left
               ·simp only [Act.put, sA_, sB_, sC_, i64_w, i32_w]
                rfl
               refine take_ (i := 1) (N := some 64) (v := ?_) (a' := ?_) (tf 35 3) rfl rfl (take_ofW HT_.out HW_.out (by kernel_rfl)) (fun _ _ _ h => h) (Or.inl ⟨by rfl, ?_⟩) hHeld ?_ ?_
               rotate_left
               ·rintro w' ⟨s0, s1, s2, s3, s4, s5, s6, s7, s8, s9, s10, s11⟩
                go_simp
                with_reducible rfl
               rotate_left
               ·simp only [Act.put, sA_, sB_, sC_, i64_w, i32_w]
                rfl
               refine pure_ (i := 2) (N := some 65) (v := ?_) (a' := ?_) (tf 35 7) rfl rfl (any_of HT_.out (by kernel_rfl)) (fun _ _ _ h => h) (Or.inl ⟨by rfl, ?_⟩) ?_ ?_
               rotate_left
               ·intro w'
                go_simp
                with_reducible rfl
               rotate_left
               ·simp only [Act.put, sA_, sB_, sC_, i64_w, i32_w]
                rfl
               refine pure_ (i := 3) (N := some 66) (v := ?_) (a' := ?_) (tf 35 15) rfl rfl (any_of HT_.out (by kernel_rfl)) (fun _ _ _ h => h) (Or.inl ⟨by rfl, ?_⟩) ?_ ?_
               rotate_left
               ·intro w'
                go_simp
                with_reducible rfl
               rotate_left
               ·simp only [Act.put, sA_, sB_, sC_, i64_w, i32_w]
                rfl
               refine pure_ (i := 4) (N := some 67) (v := ?_) (a' := ?_) (tf 35 31) rfl rfl (any_of HT_.out (by kernel_rfl)) (fun _ _ _ h => h) (Or.inl ⟨by rfl, ?_⟩) ?_ ?_
               rotate_left
               ·intro w'
                go_simp
                with_reducible rfl
               rotate_left
               ·simp only [Act.put, sA_, sB_, sC_, i64_w, i32_w]
                rfl
               refine pure_ (i := 5) (N := some 68) (v := ?_) (a' := ?_) (tf 35 63) rfl rfl (any_of HT_.out (by kernel_rfl)) (fun _ _ _ h => h) (Or.inl ⟨by rfl, ?_⟩) ?_ ?_
               rotate_left
               ·intro w'
                go_simp
                with_reducible rfl
               rotate_left
               ·simp only [Act.put, sA_, sB_, sC_, i64_w, i32_w]
                rfl
               refine pure_ (i := 6) (N := some 69) (v := ?_) (a' := ?_) (tf 35 127) rfl rfl (any_of HT_.out (by kernel_rfl)) (fun _ _ _ h => h) (Or.inl ⟨by rfl, ?_⟩) ?_ ?_
               rotate_left
               ·intro w'
                go_simp
                with_reducible rfl
               rotate_left
               ·simp only [Act.put, sA_, sB_, sC_, i64_w, i32_w]
                rfl
               refine pure_ (i := 8) (N := some 71) (v := ?_) (a' := ?_) (tf 35 383) rfl rfl (any_of HT_.out (by kernel_rfl)) (fun _ _ _ h => h) (Or.inl ⟨by rfl, ?_⟩) ?_ ?_
               rotate_left
               ·intro w'
                go_simp
                with_reducible rfl
               rotate_left
               ·simp only [Act.put, sA_, sB_, sC_, i64_w, i32_w]
                rfl
               refine pure_ (i := 9) (N := some 72) (v := ?_) (a' := ?_) (tf 35 895) rfl rfl (any_of HT_.out (by kernel_rfl)) (fun _ _ _ h => h) (Or.inl ⟨by rfl, ?_⟩) ?_ ?_
               rotate_left
               ·intro w'
                go_simp
                with_reducible rfl
               rotate_left
               ·simp only [Act.put, sA_, sB_, sC_, i64_w, i32_w]
                rfl
               refine pure_ (i := 10) (N := some 73) (v := ?_) (a' := ?_) (tf 35 1919) rfl rfl (any_of HT_.out (by kernel_rfl)) (fun _ _ _ h => h) (Or.inl ⟨by rfl, ?_⟩) ?_ ?_
               rotate_left
               ·intro w'
                go_simp
                with_reducible rfl
               rotate_left
               ·simp only [Act.put, sA_, sB_, sC_, i64_w, i32_w]
                rfl
               refine pure_ (i := 13) (N := some 76) (v := ?_) (a' := ?_) (tf 35 10111) rfl rfl (any_of HT_.out (by kernel_rfl)) (fun _ _ _ h => h) (Or.inl ⟨by rfl, ?_⟩) ?_ ?_
               rotate_left
               ·intro w'
                go_simp
                with_reducible rfl
               rotate_left
               ·simp only [Act.put, sA_, sB_, sC_, i64_w, i32_w]
                rfl
               refine pure_ (i := 17) (N := some 80) (v := ?_) (a' := ?_) (tf 35 141183) rfl rfl (any_of HT_.out (by kernel_rfl)) (fun _ _ _ h => h) (Or.inl ⟨by rfl, ?_⟩) ?_ ?_
               rotate_left
               ·intro w'
                go_simp
                with_reducible rfl
               rotate_left
               ·simp only [Act.put, sA_, sB_, sC_, i64_w, i32_w]
                rfl
               refine pure_ (i := 18) (N := some 81) (v := ?_) (a' := ?_) (tf 35 403327) rfl rfl (any_of HT_.out (by kernel_rfl)) (fun _ _ _ h => h) (Or.inl ⟨by rfl, ?_⟩) ?_ ?_
               rotate_left
               ·intro w'
                go_simp
                with_reducible rfl
               rotate_left
               ·simp only [Act.put, sA_, sB_, sC_, i64_w, i32_w]
                rfl
               refine pure_ (i := 19) (N := some 82) (v := ?_) (a' := ?_) (tf 35 927615) rfl rfl (any_of HT_.out (by kernel_rfl)) (fun _ _ _ h => h) (Or.inl ⟨by rfl, ?_⟩) ?_ ?_
               rotate_left
               ·intro w'
                go_simp
                with_reducible rfl
               rotate_left
               ·simp only [Act.put, sA_, sB_, sC_, i64_w, i32_w]
                rfl
               refine take_ (i := 7) (N := some 70) (v := ?_) (a' := ?_) (tf 35 927743) rfl rfl (take_ofW HT_.out HW_.out (by kernel_rfl)) (fun _ _ _ h => h) (Or.inl ⟨by rfl, ?_⟩) hHeld ?_ ?_
               rotate_left
               ·rintro w' ⟨s0, s1, s2, s3, s4, s5, s6, s7, s8, s9, s10, s11⟩
                go_simp
                with_reducible rfl
               rotate_left
               ·simp only [Act.put, sA_, sB_, sC_, i64_w, i32_w]
                rfl
               refine take_ (i := 11) (N := some 74) (v := ?_) (a' := ?_) (tf 35 929791) rfl rfl (take_ofW HT_.out HW_.out (by kernel_rfl)) (fun _ _ _ h => h) (Or.inl ⟨by rfl, ?_⟩) hHeld ?_ ?_
               rotate_left
               ·rintro w' ⟨s0, s1, s2, s3, s4, s5, s6, s7, s8, s9, s10, s11⟩
                go_simp
                with_reducible rfl
               rotate_left
               ·simp only [Act.put, sA_, sB_, sC_, i64_w, i32_w]
                rfl
               refine pure_ (i := 12) (N := some 75) (v := ?_) (a' := ?_) (tf 35 933887) rfl rfl (any_of HT_.out (by kernel_rfl)) (fun _ _ _ h => h) (Or.inl ⟨by rfl, ?_⟩) ?_ ?_
               rotate_left
               ·intro w'
                go_simp
                with_reducible rfl
               rotate_left
               ·simp only [Act.put, sA_, sB_, sC_, i64_w, i32_w]
                rfl
               refine take_ (i := 14) (N := some 77) (v := ?_) (a' := ?_) (tf 35 950271) rfl rfl (take_ofW HT_.out HW_.out (by kernel_rfl)) (fun _ _ _ h => h) (Or.inl ⟨by rfl, ?_⟩) hHeld ?_ ?_
               rotate_left
               ·rintro w' ⟨s0, s1, s2, s3, s4, s5, s6, s7, s8, s9, s10, s11⟩
                go_simp
                with_reducible rfl
               rotate_left
               ·simp only [Act.put, sA_, sB_, sC_, i64_w, i32_w]
                rfl
               refine take_ (i := 20) (N := some 83) (v := ?_) (a' := ?_) (tf 35 1998847) rfl rfl (take_ofW HT_.out HW_.out (by kernel_rfl)) (fun _ _ _ h => h) (Or.inl ⟨by rfl, ?_⟩) hHeld ?_ ?_
               rotate_left
               ·rintro w' ⟨s0, s1, s2, s3, s4, s5, s6, s7, s8, s9, s10, s11⟩
                go_simp
                with_reducible rfl
               rotate_left
               ·simp only [Act.put, sA_, sB_, sC_, i64_w, i32_w]
                rfl
               refine one_ (i := 15) (N := some 78) (tf 35 2031615) rfl rfl (one_of HT_.out (by kernel_rfl)) (by decide) (fun K hK => ?_)
               refine goes_ Try.func27 (by kernel_rfl) rfl #[.int .i64 t236] (by rfl) rfl rfl (by (try simp only [List.map_toArray, List.map_cons, List.map_nil]); first | done | rfl | (simp only [List.length_drop, List.length_take]; rfl)) ?_
               with_reducible refine (platformfwref09_Ones.calls t236 t263 _ A60.out).mono ?_
               rintro e w' ⟨rfl, ⟨nd, rfl⟩⟩
               refine ⟨_, rfl, ?_⟩
               refine hK.out _ _ ⟨(blk_cell BK240.out 0).trans rfl, (blk_cell BK240.out 1).trans rfl, (blk_cell BK240.out 2).trans rfl, (blk_cell BK240.out 3).trans rfl, (blk_cell BK240.out 4).trans rfl, (blk_cell BK240.out 5).trans rfl, (blk_cell BK240.out 6).trans rfl, (blk_cell BK240.out 7).trans rfl, (blk_cell BK240.out 8).trans rfl, hHeld.2.2.2.2.2.2.2.2.2.1, hHeld.2.2.2.2.2.2.2.2.2.2.1, hHeld.2.2.2.2.2.2.2.2.2.2.2⟩ (fun hHeld => ?_)
               clear hK K
               refine norm_ (a' := ?_) ?_ ?_
               rotate_left
               ·show Act.put _ (some 78) _ = _
                simp only [Act.put, sA_, sB_, sC_, i64_w, i32_w]
                rfl
               refine pure_ (i := 16) (N := some 79) (v := ?_) (a' := ?_) (tf 35 2097151) rfl rfl (any_of HT_.out (by kernel_rfl)) (fun _ _ _ h => h) (Or.inl ⟨by rfl, ?_⟩) ?_ ?_
               rotate_left
               ·intro w'
                go_simp
                with_reducible rfl
               rotate_left
               ·simp only [Act.put, sA_, sB_, sC_, i64_w, i32_w]
                rfl
               refine pure_ (i := 21) (N := some 84) (v := ?_) (a' := ?_) (tf 35 4194303) rfl rfl (any_of HT_.out (by kernel_rfl)) (fun _ _ _ h => h) (Or.inl ⟨by rfl, ?_⟩) ?_ ?_
               rotate_left
               ·intro w'
                go_simp
                with_reducible rfl
               rotate_left
               ·simp only [Act.put, sA_, sB_, sC_, i64_w, i32_w]
                rfl
               refine pure_ (i := 22) (N := some 85) (v := ?_) (a' := ?_) (tf 35 8388607) rfl rfl (any_of HT_.out (by kernel_rfl)) (fun _ _ _ h => h) (Or.inl ⟨by rfl, ?_⟩) ?_ ?_
               rotate_left
               ·intro w'
                go_simp
                with_reducible rfl
               rotate_left
               ·simp only [Act.put, sA_, sB_, sC_, i64_w, i32_w]
                rfl
               refine pure_ (i := 23) (N := some 86) (v := ?_) (a' := ?_) (tf 35 16777215) rfl rfl (any_of HT_.out (by kernel_rfl)) (fun _ _ _ h => h) (Or.inl ⟨by rfl, ?_⟩) ?_ ?_
               rotate_left
               ·intro w'
                go_simp
                with_reducible rfl
               rotate_left
               ·simp only [Act.put, sA_, sB_, sC_, i64_w, i32_w]
                rfl
               refine pure_ (i := 24) (N := some 87) (v := ?_) (a' := ?_) (tf 35 33554431) rfl rfl (any_of HT_.out (by kernel_rfl)) (fun _ _ _ h => h) (Or.inl ⟨by rfl, ?_⟩) ?_ ?_
               rotate_left
               ·intro w'
                go_simp
                with_reducible rfl
               rotate_left
               ·simp only [Act.put, sA_, sB_, sC_, i64_w, i32_w]
                rfl
               refine pure_ (i := 25) (N := some 88) (v := undef) (a' := ?_) (tf 35 67108863) rfl rfl (any_of HT_.out (by kernel_rfl)) (fun _ _ _ h => h) (Or.inr ⟨by rfl, rfl⟩) ?_ ?_
               rotate_left
               ·simp only [Act.put, sA_, sB_, sC_, i64_w, i32_w]
                rfl
               refine pure_ (i := 26) (N := some 89) (v := undef) (a' := ?_) (tf 35 134217727) rfl rfl (any_of HT_.out (by kernel_rfl)) (fun _ _ _ h => h) (Or.inr ⟨by rfl, rfl⟩) ?_ ?_
               rotate_left
               ·simp only [Act.put, sA_, sB_, sC_, i64_w, i32_w]
                rfl
               refine pure_ (i := 27) (N := some 90) (v := undef) (a' := ?_) (tf 35 268435455) rfl rfl (any_of HT_.out (by kernel_rfl)) (fun _ _ _ h => h) (Or.inr ⟨by rfl, rfl⟩) ?_ ?_
               rotate_left
               ·simp only [Act.put, sA_, sB_, sC_, i64_w, i32_w]
                rfl
               refine pure_ (i := 28) (N := some 91) (v := undef) (a' := ?_) (tf 35 536870911) rfl rfl (any_of HT_.out (by kernel_rfl)) (fun _ _ _ h => h) (Or.inr ⟨by rfl, rfl⟩) ?_ ?_
               rotate_left
               ·simp only [Act.put, sA_, sB_, sC_, i64_w, i32_w]
                rfl
               refine pure_ (i := 29) (N := some 92) (v := undef) (a' := ?_) (tf 35 1073741823) rfl rfl (any_of HT_.out (by kernel_rfl)) (fun _ _ _ h => h) (Or.inr ⟨by rfl, rfl⟩) ?_ ?_
               rotate_left
               ·simp only [Act.put, sA_, sB_, sC_, i64_w, i32_w]
                rfl
               refine pure_ (i := 30) (N := some 93) (v := undef) (a' := ?_) (tf 35 2147483647) rfl rfl (any_of HT_.out (by kernel_rfl)) (fun _ _ _ h => h) (Or.inr ⟨by rfl, rfl⟩) ?_ ?_
               rotate_left
               ·simp only [Act.put, sA_, sB_, sC_, i64_w, i32_w]
                rfl
               refine pure_ (i := 31) (N := some 94) (v := undef) (a' := ?_) (tf 35 4294967295) rfl rfl (any_of HT_.out (by kernel_rfl)) (fun _ _ _ h => h) (Or.inr ⟨by rfl, rfl⟩) ?_ ?_
               rotate_left
               ·simp only [Act.put, sA_, sB_, sC_, i64_w, i32_w]
                rfl
               refine pure_ (i := 32) (N := some 95) (v := undef) (a' := ?_) (tf 35 8589934591) rfl rfl (any_of HT_.out (by kernel_rfl)) (fun _ _ _ h => h) (Or.inr ⟨by rfl, rfl⟩) ?_ ?_
               rotate_left
               ·simp only [Act.put, sA_, sB_, sC_, i64_w, i32_w]
                rfl
               refine pure_ (i := 33) (N := some 96) (v := undef) (a' := ?_) (tf 35 17179869183) rfl rfl (any_of HT_.out (by kernel_rfl)) (fun _ _ _ h => h) (Or.inr ⟨by rfl, rfl⟩) ?_ ?_
               rotate_left
               ·simp only [Act.put, sA_, sB_, sC_, i64_w, i32_w]
                rfl
               refine pure_ (i := 34) (N := some 97) (v := ?_) (a' := ?_) (tf 35 34359738367) rfl rfl (any_of HT_.out (by kernel_rfl)) (fun _ _ _ h => h) (Or.inl ⟨by rfl, ?_⟩) ?_ ?_
               rotate_left
               ·intro w'
                go_simp
                with_reducible rfl
               rotate_left
               ·simp only [Act.put, sA_, sB_, sC_, i64_w, i32_w]
                rfl
               refine done_ (done_of HT_.out (by kernel_rfl)) ?_
               try go_wp2
               go_meet
               case rel => exact ⟨_, (true), (by first | rfl | (simp; done) | (simp [*]; done)), H', ⟨by have := HJ10.out; have := HK2.out; first | omega | exact Nat.le_refl _⟩, ⟨by (with_reducible repeat (first | apply Kd.R_alloc | apply Kd.R_drewN | apply Kd.R_drew)); exact HO_12.out⟩, ⟨by (with_reducible repeat (first | apply Kd.R_alloc | apply Kd.R_drewN | apply Kd.R_drew)); exact HO_13.out⟩, ⟨by (with_reducible repeat (first | apply Kd.R_alloc | apply Kd.R_drewN | apply Kd.R_drew)); exact HO_14.out⟩, ⟨by (with_reducible repeat (first | refine kN_ ?_ _ | refine kD_ ?_ | refine kA_ ?_ _)); exact BK229.out⟩, ⟨by (with_reducible repeat (first | refine kN_ ?_ _ | refine kD_ ?_ | refine kA_ ?_ _)); exact BK230.out⟩, ⟨by (with_reducible repeat (first | refine kN_ ?_ _ | refine kD_ ?_ | refine kA_ ?_ _)); exact BK240.out⟩, ⟨by repeat (first | (with_reducible first | exact HB.out | apply bA_ | apply bN_ | apply bD_ | refine bS_ ?_ GE229.out | refine bS_ ?_ GE230.out | refine bS_ ?_ GE240.out) | exact HB.out)⟩⟩
             ·rw [if_neg c61] at H
              exact absurd H (by simp)
            ·rw [if_neg c59] at H
             exact absurd H (by simp)
           ·rw [if_neg c58] at H
            exact absurd H (by simp)
          ·rw [if_neg c57] at H
           exact absurd H (by simp)
         ·rw [if_neg c56] at H
          have c56b0 : (t237 == 0) = false := beq_eq_false_iff_ne.mpr c56
          have c56b1 : (t237 != 0) = true := bne_iff_ne.mpr c56
          (first | rw [c56b0] | (simp only [i64_w, i32_w]; rw [c56b0]) | skip)
          by_cases c70 : 0 ≤ x15_2
          ·rw [if_pos c70] at H
           have c70b0 : decide (0 ≤ x15_2) = true := decide_eq_true c70
           clear c70
           by_cases c71 : x15_2 < (t253.length : Int)
           ·rw [if_pos c71] at H
            have c71b0 : decide (x15_2 < (t253.length : Int)) = true := decide_eq_true c71
            clear c71
            replace H := Option.bind_eq_some_iff.mp H
            obtain ⟨t268, A720, H⟩ := H
            replace H : (platformfwlaw11_FieldRoundTrip.j2 k2 t249 t250 t253 t258 x15_2 ((Go.bits .andNot .u64 (rd t253 x15_2) t268) != 0) t231 t232 t233 t234 t235 t236 t237 t238 t239) = some r := H
            have A72 := Aside0.mk A720
            clear A720
            have H' := Aside0.mk H
            clear H
            try go_wp2
            have n0_ := Aside0.mk (Kd.R_drew HO_12.out)
            have n1_ := Aside0.mk (Kd.R_drew HO_13.out)
            have n2_ := Aside0.mk (Kd.R_drew HO_14.out)
            have n3_ := Aside0.mk (kD_ BK229.out)
            have n4_ := Aside0.mk (kD_ BK230.out)
            have n5_ := Aside0.mk (kD_ BK240.out)
            have n6_ := Aside0.mk (bD_ HB.out)
            clear HO_12
            clear HO_13
            clear HO_14
            clear BK229
            clear BK230
            clear BK240
            clear HB
            have HO_12 := n0_
            have HO_13 := n1_
            have HO_14 := n2_
            have BK229 := n3_
            have BK230 := n4_
            have BK240 := n5_
            have HB := n6_
            clear n0_ n1_ n2_ n3_ n4_ n5_ n6_
            obtain ⟨Ao74, co74, eo74⟩ := Kd.R_slice HO_13.out
            (first | subst eo74 | (injection eo74 with f1_ f2_ f3_; have f4_ := f1_.symm; have f5_ := f3_.symm; clear f1_ f2_ f3_; subst f4_; subst f5_))
            have p267 : 0 ≤ (x15_2 : Int) := of_decide_eq_true (by first | (with_reducible assumption) | assumption)
            have q267 : x15_2 < (t253.length : Int) := of_decide_eq_true (by first | (with_reducible assumption) | assumption)
            obtain ⟨ad267, e267, hx267_0⟩ := Kd.at_int (Kd.R_reads' HO_13.out).2.2 x15_2 p267 q267
            cases e267
            replace p267 := eq_true p267
            replace q267 := eq_true q267
            refine start_ (n := 35) (S := fun w' => w'.cell? ⟨gb240, 0, none⟩ = some (.int .i64 t231) ∧ w'.cell? ⟨gb240, 1, none⟩ = some (.int .u64 t232) ∧ w'.cell? ⟨gb240, 2, none⟩ = some (.int .u64 t233) ∧ w'.cell? ⟨gb240, 3, none⟩ = some (.int .i64 t234) ∧ w'.cell? ⟨gb240, 4, none⟩ = some (.int .i64 t235) ∧ w'.cell? ⟨gb240, 5, none⟩ = some (.int .i64 t236) ∧ w'.cell? ⟨gb240, 6, none⟩ = some (.int .i64 t237) ∧ w'.cell? ⟨gb240, 7, none⟩ = some (.int .i64 t238) ∧ w'.cell? ⟨gb240, 8, none⟩ = some (.int .i64 t239) ∧ w'.cell? (ad267.add (x15_2).toNat) = some (.int .u64 (rd t253 x15_2))) (ds := []) #[false, false, false, false, false, false, false, false, false, false, false, false, false, false, false, false, false, false, false, false, false, false, false, false, false, false, false, false, false, false, false, false, false, false, false] (by kernel_rfl) rfl rfl ⟨(blk_cell BK240.out 0).trans rfl, (blk_cell BK240.out 1).trans rfl, (blk_cell BK240.out 2).trans rfl, (blk_cell BK240.out 3).trans rfl, (blk_cell BK240.out 4).trans rfl, (blk_cell BK240.out 5).trans rfl, (blk_cell BK240.out 6).trans rfl, (blk_cell BK240.out 7).trans rfl, (blk_cell BK240.out 8).trans rfl, hx267_0⟩ (fun hHeld => ?_); refine with_tabW platformfwlaw11_FieldRoundTrip.tab14 platformfwlaw11_FieldRoundTrip.bits14 (fun HT_ HW_ => ?_)
            generalize wr.drew = w73 at HO_12 HO_13 HO_14 BK229 BK230 BK240 HB hx267_0 hHeld ⊢
            refine pure_ (i := 0) (N := some 63) (v := ?_) (a' := ?_) (tf 35 1) rfl rfl (any_of HT_.out (by kernel_rfl)) (fun _ _ _ h => h) (Or.inl ⟨by rfl, ?_⟩) ?_ ?_
            rotate_left
            ·intro w'
             go_simp
             with_reducible rfl
            rotate_left
            ·simp only [Act.put, sA_, sB_, sC_, i64_w, i32_w]
             rfl
            refine take_ (i := 1) (N := some 64) (v := ?_) (a' := ?_) (tf 35 3) rfl rfl (take_ofW HT_.out HW_.out (by kernel_rfl)) (fun _ _ _ h => h) (Or.inl ⟨by rfl, ?_⟩) hHeld ?_ ?_
            rotate_left
            ·rintro w' ⟨s0, s1, s2, s3, s4, s5, s6, s7, s8, s9⟩
             go_simp
             with_reducible rfl
            rotate_left
            ·simp only [Act.put, sA_, sB_, sC_, i64_w, i32_w]
             rfl
            refine pure_ (i := 2) (N := some 65) (v := ?_) (a' := ?_) (tf 35 7) rfl rfl (any_of HT_.out (by kernel_rfl)) (fun _ _ _ h => h) (Or.inl ⟨by rfl, ?_⟩) ?_ ?_
            rotate_left
            ·intro w'
             go_simp
             with_reducible rfl
            rotate_left
            ·simp only [Act.put, sA_, sB_, sC_, i64_w, i32_w]
             rfl
            refine pure_ (i := 3) (N := some 66) (v := ?_) (a' := ?_) (tf 35 15) rfl rfl (any_of HT_.out (by kernel_rfl)) (fun _ _ _ h => h) (Or.inl ⟨by rfl, ?_⟩) ?_ ?_
            rotate_left
            ·intro w'
             go_simp
             with_reducible rfl
            rotate_left
            ·simp only [Act.put, sA_, sB_, sC_, i64_w, i32_w]
             rfl
            refine pure_ (i := 4) (N := some 67) (v := undef) (a' := ?_) (tf 35 31) rfl rfl (any_of HT_.out (by kernel_rfl)) (fun _ _ _ h => h) (Or.inr ⟨by rfl, rfl⟩) ?_ ?_
            rotate_left
            ·simp only [Act.put, sA_, sB_, sC_, i64_w, i32_w]
             rfl
            refine pure_ (i := 5) (N := some 68) (v := undef) (a' := ?_) (tf 35 63) rfl rfl (any_of HT_.out (by kernel_rfl)) (fun _ _ _ h => h) (Or.inr ⟨by rfl, rfl⟩) ?_ ?_
            rotate_left
            ·simp only [Act.put, sA_, sB_, sC_, i64_w, i32_w]
             rfl
            refine pure_ (i := 6) (N := some 69) (v := undef) (a' := ?_) (tf 35 127) rfl rfl (any_of HT_.out (by kernel_rfl)) (fun _ _ _ h => h) (Or.inr ⟨by rfl, rfl⟩) ?_ ?_
            rotate_left
            ·simp only [Act.put, sA_, sB_, sC_, i64_w, i32_w]
             rfl
            refine pure_ (i := 7) (N := some 70) (v := undef) (a' := ?_) (tf 35 255) rfl rfl (any_of HT_.out (by kernel_rfl)) (fun _ _ _ h => h) (Or.inr ⟨by rfl, rfl⟩) ?_ ?_
            rotate_left
            ·simp only [Act.put, sA_, sB_, sC_, i64_w, i32_w]
             rfl
            refine pure_ (i := 8) (N := some 71) (v := undef) (a' := ?_) (tf 35 511) rfl rfl (any_of HT_.out (by kernel_rfl)) (fun _ _ _ h => h) (Or.inr ⟨by rfl, rfl⟩) ?_ ?_
            rotate_left
            ·simp only [Act.put, sA_, sB_, sC_, i64_w, i32_w]
             rfl
            refine pure_ (i := 9) (N := some 72) (v := undef) (a' := ?_) (tf 35 1023) rfl rfl (any_of HT_.out (by kernel_rfl)) (fun _ _ _ h => h) (Or.inr ⟨by rfl, rfl⟩) ?_ ?_
            rotate_left
            ·simp only [Act.put, sA_, sB_, sC_, i64_w, i32_w]
             rfl
            refine pure_ (i := 10) (N := some 73) (v := undef) (a' := ?_) (tf 35 2047) rfl rfl (any_of HT_.out (by kernel_rfl)) (fun _ _ _ h => h) (Or.inr ⟨by rfl, rfl⟩) ?_ ?_
            rotate_left
            ·simp only [Act.put, sA_, sB_, sC_, i64_w, i32_w]
             rfl
            refine pure_ (i := 11) (N := some 74) (v := undef) (a' := ?_) (tf 35 4095) rfl rfl (any_of HT_.out (by kernel_rfl)) (fun _ _ _ h => h) (Or.inr ⟨by rfl, rfl⟩) ?_ ?_
            rotate_left
            ·simp only [Act.put, sA_, sB_, sC_, i64_w, i32_w]
             rfl
            refine pure_ (i := 12) (N := some 75) (v := undef) (a' := ?_) (tf 35 8191) rfl rfl (any_of HT_.out (by kernel_rfl)) (fun _ _ _ h => h) (Or.inr ⟨by rfl, rfl⟩) ?_ ?_
            rotate_left
            ·simp only [Act.put, sA_, sB_, sC_, i64_w, i32_w]
             rfl
            refine pure_ (i := 13) (N := some 76) (v := undef) (a' := ?_) (tf 35 16383) rfl rfl (any_of HT_.out (by kernel_rfl)) (fun _ _ _ h => h) (Or.inr ⟨by rfl, rfl⟩) ?_ ?_
            rotate_left
            ·simp only [Act.put, sA_, sB_, sC_, i64_w, i32_w]
             rfl
            refine pure_ (i := 14) (N := some 77) (v := undef) (a' := ?_) (tf 35 32767) rfl rfl (any_of HT_.out (by kernel_rfl)) (fun _ _ _ h => h) (Or.inr ⟨by rfl, rfl⟩) ?_ ?_
            rotate_left
            ·simp only [Act.put, sA_, sB_, sC_, i64_w, i32_w]
             rfl
            refine pure_ (i := 15) (N := some 78) (v := undef) (a' := ?_) (tf 35 65535) rfl rfl (any_of HT_.out (by kernel_rfl)) (fun _ _ _ h => h) (Or.inr ⟨by rfl, rfl⟩) ?_ ?_
            rotate_left
            ·simp only [Act.put, sA_, sB_, sC_, i64_w, i32_w]
             rfl
            refine pure_ (i := 16) (N := some 79) (v := undef) (a' := ?_) (tf 35 131071) rfl rfl (any_of HT_.out (by kernel_rfl)) (fun _ _ _ h => h) (Or.inr ⟨by rfl, rfl⟩) ?_ ?_
            rotate_left
            ·simp only [Act.put, sA_, sB_, sC_, i64_w, i32_w]
             rfl
            refine pure_ (i := 17) (N := some 80) (v := undef) (a' := ?_) (tf 35 262143) rfl rfl (any_of HT_.out (by kernel_rfl)) (fun _ _ _ h => h) (Or.inr ⟨by rfl, rfl⟩) ?_ ?_
            rotate_left
            ·simp only [Act.put, sA_, sB_, sC_, i64_w, i32_w]
             rfl
            refine pure_ (i := 18) (N := some 81) (v := undef) (a' := ?_) (tf 35 524287) rfl rfl (any_of HT_.out (by kernel_rfl)) (fun _ _ _ h => h) (Or.inr ⟨by rfl, rfl⟩) ?_ ?_
            rotate_left
            ·simp only [Act.put, sA_, sB_, sC_, i64_w, i32_w]
             rfl
            refine pure_ (i := 19) (N := some 82) (v := undef) (a' := ?_) (tf 35 1048575) rfl rfl (any_of HT_.out (by kernel_rfl)) (fun _ _ _ h => h) (Or.inr ⟨by rfl, rfl⟩) ?_ ?_
            rotate_left
            ·simp only [Act.put, sA_, sB_, sC_, i64_w, i32_w]
             rfl
            refine pure_ (i := 20) (N := some 83) (v := undef) (a' := ?_) (tf 35 2097151) rfl rfl (any_of HT_.out (by kernel_rfl)) (fun _ _ _ h => h) (Or.inr ⟨by rfl, rfl⟩) ?_ ?_
            rotate_left
            ·simp only [Act.put, sA_, sB_, sC_, i64_w, i32_w]
             rfl
            refine pure_ (i := 21) (N := some 84) (v := undef) (a' := ?_) (tf 35 4194303) rfl rfl (any_of HT_.out (by kernel_rfl)) (fun _ _ _ h => h) (Or.inr ⟨by rfl, rfl⟩) ?_ ?_
            rotate_left
            ·simp only [Act.put, sA_, sB_, sC_, i64_w, i32_w]
             rfl
            refine pure_ (i := 22) (N := some 85) (v := undef) (a' := ?_) (tf 35 8388607) rfl rfl (any_of HT_.out (by kernel_rfl)) (fun _ _ _ h => h) (Or.inr ⟨by rfl, rfl⟩) ?_ ?_
            rotate_left
            ·simp only [Act.put, sA_, sB_, sC_, i64_w, i32_w]
             rfl
            refine pure_ (i := 23) (N := some 86) (v := ?_) (a' := ?_) (tf 35 16777215) rfl rfl (any_of HT_.out (by kernel_rfl)) (fun _ _ _ h => h) (Or.inl ⟨by rfl, ?_⟩) ?_ ?_
            rotate_left
            ·intro w'
             go_simp
             with_reducible rfl
            rotate_left
            ·simp only [Act.put, sA_, sB_, sC_, i64_w, i32_w]
             rfl
            refine pure_ (i := 24) (N := some 87) (v := ?_) (a' := ?_) (tf 35 33554431) rfl rfl (any_of HT_.out (by kernel_rfl)) (fun _ _ _ h => h) (Or.inl ⟨by rfl, ?_⟩) ?_ ?_
            rotate_left
            ·intro w'
             go_simp
             with_reducible rfl
            rotate_left
            ·simp only [Act.put, sA_, sB_, sC_, i64_w, i32_w]
             rfl
            refine pure_ (i := 25) (N := some 88) (v := ?_) (a' := ?_) (tf 35 67108863) rfl rfl (any_of HT_.out (by kernel_rfl)) (fun _ _ _ h => h) (Or.inl ⟨by rfl, ?_⟩) ?_ ?_
            rotate_left
            ·intro w'
             go_simp
             with_reducible rfl
            rotate_left
            ·simp only [Act.put, sA_, sB_, sC_, i64_w, i32_w]
             rfl
            refine pure_ (i := 26) (N := some 89) (v := ?_) (a' := ?_) (tf 35 134217727) rfl rfl (any_of HT_.out (by kernel_rfl)) (fun _ _ _ h => h) (Or.inl ⟨by rfl, ?_⟩) ?_ ?_
            rotate_left
            ·intro w'
             go_simp
             with_reducible rfl
            rotate_left
            ·simp only [Act.put, sA_, sB_, sC_, i64_w, i32_w]
             rfl
            refine pure_ (i := 27) (N := some 90) (v := ?_) (a' := ?_) (tf 35 268435455) rfl rfl (any_of HT_.out (by kernel_rfl)) (fun _ _ _ h => h) (Or.inl ⟨by rfl, ?_⟩) ?_ ?_
            rotate_left
            ·intro w'
             go_simp
             with_reducible rfl
            rotate_left
            ·simp only [Act.put, sA_, sB_, sC_, i64_w, i32_w]
             rfl
            refine pure_ (i := 29) (N := some 92) (v := ?_) (a' := ?_) (tf 35 805306367) rfl rfl (any_of HT_.out (by kernel_rfl)) (fun _ _ _ h => h) (Or.inl ⟨by rfl, ?_⟩) ?_ ?_
            rotate_left
            ·intro w'
             go_simp
             with_reducible rfl
            rotate_left
            ·simp only [Act.put, sA_, sB_, sC_, i64_w, i32_w]
             rfl
            refine take_ (i := 28) (N := some 91) (v := ?_) (a' := ?_) (tf 35 1073741823) rfl rfl (take_ofW HT_.out HW_.out (by kernel_rfl)) (fun _ _ _ h => h) (Or.inl ⟨by rfl, ?_⟩) hHeld ?_ ?_
            rotate_left
            ·rintro w' ⟨s0, s1, s2, s3, s4, s5, s6, s7, s8, s9⟩
             go_simp
             with_reducible rfl
            rotate_left
            ·simp only [Act.put, sA_, sB_, sC_, i64_w, i32_w]
             rfl
            refine take_ (i := 30) (N := some 93) (v := ?_) (a' := ?_) (tf 35 2147483647) rfl rfl (take_ofW HT_.out HW_.out (by kernel_rfl)) (fun _ _ _ h => h) (Or.inl ⟨by rfl, ?_⟩) hHeld ?_ ?_
            rotate_left
            ·rintro w' ⟨s0, s1, s2, s3, s4, s5, s6, s7, s8, s9⟩
             go_simp
             with_reducible rfl
            rotate_left
            ·simp only [Act.put, sA_, sB_, sC_, i64_w, i32_w]
             rfl
            refine one_ (i := 31) (N := some 94) (tf 35 4294967295) rfl rfl (one_of HT_.out (by kernel_rfl)) (by decide) (fun K hK => ?_)
            refine goes_ Try.func27 (by kernel_rfl) rfl #[.int .i64 t236] (by rfl) rfl rfl (by (try simp only [List.map_toArray, List.map_cons, List.map_nil]); first | done | rfl | (simp only [List.length_drop, List.length_take]; rfl)) ?_
            with_reducible refine (platformfwref09_Ones.calls t236 t268 _ A72.out).mono ?_
            rintro e w' ⟨rfl, ⟨nd, rfl⟩⟩
            refine ⟨_, rfl, ?_⟩
            refine hK.out _ _ ⟨(blk_cell BK240.out 0).trans rfl, (blk_cell BK240.out 1).trans rfl, (blk_cell BK240.out 2).trans rfl, (blk_cell BK240.out 3).trans rfl, (blk_cell BK240.out 4).trans rfl, (blk_cell BK240.out 5).trans rfl, (blk_cell BK240.out 6).trans rfl, (blk_cell BK240.out 7).trans rfl, (blk_cell BK240.out 8).trans rfl, hHeld.2.2.2.2.2.2.2.2.2⟩ (fun hHeld => ?_)
            clear hK K
            refine norm_ (a' := ?_) ?_ ?_
            rotate_left
            ·show Act.put _ (some 94) _ = _
             simp only [Act.put, sA_, sB_, sC_, i64_w, i32_w]
             rfl
            refine pure_ (i := 32) (N := some 95) (v := ?_) (a' := ?_) (tf 35 8589934591) rfl rfl (any_of HT_.out (by kernel_rfl)) (fun _ _ _ h => h) (Or.inl ⟨by rfl, ?_⟩) ?_ ?_
            rotate_left
            ·intro w'
             go_simp
             with_reducible rfl
            rotate_left
            ·simp only [Act.put, sA_, sB_, sC_, i64_w, i32_w]
             rfl
            refine pure_ (i := 33) (N := some 96) (v := ?_) (a' := ?_) (tf 35 17179869183) rfl rfl (any_of HT_.out (by kernel_rfl)) (fun _ _ _ h => h) (Or.inl ⟨by rfl, ?_⟩) ?_ ?_
            rotate_left
            ·intro w'
             go_simp
             with_reducible rfl
            rotate_left
            ·simp only [Act.put, sA_, sB_, sC_, i64_w, i32_w]
             rfl
            refine pure_ (i := 34) (N := some 97) (v := ?_) (a' := ?_) (tf 35 34359738367) rfl rfl (any_of HT_.out (by kernel_rfl)) (fun _ _ _ h => h) (Or.inl ⟨by rfl, ?_⟩) ?_ ?_
            rotate_left
            ·intro w'
             go_simp
             with_reducible rfl
            rotate_left
            ·simp only [Act.put, sA_, sB_, sC_, i64_w, i32_w]
             rfl
            refine done_ (done_of HT_.out (by kernel_rfl)) ?_
            try go_wp2
            go_meet
            case rel => exact ⟨_, (((Go.bits .andNot .u64 (rd t253 x15_2) t268) != 0)), (by first | rfl | (simp; done) | (simp [*]; done)), H', ⟨by have := HJ10.out; have := HK2.out; first | omega | exact Nat.le_refl _⟩, ⟨by (with_reducible repeat (first | apply Kd.R_alloc | apply Kd.R_drewN | apply Kd.R_drew)); exact HO_12.out⟩, ⟨by (with_reducible repeat (first | apply Kd.R_alloc | apply Kd.R_drewN | apply Kd.R_drew)); exact HO_13.out⟩, ⟨by (with_reducible repeat (first | apply Kd.R_alloc | apply Kd.R_drewN | apply Kd.R_drew)); exact HO_14.out⟩, ⟨by (with_reducible repeat (first | refine kN_ ?_ _ | refine kD_ ?_ | refine kA_ ?_ _)); exact BK229.out⟩, ⟨by (with_reducible repeat (first | refine kN_ ?_ _ | refine kD_ ?_ | refine kA_ ?_ _)); exact BK230.out⟩, ⟨by (with_reducible repeat (first | refine kN_ ?_ _ | refine kD_ ?_ | refine kA_ ?_ _)); exact BK240.out⟩, ⟨by repeat (first | (with_reducible first | exact HB.out | apply bA_ | apply bN_ | apply bD_ | refine bS_ ?_ GE229.out | refine bS_ ?_ GE230.out | refine bS_ ?_ GE240.out) | exact HB.out)⟩⟩
           ·rw [if_neg c71] at H
            exact absurd H (by simp)
          ·rw [if_neg c70] at H
           exact absurd H (by simp)
        case rest =>
         clear HC55
         try clear c2
         try clear p2
         try clear q2
         try clear hx2
         try clear c5
         try clear c6
         try clear c7
         try clear p26
         try clear q26
         try clear hx26
         try clear c27
         try clear c56
         try clear c56b0
         try clear c56b1
         try clear c57
         try clear c58
         try clear c59
         try clear c61
         try clear c62
         try clear c62b0
         try clear c62b1
         try clear c70
         try clear c70b0
         try clear c71
         try clear c71b0
         try clear hx261_0
         try clear hx262_0
         try clear hx264_0
         try clear hx267_0
         try clear p261
         try clear p262
         try clear p264
         try clear p267
         try clear q261
         try clear q262
         try clear q264
         try clear q267
         obtain ⟨kq, x97_54, rfl, HA, HJ54, HO_12, HO_13, HO_14, BK229, BK230, BK240, HB⟩ := hcut
         cases kq with
         | zero => exact absurd HA.out (by simp [platformfwlaw11_FieldRoundTrip.j2])
         | succ kj54 =>
          have H := HA.out
          clear HA
          simp only [platformfwlaw11_FieldRoundTrip.j2] at H
          by_cases c75 : x97_54 = true
          ·subst c75
           have H1 : (some false) = some r := by rw [if_pos rfl] at H; exact H
           clear H
           have H := H1
           clear H1
           obtain rfl := Option.some.inj H
           exact absurd hr_.out (by simp)
          ·replace c75 := Bool.eq_false_iff.mpr c75
           subst c75
           have H1 : (platformfwlaw11_FieldRoundTrip.l0 kj54 t249 t250 t253 t258 (wrap64 (x15_2 + 1)) t231 t232 t233 t234 t235 t236 t237 t238 t239) = some r := by rw [if_neg (show ¬ (false = true) by decide)] at H; exact H
           clear H
           have H := H1
           clear H1
           have H' := Aside0.mk H
           clear H
           go_wp2
           go_roundg kj54
           case measure => have := HJ10.out; have := HK2.out; have := HJ54.out; omega
           case rel => exact ⟨(wrap64 (x15_2 + 1)), (by first | rfl | (simp; done) | (simp [*]; done)), H', ⟨by have := HJ10.out; have := HK2.out; have := HJ54.out; omega⟩, ⟨by (with_reducible repeat (first | apply Kd.R_alloc | apply Kd.R_drewN | apply Kd.R_drew)); exact HO_12.out⟩, ⟨by (with_reducible repeat (first | apply Kd.R_alloc | apply Kd.R_drewN | apply Kd.R_drew)); exact HO_13.out⟩, ⟨by (with_reducible repeat (first | apply Kd.R_alloc | apply Kd.R_drewN | apply Kd.R_drew)); exact HO_14.out⟩, ⟨by (with_reducible repeat (first | refine kN_ ?_ _ | refine kD_ ?_ | refine kA_ ?_ _)); exact BK229.out⟩, ⟨by (with_reducible repeat (first | refine kN_ ?_ _ | refine kD_ ?_ | refine kA_ ?_ _)); exact BK230.out⟩, ⟨by (with_reducible repeat (first | refine kN_ ?_ _ | refine kD_ ?_ | refine kA_ ?_ _)); exact BK240.out⟩, ⟨by repeat (first | (with_reducible first | exact HB.out | apply bA_ | apply bN_ | apply bD_ | refine bS_ ?_ GE229.out | refine bS_ ?_ GE230.out | refine bS_ ?_ GE240.out) | exact HB.out)⟩⟩
       ·rw [if_neg c54] at H
        have c54b0 : decide (x15_2 < t249) = false := decide_eq_false c54
        clear c54
        obtain rfl := Option.some.inj H
        go_wp2
        go_ret
        exact ⟨by first | rfl | (simp [errW_none, errW_some] <;> rfl) | (simp [*, errW_none, errW_some] <;> rfl), by repeat (first | (with_reducible first | exact HB.out | apply bA_ | apply bN_ | apply bD_ | refine bS_ ?_ GE229.out | refine bS_ ?_ GE230.out | refine bS_ ?_ GE240.out) | exact HB.out)⟩
 ·rw [if_neg c7] at H
  have c7b0 : (t246 == 0) = false := beq_eq_false_iff_ne.mpr c7
  have c7b1 : (t246 != 0) = true := bne_iff_ne.mpr c7
  replace H := Option.bind_eq_some_iff.mp H
  obtain ⟨t247, A760, H⟩ := H
  replace H : (some t247) = some r := H
  have A76 := Aside0.mk A760
  clear A760
  obtain rfl := Option.some.inj H
  go_enter Try.func4, Try.ntmps4
  try go_wp2_with (first | ((with_reducible refine gate_dst (N := 3) rfl ?_); (try (refine gate_guard (by rfl) ?_; dsimp only)); refine box_event ?hg (N := 3) ?hd (cs := #[.int .i64 a0_0, .int .u64 a0_1, .int .u64 a0_2, .int .i64 a0_3, .int .i64 a0_4, .int .i64 a0_5, .int .i64 a0_6, .int .i64 a0_7, .int .i64 a0_8]) (t := 26) ?hr ?_; (case hd => rfl); (case hg => rfl); (case hr => first | (go_simp; done) | (go_simp; rfl)); intro gb229 hg w77 hbox hb; have n0_ := Aside0.mk (below_step (by repeat (first | (with_reducible first | exact HB.out | apply bA_ | apply bN_ | apply bD_) | exact HB.out)) hb); have n1_ := Aside0.mk (hbox); have n2_ := Aside0.mk ((by rw [hg]; exact (below_size (by repeat (first | (with_reducible first | exact HB.out | apply bA_ | apply bN_ | apply bD_) | exact HB.out))) : w.heap.size ≤ gb229)); have n3_ := Aside0.mk ((by rw [hg]; exact (below_size (by repeat (first | (with_reducible first | exact HB.out | apply bA_ | apply bN_ | apply bD_) | exact HB.out))) : w.heap.size ≤ gb229)); clear HB; have HB := n0_; have BK229 := n1_; have GW229 := n2_; have GE229 := n3_; clear n0_ n1_ n2_ n3_; clear hb hbox hg) | ((with_reducible refine gate_dst (N := 4) rfl ?_); (try (refine gate_guard (by rfl) ?_; dsimp only)); refine box_event ?hg (N := 4) ?hd (cs := #[.int .i64 a1_0, .int .u64 a1_1, .string a1_2, .int .i64 a1_3]) (t := 38) ?hr ?_; (case hd => rfl); (case hg => rfl); (case hr => first | (go_simp; done) | (go_simp; rfl)); intro gb230 hg w78 hbox hb; have n0_ := Aside0.mk (blk_below (g := gb229) (o := .cells #[.int .i64 a0_0, .int .u64 a0_1, .int .u64 a0_2, .int .i64 a0_3, .int .i64 a0_4, .int .i64 a0_5, .int .i64 a0_6, .int .i64 a0_7, .int .i64 a0_8] 26 (0, 0)) (by (with_reducible repeat (first | refine kN_ ?_ _ | refine kD_ ?_ | refine kA_ ?_ _)); exact BK229.out) hb); have n1_ := Aside0.mk (below_step (by repeat (first | (with_reducible first | exact HB.out | apply bA_ | apply bN_ | apply bD_ | refine bS_ ?_ GE229.out) | exact HB.out)) hb); have n2_ := Aside0.mk (hbox); have n3_ := Aside0.mk ((by rw [hg]; exact (below_size (by repeat (first | (with_reducible first | exact HB.out | apply bA_ | apply bN_ | apply bD_ | refine bS_ ?_ GE229.out) | exact HB.out))) : w.heap.size ≤ gb230)); have n4_ := Aside0.mk ((by rw [hg]; exact (below_size (by repeat (first | (with_reducible first | exact HB.out | apply bA_ | apply bN_ | apply bD_ | refine bS_ ?_ GE229.out) | exact HB.out))) : w.heap.size ≤ gb230)); have n5_ := Aside0.mk ((by rw [hg]; exact Nat.ne_of_lt (blk_lt (g := gb229) (o := .cells #[.int .i64 a0_0, .int .u64 a0_1, .int .u64 a0_2, .int .i64 a0_3, .int .i64 a0_4, .int .i64 a0_5, .int .i64 a0_6, .int .i64 a0_7, .int .i64 a0_8] 26 (0, 0)) (by (with_reducible repeat (first | refine kN_ ?_ _ | refine kD_ ?_ | refine kA_ ?_ _)); exact BK229.out)) : gb229 ≠ gb230)); have n6_ := Aside0.mk ((by rw [hg]; exact Nat.ne_of_gt (blk_lt (g := gb229) (o := .cells #[.int .i64 a0_0, .int .u64 a0_1, .int .u64 a0_2, .int .i64 a0_3, .int .i64 a0_4, .int .i64 a0_5, .int .i64 a0_6, .int .i64 a0_7, .int .i64 a0_8] 26 (0, 0)) (by (with_reducible repeat (first | refine kN_ ?_ _ | refine kD_ ?_ | refine kA_ ?_ _)); exact BK229.out)) : gb230 ≠ gb229)); clear BK229; clear HB; have BK229 := n0_; have HB := n1_; have BK230 := n2_; have GW230 := n3_; have GE230 := n4_; have NB229_230 := n5_; have NB230_229 := n6_; clear n0_ n1_ n2_ n3_ n4_ n5_ n6_; clear hb hbox hg; have hnb79 := NB229_230.out; have hnc79 := NB230_229.out; obtain ⟨hcz80_0, hcz80_1, hcz80_2, hcz80_3, hcz80_4, hcz80_5, hcz80_6, hcz80_7, hcz80_8⟩ := cells9_ BK229.out; obtain ⟨hfz80_0, hfz80_1, hfz80_2, hfz80_3, hfz80_4, hfz80_5, hfz80_6, hfz80_7, hfz80_8⟩ := froz9_ BK229.out) | ((with_reducible refine gate_callee (f := 15) rfl ?_); refine goesL_ (some 17) rfl rfl Try.func15 (by kernel_rfl) rfl #[.agg #[.int .i64 a0_0, .int .u64 a0_1, .int .u64 a0_2, .int .i64 a0_3, .int .i64 a0_4, .int .i64 a0_5, .int .i64 a0_6, .int .i64 a0_7, .int .i64 a0_8]] rfl (by (try simp only [List.map_toArray, List.map_cons, List.map_nil]); first | done | rfl | (simp only [List.length_drop, List.length_take]; rfl)) ?_; (with_reducible refine (platformfwlaw11_spec.calls k a0_0 a0_1 a0_2 a0_3 a0_4 a0_5 a0_6 a0_7 a0_8 t231 t232 t233 t234 t235 t236 t237 t238 t239 _ A4.out).mono ?_); rintro e w81 ⟨rfl, hb⟩; refine ⟨_, rfl, ?_⟩; have n0_ := Aside0.mk (blk_below (g := gb229) (o := .cells #[.int .i64 a0_0, .int .u64 a0_1, .int .u64 a0_2, .int .i64 a0_3, .int .i64 a0_4, .int .i64 a0_5, .int .i64 a0_6, .int .i64 a0_7, .int .i64 a0_8] 26 (0, 0)) (by (with_reducible repeat (first | refine kN_ ?_ _ | refine kD_ ?_ | refine kA_ ?_ _)); exact BK229.out) hb); have n1_ := Aside0.mk (blk_below (g := gb230) (o := .cells #[.int .i64 a1_0, .int .u64 a1_1, .string a1_2, .int .i64 a1_3] 38 (0, 0)) (by (with_reducible repeat (first | refine kN_ ?_ _ | refine kD_ ?_ | refine kA_ ?_ _)); exact BK230.out) hb); have n2_ := Aside0.mk (below_step (by repeat (first | (with_reducible first | exact HB.out | apply bA_ | apply bN_ | apply bD_ | refine bS_ ?_ GE229.out | refine bS_ ?_ GE230.out) | exact HB.out)) hb); clear BK229; clear BK230; clear HB; have BK229 := n0_; have BK230 := n1_; have HB := n2_; clear n0_ n1_ n2_; (try clear hb); (try clear hb2); (try clear hk); (try clear hi)) | ((with_reducible refine gate_dst (N := 7) rfl ?_); (try (refine gate_guard (by rfl) ?_; dsimp only)); refine box_event ?hg (N := 7) ?hd (cs := #[.int .i64 0, .int .u64 0, .int .u64 0, .int .i64 0, .int .i64 0, .int .i64 0, .int .i64 0, .int .i64 0, .int .i64 0]) (t := 26) ?hr ?_; (case hd => rfl); (case hg => rfl); (case hr => first | (go_simp; done) | (go_simp; rfl)); intro gb240 hg w82 hbox hb; have n0_ := Aside0.mk (blk_below (g := gb229) (o := .cells #[.int .i64 a0_0, .int .u64 a0_1, .int .u64 a0_2, .int .i64 a0_3, .int .i64 a0_4, .int .i64 a0_5, .int .i64 a0_6, .int .i64 a0_7, .int .i64 a0_8] 26 (0, 0)) (by (with_reducible repeat (first | refine kN_ ?_ _ | refine kD_ ?_ | refine kA_ ?_ _)); exact BK229.out) hb); have n1_ := Aside0.mk (blk_below (g := gb230) (o := .cells #[.int .i64 a1_0, .int .u64 a1_1, .string a1_2, .int .i64 a1_3] 38 (0, 0)) (by (with_reducible repeat (first | refine kN_ ?_ _ | refine kD_ ?_ | refine kA_ ?_ _)); exact BK230.out) hb); have n2_ := Aside0.mk (below_step (by repeat (first | (with_reducible first | exact HB.out | apply bA_ | apply bN_ | apply bD_ | refine bS_ ?_ GE229.out | refine bS_ ?_ GE230.out) | exact HB.out)) hb); have n3_ := Aside0.mk (hbox); have n4_ := Aside0.mk ((by rw [hg]; exact (below_size (by repeat (first | (with_reducible first | exact HB.out | apply bA_ | apply bN_ | apply bD_ | refine bS_ ?_ GE229.out | refine bS_ ?_ GE230.out) | exact HB.out))) : w.heap.size ≤ gb240)); have n5_ := Aside0.mk ((by rw [hg]; exact (below_size (by repeat (first | (with_reducible first | exact HB.out | apply bA_ | apply bN_ | apply bD_ | refine bS_ ?_ GE229.out | refine bS_ ?_ GE230.out) | exact HB.out))) : w.heap.size ≤ gb240)); have n6_ := Aside0.mk ((by rw [hg]; exact Nat.ne_of_lt (blk_lt (g := gb229) (o := .cells #[.int .i64 a0_0, .int .u64 a0_1, .int .u64 a0_2, .int .i64 a0_3, .int .i64 a0_4, .int .i64 a0_5, .int .i64 a0_6, .int .i64 a0_7, .int .i64 a0_8] 26 (0, 0)) (by (with_reducible repeat (first | refine kN_ ?_ _ | refine kD_ ?_ | refine kA_ ?_ _)); exact BK229.out)) : gb229 ≠ gb240)); have n7_ := Aside0.mk ((by rw [hg]; exact Nat.ne_of_gt (blk_lt (g := gb229) (o := .cells #[.int .i64 a0_0, .int .u64 a0_1, .int .u64 a0_2, .int .i64 a0_3, .int .i64 a0_4, .int .i64 a0_5, .int .i64 a0_6, .int .i64 a0_7, .int .i64 a0_8] 26 (0, 0)) (by (with_reducible repeat (first | refine kN_ ?_ _ | refine kD_ ?_ | refine kA_ ?_ _)); exact BK229.out)) : gb240 ≠ gb229)); have n8_ := Aside0.mk ((by rw [hg]; exact Nat.ne_of_lt (blk_lt (g := gb230) (o := .cells #[.int .i64 a1_0, .int .u64 a1_1, .string a1_2, .int .i64 a1_3] 38 (0, 0)) (by (with_reducible repeat (first | refine kN_ ?_ _ | refine kD_ ?_ | refine kA_ ?_ _)); exact BK230.out)) : gb230 ≠ gb240)); have n9_ := Aside0.mk ((by rw [hg]; exact Nat.ne_of_gt (blk_lt (g := gb230) (o := .cells #[.int .i64 a1_0, .int .u64 a1_1, .string a1_2, .int .i64 a1_3] 38 (0, 0)) (by (with_reducible repeat (first | refine kN_ ?_ _ | refine kD_ ?_ | refine kA_ ?_ _)); exact BK230.out)) : gb240 ≠ gb230)); clear BK229; clear BK230; clear HB; have BK229 := n0_; have BK230 := n1_; have HB := n2_; have BK240 := n3_; have GW240 := n4_; have GE240 := n5_; have NB229_240 := n6_; have NB240_229 := n7_; have NB230_240 := n8_; have NB240_230 := n9_; clear n0_ n1_ n2_ n3_ n4_ n5_ n6_ n7_ n8_ n9_; clear hb hbox hg; have hnb83 := NB240_229.out; have hnc83 := NB229_240.out; have hnb84 := NB240_230.out; have hnc84 := NB230_240.out; obtain ⟨hcz85_0, hcz85_1, hcz85_2, hcz85_3, hcz85_4, hcz85_5, hcz85_6, hcz85_7, hcz85_8⟩ := cells9_ BK240.out; obtain ⟨hfz85_0, hfz85_1, hfz85_2, hfz85_3, hfz85_4, hfz85_5, hfz85_6, hfz85_7, hfz85_8⟩ := froz9_ BK240.out))
  have n0_ : Aside0 ((((((((((w82.setCell ⟨gb240, 0, none⟩ (.int .i64 t231)).setCell ⟨gb240, 1, none⟩ (.int .u64 t232)).setCell ⟨gb240, 2, none⟩ (.int .u64 t233)).setCell ⟨gb240, 3, none⟩ (.int .i64 t234)).setCell ⟨gb240, 4, none⟩ (.int .i64 t235)).setCell ⟨gb240, 5, none⟩ (.int .i64 t236)).setCell ⟨gb240, 6, none⟩ (.int .i64 t237)).setCell ⟨gb240, 7, none⟩ (.int .i64 t238)).setCell ⟨gb240, 8, none⟩ (.int .i64 t239)).heap[gb229]? = some (.cells #[.int .i64 a0_0, .int .u64 a0_1, .int .u64 a0_2, .int .i64 a0_3, .int .i64 a0_4, .int .i64 a0_5, .int .i64 a0_6, .int .i64 a0_7, .int .i64 a0_8] 26 (0, 0))) := ⟨by (with_reducible repeat (first | refine kN_ ?_ _ | refine kD_ ?_ | refine kA_ ?_ _)); refine blk_far ?_ NB229_240.out _; (with_reducible repeat (first | refine kN_ ?_ _ | refine kD_ ?_ | refine kA_ ?_ _)); refine blk_far ?_ NB229_240.out _; (with_reducible repeat (first | refine kN_ ?_ _ | refine kD_ ?_ | refine kA_ ?_ _)); refine blk_far ?_ NB229_240.out _; (with_reducible repeat (first | refine kN_ ?_ _ | refine kD_ ?_ | refine kA_ ?_ _)); refine blk_far ?_ NB229_240.out _; (with_reducible repeat (first | refine kN_ ?_ _ | refine kD_ ?_ | refine kA_ ?_ _)); refine blk_far ?_ NB229_240.out _; (with_reducible repeat (first | refine kN_ ?_ _ | refine kD_ ?_ | refine kA_ ?_ _)); refine blk_far ?_ NB229_240.out _; (with_reducible repeat (first | refine kN_ ?_ _ | refine kD_ ?_ | refine kA_ ?_ _)); refine blk_far ?_ NB229_240.out _; (with_reducible repeat (first | refine kN_ ?_ _ | refine kD_ ?_ | refine kA_ ?_ _)); refine blk_far ?_ NB229_240.out _; (with_reducible repeat (first | refine kN_ ?_ _ | refine kD_ ?_ | refine kA_ ?_ _)); refine blk_far ?_ NB229_240.out _; (with_reducible repeat (first | refine kN_ ?_ _ | refine kD_ ?_ | refine kA_ ?_ _)); exact BK229.out⟩
  have n1_ : Aside0 ((((((((((w82.setCell ⟨gb240, 0, none⟩ (.int .i64 t231)).setCell ⟨gb240, 1, none⟩ (.int .u64 t232)).setCell ⟨gb240, 2, none⟩ (.int .u64 t233)).setCell ⟨gb240, 3, none⟩ (.int .i64 t234)).setCell ⟨gb240, 4, none⟩ (.int .i64 t235)).setCell ⟨gb240, 5, none⟩ (.int .i64 t236)).setCell ⟨gb240, 6, none⟩ (.int .i64 t237)).setCell ⟨gb240, 7, none⟩ (.int .i64 t238)).setCell ⟨gb240, 8, none⟩ (.int .i64 t239)).heap[gb230]? = some (.cells #[.int .i64 a1_0, .int .u64 a1_1, .string a1_2, .int .i64 a1_3] 38 (0, 0))) := ⟨by (with_reducible repeat (first | refine kN_ ?_ _ | refine kD_ ?_ | refine kA_ ?_ _)); refine blk_far ?_ NB230_240.out _; (with_reducible repeat (first | refine kN_ ?_ _ | refine kD_ ?_ | refine kA_ ?_ _)); refine blk_far ?_ NB230_240.out _; (with_reducible repeat (first | refine kN_ ?_ _ | refine kD_ ?_ | refine kA_ ?_ _)); refine blk_far ?_ NB230_240.out _; (with_reducible repeat (first | refine kN_ ?_ _ | refine kD_ ?_ | refine kA_ ?_ _)); refine blk_far ?_ NB230_240.out _; (with_reducible repeat (first | refine kN_ ?_ _ | refine kD_ ?_ | refine kA_ ?_ _)); refine blk_far ?_ NB230_240.out _; (with_reducible repeat (first | refine kN_ ?_ _ | refine kD_ ?_ | refine kA_ ?_ _)); refine blk_far ?_ NB230_240.out _; (with_reducible repeat (first | refine kN_ ?_ _ | refine kD_ ?_ | refine kA_ ?_ _)); refine blk_far ?_ NB230_240.out _; (with_reducible repeat (first | refine kN_ ?_ _ | refine kD_ ?_ | refine kA_ ?_ _)); refine blk_far ?_ NB230_240.out _; (with_reducible repeat (first | refine kN_ ?_ _ | refine kD_ ?_ | refine kA_ ?_ _)); refine blk_far ?_ NB230_240.out _; (with_reducible repeat (first | refine kN_ ?_ _ | refine kD_ ?_ | refine kA_ ?_ _)); exact BK230.out⟩
  have n2_ : Aside0 ((((((((((w82.setCell ⟨gb240, 0, none⟩ (.int .i64 t231)).setCell ⟨gb240, 1, none⟩ (.int .u64 t232)).setCell ⟨gb240, 2, none⟩ (.int .u64 t233)).setCell ⟨gb240, 3, none⟩ (.int .i64 t234)).setCell ⟨gb240, 4, none⟩ (.int .i64 t235)).setCell ⟨gb240, 5, none⟩ (.int .i64 t236)).setCell ⟨gb240, 6, none⟩ (.int .i64 t237)).setCell ⟨gb240, 7, none⟩ (.int .i64 t238)).setCell ⟨gb240, 8, none⟩ (.int .i64 t239)).heap[gb240]? = some (.cells #[.int .i64 t231, .int .u64 t232, .int .u64 t233, .int .i64 t234, .int .i64 t235, .int .i64 t236, .int .i64 t237, .int .i64 t238, .int .i64 t239] 26 (0, 0))) := ⟨by (with_reducible repeat (first | refine kN_ ?_ _ | refine kD_ ?_ | refine kA_ ?_ _)); refine blk_put (cs := #[.int .i64 t231, .int .u64 t232, .int .u64 t233, .int .i64 t234, .int .i64 t235, .int .i64 t236, .int .i64 t237, .int .i64 t238, .int .i64 0]) ?_ 8 _ rfl; (with_reducible repeat (first | refine kN_ ?_ _ | refine kD_ ?_ | refine kA_ ?_ _)); refine blk_put (cs := #[.int .i64 t231, .int .u64 t232, .int .u64 t233, .int .i64 t234, .int .i64 t235, .int .i64 t236, .int .i64 t237, .int .i64 0, .int .i64 0]) ?_ 7 _ rfl; (with_reducible repeat (first | refine kN_ ?_ _ | refine kD_ ?_ | refine kA_ ?_ _)); refine blk_put (cs := #[.int .i64 t231, .int .u64 t232, .int .u64 t233, .int .i64 t234, .int .i64 t235, .int .i64 t236, .int .i64 0, .int .i64 0, .int .i64 0]) ?_ 6 _ rfl; (with_reducible repeat (first | refine kN_ ?_ _ | refine kD_ ?_ | refine kA_ ?_ _)); refine blk_put (cs := #[.int .i64 t231, .int .u64 t232, .int .u64 t233, .int .i64 t234, .int .i64 t235, .int .i64 0, .int .i64 0, .int .i64 0, .int .i64 0]) ?_ 5 _ rfl; (with_reducible repeat (first | refine kN_ ?_ _ | refine kD_ ?_ | refine kA_ ?_ _)); refine blk_put (cs := #[.int .i64 t231, .int .u64 t232, .int .u64 t233, .int .i64 t234, .int .i64 0, .int .i64 0, .int .i64 0, .int .i64 0, .int .i64 0]) ?_ 4 _ rfl; (with_reducible repeat (first | refine kN_ ?_ _ | refine kD_ ?_ | refine kA_ ?_ _)); refine blk_put (cs := #[.int .i64 t231, .int .u64 t232, .int .u64 t233, .int .i64 0, .int .i64 0, .int .i64 0, .int .i64 0, .int .i64 0, .int .i64 0]) ?_ 3 _ rfl; (with_reducible repeat (first | refine kN_ ?_ _ | refine kD_ ?_ | refine kA_ ?_ _)); refine blk_put (cs := #[.int .i64 t231, .int .u64 t232, .int .u64 0, .int .i64 0, .int .i64 0, .int .i64 0, .int .i64 0, .int .i64 0, .int .i64 0]) ?_ 2 _ rfl; (with_reducible repeat (first | refine kN_ ?_ _ | refine kD_ ?_ | refine kA_ ?_ _)); refine blk_put (cs := #[.int .i64 t231, .int .u64 0, .int .u64 0, .int .i64 0, .int .i64 0, .int .i64 0, .int .i64 0, .int .i64 0, .int .i64 0]) ?_ 1 _ rfl; (with_reducible repeat (first | refine kN_ ?_ _ | refine kD_ ?_ | refine kA_ ?_ _)); refine blk_put (cs := #[.int .i64 0, .int .u64 0, .int .u64 0, .int .i64 0, .int .i64 0, .int .i64 0, .int .i64 0, .int .i64 0, .int .i64 0]) ?_ 0 _ rfl; (with_reducible repeat (first | refine kN_ ?_ _ | refine kD_ ?_ | refine kA_ ?_ _)); exact BK240.out⟩
  have n3_ : Aside0 (Below w.heap.size w (((((((((w82.setCell ⟨gb240, 0, none⟩ (.int .i64 t231)).setCell ⟨gb240, 1, none⟩ (.int .u64 t232)).setCell ⟨gb240, 2, none⟩ (.int .u64 t233)).setCell ⟨gb240, 3, none⟩ (.int .i64 t234)).setCell ⟨gb240, 4, none⟩ (.int .i64 t235)).setCell ⟨gb240, 5, none⟩ (.int .i64 t236)).setCell ⟨gb240, 6, none⟩ (.int .i64 t237)).setCell ⟨gb240, 7, none⟩ (.int .i64 t238)).setCell ⟨gb240, 8, none⟩ (.int .i64 t239))) := ⟨by repeat (first | (with_reducible first | exact HB.out | apply bA_ | apply bN_ | apply bD_ | refine bS_ ?_ GE229.out | refine bS_ ?_ GE230.out | refine bS_ ?_ GE240.out) | exact HB.out)⟩
  (try clear BK229)
  (try clear BK230)
  (try clear BK240)
  (try clear HB)
  generalize (((((((((w82.setCell ⟨gb240, 0, none⟩ (.int .i64 t231)).setCell ⟨gb240, 1, none⟩ (.int .u64 t232)).setCell ⟨gb240, 2, none⟩ (.int .u64 t233)).setCell ⟨gb240, 3, none⟩ (.int .i64 t234)).setCell ⟨gb240, 4, none⟩ (.int .i64 t235)).setCell ⟨gb240, 5, none⟩ (.int .i64 t236)).setCell ⟨gb240, 6, none⟩ (.int .i64 t237)).setCell ⟨gb240, 7, none⟩ (.int .i64 t238)).setCell ⟨gb240, 8, none⟩ (.int .i64 t239)) = w86 at n0_ n1_ n2_ n3_ ⊢
  have BK229 := n0_
  have BK230 := n1_
  have BK240 := n2_
  have HB := n3_
  clear n0_ n1_ n2_ n3_
  have n0_ := Aside0.mk (kD_ BK229.out)
  have n1_ := Aside0.mk (kD_ BK230.out)
  have n2_ := Aside0.mk (kD_ BK240.out)
  have n3_ := Aside0.mk (bD_ HB.out)
  clear BK229
  clear BK230
  clear BK240
  clear HB
  have BK229 := n0_
  have BK230 := n1_
  have BK240 := n2_
  have HB := n3_
  clear n0_ n1_ n2_ n3_
  refine start_ (n := 10) (S := fun w' => w'.cell? ⟨gb240, 0, none⟩ = some (.int .i64 t231) ∧ w'.cell? ⟨gb240, 1, none⟩ = some (.int .u64 t232) ∧ w'.cell? ⟨gb240, 2, none⟩ = some (.int .u64 t233) ∧ w'.cell? ⟨gb240, 3, none⟩ = some (.int .i64 t234) ∧ w'.cell? ⟨gb240, 4, none⟩ = some (.int .i64 t235) ∧ w'.cell? ⟨gb240, 5, none⟩ = some (.int .i64 t236) ∧ w'.cell? ⟨gb240, 6, none⟩ = some (.int .i64 t237) ∧ w'.cell? ⟨gb240, 7, none⟩ = some (.int .i64 t238) ∧ w'.cell? ⟨gb240, 8, none⟩ = some (.int .i64 t239) ∧ w'.cell? ⟨gb230, 0, none⟩ = some (.int .i64 a1_0) ∧ w'.cell? ⟨gb230, 1, none⟩ = some (.int .u64 a1_1) ∧ w'.cell? ⟨gb230, 2, none⟩ = some (.string a1_2) ∧ w'.cell? ⟨gb230, 3, none⟩ = some (.int .i64 a1_3)) (ds := []) #[false, false, false, false, false, false, false, false, false, false] (by kernel_rfl) rfl rfl ⟨(blk_cell BK240.out 0).trans rfl, (blk_cell BK240.out 1).trans rfl, (blk_cell BK240.out 2).trans rfl, (blk_cell BK240.out 3).trans rfl, (blk_cell BK240.out 4).trans rfl, (blk_cell BK240.out 5).trans rfl, (blk_cell BK240.out 6).trans rfl, (blk_cell BK240.out 7).trans rfl, (blk_cell BK240.out 8).trans rfl, (blk_cell BK230.out 0).trans rfl, (blk_cell BK230.out 1).trans rfl, (blk_cell BK230.out 2).trans rfl, (blk_cell BK230.out 3).trans rfl⟩ (fun hHeld => ?_); refine with_tabW platformfwlaw11_FieldRoundTrip.tab2 platformfwlaw11_FieldRoundTrip.bits2 (fun HT_ HW_ => ?_)
  generalize w86.drew = w87 at BK229 BK230 BK240 HB hHeld ⊢
  refine pure_ (i := 1) (N := some 20) (v := ?_) (a' := ?_) (tf 10 2) rfl rfl (any_of HT_.out (by kernel_rfl)) (fun _ _ _ h => h) (Or.inl ⟨by rfl, ?_⟩) ?_ ?_
  rotate_left
  ·intro w'
   go_simp
   with_reducible rfl
  rotate_left
  ·simp only [Act.put, sA_, sB_, sC_, i64_w, i32_w]
   rfl
  refine take_ (i := 0) (N := some 19) (v := ?_) (a' := ?_) (tf 10 3) rfl rfl (take_ofW HT_.out HW_.out (by kernel_rfl)) (fun _ _ _ h => h) (Or.inl ⟨by rfl, ?_⟩) hHeld ?_ ?_
  rotate_left
  ·rintro w' ⟨s0, s1, s2, s3, s4, s5, s6, s7, s8, s9, s10, s11, s12⟩
   go_simp
   with_reducible rfl
  rotate_left
  ·simp only [Act.put, sA_, sB_, sC_, i64_w, i32_w]
   rfl
  refine take_ (i := 2) (N := some 21) (v := ?_) (a' := ?_) (tf 10 7) rfl rfl (take_ofW HT_.out HW_.out (by kernel_rfl)) (fun _ _ _ h => h) (Or.inl ⟨by rfl, ?_⟩) hHeld ?_ ?_
  rotate_left
  ·rintro w' ⟨s0, s1, s2, s3, s4, s5, s6, s7, s8, s9, s10, s11, s12⟩
   go_simp
   with_reducible rfl
  rotate_left
  ·simp only [Act.put, sA_, sB_, sC_, i64_w, i32_w]
   rfl
  refine one_ (i := 3) (N := some 22) (tf 10 15) rfl rfl (one_of HT_.out (by kernel_rfl)) (by decide) (fun K hK => ?_)
  refine goes_ Try.func25 (by kernel_rfl) rfl #[.int .u64 a1_1] (by rfl) rfl rfl (by (try simp only [List.map_toArray, List.map_cons, List.map_nil]); first | done | rfl | (simp only [List.length_drop, List.length_take]; rfl)) ?_
  with_reducible refine (platformfwref08_Number.calls a1_1 t241 t242 t243 t244 _ A5.out).mono ?_
  rintro e w88 ⟨rfl, hb⟩
  refine ⟨_, rfl, ?_⟩
  have n0_ := Aside0.mk (blk_below (g := gb229) (o := .cells #[.int .i64 a0_0, .int .u64 a0_1, .int .u64 a0_2, .int .i64 a0_3, .int .i64 a0_4, .int .i64 a0_5, .int .i64 a0_6, .int .i64 a0_7, .int .i64 a0_8] 26 (0, 0)) (by (with_reducible repeat (first | refine kN_ ?_ _ | refine kD_ ?_ | refine kA_ ?_ _)); exact BK229.out) hb)
  have n1_ := Aside0.mk (blk_below (g := gb230) (o := .cells #[.int .i64 a1_0, .int .u64 a1_1, .string a1_2, .int .i64 a1_3] 38 (0, 0)) (by (with_reducible repeat (first | refine kN_ ?_ _ | refine kD_ ?_ | refine kA_ ?_ _)); exact BK230.out) hb)
  have n2_ := Aside0.mk (blk_below (g := gb240) (o := .cells #[.int .i64 t231, .int .u64 t232, .int .u64 t233, .int .i64 t234, .int .i64 t235, .int .i64 t236, .int .i64 t237, .int .i64 t238, .int .i64 t239] 26 (0, 0)) (by (with_reducible repeat (first | refine kN_ ?_ _ | refine kD_ ?_ | refine kA_ ?_ _)); exact BK240.out) hb)
  have n3_ := Aside0.mk (below_step (by repeat (first | (with_reducible first | exact HB.out | apply bA_ | apply bN_ | apply bD_ | refine bS_ ?_ GE229.out | refine bS_ ?_ GE230.out | refine bS_ ?_ GE240.out) | exact HB.out)) hb)
  clear BK229
  clear BK230
  clear BK240
  clear HB
  have BK229 := n0_
  have BK230 := n1_
  have BK240 := n2_
  have HB := n3_
  clear n0_ n1_ n2_ n3_
  (try clear hb)
  (try clear hb2)
  (try clear hk)
  (try clear hi)
  refine hK.out _ _ ⟨(blk_cell BK240.out 0).trans rfl, (blk_cell BK240.out 1).trans rfl, (blk_cell BK240.out 2).trans rfl, (blk_cell BK240.out 3).trans rfl, (blk_cell BK240.out 4).trans rfl, (blk_cell BK240.out 5).trans rfl, (blk_cell BK240.out 6).trans rfl, (blk_cell BK240.out 7).trans rfl, (blk_cell BK240.out 8).trans rfl, (blk_cell BK230.out 0).trans rfl, (blk_cell BK230.out 1).trans rfl, (blk_cell BK230.out 2).trans rfl, (blk_cell BK230.out 3).trans rfl⟩ (fun hHeld => ?_)
  clear hK K
  refine norm_ (a' := ?_) ?_ ?_
  rotate_left
  ·show Act.put _ (some 22) _ = _
   simp only [Act.put, sA_, sB_, sC_, i64_w, i32_w]
   rfl
  refine one_ (i := 4) (N := some 23) (tf 10 31) rfl rfl (one_of HT_.out (by kernel_rfl)) (by decide) (fun K hK => ?_)
  refine goes_ Try.func24 (by kernel_rfl) rfl #[.agg #[.int .i64 t231, .int .u64 t232, .int .u64 t233, .int .i64 t234, .int .i64 t235, .int .i64 t236, .int .i64 t237, .int .i64 t238, .int .i64 t239], .agg #[.int .i64 t241, .int .u64 t242, .string t243, .int .i64 t244]] (by rfl) rfl rfl (by (try simp only [List.map_toArray, List.map_cons, List.map_nil]); first | done | rfl | (simp only [List.length_drop, List.length_take]; rfl)) ?_
  with_reducible refine (platformfwref09_FromValue.calls k t231 t232 t233 t234 t235 t236 t237 t238 t239 t241 t242 t243 t244 t245 t246 _ A6.out).mono ?_
  rintro e w89 ⟨rfl, hb⟩
  refine ⟨_, rfl, ?_⟩
  have n0_ := Aside0.mk (blk_below (g := gb229) (o := .cells #[.int .i64 a0_0, .int .u64 a0_1, .int .u64 a0_2, .int .i64 a0_3, .int .i64 a0_4, .int .i64 a0_5, .int .i64 a0_6, .int .i64 a0_7, .int .i64 a0_8] 26 (0, 0)) (by (with_reducible repeat (first | refine kN_ ?_ _ | refine kD_ ?_ | refine kA_ ?_ _)); exact BK229.out) hb)
  have n1_ := Aside0.mk (blk_below (g := gb230) (o := .cells #[.int .i64 a1_0, .int .u64 a1_1, .string a1_2, .int .i64 a1_3] 38 (0, 0)) (by (with_reducible repeat (first | refine kN_ ?_ _ | refine kD_ ?_ | refine kA_ ?_ _)); exact BK230.out) hb)
  have n2_ := Aside0.mk (blk_below (g := gb240) (o := .cells #[.int .i64 t231, .int .u64 t232, .int .u64 t233, .int .i64 t234, .int .i64 t235, .int .i64 t236, .int .i64 t237, .int .i64 t238, .int .i64 t239] 26 (0, 0)) (by (with_reducible repeat (first | refine kN_ ?_ _ | refine kD_ ?_ | refine kA_ ?_ _)); exact BK240.out) hb)
  have n3_ := Aside0.mk (below_step (by repeat (first | (with_reducible first | exact HB.out | apply bA_ | apply bN_ | apply bD_ | refine bS_ ?_ GE229.out | refine bS_ ?_ GE230.out | refine bS_ ?_ GE240.out) | exact HB.out)) hb)
  clear BK229
  clear BK230
  clear BK240
  clear HB
  have BK229 := n0_
  have BK230 := n1_
  have BK240 := n2_
  have HB := n3_
  clear n0_ n1_ n2_ n3_
  (try clear hb)
  (try clear hb2)
  (try clear hk)
  (try clear hi)
  refine hK.out _ _ ⟨(blk_cell BK240.out 0).trans rfl, (blk_cell BK240.out 1).trans rfl, (blk_cell BK240.out 2).trans rfl, (blk_cell BK240.out 3).trans rfl, (blk_cell BK240.out 4).trans rfl, (blk_cell BK240.out 5).trans rfl, (blk_cell BK240.out 6).trans rfl, (blk_cell BK240.out 7).trans rfl, (blk_cell BK240.out 8).trans rfl, (blk_cell BK230.out 0).trans rfl, (blk_cell BK230.out 1).trans rfl, (blk_cell BK230.out 2).trans rfl, (blk_cell BK230.out 3).trans rfl⟩ (fun hHeld => ?_)
  clear hK K
  refine norm_ (a' := ?_) ?_ ?_
  rotate_left
  ·show Act.put _ (some 23) _ = _
   simp only [Act.put, sA_, sB_, sC_, i64_w, i32_w]
   rfl
  refine pure_ (i := 5) (N := some 18) (v := ?_) (a' := ?_) (tf 10 63) rfl rfl (any_of HT_.out (by kernel_rfl)) (fun _ _ _ h => h) (Or.inl ⟨by rfl, ?_⟩) ?_ ?_
  rotate_left
  ·intro w'
   go_simp
   with_reducible rfl
  rotate_left
  ·simp only [Act.put, sA_, sB_, sC_, i64_w, i32_w]
   rfl
  refine pure_ (i := 6) (N := some 24) (v := ?_) (a' := ?_) (tf 10 127) rfl rfl (any_of HT_.out (by kernel_rfl)) (fun _ _ _ h => h) (Or.inl ⟨by rfl, ?_⟩) ?_ ?_
  rotate_left
  ·intro w'
   go_simp
   with_reducible rfl
  rotate_left
  ·simp only [Act.put, sA_, sB_, sC_, i64_w, i32_w]
   rfl
  refine pure_ (i := 7) (N := some 25) (v := ?_) (a' := ?_) (tf 10 255) rfl rfl (any_of HT_.out (by kernel_rfl)) (fun _ _ _ h => h) (Or.inl ⟨by rfl, ?_⟩) ?_ ?_
  rotate_left
  ·intro w'
   go_simp
   with_reducible rfl
  rotate_left
  ·simp only [Act.put, sA_, sB_, sC_, i64_w, i32_w]
   rfl
  refine pure_ (i := 8) (N := some 8) (v := ?_) (a' := ?_) (tf 10 511) rfl rfl (any_of HT_.out (by kernel_rfl)) (fun _ _ _ h => h) (Or.inl ⟨by rfl, ?_⟩) ?_ ?_
  rotate_left
  ·intro w'
   go_simp
   with_reducible rfl
  rotate_left
  ·simp only [Act.put, sA_, sB_, sC_, i64_w, i32_w]
   rfl
  refine pure_ (i := 9) (N := some 9) (v := ?_) (a' := ?_) (tf 10 1023) rfl rfl (any_of HT_.out (by kernel_rfl)) (fun _ _ _ h => h) (Or.inl ⟨by rfl, ?_⟩) ?_ ?_
  rotate_left
  ·intro w'
   go_simp
   with_reducible rfl
  rotate_left
  ·simp only [Act.put, sA_, sB_, sC_, i64_w, i32_w]
   rfl
  refine done_ (done_of HT_.out (by kernel_rfl)) ?_
  try go_wp2_with (first | ((with_reducible refine gate_callee (f := 18) rfl ?_); refine goesL_ (some 28) rfl rfl Try.func18 (by kernel_rfl) rfl #[] rfl (by (try simp only [List.map_toArray, List.map_cons, List.map_nil]); first | done | rfl | (simp only [List.length_drop, List.length_take]; rfl)) ?_; (with_reducible refine (platformfwlaw11_awake.calls k  t247 _ A76.out).mono ?_); rintro e w90 ⟨rfl, hb⟩; refine ⟨_, rfl, ?_⟩; have n0_ := Aside0.mk (blk_below (g := gb229) (o := .cells #[.int .i64 a0_0, .int .u64 a0_1, .int .u64 a0_2, .int .i64 a0_3, .int .i64 a0_4, .int .i64 a0_5, .int .i64 a0_6, .int .i64 a0_7, .int .i64 a0_8] 26 (0, 0)) (by (with_reducible repeat (first | refine kN_ ?_ _ | refine kD_ ?_ | refine kA_ ?_ _)); exact BK229.out) hb); have n1_ := Aside0.mk (blk_below (g := gb230) (o := .cells #[.int .i64 a1_0, .int .u64 a1_1, .string a1_2, .int .i64 a1_3] 38 (0, 0)) (by (with_reducible repeat (first | refine kN_ ?_ _ | refine kD_ ?_ | refine kA_ ?_ _)); exact BK230.out) hb); have n2_ := Aside0.mk (blk_below (g := gb240) (o := .cells #[.int .i64 t231, .int .u64 t232, .int .u64 t233, .int .i64 t234, .int .i64 t235, .int .i64 t236, .int .i64 t237, .int .i64 t238, .int .i64 t239] 26 (0, 0)) (by (with_reducible repeat (first | refine kN_ ?_ _ | refine kD_ ?_ | refine kA_ ?_ _)); exact BK240.out) hb); have n3_ := Aside0.mk (below_step (by repeat (first | (with_reducible first | exact HB.out | apply bA_ | apply bN_ | apply bD_ | refine bS_ ?_ GE229.out | refine bS_ ?_ GE230.out | refine bS_ ?_ GE240.out) | exact HB.out)) hb); clear BK229; clear BK230; clear BK240; clear HB; have BK229 := n0_; have BK230 := n1_; have BK240 := n2_; have HB := n3_; clear n0_ n1_ n2_ n3_; (try clear hb); (try clear hb2); (try clear hk); (try clear hi)))
  go_ret
  exact ⟨by first | rfl | (simp [errW_none, errW_some] <;> rfl) | (simp [*, errW_none, errW_some] <;> rfl), by repeat (first | (with_reducible first | exact HB.out | apply bA_ | apply bN_ | apply bD_ | refine bS_ ?_ GE229.out | refine bS_ ?_ GE230.out | refine bS_ ?_ GE240.out) | exact HB.out)⟩

end Go.Proofs.Ytmnmidclaaiffaa.PFieldRoundTrip
