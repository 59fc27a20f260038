-- Written by a program of this session's (wip/print_patch.py over the kit's print) out of the translation; Lean checks it.
import Derived.Test.YtmnmidclaaiffaaPBytecodeDecodesPathsx0
import Derived.Test.YtmnmidclaaiffaaPBytecodeDecodesPathsx1
import Derived.Test.YtmnmidclaaiffaaPBytecodeDecodesPathsx2
import Derived.Test.YtmnmidclaaiffaaPBytecodeDecodesPathsx3
import Derived.Test.YtmnmidclaaiffaaPBytecodeDecodesPathsx4
import Derived.Test.YtmnmidclaaiffaaPBytecodeDecodesPathsx7
import Derived.Test.YtmnmidclaaiffaaPBytecodeDecodesPathsx9
import Derived.Test.YtmnmidclaaiffaaPBytecodeDecodesPathsx10
import Derived.Test.YtmnmidclaaiffaaExtP
namespace Go.Proofs.Ytmnmidclaaiffaa.PBytecodeDecodesPaths
open Go.RowKit Go.Proofs.Ytmnmidclaaiffaa.Ext Go.Proofs.YtmnmidclaaiffaaW.PrintWords Go.Proofs.YtmnmidclaaiffaaW.PrintLast Go.Proofs.YtmnmidclaaiffaaW.PrintMore
attribute [local go_sem] max2_int min2_int max_two min_two max_three min_three max_four min_four   -- for this text's walks alone
set_option linter.unusedVariables false
set_option linter.unusedSimpArgs false

/-! ### platformfwlaw05_BytecodeDecodesPaths: function 12 -/
mutual
def platformfwlaw05_BytecodeDecodesPaths.j1 : Nat → ByteArray → Int → Int → ByteArray → Bool → Int → List ByteArray → Option (Bool)
 | 0, _, _, _, _, _, _, _ => none
 | k + 1, x0, x3, x4, x11, x196000, x196001, x196002 => (platformfwlaw05_path.f k x196000 x196001 x196002).bind fun bt198 => ((platformfwref05_Path.f k bt198.1 bt198.2.1 bt198.2.2).bind fun t203 => ((platformfwhelp_Mod.f x3 (t203.size : Int)).bind fun t204 => (if 0 ≤ t204 then (if t204 ≤ (t203.size : Int) then ((some (([x4] : List Int) : List Int)).bind fun y205 => (if (t203.extract 0 (t204 : Int).toNat).size + (strOfNums y205).size ≤ 9223372036854775807 then (if 0 ≤ (wrap64 (t204 + 1)) then (if (wrap64 (t204 + 1)) ≤ (t203.size : Int) then (if (t203.extract 0 (t204 : Int).toNat).size + (strOfNums y205).size + ((t203.extract ((wrap64 (t204 + 1)) : Int).toNat t203.size).size) ≤ 9223372036854775807 then (platformfwlaw05_BytecodeDecodesPaths.l1 k (([x0, x11, t203.extract 0 (t204 : Int).toNat, ((t203.extract 0 (t204 : Int).toNat) ++ (strOfNums y205)) ++ (t203.extract ((wrap64 (t204 + 1)) : Int).toNat t203.size)] : List ByteArray)) 0) else (none)) else (none)) else (none)) else (none))) else (none)) else (none))))
def platformfwlaw05_BytecodeDecodesPaths.l1 : Nat → List ByteArray → Int → Option (Bool)
 | 0, _, _ => none
 | k + 1, x15, x16 => if x16 < (x15.length : Int) then (if 0 ≤ x16 then ((bytecode_Path.f k (rdOf ByteArray.empty x15 x16)).bind fun bt213 => ((platformfwref05_ReadPath.f k (rdOf ByteArray.empty x15 x16)).bind fun bt222 => ((platformfwlaw05_same.f k bt213.1 bt213.2.1 bt213.2.2.1 bt222.1 bt222.2.1 bt222.2.2.1).bind fun t230 => (if t230 = true then (if bt213.2.2.2.1 = bt222.2.2.2.1 then (if bt213.2.2.2.2 = bt222.2.2.2.2 then (platformfwlaw05_BytecodeDecodesPaths.l1 k x15 (wrap64 (x16 + 1))) else (some false)) else (some false)) else (some false))))) else (none)) else ((platformfwlaw05_awake.f k).bind fun t211 => (some t211))
def platformfwlaw05_BytecodeDecodesPaths.l0 : Nat → ByteArray → List Int → Int → Int → ByteArray → Int → Bool → Int → List ByteArray → Option (Bool)
 | 0, _, _, _, _, _, _, _, _, _ => none
 | k + 1, x0, x1, x3, x4, x11, x12, x196000, x196001, x196002 => if x12 < (x1.length : Int) then (if x12 < 60 then (if 0 ≤ x12 then (if 0 ≤ (Int.tmod (wrap64 (rd x1 x12)) 10) then (if (Int.tmod (wrap64 (rd x1 x12)) 10) ≤ (wrap64 ((Int.tmod (wrap64 (rd x1 x12)) 10) + 1)) then (if (wrap64 ((Int.tmod (wrap64 (rd x1 x12)) 10) + 1)) ≤ 10 then (if x11.size + (((⟨#[92, 94, 0, 46, 47, 65, 95, 57, 3, 32]⟩ : ByteArray).extract ((Int.tmod (wrap64 (rd x1 x12)) 10) : Int).toNat ((wrap64 ((Int.tmod (wrap64 (rd x1 x12)) 10) + 1)) : Int).toNat).size) ≤ 9223372036854775807 then (platformfwlaw05_BytecodeDecodesPaths.l0 k x0 x1 x3 x4 (x11 ++ ((⟨#[92, 94, 0, 46, 47, 65, 95, 57, 3, 32]⟩ : ByteArray).extract ((Int.tmod (wrap64 (rd x1 x12)) 10) : Int).toNat ((wrap64 ((Int.tmod (wrap64 (rd x1 x12)) 10) + 1)) : Int).toNat)) (wrap64 (x12 + 1)) x196000 x196001 x196002) else (none)) else (none)) else (none)) else (none)) else (none)) else (platformfwlaw05_BytecodeDecodesPaths.j1 k x0 x3 x4 x11 x196000 x196001 x196002)) else (platformfwlaw05_BytecodeDecodesPaths.j1 k x0 x3 x4 x11 x196000 x196001 x196002)
end
def platformfwlaw05_BytecodeDecodesPaths.f (k : Nat) (a0 : ByteArray) (l1 : List Int) (a2_0 : Bool) (a2_1 : Int) (l2_2 : List ByteArray) (a3 : Int) (a4 : Int) : Option (Bool) := platformfwlaw05_BytecodeDecodesPaths.l0 k a0 l1 a3 a4 (⟨#[]⟩ : ByteArray) 0 a2_0 a2_1 l2_2
theorem platformfwlaw05_BytecodeDecodesPaths.mono_l : ∀ k, (∀ y0 y1 y2 y3 y4 y5 y6, LeO (platformfwlaw05_BytecodeDecodesPaths.j1 k y0 y1 y2 y3 y4 y5 y6) (platformfwlaw05_BytecodeDecodesPaths.j1 (k + 1) y0 y1 y2 y3 y4 y5 y6)) ∧ (∀ y0 y1, LeO (platformfwlaw05_BytecodeDecodesPaths.l1 k y0 y1) (platformfwlaw05_BytecodeDecodesPaths.l1 (k + 1) y0 y1)) ∧ (∀ y0 y1 y2 y3 y4 y5 y6 y7 y8, LeO (platformfwlaw05_BytecodeDecodesPaths.l0 k y0 y1 y2 y3 y4 y5 y6 y7 y8) (platformfwlaw05_BytecodeDecodesPaths.l0 (k + 1) y0 y1 y2 y3 y4 y5 y6 y7 y8))
 | 0 => ⟨fun _ _ _ _ _ _ _ r h => by simp [platformfwlaw05_BytecodeDecodesPaths.j1] at h, fun _ _ r h => by simp [platformfwlaw05_BytecodeDecodesPaths.l1] at h, fun _ _ _ _ _ _ _ _ _ r h => by simp [platformfwlaw05_BytecodeDecodesPaths.l0] at h⟩
 | k + 1 => by
  obtain ⟨ih0, ih1, ih2⟩ := platformfwlaw05_BytecodeDecodesPaths.mono_l k
  refine ⟨?_, ?_, ?_⟩
  ·intro y0 y1 y2 y3 y4 y5 y6
   unfold platformfwlaw05_BytecodeDecodesPaths.j1
   repeat' first
   | (with_reducible exact ih0 _ _ _ _ _ _ _)
   | (with_reducible exact ih1 _ _)
   | (with_reducible exact ih2 _ _ _ _ _ _ _ _ _)
   | (with_reducible exact bytecode_Path.mono _ _)
   | (with_reducible exact platformfwlaw05_awake.mono _)
   | (with_reducible exact platformfwlaw05_path.mono _ _ _ _)
   | (with_reducible exact platformfwlaw05_same.mono _ _ _ _ _ _ _)
   | (with_reducible exact platformfwref05_Path.mono _ _ _ _)
   | (with_reducible exact platformfwref05_ReadPath.mono _ _)
   | (with_reducible exact LeO.refl _)
   | (with_reducible exact LeO.none _)
   | (with_reducible refine LeO.ite ?_ ?_)
   | (with_reducible refine LeO.bind ?_ (fun _ => ?_))
   | exact ih0 _ _ _ _ _ _ _
   | exact ih1 _ _
   | exact ih2 _ _ _ _ _ _ _ _ _
   | exact bytecode_Path.mono _ _
   | exact platformfwlaw05_awake.mono _
   | exact platformfwlaw05_path.mono _ _ _ _
   | exact platformfwlaw05_same.mono _ _ _ _ _ _ _
   | exact platformfwref05_Path.mono _ _ _ _
   | exact platformfwref05_ReadPath.mono _ _
   | exact LeO.none _
   | refine LeO.ite ?_ ?_
   | refine LeO.bind ?_ (fun _ => ?_)
  ·intro y0 y1
   unfold platformfwlaw05_BytecodeDecodesPaths.l1
   repeat' first
   | (with_reducible exact ih0 _ _ _ _ _ _ _)
   | (with_reducible exact ih1 _ _)
   | (with_reducible exact ih2 _ _ _ _ _ _ _ _ _)
   | (with_reducible exact bytecode_Path.mono _ _)
   | (with_reducible exact platformfwlaw05_awake.mono _)
   | (with_reducible exact platformfwlaw05_path.mono _ _ _ _)
   | (with_reducible exact platformfwlaw05_same.mono _ _ _ _ _ _ _)
   | (with_reducible exact platformfwref05_Path.mono _ _ _ _)
   | (with_reducible exact platformfwref05_ReadPath.mono _ _)
   | (with_reducible exact LeO.refl _)
   | (with_reducible exact LeO.none _)
   | (with_reducible refine LeO.ite ?_ ?_)
   | (with_reducible refine LeO.bind ?_ (fun _ => ?_))
   | exact ih0 _ _ _ _ _ _ _
   | exact ih1 _ _
   | exact ih2 _ _ _ _ _ _ _ _ _
   | exact bytecode_Path.mono _ _
   | exact platformfwlaw05_awake.mono _
   | exact platformfwlaw05_path.mono _ _ _ _
   | exact platformfwlaw05_same.mono _ _ _ _ _ _ _
   | exact platformfwref05_Path.mono _ _ _ _
   | exact platformfwref05_ReadPath.mono _ _
   | exact LeO.none _
   | refine LeO.ite ?_ ?_
   | refine LeO.bind ?_ (fun _ => ?_)
  ·intro y0 y1 y2 y3 y4 y5 y6 y7 y8
   unfold platformfwlaw05_BytecodeDecodesPaths.l0
   repeat' first
   | (with_reducible exact ih0 _ _ _ _ _ _ _)
   | (with_reducible exact ih1 _ _)
   | (with_reducible exact ih2 _ _ _ _ _ _ _ _ _)
   | (with_reducible exact bytecode_Path.mono _ _)
   | (with_reducible exact platformfwlaw05_awake.mono _)
   | (with_reducible exact platformfwlaw05_path.mono _ _ _ _)
   | (with_reducible exact platformfwlaw05_same.mono _ _ _ _ _ _ _)
   | (with_reducible exact platformfwref05_Path.mono _ _ _ _)
   | (with_reducible exact platformfwref05_ReadPath.mono _ _)
   | (with_reducible exact LeO.refl _)
   | (with_reducible exact LeO.none _)
   | (with_reducible refine LeO.ite ?_ ?_)
   | (with_reducible refine LeO.bind ?_ (fun _ => ?_))
   | exact ih0 _ _ _ _ _ _ _
   | exact ih1 _ _
   | exact ih2 _ _ _ _ _ _ _ _ _
   | exact bytecode_Path.mono _ _
   | exact platformfwlaw05_awake.mono _
   | exact platformfwlaw05_path.mono _ _ _ _
   | exact platformfwlaw05_same.mono _ _ _ _ _ _ _
   | exact platformfwref05_Path.mono _ _ _ _
   | exact platformfwref05_ReadPath.mono _ _
   | exact LeO.none _
   | refine LeO.ite ?_ ?_
   | refine LeO.bind ?_ (fun _ => ?_)
theorem platformfwlaw05_BytecodeDecodesPaths.mono : ∀ a0 a1 a2 a3 a4 a5 a6 k, LeO (platformfwlaw05_BytecodeDecodesPaths.f k a0 a1 a2 a3 a4 a5 a6) (platformfwlaw05_BytecodeDecodesPaths.f (k + 1) a0 a1 a2 a3 a4 a5 a6) := by
 intro a0 a1 a2 a3 a4 a5 a6 k
 obtain ⟨ih0, ih1, ih2⟩ := platformfwlaw05_BytecodeDecodesPaths.mono_l k
 unfold platformfwlaw05_BytecodeDecodesPaths.f
 repeat' first
   | (with_reducible exact ih0 _ _ _ _ _ _ _)
   | (with_reducible exact ih1 _ _)
   | (with_reducible exact ih2 _ _ _ _ _ _ _ _ _)
   | (with_reducible exact bytecode_Path.mono _ _)
   | (with_reducible exact platformfwlaw05_awake.mono _)
   | (with_reducible exact platformfwlaw05_path.mono _ _ _ _)
   | (with_reducible exact platformfwlaw05_same.mono _ _ _ _ _ _ _)
   | (with_reducible exact platformfwref05_Path.mono _ _ _ _)
   | (with_reducible exact platformfwref05_ReadPath.mono _ _)
   | (with_reducible exact LeO.refl _)
   | (with_reducible exact LeO.none _)
   | (with_reducible refine LeO.ite ?_ ?_)
   | (with_reducible refine LeO.bind ?_ (fun _ => ?_))
   | exact ih0 _ _ _ _ _ _ _
   | exact ih1 _ _
   | exact ih2 _ _ _ _ _ _ _ _ _
   | exact bytecode_Path.mono _ _
   | exact platformfwlaw05_awake.mono _
   | exact platformfwlaw05_path.mono _ _ _ _
   | exact platformfwlaw05_same.mono _ _ _ _ _ _ _
   | exact platformfwref05_Path.mono _ _ _ _
   | exact platformfwref05_ReadPath.mono _ _
   | exact LeO.none _
   | refine LeO.ite ?_ ?_
   | refine LeO.bind ?_ (fun _ => ?_)
def platformfwlaw05_BytecodeDecodesPaths.T5 : Bool × List (List Nat × List Nat) := (true, [([], []), ([], []), ([], []), ([1, 2], [1, 2]), ([3], [3]), ([4], [4]), ([5], [5]), ([], []), ([], []), ([7, 8], [7, 8]), ([9], [9]), ([10], [10]), ([11], [11]), ([12], [12]), ([6, 13], [6, 13]), ([0, 14], [0, 14]), ([15, 0, 1, 2, 3, 4, 5, 6, 7, 8, 9, 10, 11, 12, 13, 14, 15], [0, 15])])
def platformfwlaw05_BytecodeDecodesPaths.B5 : List Nat := [0, 0, 0, 6, 14, 30, 62, 0, 0, 384, 896, 1920, 3968, 8064, 16382, 32767, 65535]
theorem platformfwlaw05_BytecodeDecodesPaths.tab5 : rtab .any (opsOf Try.f12 5) = platformfwlaw05_BytecodeDecodesPaths.T5 := by kernel_rfl
theorem platformfwlaw05_BytecodeDecodesPaths.bits5 : waitsOk platformfwlaw05_BytecodeDecodesPaths.T5.2 platformfwlaw05_BytecodeDecodesPaths.B5 = true := by kernel_rfl
def platformfwlaw05_BytecodeDecodesPaths.T8 : Bool × List (List Nat × List Nat) := (true, [([], []), ([], []), ([], []), ([], []), ([2, 3], [2, 3]), ([], []), ([], []), ([5, 6], [5, 6]), ([], []), ([8], [8]), ([9], [9]), ([7, 10], [7, 10]), ([], []), ([], []), ([13], [13]), ([12, 14], [12, 14]), ([11, 15], [11, 15]), ([0, 1, 4, 16], [0, 1, 4, 16]), ([17, 0, 1, 2, 3, 4, 5, 6, 7, 8, 9, 10, 11, 12, 13, 14, 15, 16, 17], [17])])
def platformfwlaw05_BytecodeDecodesPaths.B8 : List Nat := [0, 0, 0, 0, 12, 0, 0, 96, 0, 256, 768, 2016, 0, 0, 8192, 28672, 65504, 131071, 262143]
theorem platformfwlaw05_BytecodeDecodesPaths.tab8 : rtab .any (opsOf Try.f12 8) = platformfwlaw05_BytecodeDecodesPaths.T8 := by kernel_rfl
theorem platformfwlaw05_BytecodeDecodesPaths.bits8 : waitsOk platformfwlaw05_BytecodeDecodesPaths.T8.2 platformfwlaw05_BytecodeDecodesPaths.B8 = true := by kernel_rfl
set_option maxHeartbeats 8000000 in
set_option maxRecDepth 100000 in
theorem platformfwlaw05_BytecodeDecodesPaths.calls (k : Nat) (a0 : ByteArray) (A1 : Option Addr) (c1 : Nat) (l1 : List Int) (a2_0 : Bool) (a2_1 : Int) (A2_2 : Option Addr) (c2_2 : Nat) (l2_2 : List ByteArray) (a3 : Int) (a4 : Int) (r : Bool) (w : World) (hr1 : Kd.C (Kd.int .u8) w A1 l1.length l1) (hc1 : l1.length ≤ c1) (hr2_2 : Kd.C Kd.string w A2_2 l2_2.length l2_2) (hc2_2 : l2_2.length ≤ c2_2) (hr_ : Aside0 (r = true)) (h : platformfwlaw05_BytecodeDecodesPaths.f k a0 l1 a2_0 a2_1 l2_2 a3 a4 = some r) :
  Calls Try.prog 12 #[.string a0, .slice A1 l1.length c1, .agg #[.bool a2_0, .int .i64 a2_1, .slice A2_2 l2_2.length c2_2], .int .i64 a3, .int .u8 a4] w fun e w' => e = .returned (.bool r) ∧ Below w.heap.size w w' := by
 have hu73 := Try.underlying73
 have HR1 := Aside0.mk hr1
 have HC1 := Aside0.mk hc1
 clear hr1 hc1
 have HR2_2 := Aside0.mk hr2_2
 have HC2_2 := Aside0.mk hc2_2
 clear hr2_2 hc2_2
 have HB := Aside0.mk (Below.refl w.heap.size w)
 have H : (platformfwlaw05_BytecodeDecodesPaths.l0 k a0 l1 a3 a4 (⟨#[]⟩ : ByteArray) 0 a2_0 a2_1 l2_2) = some r := h
 clear h
 have HC6 := Aside0.mk H
 clear H
 go_enter Try.func12, Try.ntmps12
 go_upto_block 0 with (first | ((with_reducible refine gate_dst (N := 7) rfl ?_); refine box_event ?hg (N := 7) ?hd (cs := #[.bool a2_0, .int .i64 a2_1, .slice A2_2 l2_2.length c2_2]) (t := 73) ?hr ?_; (case hd => rfl); (case hg => rfl); (case hr => first | (go_simp; done) | (go_simp; rfl)); intro gb195 hg w7 hbox hb; have n0_ := Aside0.mk (below_step (by repeat (first | (with_reducible first | exact HB.out | apply bA_ | apply bN_ | apply bD_) | exact HB.out)) hb); have n1_ := Aside0.mk (hbox); have n2_ := Aside0.mk ((by rw [hg]; exact (below_size (by repeat (first | (with_reducible first | exact HB.out | apply bA_ | apply bN_ | apply bD_) | exact HB.out))) : w.heap.size ≤ gb195)); have n3_ := Aside0.mk ((by rw [hg]; exact (below_size (by repeat (first | (with_reducible first | exact HB.out | apply bA_ | apply bN_ | apply bD_) | exact HB.out))) : w.heap.size ≤ gb195)); clear HB; have HB := n0_; have BK195 := n1_; have GW195 := n2_; have GE195 := n3_; clear n0_ n1_ n2_ n3_; clear hb hbox hg))
 (try simp only [Act.put, sA_, sB_, sC_])
 go_cut [11] (fun v11 wc => ∃ (kq : Nat) (x11_5 : ByteArray), v11 = .string x11_5 ∧ Aside0 (platformfwlaw05_BytecodeDecodesPaths.j1 kq a0 a3 a4 x11_5 a2_0 a2_1 l2_2 = some r) ∧ Aside0 (kq ≤ k) ∧ Aside0 (wc.heap[gb195]? = some (.cells #[.bool a2_0, .int .i64 a2_1, (.slice A2_2 l2_2.length c2_2)] 73 (0, 0))) ∧ Aside0 (Below w.heap.size w wc))
 case first =>
  have H := HC6.out
  clear HC6
  have H' := Aside0.mk H
  clear H
  go_wp2
  all_goals (try (exfalso; simp only [beq_iff_eq, bne_iff_ne, ne_eq, ByteArray.size_extract, decide_eq_true_eq, decide_eq_false_iff_not, beq_eq_false_iff_ne, bne_eq_false_iff_eq, eq_iff_iff, iff_true, iff_false] at *; unfold wrap64 at *; omega))
  go_loopg [11, 12] k (fun kq v11 v12 w' => ∃ (x11_1 : ByteArray) (x12_1 : Int), v11 = .string x11_1 ∧ v12 = .int .i64 x12_1 ∧ Aside0 (platformfwlaw05_BytecodeDecodesPaths.l0 kq a0 l1 a3 a4 x11_1 x12_1 a2_0 a2_1 l2_2 = some r) ∧ Aside0 (kq ≤ k) ∧ Aside0 (w'.heap[gb195]? = some (.cells #[.bool a2_0, .int .i64 a2_1, (.slice A2_2 l2_2.length c2_2)] 73 (0, 0))) ∧ Aside0 (Below w.heap.size w w'))
  case atStart => exact ⟨((⟨#[]⟩ : ByteArray)), (0), (by first | rfl | (simp; done) | (simp [*]; done)), (by first | rfl | (simp; done) | (simp [*]; done)), H', ⟨Nat.le_refl _⟩, ⟨by (with_reducible repeat (first | refine kN_ ?_ _ | refine kD_ ?_ | refine kA_ ?_ _)); exact BK195.out⟩, ⟨by repeat (first | (with_reducible first | exact HB.out | apply bA_ | apply bN_ | apply bD_ | refine bS_ ?_ GE195.out) | exact HB.out)⟩⟩
  case round =>
   clear H'
   try clear c1
   try clear c2
   try clear p2
   obtain ⟨x11_1, x12_1, rfl, rfl, HA, HK1, BK195, HB⟩ := hrel
   cases gk with
   | zero => exact absurd HA.out (by simp [platformfwlaw05_BytecodeDecodesPaths.l0])
   | succ k1 =>
    have H := HA.out
    clear HA
    simp only [platformfwlaw05_BytecodeDecodesPaths.l0] at H
    by_cases c8 : x12_1 < (l1.length : Int)
    ·rw [if_pos c8] at H
     have c8b0 : decide (x12_1 < (l1.length : Int)) = true := decide_eq_true c8
     clear c8
     (first | rw [c8b0] | (simp only [i64_w, i32_w]; rw [c8b0]) | skip)
     by_cases c9 : x12_1 < 60
     ·rw [if_pos c9] at H
      have c9b0 : decide (x12_1 < 60) = true := decide_eq_true c9
      clear c9
      by_cases c10 : 0 ≤ x12_1
      ·rw [if_pos c10] at H
       have c10b0 : decide (0 ≤ x12_1) = true := decide_eq_true c10
       clear c10
       obtain ⟨ji11, hji11⟩ : ∃ j_ : Int, (Int.tmod (wrap64 (rd l1 x12_1)) 10) = j_ := ⟨_, rfl⟩
       replace H : (if 0 ≤ (ji11) then (if (ji11) ≤ (wrap64 ((ji11) + 1)) then (if (wrap64 ((ji11) + 1)) ≤ 10 then (if x11_1.size + (((⟨#[92, 94, 0, 46, 47, 65, 95, 57, 3, 32]⟩ : ByteArray).extract ((ji11) : Int).toNat ((wrap64 ((ji11) + 1)) : Int).toNat).size) ≤ 9223372036854775807 then (platformfwlaw05_BytecodeDecodesPaths.l0 k1 a0 l1 a3 a4 (x11_1 ++ ((⟨#[92, 94, 0, 46, 47, 65, 95, 57, 3, 32]⟩ : ByteArray).extract ((ji11) : Int).toNat ((wrap64 ((ji11) + 1)) : Int).toNat)) (wrap64 (x12_1 + 1)) a2_0 a2_1 l2_2) else (none)) else (none)) else (none)) else (none)) = some r := by first | (rw [hji11] at H; exact H) | (simp only [hji11] at H ⊢; exact H)
       by_cases c12 : 0 ≤ (ji11)
       ·rw [if_pos c12] at H
        have c12b0 := eq_true c12
        have c12b1 : decide (0 ≤ (ji11)) = true := decide_eq_true c12
        clear c12
        by_cases c13 : (ji11) ≤ (wrap64 ((ji11) + 1))
        ·rw [if_pos c13] at H
         have c13b0 := eq_true c13
         have c13b1 : decide ((ji11) ≤ (wrap64 ((ji11) + 1))) = true := decide_eq_true c13
         clear c13
         by_cases c14 : (wrap64 ((ji11) + 1)) ≤ 10
         ·rw [if_pos c14] at H
          have c14b0 := eq_true c14
          have c14b1 : decide ((wrap64 ((ji11) + 1)) ≤ 10) = true := decide_eq_true c14
          clear c14
          by_cases c15 : x11_1.size + (((⟨#[92, 94, 0, 46, 47, 65, 95, 57, 3, 32]⟩ : ByteArray).extract ((ji11) : Int).toNat ((wrap64 ((ji11) + 1)) : Int).toNat).size) ≤ 9223372036854775807
          ·rw [if_pos c15] at H
           have c15b0 := eq_true c15
           have c15b1 : decide (x11_1.size + (((⟨#[92, 94, 0, 46, 47, 65, 95, 57, 3, 32]⟩ : ByteArray).extract ((ji11) : Int).toNat ((wrap64 ((ji11) + 1)) : Int).toNat).size) ≤ 9223372036854775807) = true := decide_eq_true c15
           try have c15b2 : (9223372036854775807 < x11_1.size + (((⟨#[92, 94, 0, 46, 47, 65, 95, 57, 3, 32]⟩ : ByteArray).extract ((ji11) : Int).toNat ((wrap64 ((ji11) + 1)) : Int).toNat).size)) = False := eq_false (Nat.not_lt.2 c15)
           try have c15b3 : (9223372036854775807 < x11_1.size + ((((wrap64 ((ji11) + 1)) : Int).toNat - ((ji11) : Int).toNat))) = False := eq_false (fun h_ => Nat.not_lt.2 c15 (Nat.lt_of_lt_of_eq h_ (by have q0_ : (wrap64 ((ji11) + 1)) ≤ 10 := of_decide_eq_true (by first | (with_reducible assumption) | assumption); simp only [ByteArray.size_extract, show (⟨#[92, 94, 0, 46, 47, 65, 95, 57, 3, 32]⟩ : ByteArray).size = 10 from rfl]; omega)))
           clear c15
           have H' := Aside0.mk H
           clear H
           try go_wp2
           have n0_ := Aside0.mk (kD_ BK195.out)
           have n1_ := Aside0.mk (bD_ HB.out)
           clear BK195
           clear HB
           have BK195 := n0_
           have HB := n1_
           clear n0_ n1_
           have p196 : 0 ≤ (x12_1 : Int) := of_decide_eq_true (by first | (with_reducible assumption) | assumption)
           have q196 : x12_1 < (l1.length : Int) := of_decide_eq_true (by first | (with_reducible assumption) | assumption)
           obtain ⟨ad196, e196, hx196_0⟩ := Kd.at_int HR1.out x12_1 p196 q196
           have hw196_0 := hx196_0
           cases e196
           replace hx196_0 := (HB.out.cell (World.block_lt_of_cell? w _ hx196_0)).trans hx196_0
           replace p196 := eq_true p196
           replace q196 := eq_true q196
           have p197 : 0 ≤ (x12_1 : Int) := of_decide_eq_true (by first | (with_reducible assumption) | assumption)
           have q197 : x12_1 < (l1.length : Int) := of_decide_eq_true (by first | (with_reducible assumption) | assumption)
           obtain ⟨ad197, e197, hx197_0⟩ := Kd.at_int HR1.out x12_1 p197 q197
           have hw197_0 := hx197_0
           obtain rfl : ad196 = ad197 := (by injection e197)
           replace hx197_0 := (HB.out.cell (World.block_lt_of_cell? w _ hx197_0)).trans hx197_0
           replace p197 := eq_true p197
           replace q197 := eq_true q197
           refine start_ (n := 17) (S := fun w' => w'.cell? (ad196.add (x12_1).toNat) = some (.int .u8 (rd l1 x12_1)) ∧ w'.cell? (ad196.add (x12_1).toNat) = some (.int .u8 (rd l1 x12_1))) (ds := []) #[false, false, false, false, false, false, false, false, false, false, false, false, false, false, false, false, false] (by kernel_rfl) rfl rfl ⟨((HB.out.cell (World.block_lt_of_cell? w _ hw196_0)).trans hw196_0), ((HB.out.cell (World.block_lt_of_cell? w _ hw197_0)).trans hw197_0)⟩ (fun hHeld => ?_); refine with_tabW platformfwlaw05_BytecodeDecodesPaths.tab5 platformfwlaw05_BytecodeDecodesPaths.bits5 (fun HT_ HW_ => ?_)
           generalize wr.drew = w16 at BK195 HB hx196_0 hx197_0 hHeld ⊢
           refine pure_ (i := 0) (N := some 33) (v := ?_) (a' := ?_) (tf 17 1) rfl rfl (any_of HT_.out (by kernel_rfl)) (fun _ _ _ h => h) (Or.inl ⟨by rfl, ?_⟩) ?_ ?_
           rotate_left
           ·intro w'
            go_simp
            with_reducible rfl
           rotate_left
           ·simp only [Act.put, sA_, sB_, sC_, i64_w, i32_w]
            rfl
           refine pure_ (i := 1) (N := some 34) (v := ?_) (a' := ?_) (tf 17 3) rfl rfl (any_of HT_.out (by kernel_rfl)) (fun _ _ _ h => h) (Or.inl ⟨by rfl, ?_⟩) ?_ ?_
           rotate_left
           ·intro w'
            go_simp
            with_reducible rfl
           rotate_left
           ·simp only [Act.put, sA_, sB_, sC_, i64_w, i32_w]
            rfl
           refine pure_ (i := 2) (N := some 35) (v := ?_) (a' := ?_) (tf 17 7) rfl rfl (any_of HT_.out (by kernel_rfl)) (fun _ _ _ h => h) (Or.inl ⟨by rfl, ?_⟩) ?_ ?_
           rotate_left
           ·intro w'
            go_simp
            with_reducible rfl
           rotate_left
           ·simp only [Act.put, sA_, sB_, sC_, i64_w, i32_w]
            rfl
           refine pure_ (i := 3) (N := some 36) (v := ?_) (a' := ?_) (tf 17 15) rfl rfl (any_of HT_.out (by kernel_rfl)) (fun _ _ _ h => h) (Or.inl ⟨by rfl, ?_⟩) ?_ ?_
           rotate_left
           ·intro w'
            go_simp
            with_reducible rfl
           rotate_left
           ·simp only [Act.put, sA_, sB_, sC_, i64_w, i32_w]
            rfl
           refine pure_ (i := 7) (N := some 40) (v := ?_) (a' := ?_) (tf 17 143) rfl rfl (any_of HT_.out (by kernel_rfl)) (fun _ _ _ h => h) (Or.inl ⟨by rfl, ?_⟩) ?_ ?_
           rotate_left
           ·intro w'
            go_simp
            with_reducible rfl
           rotate_left
           ·simp only [Act.put, sA_, sB_, sC_, i64_w, i32_w]
            rfl
           refine pure_ (i := 8) (N := some 41) (v := ?_) (a' := ?_) (tf 17 399) rfl rfl (any_of HT_.out (by kernel_rfl)) (fun _ _ _ h => h) (Or.inl ⟨by rfl, ?_⟩) ?_ ?_
           rotate_left
           ·intro w'
            go_simp
            with_reducible rfl
           rotate_left
           ·simp only [Act.put, sA_, sB_, sC_, i64_w, i32_w]
            rfl
           refine pure_ (i := 9) (N := some 42) (v := ?_) (a' := ?_) (tf 17 911) rfl rfl (any_of HT_.out (by kernel_rfl)) (fun _ _ _ h => h) (Or.inl ⟨by rfl, ?_⟩) ?_ ?_
           rotate_left
           ·intro w'
            go_simp
            with_reducible rfl
           rotate_left
           ·simp only [Act.put, sA_, sB_, sC_, i64_w, i32_w]
            rfl
           refine take_ (i := 4) (N := some 37) (v := ?_) (a' := ?_) (tf 17 927) rfl rfl (take_ofW HT_.out HW_.out (by kernel_rfl)) (fun _ _ _ h => h) (Or.inl ⟨by rfl, ?_⟩) hHeld ?_ ?_
           rotate_left
           ·rintro w' ⟨s0, s1⟩
            go_simp
            with_reducible rfl
           rotate_left
           ·simp only [Act.put, sA_, sB_, sC_, i64_w, i32_w]
            rfl
           refine pure_ (i := 5) (N := some 38) (v := ?_) (a' := ?_) (tf 17 959) rfl rfl (any_of HT_.out (by kernel_rfl)) (fun _ _ _ h => h) (Or.inl ⟨by rfl, ?_⟩) ?_ ?_
           rotate_left
           ·intro w'
            go_simp
            with_reducible rfl
           rotate_left
           ·simp only [Act.put, sA_, sB_, sC_, i64_w, i32_w]
            rfl
           refine pure_ (i := 6) (N := some 39) (v := ?_) (a' := ?_) (tf 17 1023) rfl rfl (any_of HT_.out (by kernel_rfl)) (fun _ _ _ h => h) (Or.inl ⟨by rfl, ?_⟩) ?_ ?_
           rotate_left
           ·intro w'
            go_simp
            with_reducible rfl
           rotate_left
           ·simp only [Act.put, sA_, sB_, sC_, i64_w, i32_w]
            rfl
           refine take_ (i := 10) (N := some 43) (v := ?_) (a' := ?_) (tf 17 2047) rfl rfl (take_ofW HT_.out HW_.out (by kernel_rfl)) (fun _ _ _ h => h) (Or.inl ⟨by rfl, ?_⟩) hHeld ?_ ?_
           rotate_left
           ·rintro w' ⟨s0, s1⟩
            go_simp
            with_reducible rfl
           rotate_left
           ·simp only [Act.put, sA_, sB_, sC_, i64_w, i32_w]
            rfl
           refine pure_ (i := 11) (N := some 44) (v := ?_) (a' := ?_) (tf 17 4095) rfl rfl (any_of HT_.out (by kernel_rfl)) (fun _ _ _ h => h) (Or.inl ⟨by rfl, ?_⟩) ?_ ?_
           rotate_left
           ·intro w'
            go_simp
            with_reducible rfl
           rotate_left
           ·simp only [Act.put, sA_, sB_, sC_, i64_w, i32_w]
            rfl
           refine pure_ (i := 12) (N := some 45) (v := ?_) (a' := ?_) (tf 17 8191) rfl rfl (any_of HT_.out (by kernel_rfl)) (fun _ _ _ h => h) (Or.inl ⟨by rfl, ?_⟩) ?_ ?_
           rotate_left
           ·intro w'
            go_simp
            with_reducible rfl
           rotate_left
           ·simp only [Act.put, sA_, sB_, sC_, i64_w, i32_w]
            rfl
           refine pure_ (i := 13) (N := some 46) (v := ?_) (a' := ?_) (tf 17 16383) rfl rfl (any_of HT_.out (by kernel_rfl)) (fun _ _ _ h => h) (Or.inl ⟨by rfl, ?_⟩) ?_ ?_
           rotate_left
           ·intro w'
            go_simp
            with_reducible rfl
           rotate_left
           ·simp only [Act.put, sA_, sB_, sC_, i64_w, i32_w]
            rfl
           refine pure_ (i := 14) (N := some 47) (v := ?_) (a' := ?_) (tf 17 32767) rfl rfl (any_of HT_.out (by kernel_rfl)) (fun _ _ _ h => h) (Or.inl ⟨by rfl, ?_⟩) ?_ ?_
           rotate_left
           ·intro w'
            go_simp
            with_reducible rfl
           rotate_left
           ·simp only [Act.put, sA_, sB_, sC_, i64_w, i32_w]
            rfl
           refine pure_ (i := 15) (N := some 48) (v := ?_) (a' := ?_) (tf 17 65535) rfl rfl (any_of HT_.out (by kernel_rfl)) (fun _ _ _ h => h) (Or.inl ⟨by rfl, ?_⟩) ?_ ?_
           rotate_left
           ·intro w'
            go_simp
            with_reducible rfl
           rotate_left
           ·simp only [Act.put, sA_, sB_, sC_, i64_w, i32_w]
            rfl
           refine pure_ (i := 16) (N := some 11) (v := ?_) (a' := ?_) (tf 17 131071) rfl rfl (any_of HT_.out (by kernel_rfl)) (fun _ _ _ h => h) (Or.inl ⟨by rfl, ?_⟩) ?_ ?_
           rotate_left
           ·intro w'
            go_simp
            with_reducible rfl
           rotate_left
           ·simp only [Act.put, sA_, sB_, sC_, i64_w, i32_w]
            rfl
           refine done_ (done_of HT_.out (by kernel_rfl)) ?_
           try go_wp2
           go_roundg k1
           case measure => have := HK1.out; omega
           case rel => exact ⟨(x11_1 ++ ((⟨#[92, 94, 0, 46, 47, 65, 95, 57, 3, 32]⟩ : ByteArray).extract ((ji11) : Int).toNat ((wrap64 ((ji11) + 1)) : Int).toNat)), (wrap64 (x12_1 + 1)), (by first | rfl | (simp; done) | (simp only [← hji11] <;> (first | rfl | simp)) | (simp [*]; done)), (by first | rfl | (simp; done) | (simp [*]; done)), H', ⟨by have := HK1.out; omega⟩, ⟨by (with_reducible repeat (first | refine kN_ ?_ _ | refine kD_ ?_ | refine kA_ ?_ _)); exact BK195.out⟩, ⟨by repeat (first | (with_reducible first | exact HB.out | apply bA_ | apply bN_ | apply bD_ | refine bS_ ?_ GE195.out) | exact HB.out)⟩⟩
          ·rw [if_neg c15] at H
           exact absurd H (by simp)
         ·rw [if_neg c14] at H
          exact absurd H (by simp)
        ·rw [if_neg c13] at H
         exact absurd H (by simp)
       ·rw [if_neg c12] at H
        exact absurd H (by simp)
      ·rw [if_neg c10] at H
       exact absurd H (by simp)
     ·rw [if_neg c9] at H
      have c9b0 : decide (x12_1 < 60) = false := decide_eq_false c9
      clear c9
      have H' := Aside0.mk H
      clear H
      go_wp2
      all_goals (try (exfalso; simp only [beq_iff_eq, bne_iff_ne, ne_eq, ByteArray.size_extract, decide_eq_true_eq, decide_eq_false_iff_not, beq_eq_false_iff_ne, bne_eq_false_iff_eq, eq_iff_iff, iff_true, iff_false] at *; unfold wrap64 at *; omega))
      go_meet
      case rel => exact ⟨_, (x11_1), (by first | rfl | (simp; done) | (simp [*]; done)), H', ⟨by have := HK1.out; first | omega | exact Nat.le_refl _⟩, ⟨by (with_reducible repeat (first | refine kN_ ?_ _ | refine kD_ ?_ | refine kA_ ?_ _)); exact BK195.out⟩, ⟨by repeat (first | (with_reducible first | exact HB.out | apply bA_ | apply bN_ | apply bD_ | refine bS_ ?_ GE195.out) | exact HB.out)⟩⟩
    ·rw [if_neg c8] at H
     have c8b0 : decide (x12_1 < (l1.length : Int)) = false := decide_eq_false c8
     clear c8
     (first | rw [c8b0] | (simp only [i64_w, i32_w]; rw [c8b0]) | skip)
     have H' := Aside0.mk H
     clear H
     go_wp2
     all_goals (try (exfalso; simp only [beq_iff_eq, bne_iff_ne, ne_eq, ByteArray.size_extract, decide_eq_true_eq, decide_eq_false_iff_not, beq_eq_false_iff_ne, bne_eq_false_iff_eq, eq_iff_iff, iff_true, iff_false] at *; unfold wrap64 at *; omega))
     go_meet
     case rel => exact ⟨_, (x11_1), (by first | rfl | (simp; done) | (simp [*]; done)), H', ⟨by have := HK1.out; first | omega | exact Nat.le_refl _⟩, ⟨by (with_reducible repeat (first | refine kN_ ?_ _ | refine kD_ ?_ | refine kA_ ?_ _)); exact BK195.out⟩, ⟨by repeat (first | (with_reducible first | exact HB.out | apply bA_ | apply bN_ | apply bD_ | refine bS_ ?_ GE195.out) | exact HB.out)⟩⟩
 case rest =>
  clear HC6
  try clear c1
  try clear p1
  try clear q1
  try clear hx1
  try clear c2
  try clear p2
  try clear p6
  try clear c8
  try clear c8b0
  try clear c9
  try clear c9b0
  try clear c10
  try clear c10b0
  try clear c12
  try clear c12b0
  try clear c12b1
  try clear c13
  try clear c13b0
  try clear c13b1
  try clear c14
  try clear c14b0
  try clear c14b1
  try clear c15
  try clear c15b0
  try clear c15b1
  try clear c15b2
  try clear hx196_0
  try clear hx197_0
  try clear p196
  try clear p197
  try clear p2
  try clear q196
  try clear q197
  obtain ⟨kq, x11_5, rfl, HA, HJ5, BK195, HB⟩ := hcut
  cases kq with
  | zero => exact absurd HA.out (by simp [platformfwlaw05_BytecodeDecodesPaths.j1])
  | succ kj5 =>
   have H := HA.out
   clear HA
   simp only [platformfwlaw05_BytecodeDecodesPaths.j1] at H
   replace H := Option.bind_eq_some_iff.mp H
   obtain ⟨⟨t198, t199, t200⟩, A170, H⟩ := H
   replace H : ((platformfwref05_Path.f kj5 t198 t199 t200).bind fun t203 => ((platformfwhelp_Mod.f a3 (t203.size : Int)).bind fun t204 => (if 0 ≤ t204 then (if t204 ≤ (t203.size : Int) then ((some (([a4] : List Int) : List Int)).bind fun y205 => (if (t203.extract 0 (t204 : Int).toNat).size + (strOfNums y205).size ≤ 9223372036854775807 then (if 0 ≤ (wrap64 (t204 + 1)) then (if (wrap64 (t204 + 1)) ≤ (t203.size : Int) then (if (t203.extract 0 (t204 : Int).toNat).size + (strOfNums y205).size + ((t203.extract ((wrap64 (t204 + 1)) : Int).toNat t203.size).size) ≤ 9223372036854775807 then (platformfwlaw05_BytecodeDecodesPaths.l1 kj5 (([a0, x11_5, t203.extract 0 (t204 : Int).toNat, ((t203.extract 0 (t204 : Int).toNat) ++ (strOfNums y205)) ++ (t203.extract ((wrap64 (t204 + 1)) : Int).toNat t203.size)] : List ByteArray)) 0) else (none)) else (none)) else (none)) else (none))) else (none)) else (none)))) = some r := H
   have A17 := Aside0.mk A170
   clear A170
   replace H := Option.bind_eq_some_iff.mp H
   obtain ⟨t203, A180, H⟩ := H
   replace H : ((platformfwhelp_Mod.f a3 (t203.size : Int)).bind fun t204 => (if 0 ≤ t204 then (if t204 ≤ (t203.size : Int) then ((some (([a4] : List Int) : List Int)).bind fun y205 => (if (t203.extract 0 (t204 : Int).toNat).size + (strOfNums y205).size ≤ 9223372036854775807 then (if 0 ≤ (wrap64 (t204 + 1)) then (if (wrap64 (t204 + 1)) ≤ (t203.size : Int) then (if (t203.extract 0 (t204 : Int).toNat).size + (strOfNums y205).size + ((t203.extract ((wrap64 (t204 + 1)) : Int).toNat t203.size).size) ≤ 9223372036854775807 then (platformfwlaw05_BytecodeDecodesPaths.l1 kj5 (([a0, x11_5, t203.extract 0 (t204 : Int).toNat, ((t203.extract 0 (t204 : Int).toNat) ++ (strOfNums y205)) ++ (t203.extract ((wrap64 (t204 + 1)) : Int).toNat t203.size)] : List ByteArray)) 0) else (none)) else (none)) else (none)) else (none))) else (none)) else (none))) = some r := H
   have A18 := Aside0.mk A180
   clear A180
   replace H := Option.bind_eq_some_iff.mp H
   obtain ⟨t204, A190, H⟩ := H
   replace H : (if 0 ≤ t204 then (if t204 ≤ (t203.size : Int) then ((some (([a4] : List Int) : List Int)).bind fun y205 => (if (t203.extract 0 (t204 : Int).toNat).size + (strOfNums y205).size ≤ 9223372036854775807 then (if 0 ≤ (wrap64 (t204 + 1)) then (if (wrap64 (t204 + 1)) ≤ (t203.size : Int) then (if (t203.extract 0 (t204 : Int).toNat).size + (strOfNums y205).size + ((t203.extract ((wrap64 (t204 + 1)) : Int).toNat t203.size).size) ≤ 9223372036854775807 then (platformfwlaw05_BytecodeDecodesPaths.l1 kj5 (([a0, x11_5, t203.extract 0 (t204 : Int).toNat, ((t203.extract 0 (t204 : Int).toNat) ++ (strOfNums y205)) ++ (t203.extract ((wrap64 (t204 + 1)) : Int).toNat t203.size)] : List ByteArray)) 0) else (none)) else (none)) else (none)) else (none))) else (none)) else (none)) = some r := H
   have A19 := Aside0.mk A190
   clear A190
   by_cases c20 : 0 ≤ t204
   ·rw [if_pos c20] at H
    have c20b0 := eq_true c20
    have c20b1 : decide (0 ≤ t204) = true := decide_eq_true c20
    clear c20
    by_cases c21 : t204 ≤ (t203.size : Int)
    ·rw [if_pos c21] at H
     have c21b0 := eq_true c21
     have c21b1 : decide (t204 ≤ (t203.size : Int)) = true := decide_eq_true c21
     clear c21
     have c22b0 := eq_true (of_decide_eq_true (by first | (with_reducible assumption) | assumption) : 0 ≤ t204)
     have c23b0 := eq_true (of_decide_eq_true (by first | (with_reducible assumption) | assumption) : t204 ≤ (t203.size : Int))
     obtain ⟨y205, hy205⟩ : ∃ y_ : List Int, y_ = (([a4] : List Int)) := ⟨_, rfl⟩
     replace H : (if (t203.extract 0 (t204 : Int).toNat).size + (strOfNums y205).size ≤ 9223372036854775807 then (if 0 ≤ (wrap64 (t204 + 1)) then (if (wrap64 (t204 + 1)) ≤ (t203.size : Int) then (if (t203.extract 0 (t204 : Int).toNat).size + (strOfNums y205).size + ((t203.extract ((wrap64 (t204 + 1)) : Int).toNat t203.size).size) ≤ 9223372036854775807 then (platformfwlaw05_BytecodeDecodesPaths.l1 kj5 (([a0, x11_5, t203.extract 0 (t204 : Int).toNat, ((t203.extract 0 (t204 : Int).toNat) ++ (strOfNums y205)) ++ (t203.extract ((wrap64 (t204 + 1)) : Int).toNat t203.size)] : List ByteArray)) 0) else (none)) else (none)) else (none)) else (none)) = some r := by first | (rw [hy205]; with_reducible exact H) | (have H2_ := (Option.bind_some _ _).symm.trans H; rw [hy205]; with_reducible exact H2_) | (have H2_ := (Option.bind_some _ _).symm.trans H; with_reducible exact H2_) | with_reducible exact H | (rw [hy205]; exact H) | exact H
     have Ny205 := Aside0.mk hy205
     clear hy205
     by_cases c24 : (t203.extract 0 (t204 : Int).toNat).size + (strOfNums y205).size ≤ 9223372036854775807
     ·rw [if_pos c24] at H
      have c24b0 := eq_true c24
      have c24b1 : decide ((t203.extract 0 (t204 : Int).toNat).size + (strOfNums y205).size ≤ 9223372036854775807) = true := decide_eq_true c24
      try have c24b2 : (9223372036854775807 < (t203.extract 0 (t204 : Int).toNat).size + (strOfNums y205).size) = False := eq_false (Nat.not_lt.2 c24)
      try have c24b3 : (9223372036854775807 < (t204 : Int).toNat + (strOfNums y205).size) = False := eq_false (fun h_ => Nat.not_lt.2 c24 (Nat.lt_of_lt_of_eq h_ (by have q0_ : t204 ≤ (t203.size : Int) := of_decide_eq_true (by first | (with_reducible assumption) | assumption); simp only [ByteArray.size_extract]; omega)))
      clear c24
      obtain ⟨ji25, hji25⟩ : ∃ j_ : Int, (wrap64 (t204 + 1)) = j_ := ⟨_, rfl⟩
      replace H : (if 0 ≤ (ji25) then (if (ji25) ≤ (t203.size : Int) then (if (t203.extract 0 (t204 : Int).toNat).size + (strOfNums y205).size + ((t203.extract ((ji25) : Int).toNat t203.size).size) ≤ 9223372036854775807 then (platformfwlaw05_BytecodeDecodesPaths.l1 kj5 (([a0, x11_5, t203.extract 0 (t204 : Int).toNat, ((t203.extract 0 (t204 : Int).toNat) ++ (strOfNums y205)) ++ (t203.extract ((ji25) : Int).toNat t203.size)] : List ByteArray)) 0) else (none)) else (none)) else (none)) = some r := by first | (rw [hji25] at H; exact H) | (simp only [hji25] at H ⊢; exact H)
      (try rw [hji25] at A17)
      (try rw [hji25] at A18)
      (try rw [hji25] at A19)
      have hji25w : (IntKind.i64.wrap (t204 + 1)) = ji25 := (i64_w _).trans hji25
      by_cases c26 : 0 ≤ (ji25)
      ·rw [if_pos c26] at H
       have c26b0 := eq_true c26
       have c26b1 : decide (0 ≤ (ji25)) = true := decide_eq_true c26
       clear c26
       by_cases c27 : (ji25) ≤ (t203.size : Int)
       ·rw [if_pos c27] at H
        have c27b0 := eq_true c27
        have c27b1 : decide ((ji25) ≤ (t203.size : Int)) = true := decide_eq_true c27
        clear c27
        by_cases c28 : (t203.extract 0 (t204 : Int).toNat).size + (strOfNums y205).size + ((t203.extract ((ji25) : Int).toNat t203.size).size) ≤ 9223372036854775807
        ·rw [if_pos c28] at H
         have c28b0 := eq_true c28
         have c28b1 : decide ((t203.extract 0 (t204 : Int).toNat).size + (strOfNums y205).size + ((t203.extract ((ji25) : Int).toNat t203.size).size) ≤ 9223372036854775807) = true := decide_eq_true c28
         try have c28b2 : (9223372036854775807 < (t203.extract 0 (t204 : Int).toNat).size + (strOfNums y205).size + ((t203.extract ((ji25) : Int).toNat t203.size).size)) = False := eq_false (Nat.not_lt.2 c28)
         try have c28b3 : (9223372036854775807 < (t204 : Int).toNat + (strOfNums y205).size + ((t203.size - ((ji25) : Int).toNat))) = False := eq_false (fun h_ => Nat.not_lt.2 c28 (Nat.lt_of_lt_of_eq h_ (by have q0_ : t204 ≤ (t203.size : Int) := of_decide_eq_true (by first | (with_reducible assumption) | assumption); simp only [ByteArray.size_extract]; omega)))
         clear c28
         obtain ⟨y208, hy208⟩ : ∃ y_ : List ByteArray, y_ = (([a0, x11_5, t203.extract 0 (t204 : Int).toNat, ((t203.extract 0 (t204 : Int).toNat) ++ (strOfNums y205)) ++ (t203.extract ((ji25) : Int).toNat t203.size)] : List ByteArray)) := ⟨_, rfl⟩
         replace H : (platformfwlaw05_BytecodeDecodesPaths.l1 kj5 y208 0) = some r := by first | (rw [hy208]; with_reducible exact H) | (have H2_ := (Option.bind_some _ _).symm.trans H; rw [hy208]; with_reducible exact H2_) | (have H2_ := (Option.bind_some _ _).symm.trans H; with_reducible exact H2_) | with_reducible exact H | (rw [hy208]; exact H) | exact H
         have Ny208 := Aside0.mk hy208
         clear hy208
         have H' := Aside0.mk H
         clear H
         obtain ⟨hcz29_0, hcz29_1, hcz29_2⟩ := cells3_ BK195.out
         obtain ⟨hfz29_0, hfz29_1, hfz29_2⟩ := froz3_ BK195.out
         try go_wp2_with (first | ((with_reducible refine gate_callee (f := 47) rfl ?_); refine goesL_ (some 50) rfl rfl Try.func47 (by kernel_rfl) rfl #[.agg #[.bool a2_0, .int .i64 a2_1, .slice A2_2 l2_2.length c2_2]] rfl (by (try simp only [List.map_toArray, List.map_cons, List.map_nil]); first | done | rfl | (simp only [List.length_drop, List.length_take]; rfl)) ?_; (with_reducible refine (platformfwlaw05_path.calls kj5 a2_0 a2_1 _ _ l2_2 t198 t199 t200 _ ?side1 ?side2 A17.out).mono ?_); (case side1 => repeat (first | exact (Kd.C_below HR2_2.out HB.out) | (with_reducible refine Kd.C_alloc ?_ _) | (with_reducible refine Kd.C_drewN ?_ _) | (with_reducible refine Kd.C_drew ?_))); (case side2 => exact HC2_2.out); rintro e w30 ⟨v201, rfl, ho0, hb⟩; refine ⟨_, rfl, ?_⟩; have n0_ := Aside0.mk (Kd.R_lower ho0 (below_size (by repeat (first | (with_reducible first | exact HB.out | apply bA_ | apply bN_ | apply bD_ | refine bS_ ?_ GE195.out) | exact HB.out)))); have n1_ := Aside0.mk (blk_below (g := gb195) (o := .cells #[.bool a2_0, .int .i64 a2_1, .slice A2_2 l2_2.length c2_2] 73 (0, 0)) (by (with_reducible repeat (first | refine kN_ ?_ _ | refine kD_ ?_ | refine kA_ ?_ _)); exact BK195.out) hb); have n2_ := Aside0.mk (below_step (by repeat (first | (with_reducible first | exact HB.out | apply bA_ | apply bN_ | apply bD_ | refine bS_ ?_ GE195.out) | exact HB.out)) hb); clear BK195; clear HB; have HO202 := n0_; have BK195 := n1_; have HB := n2_; clear n0_ n1_ n2_; (try clear hb); (try clear hb2); (try clear hk); (try clear hi); (try clear ho0); obtain ⟨Ao31, co31, eo31⟩ := Kd.R_slice HO202.out; subst eo31) | ((with_reducible refine gate_callee (f := 46) rfl ?_); refine goesL_ (some 51) rfl rfl Try.func46 (by kernel_rfl) rfl #[.agg #[.bool t198, .int .i64 t199, .slice Ao31 t200.length co31]] rfl (by (try simp only [List.map_toArray, List.map_cons, List.map_nil]); first | done | rfl | (simp only [List.length_drop, List.length_take]; rfl)) ?_; (with_reducible refine (platformfwref05_Path.calls kj5 t198 t199 _ _ t200 t203 _ ?side1 ?side2 A18.out).mono ?_); (case side1 => repeat (first | exact (Kd.R_reads' HO202.out).2.2 | (with_reducible refine Kd.C_alloc ?_ _) | (with_reducible refine Kd.C_drewN ?_ _) | (with_reducible refine Kd.C_drew ?_))); (case side2 => exact (Kd.R_reads' HO202.out).2.1); rintro e w32 ⟨rfl, hb⟩; refine ⟨_, rfl, ?_⟩; have n0_ := Aside0.mk (Kd.R_below (by (with_reducible repeat (first | apply Kd.R_alloc | apply Kd.R_drewN | apply Kd.R_drew)); exact HO202.out) hb); have n1_ := Aside0.mk (blk_below (g := gb195) (o := .cells #[.bool a2_0, .int .i64 a2_1, .slice A2_2 l2_2.length c2_2] 73 (0, 0)) (by (with_reducible repeat (first | refine kN_ ?_ _ | refine kD_ ?_ | refine kA_ ?_ _)); exact BK195.out) hb); have n2_ := Aside0.mk (below_step (by repeat (first | (with_reducible first | exact HB.out | apply bA_ | apply bN_ | apply bD_ | refine bS_ ?_ GE195.out) | exact HB.out)) hb); clear HO202; clear BK195; clear HB; have HO202 := n0_; have BK195 := n1_; have HB := n2_; clear n0_ n1_ n2_; (try clear hb); (try clear hb2); (try clear hk); (try clear hi)) | ((with_reducible refine gate_callee (f := 28) rfl ?_); refine goesL_ (some 55) rfl rfl Try.func28 (by kernel_rfl) rfl #[.int .i64 a3, .int .i64 (t203.size : Int)] rfl (by (try simp only [List.map_toArray, List.map_cons, List.map_nil]); first | done | rfl | (simp only [List.length_drop, List.length_take]; rfl)) ?_; (with_reducible refine (platformfwhelp_Mod.calls a3 (t203.size : Int) t204 _ A19.out).mono ?_); rintro e w' ⟨rfl, ⟨nd, rfl⟩⟩; refine ⟨_, rfl, ?_⟩))
         (try (rw [drewN_self w32]; generalize hq_ : World.drewN w32 _ = w32; have n0_ : Aside0 (Kd.R Kd.string 9 w32 w.heap.size (fun _ => True) (.slice Ao31 t200.length co31) t200) := ⟨by rw [← hq_]; exact (by (with_reducible repeat (first | apply Kd.R_alloc | apply Kd.R_drewN | apply Kd.R_drew)); exact HO202.out)⟩; have n1_ : Aside0 (w32.heap[gb195]? = some (.cells #[.bool a2_0, .int .i64 a2_1, .slice A2_2 l2_2.length c2_2] 73 (0, 0))) := ⟨by rw [← hq_]; exact (by (with_reducible repeat (first | refine kN_ ?_ _ | refine kD_ ?_ | refine kA_ ?_ _)); exact BK195.out)⟩; have n2_ : Aside0 (Below w.heap.size w w32) := ⟨by rw [← hq_]; exact (by repeat (first | (with_reducible first | exact HB.out | apply bA_ | apply bN_ | apply bD_ | refine bS_ ?_ GE195.out) | exact HB.out))⟩; clear HO202 BK195 HB hq_; have HO202 := n0_; have BK195 := n1_; have HB := n2_; clear n0_ n1_ n2_))
         have n0_ := Aside0.mk (Kd.R_drew HO202.out)
         have n1_ := Aside0.mk (kD_ BK195.out)
         have n2_ := Aside0.mk (bD_ HB.out)
         clear HO202
         clear BK195
         clear HB
         have HO202 := n0_
         have BK195 := n1_
         have HB := n2_
         clear n0_ n1_ n2_
         refine start_ (n := 19) (S := fun w' => True) (ds := []) #[false, false, false, false, false, false, false, false, false, false, false, false, false, false, false, false, false, false, false] (by kernel_rfl) rfl rfl trivial (fun hHeld => ?_); refine with_tabW platformfwlaw05_BytecodeDecodesPaths.tab8 platformfwlaw05_BytecodeDecodesPaths.bits8 (fun HT_ HW_ => ?_)
         generalize w32.drew = w33 at HO202 BK195 HB hHeld ⊢
         refine pure_ (i := 0) (N := some 56) (v := ?_) (a' := ?_) (tf 19 1) rfl rfl (any_of HT_.out (by kernel_rfl)) (fun _ _ _ h => h) (Or.inl ⟨by rfl, ?_⟩) ?_ ?_
         rotate_left
         ·intro w'
          go_simp
          with_reducible rfl
         rotate_left
         ·simp only [Act.put, sA_, sB_, sC_, i64_w, i32_w]
          rfl
         refine pure_ (i := 1) (N := some 57) (v := ?_) (a' := ?_) (tf 19 3) rfl rfl (any_of HT_.out (by kernel_rfl)) (fun _ _ _ h => h) (Or.inl ⟨by rfl, ?_⟩) ?_ ?_
         rotate_left
         ·intro w'
          go_simp
          with_reducible rfl
         rotate_left
         ·simp only [Act.put, sA_, sB_, sC_, i64_w, i32_w]
          rfl
         refine pure_ (i := 2) (N := some 58) (v := ?_) (a' := ?_) (tf 19 7) rfl rfl (any_of HT_.out (by kernel_rfl)) (fun _ _ _ h => h) (Or.inl ⟨by rfl, ?_⟩) ?_ ?_
         rotate_left
         ·intro w'
          go_simp
          with_reducible rfl
         rotate_left
         ·simp only [Act.put, sA_, sB_, sC_, i64_w, i32_w]
          rfl
         refine pure_ (i := 3) (N := some 59) (v := ?_) (a' := ?_) (tf 19 15) rfl rfl (any_of HT_.out (by kernel_rfl)) (fun _ _ _ h => h) (Or.inl ⟨by rfl, ?_⟩) ?_ ?_
         rotate_left
         ·intro w'
          go_simp
          with_reducible rfl
         rotate_left
         ·simp only [Act.put, sA_, sB_, sC_, i64_w, i32_w]
          rfl
         refine pure_ (i := 4) (N := some 60) (v := ?_) (a' := ?_) (tf 19 31) rfl rfl (any_of HT_.out (by kernel_rfl)) (fun _ _ _ h => h) (Or.inl ⟨by rfl, ?_⟩) ?_ ?_
         rotate_left
         ·intro w'
          go_simp
          with_reducible rfl
         rotate_left
         ·simp only [Act.put, sA_, sB_, sC_, i64_w, i32_w]
          rfl
         refine pure_ (i := 5) (N := some 61) (v := ?_) (a' := ?_) (tf 19 63) rfl rfl (any_of HT_.out (by kernel_rfl)) (fun _ _ _ h => h) (Or.inl ⟨by rfl, ?_⟩) ?_ ?_
         rotate_left
         ·intro w'
          go_simp
          with_reducible rfl
         rotate_left
         ·simp only [Act.put, sA_, sB_, sC_, i64_w, i32_w]
          rfl
         refine pure_ (i := 6) (N := some 62) (v := ?_) (a' := ?_) (tf 19 127) rfl rfl (any_of HT_.out (by kernel_rfl)) (fun _ _ _ h => h) (Or.inl ⟨by rfl, ?_⟩) ?_ ?_
         rotate_left
         ·intro w'
          go_simp
          with_reducible rfl
         rotate_left
         ·simp only [Act.put, sA_, sB_, sC_, i64_w, i32_w]
          rfl
         refine pure_ (i := 7) (N := some 63) (v := ?_) (a' := ?_) (tf 19 255) rfl rfl (any_of HT_.out (by kernel_rfl)) (fun _ _ _ h => h) (Or.inl ⟨by rfl, ?_⟩) ?_ ?_
         rotate_left
         ·intro w'
          go_simp
          with_reducible rfl
         rotate_left
         ·simp only [Act.put, sA_, sB_, sC_, i64_w, i32_w]
          rfl
         refine pure_ (i := 8) (N := some 64) (v := ?_) (a' := ?_) (tf 19 511) rfl rfl (any_of HT_.out (by kernel_rfl)) (fun _ _ _ h => h) (Or.inl ⟨by rfl, ?_⟩) ?_ ?_
         rotate_left
         ·intro w'
          go_simp
          with_reducible rfl
         rotate_left
         ·simp only [Act.put, sA_, sB_, sC_, i64_w, i32_w]
          rfl
         refine pure_ (i := 12) (N := some 68) (v := ?_) (a' := ?_) (tf 19 4607) rfl rfl (any_of HT_.out (by kernel_rfl)) (fun _ _ _ h => h) (Or.inl ⟨by rfl, ?_⟩) ?_ ?_
         rotate_left
         ·intro w'
          go_simp
          with_reducible rfl
         rotate_left
         ·simp only [Act.put, sA_, sB_, sC_, i64_w, i32_w]
          rfl
         refine pure_ (i := 13) (N := some 69) (v := ?_) (a' := ?_) (tf 19 12799) rfl rfl (any_of HT_.out (by kernel_rfl)) (fun _ _ _ h => h) (Or.inl ⟨by rfl, ?_⟩) ?_ ?_
         rotate_left
         ·intro w'
          go_simp
          with_reducible rfl
         rotate_left
         ·simp only [Act.put, sA_, sB_, sC_, i64_w, i32_w]
          rfl
         refine pure_ (i := 14) (N := some 70) (v := ?_) (a' := ?_) (tf 19 29183) rfl rfl (any_of HT_.out (by kernel_rfl)) (fun _ _ _ h => h) (Or.inl ⟨by rfl, ?_⟩) ?_ ?_
         rotate_left
         ·intro w'
          go_simp
          with_reducible rfl
         rotate_left
         ·simp only [Act.put, sA_, sB_, sC_, i64_w, i32_w]
          rfl
         refine pure_ (i := 15) (N := some 71) (v := ?_) (a' := ?_) (tf 19 61951) rfl rfl (any_of HT_.out (by kernel_rfl)) (fun _ _ _ h => h) (Or.inl ⟨by rfl, ?_⟩) ?_ ?_
         rotate_left
         ·intro w'
          go_simp
          with_reducible rfl
         rotate_left
         ·simp only [Act.put, sA_, sB_, sC_, i64_w, i32_w]
          rfl
         refine one_ (i := 9) (N := some 65) (tf 19 62463) rfl rfl (one_of HT_.out (by kernel_rfl)) (by decide) (fun K hK => ?_)
         refine Kd.R_lit_step (Kd.int .u8) _ 5 ?hg (N := 65) ?hd (xs := ([a4] : List Int)) (inner := [.int .u8 a4]) (ok := fun _ => True) (okp := fun _ => True) ?hr ?hp (fun _ hk => hk) trivial (Below.refl _ _) (Nat.le_refl _) (by simp) ?_; (case hd => rfl); (case hg => rfl); (case hr => first | (go_simp; done) | (go_simp; rfl)); (case hp => exact (Reps.one (show Kd.M (Kd.int .u8) _ _ _ a4 [.int .u8 a4] from rfl) (Reps.none _ _)))
         intro v206 w34 ho35 hb hg_ hnew_
         clear hg_ hnew_
         (first | rw [← Ny205.out] at ho35 | (simp only [Int.reduceToNat] at ho35; rw [← Ny205.out] at ho35))
         have n0_ := Aside0.mk (Kd.R_below (by (with_reducible repeat (first | apply Kd.R_alloc | apply Kd.R_drewN | apply Kd.R_drew)); exact HO202.out) hb)
         have n1_ := Aside0.mk (Kd.R_lower ho35 (below_size (by repeat (first | (with_reducible first | exact HB.out | apply bA_ | apply bN_ | apply bD_ | refine bS_ ?_ GE195.out) | exact HB.out))))
         have n2_ := Aside0.mk (blk_below (g := gb195) (o := .cells #[.bool a2_0, .int .i64 a2_1, .slice A2_2 l2_2.length c2_2] 73 (0, 0)) (by (with_reducible repeat (first | refine kN_ ?_ _ | refine kD_ ?_ | refine kA_ ?_ _)); exact BK195.out) hb)
         have n3_ := Aside0.mk (below_step (by repeat (first | (with_reducible first | exact HB.out | apply bA_ | apply bN_ | apply bD_ | refine bS_ ?_ GE195.out) | exact HB.out)) hb)
         clear HO202
         clear BK195
         clear HB
         have HO202 := n0_
         have HO207 := n1_
         have BK195 := n2_
         have HB := n3_
         clear n0_ n1_ n2_ n3_
         clear hb ho35
         refine hK.out _ _ trivial (fun hHeld => ?_)
         clear hK K
         refine norm_ (a' := ?_) ?_ ?_
         rotate_left
         ·show Act.put _ (some 65) _ = _
          simp only [Act.put, sA_, sB_, sC_, i64_w, i32_w]
          rfl
         refine one_ (i := 10) (N := some 66) (tf 19 63487) rfl rfl (one_of HT_.out (by kernel_rfl)) (by decide) (fun K hK => ?_)
         have hcv36 := own_string (P := Try.prog) Try.underlying63 Try.underlying5 Try.underlying9 (Kd.own_of_R HO207.out)
         refine value_ (w1 := ?_) (v := ?_) (by rfl) rfl ?_ ?_
         rotate_left 2
         ·go_simp
          constructor
          ·rfl
          ·rfl
         clear hcv36
         refine hK.out _ _ trivial (fun hHeld => ?_)
         clear hK K
         refine norm_ (a' := ?_) ?_ ?_
         rotate_left
         ·show Act.put _ (some 66) _ = _
          simp only [Act.put, sA_, sB_, sC_, i64_w, i32_w]
          rfl
         refine pure_ (i := 11) (N := some 67) (v := ?_) (a' := ?_) (tf 19 65535) rfl rfl (any_of HT_.out (by kernel_rfl)) (fun _ _ _ h => h) (Or.inl ⟨by rfl, ?_⟩) ?_ ?_
         rotate_left
         ·intro w'
          go_simp
          with_reducible rfl
         rotate_left
         ·simp only [Act.put, sA_, sB_, sC_, i64_w, i32_w]
          rfl
         refine pure_ (i := 16) (N := some 72) (v := ?_) (a' := ?_) (tf 19 131071) rfl rfl (any_of HT_.out (by kernel_rfl)) (fun _ _ _ h => h) (Or.inl ⟨by rfl, ?_⟩) ?_ ?_
         rotate_left
         ·intro w'
          go_simp
          with_reducible rfl
         rotate_left
         ·simp only [Act.put, sA_, sB_, sC_, i64_w, i32_w]
          rfl
         refine one_ (i := 17) (N := some 73) (tf 19 262143) rfl rfl (one_of HT_.out (by kernel_rfl)) (by decide) (fun K hK => ?_)
         refine Kd.R_lit_step Kd.string _ 9 ?hg (N := 73) ?hd (xs := ([a0, x11_5, t203.extract 0 (t204 : Int).toNat, ((t203.extract 0 (t204 : Int).toNat) ++ (strOfNums y205)) ++ (t203.extract ((ji25) : Int).toNat t203.size)] : List ByteArray)) (inner := [.string a0, .string x11_5, .string (t203.extract 0 (t204 : Int).toNat), .string (((t203.extract 0 (t204 : Int).toNat) ++ (strOfNums y205)) ++ (t203.extract ((ji25) : Int).toNat t203.size))]) (ok := fun _ => True) (okp := fun _ => True) ?hr ?hp (fun _ hk => hk) trivial (Below.refl _ _) (Nat.le_refl _) (by simp) ?_; (case hd => rfl); (case hg => rfl); (case hr => first | (go_simp; done) | (go_simp; rfl)); (case hp => exact (Reps.one (show Kd.M Kd.string _ _ _ a0 [.string a0] from rfl) (Reps.one (show Kd.M Kd.string _ _ _ x11_5 [.string x11_5] from rfl) (Reps.one (show Kd.M Kd.string _ _ _ (t203.extract 0 (t204 : Int).toNat) [.string (t203.extract 0 (t204 : Int).toNat)] from rfl) (Reps.one (show Kd.M Kd.string _ _ _ (((t203.extract 0 (t204 : Int).toNat) ++ (strOfNums y205)) ++ (t203.extract ((ji25) : Int).toNat t203.size)) [.string (((t203.extract 0 (t204 : Int).toNat) ++ (strOfNums y205)) ++ (t203.extract ((ji25) : Int).toNat t203.size))] from rfl) (Reps.none _ _))))))
         intro v209 w37 ho38 hb hg_ hnew_
         clear hg_ hnew_
         (first | rw [← Ny208.out] at ho38 | (simp only [Int.reduceToNat] at ho38; rw [← Ny208.out] at ho38))
         have n0_ := Aside0.mk (Kd.R_elder' (by (with_reducible repeat (first | apply Kd.R_alloc | apply Kd.R_drewN | apply Kd.R_drew)); exact HO202.out) (Kd.R_base ho38) hb)
         have n1_ := Aside0.mk (Kd.R_below (by (with_reducible repeat (first | apply Kd.R_alloc | apply Kd.R_drewN | apply Kd.R_drew)); exact HO207.out) hb)
         have n2_ := Aside0.mk (Kd.R_lower (Kd.R_new' ho38 (Kd.R_lt (by (with_reducible repeat (first | apply Kd.R_alloc | apply Kd.R_drewN | apply Kd.R_drew)); exact HO202.out))) (below_size (by repeat (first | (with_reducible first | exact HB.out | apply bA_ | apply bN_ | apply bD_ | refine bS_ ?_ GE195.out) | exact HB.out))))
         have n3_ := Aside0.mk (blk_below (g := gb195) (o := .cells #[.bool a2_0, .int .i64 a2_1, .slice A2_2 l2_2.length c2_2] 73 (0, 0)) (by (with_reducible repeat (first | refine kN_ ?_ _ | refine kD_ ?_ | refine kA_ ?_ _)); exact BK195.out) hb)
         have n4_ := Aside0.mk (below_step (by repeat (first | (with_reducible first | exact HB.out | apply bA_ | apply bN_ | apply bD_ | refine bS_ ?_ GE195.out) | exact HB.out)) hb)
         clear HO202
         clear HO207
         clear BK195
         clear HB
         have HO202 := n0_
         have HO207 := n1_
         have HO210 := n2_
         have BK195 := n3_
         have HB := n4_
         clear n0_ n1_ n2_ n3_ n4_
         clear hb ho38
         refine hK.out _ _ trivial (fun hHeld => ?_)
         clear hK K
         refine norm_ (a' := ?_) ?_ ?_
         rotate_left
         ·show Act.put _ (some 73) _ = _
          simp only [Act.put, sA_, sB_, sC_, i64_w, i32_w]
          rfl
         refine pure_ (i := 18) (N := some 15) (v := ?_) (a' := ?_) (tf 19 524287) rfl rfl (any_of HT_.out (by kernel_rfl)) (fun _ _ _ h => h) (Or.inl ⟨by rfl, ?_⟩) ?_ ?_
         rotate_left
         ·intro w'
          go_simp
          with_reducible rfl
         rotate_left
         ·simp only [Act.put, sA_, sB_, sC_, i64_w, i32_w]
          rfl
         refine done_ (done_of HT_.out (by kernel_rfl)) ?_
         try go_wp2
         go_loopg [16] kj5 (fun kq v16 w' => ∃ (x16_2 : Int), v16 = .int .i64 x16_2 ∧ Aside0 (platformfwlaw05_BytecodeDecodesPaths.l1 kq y208 x16_2 = some r) ∧ Aside0 (kq ≤ kj5) ∧ Aside0 (Kd.R Kd.string 9 w' w.heap.size (fun _ => True) v209 y208) ∧ Aside0 (w'.heap[gb195]? = some (.cells #[.bool a2_0, .int .i64 a2_1, (.slice A2_2 l2_2.length c2_2)] 73 (0, 0))) ∧ Aside0 (Below w.heap.size w w'))
         case atStart => exact ⟨(0), (by first | rfl | (simp; done) | (simp [*]; done)), H', ⟨Nat.le_refl _⟩, ⟨by (with_reducible repeat (first | apply Kd.R_alloc | apply Kd.R_drewN | apply Kd.R_drew)); exact Kd.R_mono HO210.out (fun _ hk => trivial)⟩, ⟨by (with_reducible repeat (first | refine kN_ ?_ _ | refine kD_ ?_ | refine kA_ ?_ _)); exact BK195.out⟩, ⟨by repeat (first | (with_reducible first | exact HB.out | apply bA_ | apply bN_ | apply bD_ | refine bS_ ?_ GE195.out) | exact HB.out)⟩⟩
         case round =>
          clear H'
          try clear c1
          try clear p1
          try clear q1
          try clear hx1
          try clear c2
          try clear p2
          try clear hcv3
          try clear c4
          try clear p6
          try clear c8
          try clear c8b0
          try clear c9
          try clear c9b0
          try clear c10
          try clear c10b0
          try clear c12
          try clear c12b0
          try clear c12b1
          try clear c13
          try clear c13b0
          try clear c13b1
          try clear c14
          try clear c14b0
          try clear c14b1
          try clear c15
          try clear c15b0
          try clear c15b1
          try clear c15b2
          try clear p19
          try clear q19
          try clear hx19
          try clear c20
          try clear c20b0
          try clear c20b1
          try clear c21
          try clear c21b0
          try clear c21b1
          try clear c22
          try clear c22b0
          try clear c23
          try clear c23b0
          try clear c24
          try clear c24b0
          try clear c24b1
          try clear c24b2
          try clear c26
          try clear c26b0
          try clear c26b1
          try clear c27
          try clear c27b0
          try clear c27b1
          try clear c28
          try clear c28b0
          try clear c28b1
          try clear c28b2
          try clear hcv36
          try clear hcz29_0 hcz29_1 hcz29_2
          try clear hfz29_0 hfz29_1 hfz29_2
          try clear hx196_0
          try clear hx197_0
          try clear p1
          try clear p196
          try clear p197
          try clear p2
          try clear p6
          try clear q1
          try clear q196
          try clear q197
          obtain ⟨x16_2, rfl, HA, HK2, HO_15, BK195, HB⟩ := hrel
          cases gk with
          | zero => exact absurd HA.out (by simp [platformfwlaw05_BytecodeDecodesPaths.l1])
          | succ k2 =>
           have H := HA.out
           clear HA
           simp only [platformfwlaw05_BytecodeDecodesPaths.l1] at H
           by_cases c39 : x16_2 < (y208.length : Int)
           ·rw [if_pos c39] at H
            have c39b0 : decide (x16_2 < (y208.length : Int)) = true := decide_eq_true c39
            clear c39
            by_cases c40 : 0 ≤ x16_2
            ·rw [if_pos c40] at H
             have c40b0 : decide (0 ≤ x16_2) = true := decide_eq_true c40
             clear c40
             replace H := Option.bind_eq_some_iff.mp H
             obtain ⟨⟨t213, t214, t215, t218, t219⟩, A410, H⟩ := H
             replace H : ((platformfwref05_ReadPath.f k2 (rdOf ByteArray.empty y208 x16_2)).bind fun bt222 => ((platformfwlaw05_same.f k2 t213 t214 t215 bt222.1 bt222.2.1 bt222.2.2.1).bind fun t230 => (if t230 = true then (if t218 = bt222.2.2.2.1 then (if t219 = bt222.2.2.2.2 then (platformfwlaw05_BytecodeDecodesPaths.l1 k2 y208 (wrap64 (x16_2 + 1))) else (some false)) else (some false)) else (some false)))) = some r := H
             have A41 := Aside0.mk A410
             clear A410
             replace H := Option.bind_eq_some_iff.mp H
             obtain ⟨⟨t222, t223, t224, t227, t228⟩, A420, H⟩ := H
             replace H : ((platformfwlaw05_same.f k2 t213 t214 t215 t222 t223 t224).bind fun t230 => (if t230 = true then (if t218 = t227 then (if t219 = t228 then (platformfwlaw05_BytecodeDecodesPaths.l1 k2 y208 (wrap64 (x16_2 + 1))) else (some false)) else (some false)) else (some false))) = some r := H
             have A42 := Aside0.mk A420
             clear A420
             replace H := Option.bind_eq_some_iff.mp H
             obtain ⟨t230, A430, H⟩ := H
             replace H : (if t230 = true then (if t218 = t227 then (if t219 = t228 then (platformfwlaw05_BytecodeDecodesPaths.l1 k2 y208 (wrap64 (x16_2 + 1))) else (some false)) else (some false)) else (some false)) = some r := H
             have A43 := Aside0.mk A430
             clear A430
             by_cases c44 : t230 = true
             ·subst c44
              have H1 : (if t218 = t227 then (if t219 = t228 then (platformfwlaw05_BytecodeDecodesPaths.l1 k2 y208 (wrap64 (x16_2 + 1))) else (some false)) else (some false)) = some r := by rw [if_pos rfl] at H; exact H
              clear H
              have H := H1
              clear H1
              by_cases c45 : t218 = t227
              ·rw [if_pos c45] at H
               have c45b0 : (t218 == t227) = true := beq_iff_eq.mpr c45
               have c45b1 : (t218 != t227) = false := bne_eq_false_iff_eq.mpr c45
               clear c45
               by_cases c46 : t219 = t228
               ·rw [if_pos c46] at H
                have c46b0 : (t219 == t228) = true := beq_iff_eq.mpr c46
                have c46b1 : (t219 != t228) = false := bne_eq_false_iff_eq.mpr c46
                clear c46
                have H' := Aside0.mk H
                clear H
                obtain ⟨Ao47, co47, eo47⟩ := Kd.R_slice HO_15.out
                subst eo47
                have p212 : 0 ≤ (x16_2 : Int) := of_decide_eq_true (by first | (with_reducible assumption) | assumption)
                have q212 : x16_2 < (y208.length : Int) := of_decide_eq_true (by first | (with_reducible assumption) | assumption)
                obtain ⟨ad212, e212, hx212_0⟩ := Kd.at_string (Kd.R_reads' HO_15.out).2.2 x16_2 p212 q212
                cases e212
                replace p212 := eq_true p212
                replace q212 := eq_true q212
                go_wp2_with (first | ((with_reducible refine gate_callee (f := 48) rfl ?_); refine goesL_ (some 85) rfl rfl Try.func48 (by kernel_rfl) rfl #[.string (rdOf ByteArray.empty y208 x16_2)] rfl (by (try simp only [List.map_toArray, List.map_cons, List.map_nil]); first | done | rfl | (simp only [List.length_drop, List.length_take]; rfl)) ?_; (with_reducible refine (bytecode_Path.calls k2 (rdOf ByteArray.empty y208 x16_2) t213 t214 t215 t218 t219 _ A41.out).mono ?_); rintro e w48 ⟨v216, rfl, ho0, hb⟩; refine ⟨_, rfl, ?_⟩; have n0_ := Aside0.mk (Kd.R_elder' (by (with_reducible repeat (first | apply Kd.R_alloc | apply Kd.R_drewN | apply Kd.R_drew)); exact HO_15.out) (Kd.R_base ho0) hb); have n1_ := Aside0.mk (Kd.R_lower (Kd.R_new' ho0 (Kd.R_lt (by (with_reducible repeat (first | apply Kd.R_alloc | apply Kd.R_drewN | apply Kd.R_drew)); exact HO_15.out))) (below_size (by repeat (first | (with_reducible first | exact HB.out | apply bA_ | apply bN_ | apply bD_ | refine bS_ ?_ GE195.out) | exact HB.out)))); have n2_ := Aside0.mk (blk_below (g := gb195) (o := .cells #[.bool a2_0, .int .i64 a2_1, .slice A2_2 l2_2.length c2_2] 73 (0, 0)) (by (with_reducible repeat (first | refine kN_ ?_ _ | refine kD_ ?_ | refine kA_ ?_ _)); exact BK195.out) hb); have n3_ := Aside0.mk (below_step (by repeat (first | (with_reducible first | exact HB.out | apply bA_ | apply bN_ | apply bD_ | refine bS_ ?_ GE195.out) | exact HB.out)) hb); clear HO_15; clear BK195; clear HB; have HO_15 := n0_; have HO217 := n1_; have BK195 := n2_; have HB := n3_; clear n0_ n1_ n2_ n3_; (try clear hb); (try clear hb2); (try clear hk); (try clear hi); (try clear ho0)) | ((with_reducible refine gate_dst (N := 17) rfl ?_); refine box_event ?hg (N := 17) ?hd (cs := #[.bool false, .int .i64 0, .slice none 0 0]) (t := 73) ?hr ?_; (case hd => rfl); (case hg => rfl); (case hr => first | (go_simp; done) | (go_simp; rfl)); intro gb220 hg w49 hbox hb; have n0_ := Aside0.mk (Kd.R_below (by (with_reducible repeat (first | apply Kd.R_alloc | apply Kd.R_drewN | apply Kd.R_drew)); exact HO_15.out) hb); have n1_ := Aside0.mk (Kd.R_below (by (with_reducible repeat (first | apply Kd.R_alloc | apply Kd.R_drewN | apply Kd.R_drew)); exact HO217.out) hb); have n2_ := Aside0.mk (blk_below (g := gb195) (o := .cells #[.bool a2_0, .int .i64 a2_1, .slice A2_2 l2_2.length c2_2] 73 (0, 0)) (by (with_reducible repeat (first | refine kN_ ?_ _ | refine kD_ ?_ | refine kA_ ?_ _)); exact BK195.out) hb); have n3_ := Aside0.mk (below_step (by repeat (first | (with_reducible first | exact HB.out | apply bA_ | apply bN_ | apply bD_ | refine bS_ ?_ GE195.out) | exact HB.out)) hb); have n4_ := Aside0.mk (hbox); have n5_ := Aside0.mk ((by rw [hg]; exact (below_size (by repeat (first | (with_reducible first | exact HB.out | apply bA_ | apply bN_ | apply bD_ | refine bS_ ?_ GE195.out) | exact HB.out))) : w.heap.size ≤ gb220)); have n6_ := Aside0.mk ((by rw [hg]; exact (below_size (by repeat (first | (with_reducible first | exact HB.out | apply bA_ | apply bN_ | apply bD_ | refine bS_ ?_ GE195.out) | exact HB.out))) : w.heap.size ≤ gb220)); have n7_ := Aside0.mk ((by rw [hg]; exact Nat.ne_of_lt (blk_lt (g := gb195) (o := .cells #[.bool a2_0, .int .i64 a2_1, .slice A2_2 l2_2.length c2_2] 73 (0, 0)) (by (with_reducible repeat (first | refine kN_ ?_ _ | refine kD_ ?_ | refine kA_ ?_ _)); exact BK195.out)) : gb195 ≠ gb220)); have n8_ := Aside0.mk ((by rw [hg]; exact Nat.ne_of_gt (blk_lt (g := gb195) (o := .cells #[.bool a2_0, .int .i64 a2_1, .slice A2_2 l2_2.length c2_2] 73 (0, 0)) (by (with_reducible repeat (first | refine kN_ ?_ _ | refine kD_ ?_ | refine kA_ ?_ _)); exact BK195.out)) : gb220 ≠ gb195)); clear HO_15; clear HO217; clear BK195; clear HB; have HO_15 := n0_; have HO217 := n1_; have BK195 := n2_; have HB := n3_; have BK220 := n4_; have GW220 := n5_; have GE220 := n6_; have NB195_220 := n7_; have NB220_195 := n8_; clear n0_ n1_ n2_ n3_ n4_ n5_ n6_ n7_ n8_; clear hb hbox hg; have hnb50 := NB220_195.out; have hnc50 := NB195_220.out; obtain ⟨hcz51_0, hcz51_1, hcz51_2⟩ := cells3_ BK220.out; obtain ⟨hfz51_0, hfz51_1, hfz51_2⟩ := froz3_ BK220.out; obtain ⟨Ao52, co52, eo52⟩ := Kd.R_slice HO217.out; subst eo52; have p221 : 0 ≤ (x16_2 : Int) := of_decide_eq_true (by first | (with_reducible assumption) | assumption); have q221 : x16_2 < (y208.length : Int) := of_decide_eq_true (by first | (with_reducible assumption) | assumption); obtain ⟨ad221, e221, hx221_0⟩ := Kd.at_string (Kd.R_reads' HO_15.out).2.2 x16_2 p221 q221; obtain rfl : ad212 = ad221 := (by injection e221); have hn221_0 : ad212.block ≠ gb220 := Kd.own_blk (Kd.R_ne HO_15.out BK220.out (by decide)); have hn221_1 : ad212.block ≠ gb220 := Kd.own_blk (Kd.R_ne HO_15.out BK220.out (by decide)); have hn221_2 : ad212.block ≠ gb220 := Kd.own_blk (Kd.R_ne HO_15.out BK220.out (by decide)); replace hx221_0 := (cell_far (p := ⟨gb220, 0, none⟩) (by first | (rw [add_block]; exact hn221_0) | (show (Addr.add _ _).block ≠ _; rw [add_block]; exact hn221_0) | exact hn221_0) (.bool t213)).trans hx221_0; replace hx221_0 := (cell_far (p := ⟨gb220, 1, none⟩) (by first | (rw [add_block]; exact hn221_1) | (show (Addr.add _ _).block ≠ _; rw [add_block]; exact hn221_1) | exact hn221_1) (.int .i64 t214)).trans hx221_0; replace hx221_0 := (cell_far (p := ⟨gb220, 2, none⟩) (by first | (rw [add_block]; exact hn221_2) | (show (Addr.add _ _).block ≠ _; rw [add_block]; exact hn221_2) | exact hn221_2) (.slice Ao52 t215.length co52)).trans hx221_0; clear hn221_0; clear hn221_1; clear hn221_2; replace p221 := eq_true p221; replace q221 := eq_true q221) | ((with_reducible refine gate_callee (f := 49) rfl ?_); refine goesL_ (some 94) rfl rfl Try.func49 (by kernel_rfl) rfl #[.string (rdOf ByteArray.empty y208 x16_2)] rfl (by (try simp only [List.map_toArray, List.map_cons, List.map_nil]); first | done | rfl | (simp only [List.length_drop, List.length_take]; rfl)) ?_; (with_reducible refine (platformfwref05_ReadPath.calls k2 (rdOf ByteArray.empty y208 x16_2) t222 t223 t224 t227 t228 _ A42.out).mono ?_); rintro e w53 ⟨v225, rfl, ho0, hb⟩; refine ⟨_, rfl, ?_⟩; have n0_ := Aside0.mk (Kd.R_elder' (by (with_reducible repeat (first | apply Kd.R_alloc | apply Kd.R_drewN | apply Kd.R_drew)); exact (Kd.R_mono (Kd.R_far (p := ⟨gb220, 2, none⟩) (Kd.R_far (p := ⟨gb220, 1, none⟩) (Kd.R_far (p := ⟨gb220, 0, none⟩) (Kd.R_types HO_15.out BK220.out (by decide)) (fun _ hk => hk.2) (.bool t213)) (fun _ hk => hk.2) (.int .i64 t214)) (fun _ hk => hk.2) (.slice Ao52 t215.length co52)) (fun _ h_ => h_.1))) (Kd.R_base ho0) hb); have n1_ := Aside0.mk (Kd.R_elder' (by (with_reducible repeat (first | apply Kd.R_alloc | apply Kd.R_drewN | apply Kd.R_drew)); exact (Kd.R_mono (Kd.R_far (p := ⟨gb220, 2, none⟩) (Kd.R_far (p := ⟨gb220, 1, none⟩) (Kd.R_far (p := ⟨gb220, 0, none⟩) (Kd.R_types HO217.out BK220.out (by decide)) (fun _ hk => hk.2) (.bool t213)) (fun _ hk => hk.2) (.int .i64 t214)) (fun _ hk => hk.2) (.slice Ao52 t215.length co52)) (fun _ h_ => h_.1))) (Kd.R_base ho0) hb); have n2_ := Aside0.mk (Kd.R_lower (Kd.R_new' (Kd.R_new' ho0 (Kd.R_lt (by (with_reducible repeat (first | apply Kd.R_alloc | apply Kd.R_drewN | apply Kd.R_drew)); exact (Kd.R_mono (Kd.R_far (p := ⟨gb220, 2, none⟩) (Kd.R_far (p := ⟨gb220, 1, none⟩) (Kd.R_far (p := ⟨gb220, 0, none⟩) (Kd.R_types HO_15.out BK220.out (by decide)) (fun _ hk => hk.2) (.bool t213)) (fun _ hk => hk.2) (.int .i64 t214)) (fun _ hk => hk.2) (.slice Ao52 t215.length co52)) (fun _ h_ => h_.1))))) (Kd.R_lt (by (with_reducible repeat (first | apply Kd.R_alloc | apply Kd.R_drewN | apply Kd.R_drew)); exact (Kd.R_mono (Kd.R_far (p := ⟨gb220, 2, none⟩) (Kd.R_far (p := ⟨gb220, 1, none⟩) (Kd.R_far (p := ⟨gb220, 0, none⟩) (Kd.R_types HO217.out BK220.out (by decide)) (fun _ hk => hk.2) (.bool t213)) (fun _ hk => hk.2) (.int .i64 t214)) (fun _ hk => hk.2) (.slice Ao52 t215.length co52)) (fun _ h_ => h_.1))))) (below_size (by repeat (first | (with_reducible first | exact HB.out | apply bA_ | apply bN_ | apply bD_ | refine bS_ ?_ GE195.out | refine bS_ ?_ GE220.out) | exact HB.out)))); have n3_ := Aside0.mk (blk_below (g := gb195) (o := .cells #[.bool a2_0, .int .i64 a2_1, .slice A2_2 l2_2.length c2_2] 73 (0, 0)) (by (with_reducible repeat (first | refine kN_ ?_ _ | refine kD_ ?_ | refine kA_ ?_ _)); refine blk_far ?_ NB195_220.out _; (with_reducible repeat (first | refine kN_ ?_ _ | refine kD_ ?_ | refine kA_ ?_ _)); refine blk_far ?_ NB195_220.out _; (with_reducible repeat (first | refine kN_ ?_ _ | refine kD_ ?_ | refine kA_ ?_ _)); refine blk_far ?_ NB195_220.out _; (with_reducible repeat (first | refine kN_ ?_ _ | refine kD_ ?_ | refine kA_ ?_ _)); exact BK195.out) hb); have n4_ := Aside0.mk (blk_below (g := gb220) (o := .cells #[.bool t213, .int .i64 t214, .slice Ao52 t215.length co52] 73 (0, 0)) (by (with_reducible repeat (first | refine kN_ ?_ _ | refine kD_ ?_ | refine kA_ ?_ _)); refine blk_put (cs := #[.bool t213, .int .i64 t214, .slice none 0 0]) ?_ 2 _ rfl; (with_reducible repeat (first | refine kN_ ?_ _ | refine kD_ ?_ | refine kA_ ?_ _)); refine blk_put (cs := #[.bool t213, .int .i64 0, .slice none 0 0]) ?_ 1 _ rfl; (with_reducible repeat (first | refine kN_ ?_ _ | refine kD_ ?_ | refine kA_ ?_ _)); refine blk_put (cs := #[.bool false, .int .i64 0, .slice none 0 0]) ?_ 0 _ rfl; (with_reducible repeat (first | refine kN_ ?_ _ | refine kD_ ?_ | refine kA_ ?_ _)); exact BK220.out) hb); have n5_ := Aside0.mk (below_step (by repeat (first | (with_reducible first | exact HB.out | apply bA_ | apply bN_ | apply bD_ | refine bS_ ?_ GE195.out | refine bS_ ?_ GE220.out) | exact HB.out)) hb); clear HO_15; clear HO217; clear BK195; clear BK220; clear HB; have HO_15 := n0_; have HO217 := n1_; have HO226 := n2_; have BK195 := n3_; have BK220 := n4_; have HB := n5_; clear n0_ n1_ n2_ n3_ n4_ n5_; (try clear hb); (try clear hb2); (try clear hk); (try clear hi); (try clear ho0)) | ((with_reducible refine gate_dst (N := 20) rfl ?_); refine box_event ?hg (N := 20) ?hd (cs := #[.bool false, .int .i64 0, .slice none 0 0]) (t := 73) ?hr ?_; (case hd => rfl); (case hg => rfl); (case hr => first | (go_simp; done) | (go_simp; rfl)); intro gb229 hg w54 hbox hb; have n0_ := Aside0.mk (Kd.R_below (by (with_reducible repeat (first | apply Kd.R_alloc | apply Kd.R_drewN | apply Kd.R_drew)); exact HO_15.out) hb); have n1_ := Aside0.mk (Kd.R_below (by (with_reducible repeat (first | apply Kd.R_alloc | apply Kd.R_drewN | apply Kd.R_drew)); exact HO217.out) hb); have n2_ := Aside0.mk (Kd.R_below (by (with_reducible repeat (first | apply Kd.R_alloc | apply Kd.R_drewN | apply Kd.R_drew)); exact HO226.out) hb); have n3_ := Aside0.mk (blk_below (g := gb195) (o := .cells #[.bool a2_0, .int .i64 a2_1, .slice A2_2 l2_2.length c2_2] 73 (0, 0)) (by (with_reducible repeat (first | refine kN_ ?_ _ | refine kD_ ?_ | refine kA_ ?_ _)); exact BK195.out) hb); have n4_ := Aside0.mk (blk_below (g := gb220) (o := .cells #[.bool t213, .int .i64 t214, .slice Ao52 t215.length co52] 73 (0, 0)) (by (with_reducible repeat (first | refine kN_ ?_ _ | refine kD_ ?_ | refine kA_ ?_ _)); exact BK220.out) hb); have n5_ := Aside0.mk (below_step (by repeat (first | (with_reducible first | exact HB.out | apply bA_ | apply bN_ | apply bD_ | refine bS_ ?_ GE195.out | refine bS_ ?_ GE220.out) | exact HB.out)) hb); have n6_ := Aside0.mk (hbox); have n7_ := Aside0.mk ((by rw [hg]; exact (below_size (by repeat (first | (with_reducible first | exact HB.out | apply bA_ | apply bN_ | apply bD_ | refine bS_ ?_ GE195.out | refine bS_ ?_ GE220.out) | exact HB.out))) : w.heap.size ≤ gb229)); have n8_ := Aside0.mk ((by rw [hg]; exact (below_size (by repeat (first | (with_reducible first | exact HB.out | apply bA_ | apply bN_ | apply bD_ | refine bS_ ?_ GE195.out | refine bS_ ?_ GE220.out) | exact HB.out))) : w.heap.size ≤ gb229)); have n9_ := Aside0.mk ((by rw [hg]; exact Nat.ne_of_lt (blk_lt (g := gb195) (o := .cells #[.bool a2_0, .int .i64 a2_1, .slice A2_2 l2_2.length c2_2] 73 (0, 0)) (by (with_reducible repeat (first | refine kN_ ?_ _ | refine kD_ ?_ | refine kA_ ?_ _)); exact BK195.out)) : gb195 ≠ gb229)); have n10_ := Aside0.mk ((by rw [hg]; exact Nat.ne_of_gt (blk_lt (g := gb195) (o := .cells #[.bool a2_0, .int .i64 a2_1, .slice A2_2 l2_2.length c2_2] 73 (0, 0)) (by (with_reducible repeat (first | refine kN_ ?_ _ | refine kD_ ?_ | refine kA_ ?_ _)); exact BK195.out)) : gb229 ≠ gb195)); have n11_ := Aside0.mk ((by rw [hg]; exact Nat.ne_of_lt (blk_lt (g := gb220) (o := .cells #[.bool t213, .int .i64 t214, .slice Ao52 t215.length co52] 73 (0, 0)) (by (with_reducible repeat (first | refine kN_ ?_ _ | refine kD_ ?_ | refine kA_ ?_ _)); exact BK220.out)) : gb220 ≠ gb229)); have n12_ := Aside0.mk ((by rw [hg]; exact Nat.ne_of_gt (blk_lt (g := gb220) (o := .cells #[.bool t213, .int .i64 t214, .slice Ao52 t215.length co52] 73 (0, 0)) (by (with_reducible repeat (first | refine kN_ ?_ _ | refine kD_ ?_ | refine kA_ ?_ _)); exact BK220.out)) : gb229 ≠ gb220)); clear HO_15; clear HO217; clear HO226; clear BK195; clear BK220; clear HB; have HO_15 := n0_; have HO217 := n1_; have HO226 := n2_; have BK195 := n3_; have BK220 := n4_; have HB := n5_; have BK229 := n6_; have GW229 := n7_; have GE229 := n8_; have NB195_229 := n9_; have NB229_195 := n10_; have NB220_229 := n11_; have NB229_220 := n12_; clear n0_ n1_ n2_ n3_ n4_ n5_ n6_ n7_ n8_ n9_ n10_ n11_ n12_; clear hb hbox hg; have hnb55 := NB229_195.out; have hnc55 := NB195_229.out; have hnb56 := NB229_220.out; have hnc56 := NB220_229.out; obtain ⟨hcz57_0, hcz57_1, hcz57_2⟩ := cells3_ BK229.out; obtain ⟨hfz57_0, hfz57_1, hfz57_2⟩ := froz3_ BK229.out; obtain ⟨Ao58, co58, eo58⟩ := Kd.R_slice HO226.out; subst eo58; obtain ⟨hcz59_0, hcz59_1, hcz59_2⟩ := cells3_ BK220.out; obtain ⟨hfz59_0, hfz59_1, hfz59_2⟩ := froz3_ BK220.out) | ((with_reducible refine gate_callee (f := 50) rfl ?_); refine goesL_ (some 100) rfl rfl Try.func50 (by kernel_rfl) rfl #[.agg #[.bool t213, .int .i64 t214, .slice Ao52 t215.length co52], .agg #[.bool t222, .int .i64 t223, .slice Ao58 t224.length co58]] rfl (by (try simp only [List.map_toArray, List.map_cons, List.map_nil]); first | done | rfl | (simp only [List.length_drop, List.length_take]; rfl)) ?_; (with_reducible refine (platformfwlaw05_same.calls k2 t213 t214 _ _ t215 t222 t223 _ _ t224 true _ ?side1 ?side2 ?side3 ?side4 A43.out).mono ?_); (case side1 => refine (Kd.R_reads' (e := 9) (base := w.heap.size) (ok := fun k_ => ((True ∧ some k_ ≠ (.slice (some ad212) y208.length co47 : Value).ownBlock) ∧ some k_ ≠ (.slice Ao58 t224.length co58 : Value).ownBlock)) (n := t215.length) (c := co52) ?_).2.2; exact (by (with_reducible repeat (first | apply Kd.R_alloc | apply Kd.R_drewN | apply Kd.R_drew)); exact (Kd.R_mono (Kd.R_far (p := ⟨gb229, 2, none⟩) (Kd.R_far (p := ⟨gb229, 1, none⟩) (Kd.R_far (p := ⟨gb229, 0, none⟩) (Kd.R_types HO217.out BK229.out (by decide)) (fun _ hk => hk.2) (.bool t222)) (fun _ hk => hk.2) (.int .i64 t223)) (fun _ hk => hk.2) (.slice Ao58 t224.length co58)) (fun _ h_ => h_.1)))); (case side2 => exact (Kd.R_reads' HO217.out).2.1); (case side3 => refine (Kd.R_reads' (e := 9) (base := w.heap.size) (ok := fun k_ => ((True ∧ some k_ ≠ (.slice (some ad212) y208.length co47 : Value).ownBlock) ∧ some k_ ≠ (.slice Ao52 t215.length co52 : Value).ownBlock)) (n := t224.length) (c := co58) ?_).2.2; exact (by (with_reducible repeat (first | apply Kd.R_alloc | apply Kd.R_drewN | apply Kd.R_drew)); exact (Kd.R_mono (Kd.R_far (p := ⟨gb229, 2, none⟩) (Kd.R_far (p := ⟨gb229, 1, none⟩) (Kd.R_far (p := ⟨gb229, 0, none⟩) (Kd.R_types HO226.out BK229.out (by decide)) (fun _ hk => hk.2) (.bool t222)) (fun _ hk => hk.2) (.int .i64 t223)) (fun _ hk => hk.2) (.slice Ao58 t224.length co58)) (fun _ h_ => h_.1)))); (case side4 => exact (Kd.R_reads' HO226.out).2.1); rintro e w60 ⟨rfl, hb⟩; refine ⟨_, rfl, ?_⟩; have n0_ := Aside0.mk (Kd.R_below (by (with_reducible repeat (first | apply Kd.R_alloc | apply Kd.R_drewN | apply Kd.R_drew)); exact (Kd.R_mono (Kd.R_far (p := ⟨gb229, 2, none⟩) (Kd.R_far (p := ⟨gb229, 1, none⟩) (Kd.R_far (p := ⟨gb229, 0, none⟩) (Kd.R_types HO_15.out BK229.out (by decide)) (fun _ hk => hk.2) (.bool t222)) (fun _ hk => hk.2) (.int .i64 t223)) (fun _ hk => hk.2) (.slice Ao58 t224.length co58)) (fun _ h_ => h_.1))) hb); have n1_ := Aside0.mk (Kd.R_below (by (with_reducible repeat (first | apply Kd.R_alloc | apply Kd.R_drewN | apply Kd.R_drew)); exact (Kd.R_mono (Kd.R_far (p := ⟨gb229, 2, none⟩) (Kd.R_far (p := ⟨gb229, 1, none⟩) (Kd.R_far (p := ⟨gb229, 0, none⟩) (Kd.R_types HO217.out BK229.out (by decide)) (fun _ hk => hk.2) (.bool t222)) (fun _ hk => hk.2) (.int .i64 t223)) (fun _ hk => hk.2) (.slice Ao58 t224.length co58)) (fun _ h_ => h_.1))) hb); have n2_ := Aside0.mk (Kd.R_below (by (with_reducible repeat (first | apply Kd.R_alloc | apply Kd.R_drewN | apply Kd.R_drew)); exact (Kd.R_mono (Kd.R_far (p := ⟨gb229, 2, none⟩) (Kd.R_far (p := ⟨gb229, 1, none⟩) (Kd.R_far (p := ⟨gb229, 0, none⟩) (Kd.R_types HO226.out BK229.out (by decide)) (fun _ hk => hk.2) (.bool t222)) (fun _ hk => hk.2) (.int .i64 t223)) (fun _ hk => hk.2) (.slice Ao58 t224.length co58)) (fun _ h_ => h_.1))) hb); have n3_ := Aside0.mk (blk_below (g := gb195) (o := .cells #[.bool a2_0, .int .i64 a2_1, .slice A2_2 l2_2.length c2_2] 73 (0, 0)) (by (with_reducible repeat (first | refine kN_ ?_ _ | refine kD_ ?_ | refine kA_ ?_ _)); refine blk_far ?_ NB195_229.out _; (with_reducible repeat (first | refine kN_ ?_ _ | refine kD_ ?_ | refine kA_ ?_ _)); refine blk_far ?_ NB195_229.out _; (with_reducible repeat (first | refine kN_ ?_ _ | refine kD_ ?_ | refine kA_ ?_ _)); refine blk_far ?_ NB195_229.out _; (with_reducible repeat (first | refine kN_ ?_ _ | refine kD_ ?_ | refine kA_ ?_ _)); exact BK195.out) hb); have n4_ := Aside0.mk (blk_below (g := gb220) (o := .cells #[.bool t213, .int .i64 t214, .slice Ao52 t215.length co52] 73 (0, 0)) (by (with_reducible repeat (first | refine kN_ ?_ _ | refine kD_ ?_ | refine kA_ ?_ _)); refine blk_far ?_ NB220_229.out _; (with_reducible repeat (first | refine kN_ ?_ _ | refine kD_ ?_ | refine kA_ ?_ _)); refine blk_far ?_ NB220_229.out _; (with_reducible repeat (first | refine kN_ ?_ _ | refine kD_ ?_ | refine kA_ ?_ _)); refine blk_far ?_ NB220_229.out _; (with_reducible repeat (first | refine kN_ ?_ _ | refine kD_ ?_ | refine kA_ ?_ _)); exact BK220.out) hb); have n5_ := Aside0.mk (blk_below (g := gb229) (o := .cells #[.bool t222, .int .i64 t223, .slice Ao58 t224.length co58] 73 (0, 0)) (by (with_reducible repeat (first | refine kN_ ?_ _ | refine kD_ ?_ | refine kA_ ?_ _)); refine blk_put (cs := #[.bool t222, .int .i64 t223, .slice none 0 0]) ?_ 2 _ rfl; (with_reducible repeat (first | refine kN_ ?_ _ | refine kD_ ?_ | refine kA_ ?_ _)); refine blk_put (cs := #[.bool t222, .int .i64 0, .slice none 0 0]) ?_ 1 _ rfl; (with_reducible repeat (first | refine kN_ ?_ _ | refine kD_ ?_ | refine kA_ ?_ _)); refine blk_put (cs := #[.bool false, .int .i64 0, .slice none 0 0]) ?_ 0 _ rfl; (with_reducible repeat (first | refine kN_ ?_ _ | refine kD_ ?_ | refine kA_ ?_ _)); exact BK229.out) hb); have n6_ := Aside0.mk (below_step (by repeat (first | (with_reducible first | exact HB.out | apply bA_ | apply bN_ | apply bD_ | refine bS_ ?_ GE195.out | refine bS_ ?_ GE220.out | refine bS_ ?_ GE229.out) | exact HB.out)) hb); clear HO_15; clear HO217; clear HO226; clear BK195; clear BK220; clear BK229; clear HB; have HO_15 := n0_; have HO217 := n1_; have HO226 := n2_; have BK195 := n3_; have BK220 := n4_; have BK229 := n5_; have HB := n6_; clear n0_ n1_ n2_ n3_ n4_ n5_ n6_; (try clear hb); (try clear hb2); (try clear hk); (try clear hi)))
                all_goals (try (exfalso; simp only [beq_iff_eq, bne_iff_ne, ne_eq, ByteArray.size_extract, decide_eq_true_eq, decide_eq_false_iff_not, beq_eq_false_iff_ne, bne_eq_false_iff_eq, eq_iff_iff, iff_true, iff_false] at *; unfold wrap64 at *; omega))
                go_roundg k2
                case measure => have := HJ5.out; have := HK2.out; omega
                case rel => exact ⟨(wrap64 (x16_2 + 1)), (by first | rfl | (simp; done) | (simp [*]; done)), H', ⟨by have := HJ5.out; have := HK2.out; omega⟩, ⟨by (with_reducible repeat (first | apply Kd.R_alloc | apply Kd.R_drewN | apply Kd.R_drew)); exact Kd.R_mono HO_15.out (fun _ hk => trivial)⟩, ⟨by (with_reducible repeat (first | refine kN_ ?_ _ | refine kD_ ?_ | refine kA_ ?_ _)); exact BK195.out⟩, ⟨by repeat (first | (with_reducible first | exact HB.out | apply bA_ | apply bN_ | apply bD_ | refine bS_ ?_ GE195.out | refine bS_ ?_ GE220.out | refine bS_ ?_ GE229.out) | exact HB.out)⟩⟩
               ·rw [if_neg c46] at H
                have c46b0 : (t219 == t228) = false := beq_eq_false_iff_ne.mpr c46
                have c46b1 : (t219 != t228) = true := bne_iff_ne.mpr c46
                obtain rfl := Option.some.inj H
                exact absurd hr_.out (by simp)
              ·rw [if_neg c45] at H
               have c45b0 : (t218 == t227) = false := beq_eq_false_iff_ne.mpr c45
               have c45b1 : (t218 != t227) = true := bne_iff_ne.mpr c45
               obtain rfl := Option.some.inj H
               exact absurd hr_.out (by simp)
             ·replace c44 := Bool.eq_false_iff.mpr c44
              subst c44
              have H1 : (some false) = some r := by rw [if_neg (show ¬ (false = true) by decide)] at H; exact H
              clear H
              have H := H1
              clear H1
              obtain rfl := Option.some.inj H
              exact absurd hr_.out (by simp)
            ·rw [if_neg c40] at H
             exact absurd H (by simp)
           ·rw [if_neg c39] at H
            have c39b0 : decide (x16_2 < (y208.length : Int)) = false := decide_eq_false c39
            clear c39
            replace H := Option.bind_eq_some_iff.mp H
            obtain ⟨t211, A610, H⟩ := H
            replace H : (some t211) = some r := H
            have A61 := Aside0.mk A610
            clear A610
            obtain rfl := Option.some.inj H
            obtain ⟨Ao62, co62, eo62⟩ := Kd.R_slice HO_15.out
            subst eo62
            go_wp2_with (first | ((with_reducible refine gate_callee (f := 33) rfl ?_); refine goesL_ (some 112) rfl rfl Try.func33 (by kernel_rfl) rfl #[] rfl (by (try simp only [List.map_toArray, List.map_cons, List.map_nil]); first | done | rfl | (simp only [List.length_drop, List.length_take]; rfl)) ?_; (with_reducible refine (platformfwlaw05_awake.calls k2  t211 _ A61.out).mono ?_); rintro e w63 ⟨rfl, hb⟩; refine ⟨_, rfl, ?_⟩; have n0_ := Aside0.mk (Kd.R_below (by (with_reducible repeat (first | apply Kd.R_alloc | apply Kd.R_drewN | apply Kd.R_drew)); exact HO_15.out) hb); have n1_ := Aside0.mk (blk_below (g := gb195) (o := .cells #[.bool a2_0, .int .i64 a2_1, .slice A2_2 l2_2.length c2_2] 73 (0, 0)) (by (with_reducible repeat (first | refine kN_ ?_ _ | refine kD_ ?_ | refine kA_ ?_ _)); exact BK195.out) hb); have n2_ := Aside0.mk (below_step (by repeat (first | (with_reducible first | exact HB.out | apply bA_ | apply bN_ | apply bD_ | refine bS_ ?_ GE195.out) | exact HB.out)) hb); clear HO_15; clear BK195; clear HB; have HO_15 := n0_; have BK195 := n1_; have HB := n2_; clear n0_ n1_ n2_; (try clear hb); (try clear hb2); (try clear hk); (try clear hi)))
            all_goals (try (exfalso; simp only [beq_iff_eq, bne_iff_ne, ne_eq, ByteArray.size_extract, decide_eq_true_eq, decide_eq_false_iff_not, beq_eq_false_iff_ne, bne_eq_false_iff_eq, eq_iff_iff, iff_true, iff_false] at *; unfold wrap64 at *; omega))
            go_ret
            exact ⟨by first | rfl | (simp [errW_none, errW_some] <;> rfl) | (simp only [← hji25]; first | rfl | (simp [errW_none, errW_some] <;> rfl)) | (simp [*, errW_none, errW_some] <;> rfl), by repeat (first | (with_reducible first | exact HB.out | apply bA_ | apply bN_ | apply bD_ | refine bS_ ?_ GE195.out) | exact HB.out)⟩
        ·rw [if_neg c28] at H
         exact absurd H (by simp)
       ·rw [if_neg c27] at H
        exact absurd H (by simp)
      ·rw [if_neg c26] at H
       exact absurd H (by simp)
     ·rw [if_neg c24] at H
      exact absurd H (by simp)
    ·rw [if_neg c21] at H
     exact absurd H (by simp)
   ·rw [if_neg c20] at H
    exact absurd H (by simp)

end Go.Proofs.Ytmnmidclaaiffaa.PBytecodeDecodesPaths
