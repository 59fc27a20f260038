-- Written by a program of this session's (wip/print_patch.py over the kit's print) out of the translation; Lean checks it.
import Derived.Test.YtmnmidclaaiffaaPBytecodeIncrementalx0
import Derived.Test.YtmnmidclaaiffaaPBytecodeIncrementalx1
import Derived.Test.YtmnmidclaaiffaaPBytecodeIncrementalx2
import Derived.Test.YtmnmidclaaiffaaPBytecodeIncrementalx5
import Derived.Test.YtmnmidclaaiffaaPBytecodeIncrementalx6
import Derived.Test.YtmnmidclaaiffaaExtP
namespace Go.Proofs.Ytmnmidclaaiffaa.PBytecodeIncremental
open Go.RowKit Go.Proofs.Ytmnmidclaaiffaa.Ext Go.Proofs.YtmnmidclaaiffaaW.PrintWords Go.Proofs.YtmnmidclaaiffaaW.PrintLast Go.Proofs.YtmnmidclaaiffaaW.PrintMore
attribute [local go_sem] max2_int min2_int max_two min_two max_three min_three max_four min_four   -- for this text's walks alone
set_option linter.unusedVariables false
set_option linter.unusedSimpArgs false

/-! ### platformfwlaw05_BytecodeIncremental: function 14 -/
mutual
def platformfwlaw05_BytecodeIncremental.l0 : Nat → ByteArray → ByteArray → Int → Option (Bool)
 | 0, _, _, _ => none
 | k + 1, x0, x1, x5 => if x5 < (x0.size : Int) then (platformfwlaw05_BytecodeIncremental.j1 k x0 x1 x5 (decide (x5 < 300))) else (platformfwlaw05_BytecodeIncremental.j1 k x0 x1 x5 false)
def platformfwlaw05_BytecodeIncremental.j1 : Nat → ByteArray → ByteArray → Int → Bool → Option (Bool)
 | 0, _, _, _, _ => none
 | k + 1, x0, x1, x5, x23 => if x23 = true then (if 0 ≤ x5 then (if x5 ≤ (x0.size : Int) then ((bytecode_Int.f k (x0.extract 0 (x5 : Int).toNat)).bind fun bt164 => (if (x0.extract 0 (x5 : Int).toNat).size + x1.size ≤ 9223372036854775807 then ((bytecode_Int.f k ((x0.extract 0 (x5 : Int).toNat) ++ x1)).bind fun bt167 => (if bt164.2.2 = 4 then (platformfwlaw05_BytecodeIncremental.j2 k x0 x1 x5 false) else (if bt164.1 = bt167.1 then (if bt164.2.1 = bt167.2.1 then (platformfwlaw05_BytecodeIncremental.j2 k x0 x1 x5 (bt164.2.2 != bt167.2.2)) else (platformfwlaw05_BytecodeIncremental.j2 k x0 x1 x5 true)) else (platformfwlaw05_BytecodeIncremental.j2 k x0 x1 x5 true)))) else (none))) else (none)) else (none)) else ((platformfwlaw05_awake.f k).bind fun t163 => (some t163))
def platformfwlaw05_BytecodeIncremental.j2 : Nat → ByteArray → ByteArray → Int → Bool → Option (Bool)
 | 0, _, _, _, _ => none
 | k + 1, x0, x1, x5, x60 => if x60 = true then (some false) else (if 0 ≤ x5 then (if x5 ≤ (x0.size : Int) then ((bytecode_Path.f k (x0.extract 0 (x5 : Int).toNat)).bind fun bt170 => (if (x0.extract 0 (x5 : Int).toNat).size + x1.size ≤ 9223372036854775807 then ((bytecode_Path.f k ((x0.extract 0 (x5 : Int).toNat) ++ x1)).bind fun bt178 => (if bt170.2.2.2.2 = 4 then (platformfwlaw05_BytecodeIncremental.j3 k x0 x1 x5 false) else ((platformfwlaw05_same.f k bt170.1 bt170.2.1 bt170.2.2.1 bt178.1 bt178.2.1 bt178.2.2.1).bind fun t186 => (if t186 = true then (if bt170.2.2.2.1 = bt178.2.2.2.1 then (platformfwlaw05_BytecodeIncremental.j3 k x0 x1 x5 (bt170.2.2.2.2 != bt178.2.2.2.2)) else (platformfwlaw05_BytecodeIncremental.j3 k x0 x1 x5 true)) else (platformfwlaw05_BytecodeIncremental.j3 k x0 x1 x5 true))))) else (none))) else (none)) else (none))
def platformfwlaw05_BytecodeIncremental.j3 : Nat → ByteArray → ByteArray → Int → Bool → Option (Bool)
 | 0, _, _, _, _ => none
 | k + 1, x0, x1, x5, x96 => if x96 = true then (some false) else (if 0 ≤ x5 then (if x5 ≤ (x0.size : Int) then ((bytecode_Length.f k (x0.extract 0 (x5 : Int).toNat)).bind fun bt187 => (if (x0.extract 0 (x5 : Int).toNat).size + x1.size ≤ 9223372036854775807 then ((bytecode_Length.f k ((x0.extract 0 (x5 : Int).toNat) ++ x1)).bind fun bt190 => (if bt187.2.2 = 4 then (platformfwlaw05_BytecodeIncremental.l0 k x0 x1 (wrap64 (x5 + 1))) else (if bt187.1 = bt190.1 then (if bt187.2.1 = bt190.2.1 then (if bt187.2.2 = bt190.2.2 then (platformfwlaw05_BytecodeIncremental.l0 k x0 x1 (wrap64 (x5 + 1))) else (some false)) else (some false)) else (some false)))) else (none))) else (none)) else (none))
end
def platformfwlaw05_BytecodeIncremental.f (k : Nat) (a0 : ByteArray) (a1 : ByteArray) : Option (Bool) := platformfwlaw05_BytecodeIncremental.l0 k a0 a1 0
theorem platformfwlaw05_BytecodeIncremental.mono_l : ∀ k, (∀ y0 y1 y2, LeO (platformfwlaw05_BytecodeIncremental.l0 k y0 y1 y2) (platformfwlaw05_BytecodeIncremental.l0 (k + 1) y0 y1 y2)) ∧ (∀ y0 y1 y2 y3, LeO (platformfwlaw05_BytecodeIncremental.j1 k y0 y1 y2 y3) (platformfwlaw05_BytecodeIncremental.j1 (k + 1) y0 y1 y2 y3)) ∧ (∀ y0 y1 y2 y3, LeO (platformfwlaw05_BytecodeIncremental.j2 k y0 y1 y2 y3) (platformfwlaw05_BytecodeIncremental.j2 (k + 1) y0 y1 y2 y3)) ∧ (∀ y0 y1 y2 y3, LeO (platformfwlaw05_BytecodeIncremental.j3 k y0 y1 y2 y3) (platformfwlaw05_BytecodeIncremental.j3 (k + 1) y0 y1 y2 y3))
 | 0 => ⟨fun _ _ _ r h => by simp [platformfwlaw05_BytecodeIncremental.l0] at h, fun _ _ _ _ r h => by simp [platformfwlaw05_BytecodeIncremental.j1] at h, fun _ _ _ _ r h => by simp [platformfwlaw05_BytecodeIncremental.j2] at h, fun _ _ _ _ r h => by simp [platformfwlaw05_BytecodeIncremental.j3] at h⟩
 | k + 1 => by
  obtain ⟨ih0, ih1, ih2, ih3⟩ := platformfwlaw05_BytecodeIncremental.mono_l k
  refine ⟨?_, ?_, ?_, ?_⟩
  ·intro y0 y1 y2
   unfold platformfwlaw05_BytecodeIncremental.l0
   repeat' first
   | (with_reducible exact ih0 _ _ _)
   | (with_reducible exact ih1 _ _ _ _)
   | (with_reducible exact ih2 _ _ _ _)
   | (with_reducible exact ih3 _ _ _ _)
   | (with_reducible exact bytecode_Int.mono _ _)
   | (with_reducible exact bytecode_Length.mono _ _)
   | (with_reducible exact bytecode_Path.mono _ _)
   | (with_reducible exact platformfwlaw05_awake.mono _)
   | (with_reducible exact platformfwlaw05_same.mono _ _ _ _ _ _ _)
   | (with_reducible exact LeO.refl _)
   | (with_reducible exact LeO.none _)
   | (with_reducible refine LeO.ite ?_ ?_)
   | (with_reducible refine LeO.bind ?_ (fun _ => ?_))
   | exact ih0 _ _ _
   | exact ih1 _ _ _ _
   | exact ih2 _ _ _ _
   | exact ih3 _ _ _ _
   | exact bytecode_Int.mono _ _
   | exact bytecode_Length.mono _ _
   | exact bytecode_Path.mono _ _
   | exact platformfwlaw05_awake.mono _
   | exact platformfwlaw05_same.mono _ _ _ _ _ _ _
   | exact LeO.none _
   | refine LeO.ite ?_ ?_
   | refine LeO.bind ?_ (fun _ => ?_)
  ·intro y0 y1 y2 y3
   unfold platformfwlaw05_BytecodeIncremental.j1
   repeat' first
   | (with_reducible exact ih0 _ _ _)
   | (with_reducible exact ih1 _ _ _ _)
   | (with_reducible exact ih2 _ _ _ _)
   | (with_reducible exact ih3 _ _ _ _)
   | (with_reducible exact bytecode_Int.mono _ _)
   | (with_reducible exact bytecode_Length.mono _ _)
   | (with_reducible exact bytecode_Path.mono _ _)
   | (with_reducible exact platformfwlaw05_awake.mono _)
   | (with_reducible exact platformfwlaw05_same.mono _ _ _ _ _ _ _)
   | (with_reducible exact LeO.refl _)
   | (with_reducible exact LeO.none _)
   | (with_reducible refine LeO.ite ?_ ?_)
   | (with_reducible refine LeO.bind ?_ (fun _ => ?_))
   | exact ih0 _ _ _
   | exact ih1 _ _ _ _
   | exact ih2 _ _ _ _
   | exact ih3 _ _ _ _
   | exact bytecode_Int.mono _ _
   | exact bytecode_Length.mono _ _
   | exact bytecode_Path.mono _ _
   | exact platformfwlaw05_awake.mono _
   | exact platformfwlaw05_same.mono _ _ _ _ _ _ _
   | exact LeO.none _
   | refine LeO.ite ?_ ?_
   | refine LeO.bind ?_ (fun _ => ?_)
  ·intro y0 y1 y2 y3
   unfold platformfwlaw05_BytecodeIncremental.j2
   repeat' first
   | (with_reducible exact ih0 _ _ _)
   | (with_reducible exact ih1 _ _ _ _)
   | (with_reducible exact ih2 _ _ _ _)
   | (with_reducible exact ih3 _ _ _ _)
   | (with_reducible exact bytecode_Int.mono _ _)
   | (with_reducible exact bytecode_Length.mono _ _)
   | (with_reducible exact bytecode_Path.mono _ _)
   | (with_reducible exact platformfwlaw05_awake.mono _)
   | (with_reducible exact platformfwlaw05_same.mono _ _ _ _ _ _ _)
   | (with_reducible exact LeO.refl _)
   | (with_reducible exact LeO.none _)
   | (with_reducible refine LeO.ite ?_ ?_)
   | (with_reducible refine LeO.bind ?_ (fun _ => ?_))
   | exact ih0 _ _ _
   | exact ih1 _ _ _ _
   | exact ih2 _ _ _ _
   | exact ih3 _ _ _ _
   | exact bytecode_Int.mono _ _
   | exact bytecode_Length.mono _ _
   | exact bytecode_Path.mono _ _
   | exact platformfwlaw05_awake.mono _
   | exact platformfwlaw05_same.mono _ _ _ _ _ _ _
   | exact LeO.none _
   | refine LeO.ite ?_ ?_
   | refine LeO.bind ?_ (fun _ => ?_)
  ·intro y0 y1 y2 y3
   unfold platformfwlaw05_BytecodeIncremental.j3
   repeat' first
   | (with_reducible exact ih0 _ _ _)
   | (with_reducible exact ih1 _ _ _ _)
   | (with_reducible exact ih2 _ _ _ _)
   | (with_reducible exact ih3 _ _ _ _)
   | (with_reducible exact bytecode_Int.mono _ _)
   | (with_reducible exact bytecode_Length.mono _ _)
   | (with_reducible exact bytecode_Path.mono _ _)
   | (with_reducible exact platformfwlaw05_awake.mono _)
   | (with_reducible exact platformfwlaw05_same.mono _ _ _ _ _ _ _)
   | (with_reducible exact LeO.refl _)
   | (with_reducible exact LeO.none _)
   | (with_reducible refine LeO.ite ?_ ?_)
   | (with_reducible refine LeO.bind ?_ (fun _ => ?_))
   | exact ih0 _ _ _
   | exact ih1 _ _ _ _
   | exact ih2 _ _ _ _
   | exact ih3 _ _ _ _
   | exact bytecode_Int.mono _ _
   | exact bytecode_Length.mono _ _
   | exact bytecode_Path.mono _ _
   | exact platformfwlaw05_awake.mono _
   | exact platformfwlaw05_same.mono _ _ _ _ _ _ _
   | exact LeO.none _
   | refine LeO.ite ?_ ?_
   | refine LeO.bind ?_ (fun _ => ?_)
theorem platformfwlaw05_BytecodeIncremental.mono : ∀ a0 a1 k, LeO (platformfwlaw05_BytecodeIncremental.f k a0 a1) (platformfwlaw05_BytecodeIncremental.f (k + 1) a0 a1) := by
 intro a0 a1 k
 obtain ⟨ih0, ih1, ih2, ih3⟩ := platformfwlaw05_BytecodeIncremental.mono_l k
 unfold platformfwlaw05_BytecodeIncremental.f
 repeat' first
   | (with_reducible exact ih0 _ _ _)
   | (with_reducible exact ih1 _ _ _ _)
   | (with_reducible exact ih2 _ _ _ _)
   | (with_reducible exact ih3 _ _ _ _)
   | (with_reducible exact bytecode_Int.mono _ _)
   | (with_reducible exact bytecode_Length.mono _ _)
   | (with_reducible exact bytecode_Path.mono _ _)
   | (with_reducible exact platformfwlaw05_awake.mono _)
   | (with_reducible exact platformfwlaw05_same.mono _ _ _ _ _ _ _)
   | (with_reducible exact LeO.refl _)
   | (with_reducible exact LeO.none _)
   | (with_reducible refine LeO.ite ?_ ?_)
   | (with_reducible refine LeO.bind ?_ (fun _ => ?_))
   | exact ih0 _ _ _
   | exact ih1 _ _ _ _
   | exact ih2 _ _ _ _
   | exact ih3 _ _ _ _
   | exact bytecode_Int.mono _ _
   | exact bytecode_Length.mono _ _
   | exact bytecode_Path.mono _ _
   | exact platformfwlaw05_awake.mono _
   | exact platformfwlaw05_same.mono _ _ _ _ _ _ _
   | exact LeO.none _
   | refine LeO.ite ?_ ?_
   | refine LeO.bind ?_ (fun _ => ?_)
set_option maxHeartbeats 8000000 in
set_option maxRecDepth 100000 in
theorem platformfwlaw05_BytecodeIncremental.calls (k : Nat) (a0 : ByteArray) (a1 : ByteArray) (r : Bool) (w : World) (hr_ : Aside0 (r = true)) (h : platformfwlaw05_BytecodeIncremental.f k a0 a1 = some r) :
  Calls Try.prog 14 #[.string a0, .string a1] w fun e w' => e = .returned (.bool r) ∧ Below w.heap.size w w' := by
 have hu73 := Try.underlying73
 have HB := Aside0.mk (Below.refl w.heap.size w)
 have H : (platformfwlaw05_BytecodeIncremental.l0 k a0 a1 0) = some r := h
 clear h
 have H' := Aside0.mk H
 clear H
 go_enter Try.func14, Try.ntmps14
 go_wp2
 all_goals (try (exfalso; simp only [beq_iff_eq, bne_iff_ne, ne_eq, ByteArray.size_extract, decide_eq_true_eq, decide_eq_false_iff_not, beq_eq_false_iff_ne, bne_eq_false_iff_eq, eq_iff_iff, iff_true, iff_false] at *; unfold wrap64 at *; omega))
 go_loopg [5] k (fun kq v5 w' => ∃ (x5_1 : Int), v5 = .int .i64 x5_1 ∧ Aside0 (platformfwlaw05_BytecodeIncremental.l0 kq a0 a1 x5_1 = some r) ∧ Aside0 (kq ≤ k) ∧ Aside0 (Below w.heap.size w w'))
 case atStart => exact ⟨(0), (by first | rfl | (simp; done) | (simp [*]; done)), H', ⟨Nat.le_refl _⟩, ⟨by repeat (first | (with_reducible first | exact HB.out | apply bA_ | apply bN_ | apply bD_) | exact HB.out)⟩⟩
 case round =>
  clear H'
  try clear c1
  try clear p2
  obtain ⟨x5_1, rfl, HA, HK1, HB⟩ := hrel
  cases gk with
  | zero => exact absurd HA.out (by simp [platformfwlaw05_BytecodeIncremental.l0])
  | succ k1 =>
   have H := HA.out
   clear HA
   simp only [platformfwlaw05_BytecodeIncremental.l0] at H
   have HC3 := Aside0.mk H
   clear H
   go_upto_region 2 with (fail)
   all_goals (try (exfalso; simp only [beq_iff_eq, bne_iff_ne, ne_eq, ByteArray.size_extract, decide_eq_true_eq, decide_eq_false_iff_not, beq_eq_false_iff_ne, bne_eq_false_iff_eq, eq_iff_iff, iff_true, iff_false] at *; unfold wrap64 at *; omega))
   go_cut [23] (fun v23 wc => ∃ (kq : Nat) (x23_2 : Bool), v23 = .bool x23_2 ∧ Aside0 (platformfwlaw05_BytecodeIncremental.j1 kq a0 a1 x5_1 x23_2 = some r) ∧ Aside0 (kq ≤ k1) ∧ Aside0 (Below w.heap.size w wc))
   case first =>
    have H := HC3.out
    clear HC3
    by_cases c4 : x5_1 < (a0.size : Int)
    ·rw [if_pos c4] at H
     have c4b0 : decide (x5_1 < (a0.size : Int)) = true := decide_eq_true c4
     clear c4
     (first | rw [c4b0] | (simp only [i64_w, i32_w]; rw [c4b0]) | skip)
     have H' := Aside0.mk H
     clear H
     go_wp2
     all_goals (try (exfalso; simp only [beq_iff_eq, bne_iff_ne, ne_eq, ByteArray.size_extract, decide_eq_true_eq, decide_eq_false_iff_not, beq_eq_false_iff_ne, bne_eq_false_iff_eq, eq_iff_iff, iff_true, iff_false] at *; unfold wrap64 at *; omega))
     go_meet
     case rel => exact ⟨_, (decide (x5_1 < 300)), (by first | rfl | (simp; done) | (simp [*]; done)), H', ⟨by have := HK1.out; first | omega | exact Nat.le_refl _⟩, ⟨by repeat (first | (with_reducible first | exact HB.out | apply bA_ | apply bN_ | apply bD_) | exact HB.out)⟩⟩
    ·rw [if_neg c4] at H
     have c4b0 : decide (x5_1 < (a0.size : Int)) = false := decide_eq_false c4
     clear c4
     (first | rw [c4b0] | (simp only [i64_w, i32_w]; rw [c4b0]) | skip)
     have H' := Aside0.mk H
     clear H
     go_wp2
     all_goals (try (exfalso; simp only [beq_iff_eq, bne_iff_ne, ne_eq, ByteArray.size_extract, decide_eq_true_eq, decide_eq_false_iff_not, beq_eq_false_iff_ne, bne_eq_false_iff_eq, eq_iff_iff, iff_true, iff_false] at *; unfold wrap64 at *; omega))
     go_meet
     case rel => exact ⟨_, (false), (by first | rfl | (simp; done) | (simp [*]; done)), H', ⟨by have := HK1.out; first | omega | exact Nat.le_refl _⟩, ⟨by repeat (first | (with_reducible first | exact HB.out | apply bA_ | apply bN_ | apply bD_) | exact HB.out)⟩⟩
   case rest =>
    clear HC3
    try clear c1
    try clear p2
    try clear c4
    try clear c4b0
    try clear p2
    obtain ⟨kq, x23_2, rfl, HA, HJ2, HB⟩ := hcut
    cases kq with
    | zero => exact absurd HA.out (by simp [platformfwlaw05_BytecodeIncremental.j1])
    | succ kj2 =>
     have H := HA.out
     clear HA
     simp only [platformfwlaw05_BytecodeIncremental.j1] at H
     by_cases c5 : x23_2 = true
     ·subst c5
      have H1 : (if 0 ≤ x5_1 then (if x5_1 ≤ (a0.size : Int) then ((bytecode_Int.f kj2 (a0.extract 0 (x5_1 : Int).toNat)).bind fun bt164 => (if (a0.extract 0 (x5_1 : Int).toNat).size + a1.size ≤ 9223372036854775807 then ((bytecode_Int.f kj2 ((a0.extract 0 (x5_1 : Int).toNat) ++ a1)).bind fun bt167 => (if bt164.2.2 = 4 then (platformfwlaw05_BytecodeIncremental.j2 kj2 a0 a1 x5_1 false) else (if bt164.1 = bt167.1 then (if bt164.2.1 = bt167.2.1 then (platformfwlaw05_BytecodeIncremental.j2 kj2 a0 a1 x5_1 (bt164.2.2 != bt167.2.2)) else (platformfwlaw05_BytecodeIncremental.j2 kj2 a0 a1 x5_1 true)) else (platformfwlaw05_BytecodeIncremental.j2 kj2 a0 a1 x5_1 true)))) else (none))) else (none)) else (none)) = some r := by rw [if_pos rfl] at H; exact H
      clear H
      have H := H1
      clear H1
      by_cases c6 : 0 ≤ x5_1
      ·rw [if_pos c6] at H
       have c6b0 := eq_true c6
       have c6b1 : decide (0 ≤ x5_1) = true := decide_eq_true c6
       clear c6
       by_cases c7 : x5_1 ≤ (a0.size : Int)
       ·rw [if_pos c7] at H
        have c7b0 := eq_true c7
        have c7b1 : decide (x5_1 ≤ (a0.size : Int)) = true := decide_eq_true c7
        clear c7
        replace H := Option.bind_eq_some_iff.mp H
        obtain ⟨⟨t164, t165, t166⟩, A80, H⟩ := H
        replace H : (if (a0.extract 0 (x5_1 : Int).toNat).size + a1.size ≤ 9223372036854775807 then ((bytecode_Int.f kj2 ((a0.extract 0 (x5_1 : Int).toNat) ++ a1)).bind fun bt167 => (if t166 = 4 then (platformfwlaw05_BytecodeIncremental.j2 kj2 a0 a1 x5_1 false) else (if t164 = bt167.1 then (if t165 = bt167.2.1 then (platformfwlaw05_BytecodeIncremental.j2 kj2 a0 a1 x5_1 (t166 != bt167.2.2)) else (platformfwlaw05_BytecodeIncremental.j2 kj2 a0 a1 x5_1 true)) else (platformfwlaw05_BytecodeIncremental.j2 kj2 a0 a1 x5_1 true)))) else (none)) = some r := H
        have A8 := Aside0.mk A80
        clear A80
        have c9b0 := eq_true (of_decide_eq_true (by first | (with_reducible assumption) | assumption) : 0 ≤ x5_1)
        have c10b0 := eq_true (of_decide_eq_true (by first | (with_reducible assumption) | assumption) : x5_1 ≤ (a0.size : Int))
        by_cases c11 : (a0.extract 0 (x5_1 : Int).toNat).size + a1.size ≤ 9223372036854775807
        ·rw [if_pos c11] at H
         have c11b0 := eq_true c11
         have c11b1 : decide ((a0.extract 0 (x5_1 : Int).toNat).size + a1.size ≤ 9223372036854775807) = true := decide_eq_true c11
         try have c11b2 : (9223372036854775807 < (a0.extract 0 (x5_1 : Int).toNat).size + a1.size) = False := eq_false (Nat.not_lt.2 c11)
         try have c11b3 : (9223372036854775807 < (x5_1 : Int).toNat + a1.size) = False := eq_false (fun h_ => Nat.not_lt.2 c11 (Nat.lt_of_lt_of_eq h_ (by have q0_ : x5_1 ≤ (a0.size : Int) := of_decide_eq_true (by first | (with_reducible assumption) | assumption); simp only [ByteArray.size_extract]; omega)))
         clear c11
         replace H := Option.bind_eq_some_iff.mp H
         obtain ⟨⟨t167, t168, t169⟩, A120, H⟩ := H
         replace H : (if t166 = 4 then (platformfwlaw05_BytecodeIncremental.j2 kj2 a0 a1 x5_1 false) else (if t164 = t167 then (if t165 = t168 then (platformfwlaw05_BytecodeIncremental.j2 kj2 a0 a1 x5_1 (t166 != t169)) else (platformfwlaw05_BytecodeIncremental.j2 kj2 a0 a1 x5_1 true)) else (platformfwlaw05_BytecodeIncremental.j2 kj2 a0 a1 x5_1 true))) = some r := H
         have A12 := Aside0.mk A120
         clear A120
         have HC13 := Aside0.mk H
         clear H
         go_upto_region 6 with (first | ((with_reducible refine gate_callee (f := 31) rfl ?_); refine goesL_ (some 30) rfl rfl Try.func31 (by kernel_rfl) rfl #[.string (a0.extract 0 (x5_1 : Int).toNat)] rfl (by (try simp only [List.map_toArray, List.map_cons, List.map_nil]); first | done | rfl | (simp only [List.length_drop, List.length_take]; rfl)) ?_; (with_reducible refine (bytecode_Int.calls kj2 (a0.extract 0 (x5_1 : Int).toNat) t164 t165 t166 _ A8.out).mono ?_); rintro e w' ⟨rfl, ⟨nd, rfl⟩⟩; refine ⟨_, rfl, ?_⟩) | ((with_reducible refine gate_callee (f := 31) rfl ?_); refine goesL_ (some 40) rfl rfl Try.func31 (by kernel_rfl) rfl #[.string ((a0.extract 0 (x5_1 : Int).toNat) ++ a1)] rfl (by (try simp only [List.map_toArray, List.map_cons, List.map_nil]); first | done | rfl | (simp only [List.length_drop, List.length_take]; rfl)) ?_; (with_reducible refine (bytecode_Int.calls kj2 ((a0.extract 0 (x5_1 : Int).toNat) ++ a1) t167 t168 t169 _ A12.out).mono ?_); rintro e w' ⟨rfl, ⟨nd, rfl⟩⟩; refine ⟨_, rfl, ?_⟩))
         all_goals (try (exfalso; simp only [beq_iff_eq, bne_iff_ne, ne_eq, ByteArray.size_extract, decide_eq_true_eq, decide_eq_false_iff_not, beq_eq_false_iff_ne, bne_eq_false_iff_eq, eq_iff_iff, iff_true, iff_false] at *; unfold wrap64 at *; omega))
         (try simp only [Act.put, sA_, sB_, sC_])
         go_cut [60] (fun v60 wc => ∃ (kq : Nat) (x60_12 : Bool), v60 = .bool x60_12 ∧ Aside0 (platformfwlaw05_BytecodeIncremental.j2 kq a0 a1 x5_1 x60_12 = some r) ∧ Aside0 (kq ≤ kj2) ∧ Aside0 (Below w.heap.size w wc))
         case first =>
          have H := HC13.out
          clear HC13
          by_cases c14 : t166 = 4
          ·rw [if_pos c14] at H
           have c14b0 : (t166 == 4) = true := beq_iff_eq.mpr c14
           have c14b1 : (t166 != 4) = false := bne_eq_false_iff_eq.mpr c14
           clear c14
           (first | rw [c14b0] | (simp only [i64_w, i32_w]; rw [c14b0]) | skip)
           have H' := Aside0.mk H
           clear H
           go_wp2
           all_goals (try (exfalso; simp only [beq_iff_eq, bne_iff_ne, ne_eq, ByteArray.size_extract, decide_eq_true_eq, decide_eq_false_iff_not, beq_eq_false_iff_ne, bne_eq_false_iff_eq, eq_iff_iff, iff_true, iff_false] at *; unfold wrap64 at *; omega))
           go_meet
           case rel => exact ⟨_, (false), (by first | rfl | (simp; done) | (simp [*]; done)), H', ⟨by have := HK1.out; have := HJ2.out; first | omega | exact Nat.le_refl _⟩, ⟨by repeat (first | (with_reducible first | exact HB.out | apply bA_ | apply bN_ | apply bD_) | exact HB.out)⟩⟩
          ·rw [if_neg c14] at H
           have c14b0 : (t166 == 4) = false := beq_eq_false_iff_ne.mpr c14
           have c14b1 : (t166 != 4) = true := bne_iff_ne.mpr c14
           (first | rw [c14b0] | (simp only [i64_w, i32_w]; rw [c14b0]) | skip)
           by_cases c15 : t164 = t167
           ·rw [if_pos c15] at H
            have c15b0 : (t164 == t167) = true := beq_iff_eq.mpr c15
            have c15b1 : (t164 != t167) = false := bne_eq_false_iff_eq.mpr c15
            clear c15
            by_cases c16 : t165 = t168
            ·rw [if_pos c16] at H
             have c16b0 : (t165 == t168) = true := beq_iff_eq.mpr c16
             have c16b1 : (t165 != t168) = false := bne_eq_false_iff_eq.mpr c16
             clear c16
             have H' := Aside0.mk H
             clear H
             go_wp2
             all_goals (try (exfalso; simp only [beq_iff_eq, bne_iff_ne, ne_eq, ByteArray.size_extract, decide_eq_true_eq, decide_eq_false_iff_not, beq_eq_false_iff_ne, bne_eq_false_iff_eq, eq_iff_iff, iff_true, iff_false] at *; unfold wrap64 at *; omega))
             go_meet
             case rel => exact ⟨_, ((t166 != t169)), (by first | rfl | (simp; done) | (simp [*]; done)), H', ⟨by have := HK1.out; have := HJ2.out; first | omega | exact Nat.le_refl _⟩, ⟨by repeat (first | (with_reducible first | exact HB.out | apply bA_ | apply bN_ | apply bD_) | exact HB.out)⟩⟩
            ·rw [if_neg c16] at H
             have c16b0 : (t165 == t168) = false := beq_eq_false_iff_ne.mpr c16
             have c16b1 : (t165 != t168) = true := bne_iff_ne.mpr c16
             have H' := Aside0.mk H
             clear H
             go_wp2
             all_goals (try (exfalso; simp only [beq_iff_eq, bne_iff_ne, ne_eq, ByteArray.size_extract, decide_eq_true_eq, decide_eq_false_iff_not, beq_eq_false_iff_ne, bne_eq_false_iff_eq, eq_iff_iff, iff_true, iff_false] at *; unfold wrap64 at *; omega))
             go_meet
             case rel => exact ⟨_, (true), (by first | rfl | (simp; done) | (simp [*]; done)), H', ⟨by have := HK1.out; have := HJ2.out; first | omega | exact Nat.le_refl _⟩, ⟨by repeat (first | (with_reducible first | exact HB.out | apply bA_ | apply bN_ | apply bD_) | exact HB.out)⟩⟩
           ·rw [if_neg c15] at H
            have c15b0 : (t164 == t167) = false := beq_eq_false_iff_ne.mpr c15
            have c15b1 : (t164 != t167) = true := bne_iff_ne.mpr c15
            have H' := Aside0.mk H
            clear H
            go_wp2
            all_goals (try (exfalso; simp only [beq_iff_eq, bne_iff_ne, ne_eq, ByteArray.size_extract, decide_eq_true_eq, decide_eq_false_iff_not, beq_eq_false_iff_ne, bne_eq_false_iff_eq, eq_iff_iff, iff_true, iff_false] at *; unfold wrap64 at *; omega))
            go_meet
            case rel => exact ⟨_, (true), (by first | rfl | (simp; done) | (simp [*]; done)), H', ⟨by have := HK1.out; have := HJ2.out; first | omega | exact Nat.le_refl _⟩, ⟨by repeat (first | (with_reducible first | exact HB.out | apply bA_ | apply bN_ | apply bD_) | exact HB.out)⟩⟩
         case rest =>
          clear HC13
          try clear c1
          try clear p2
          try clear c3
          try clear c4
          try clear c4b0
          try clear c5
          try clear c6
          try clear c6b0
          try clear c6b1
          try clear c7
          try clear c7b0
          try clear c7b1
          try clear c9
          try clear c9b0
          try clear c10
          try clear c10b0
          try clear c11
          try clear c11b0
          try clear c11b1
          try clear c11b2
          try clear c14
          try clear c14b0
          try clear c14b1
          try clear c15
          try clear c15b0
          try clear c15b1
          try clear c16
          try clear c16b0
          try clear c16b1
          try clear p2
          obtain ⟨kq, x60_12, rfl, HA, HJ12, HB⟩ := hcut
          cases kq with
          | zero => exact absurd HA.out (by simp [platformfwlaw05_BytecodeIncremental.j2])
          | succ kj12 =>
           have H := HA.out
           clear HA
           simp only [platformfwlaw05_BytecodeIncremental.j2] at H
           by_cases c17 : x60_12 = true
           ·subst c17
            have H1 : (some false) = some r := by rw [if_pos rfl] at H; exact H
            clear H
            have H := H1
            clear H1
            obtain rfl := Option.some.inj H
            exact absurd hr_.out (by simp)
           ·replace c17 := Bool.eq_false_iff.mpr c17
            subst c17
            have H1 : (if 0 ≤ x5_1 then (if x5_1 ≤ (a0.size : Int) then ((bytecode_Path.f kj12 (a0.extract 0 (x5_1 : Int).toNat)).bind fun bt170 => (if (a0.extract 0 (x5_1 : Int).toNat).size + a1.size ≤ 9223372036854775807 then ((bytecode_Path.f kj12 ((a0.extract 0 (x5_1 : Int).toNat) ++ a1)).bind fun bt178 => (if bt170.2.2.2.2 = 4 then (platformfwlaw05_BytecodeIncremental.j3 kj12 a0 a1 x5_1 false) else ((platformfwlaw05_same.f kj12 bt170.1 bt170.2.1 bt170.2.2.1 bt178.1 bt178.2.1 bt178.2.2.1).bind fun t186 => (if t186 = true then (if bt170.2.2.2.1 = bt178.2.2.2.1 then (platformfwlaw05_BytecodeIncremental.j3 kj12 a0 a1 x5_1 (bt170.2.2.2.2 != bt178.2.2.2.2)) else (platformfwlaw05_BytecodeIncremental.j3 kj12 a0 a1 x5_1 true)) else (platformfwlaw05_BytecodeIncremental.j3 kj12 a0 a1 x5_1 true))))) else (none))) else (none)) else (none)) = some r := by rw [if_neg (show ¬ (false = true) by decide)] at H; exact H
            clear H
            have H := H1
            clear H1
            by_cases c18 : 0 ≤ x5_1
            ·rw [if_pos c18] at H
             have c18b0 := eq_true c18
             have c18b1 : decide (0 ≤ x5_1) = true := decide_eq_true c18
             clear c18
             by_cases c19 : x5_1 ≤ (a0.size : Int)
             ·rw [if_pos c19] at H
              have c19b0 := eq_true c19
              have c19b1 : decide (x5_1 ≤ (a0.size : Int)) = true := decide_eq_true c19
              clear c19
              replace H := Option.bind_eq_some_iff.mp H
              obtain ⟨⟨t170, t171, t172, t175, t176⟩, A200, H⟩ := H
              replace H : (if (a0.extract 0 (x5_1 : Int).toNat).size + a1.size ≤ 9223372036854775807 then ((bytecode_Path.f kj12 ((a0.extract 0 (x5_1 : Int).toNat) ++ a1)).bind fun bt178 => (if t176 = 4 then (platformfwlaw05_BytecodeIncremental.j3 kj12 a0 a1 x5_1 false) else ((platformfwlaw05_same.f kj12 t170 t171 t172 bt178.1 bt178.2.1 bt178.2.2.1).bind fun t186 => (if t186 = true then (if t175 = bt178.2.2.2.1 then (platformfwlaw05_BytecodeIncremental.j3 kj12 a0 a1 x5_1 (t176 != bt178.2.2.2.2)) else (platformfwlaw05_BytecodeIncremental.j3 kj12 a0 a1 x5_1 true)) else (platformfwlaw05_BytecodeIncremental.j3 kj12 a0 a1 x5_1 true))))) else (none)) = some r := H
              have A20 := Aside0.mk A200
              clear A200
              have c21b0 := eq_true (of_decide_eq_true (by first | (with_reducible assumption) | assumption) : 0 ≤ x5_1)
              have c22b0 := eq_true (of_decide_eq_true (by first | (with_reducible assumption) | assumption) : x5_1 ≤ (a0.size : Int))
              by_cases c23 : (a0.extract 0 (x5_1 : Int).toNat).size + a1.size ≤ 9223372036854775807
              ·rw [if_pos c23] at H
               have c23b0 := eq_true c23
               have c23b1 : decide ((a0.extract 0 (x5_1 : Int).toNat).size + a1.size ≤ 9223372036854775807) = true := decide_eq_true c23
               try have c23b2 : (9223372036854775807 < (a0.extract 0 (x5_1 : Int).toNat).size + a1.size) = False := eq_false (Nat.not_lt.2 c23)
               try have c23b3 : (9223372036854775807 < (x5_1 : Int).toNat + a1.size) = False := eq_false (fun h_ => Nat.not_lt.2 c23 (Nat.lt_of_lt_of_eq h_ (by have q0_ : x5_1 ≤ (a0.size : Int) := of_decide_eq_true (by first | (with_reducible assumption) | assumption); simp only [ByteArray.size_extract]; omega)))
               clear c23
               replace H := Option.bind_eq_some_iff.mp H
               obtain ⟨⟨t178, t179, t180, t183, t184⟩, A240, H⟩ := H
               replace H : (if t176 = 4 then (platformfwlaw05_BytecodeIncremental.j3 kj12 a0 a1 x5_1 false) else ((platformfwlaw05_same.f kj12 t170 t171 t172 t178 t179 t180).bind fun t186 => (if t186 = true then (if t175 = t183 then (platformfwlaw05_BytecodeIncremental.j3 kj12 a0 a1 x5_1 (t176 != t184)) else (platformfwlaw05_BytecodeIncremental.j3 kj12 a0 a1 x5_1 true)) else (platformfwlaw05_BytecodeIncremental.j3 kj12 a0 a1 x5_1 true)))) = some r := H
               have A24 := Aside0.mk A240
               clear A240
               have HC25 := Aside0.mk H
               clear H
               go_upto_region 10 with (first | ((with_reducible refine gate_callee (f := 48) rfl ?_); refine goesL_ (some 65) rfl rfl Try.func48 (by kernel_rfl) rfl #[.string (a0.extract 0 (x5_1 : Int).toNat)] rfl (by (try simp only [List.map_toArray, List.map_cons, List.map_nil]); first | done | rfl | (simp only [List.length_drop, List.length_take]; rfl)) ?_; (with_reducible refine (bytecode_Path.calls kj12 (a0.extract 0 (x5_1 : Int).toNat) t170 t171 t172 t175 t176 _ A20.out).mono ?_); rintro e w26 ⟨v173, rfl, ho0, hb⟩; refine ⟨_, rfl, ?_⟩; have n0_ := Aside0.mk (Kd.R_lower ho0 (below_size (by repeat (first | (with_reducible first | exact HB.out | apply bA_ | apply bN_ | apply bD_) | exact HB.out)))); have n1_ := Aside0.mk (below_step (by repeat (first | (with_reducible first | exact HB.out | apply bA_ | apply bN_ | apply bD_) | exact HB.out)) hb); clear HB; have HO174 := n0_; have HB := n1_; clear n0_ n1_; (try clear hb); (try clear hb2); (try clear hk); (try clear hi); (try clear ho0)) | ((with_reducible refine gate_dst (N := 12) rfl ?_); refine box_event ?hg (N := 12) ?hd (cs := #[.bool false, .int .i64 0, .slice none 0 0]) (t := 73) ?hr ?_; (case hd => rfl); (case hg => rfl); (case hr => first | (go_simp; done) | (go_simp; rfl)); intro gb177 hg w27 hbox hb; have n0_ := Aside0.mk (Kd.R_below (by (with_reducible repeat (first | apply Kd.R_alloc | apply Kd.R_drewN | apply Kd.R_drew)); exact HO174.out) hb); have n1_ := Aside0.mk (below_step (by repeat (first | (with_reducible first | exact HB.out | apply bA_ | apply bN_ | apply bD_) | exact HB.out)) hb); have n2_ := Aside0.mk (hbox); have n3_ := Aside0.mk ((by rw [hg]; exact (below_size (by repeat (first | (with_reducible first | exact HB.out | apply bA_ | apply bN_ | apply bD_) | exact HB.out))) : w.heap.size ≤ gb177)); have n4_ := Aside0.mk ((by rw [hg]; exact (below_size (by repeat (first | (with_reducible first | exact HB.out | apply bA_ | apply bN_ | apply bD_) | exact HB.out))) : w.heap.size ≤ gb177)); clear HO174; clear HB; have HO174 := n0_; have HB := n1_; have BK177 := n2_; have GW177 := n3_; have GE177 := n4_; clear n0_ n1_ n2_ n3_ n4_; clear hb hbox hg; obtain ⟨hcz28_0, hcz28_1, hcz28_2⟩ := cells3_ BK177.out; obtain ⟨hfz28_0, hfz28_1, hfz28_2⟩ := froz3_ BK177.out; obtain ⟨Ao29, co29, eo29⟩ := Kd.R_slice HO174.out; subst eo29) | ((with_reducible refine gate_callee (f := 48) rfl ?_); refine goesL_ (some 75) rfl rfl Try.func48 (by kernel_rfl) rfl #[.string ((a0.extract 0 (x5_1 : Int).toNat) ++ a1)] rfl (by (try simp only [List.map_toArray, List.map_cons, List.map_nil]); first | done | rfl | (simp only [List.length_drop, List.length_take]; rfl)) ?_; (with_reducible refine (bytecode_Path.calls kj12 ((a0.extract 0 (x5_1 : Int).toNat) ++ a1) t178 t179 t180 t183 t184 _ A24.out).mono ?_); rintro e w30 ⟨v181, rfl, ho0, hb⟩; refine ⟨_, rfl, ?_⟩; have n0_ := Aside0.mk (Kd.R_elder' (by (with_reducible repeat (first | apply Kd.R_alloc | apply Kd.R_drewN | apply Kd.R_drew)); exact (Kd.R_mono (Kd.R_far (p := ⟨gb177, 2, none⟩) (Kd.R_far (p := ⟨gb177, 1, none⟩) (Kd.R_far (p := ⟨gb177, 0, none⟩) (Kd.R_types HO174.out BK177.out (by decide)) (fun _ hk => hk.2) (.bool t170)) (fun _ hk => hk.2) (.int .i64 t171)) (fun _ hk => hk.2) (.slice Ao29 t172.length co29)) (fun _ h_ => h_.1))) (Kd.R_base ho0) hb); have n1_ := Aside0.mk (Kd.R_lower (Kd.R_new' ho0 (Kd.R_lt (by (with_reducible repeat (first | apply Kd.R_alloc | apply Kd.R_drewN | apply Kd.R_drew)); exact (Kd.R_mono (Kd.R_far (p := ⟨gb177, 2, none⟩) (Kd.R_far (p := ⟨gb177, 1, none⟩) (Kd.R_far (p := ⟨gb177, 0, none⟩) (Kd.R_types HO174.out BK177.out (by decide)) (fun _ hk => hk.2) (.bool t170)) (fun _ hk => hk.2) (.int .i64 t171)) (fun _ hk => hk.2) (.slice Ao29 t172.length co29)) (fun _ h_ => h_.1))))) (below_size (by repeat (first | (with_reducible first | exact HB.out | apply bA_ | apply bN_ | apply bD_ | refine bS_ ?_ GE177.out) | exact HB.out)))); have n2_ := Aside0.mk (blk_below (g := gb177) (o := .cells #[.bool t170, .int .i64 t171, .slice Ao29 t172.length co29] 73 (0, 0)) (by (with_reducible repeat (first | refine kN_ ?_ _ | refine kD_ ?_ | refine kA_ ?_ _)); refine blk_put (cs := #[.bool t170, .int .i64 t171, .slice none 0 0]) ?_ 2 _ rfl; (with_reducible repeat (first | refine kN_ ?_ _ | refine kD_ ?_ | refine kA_ ?_ _)); refine blk_put (cs := #[.bool t170, .int .i64 0, .slice none 0 0]) ?_ 1 _ rfl; (with_reducible repeat (first | refine kN_ ?_ _ | refine kD_ ?_ | refine kA_ ?_ _)); refine blk_put (cs := #[.bool false, .int .i64 0, .slice none 0 0]) ?_ 0 _ rfl; (with_reducible repeat (first | refine kN_ ?_ _ | refine kD_ ?_ | refine kA_ ?_ _)); exact BK177.out) hb); have n3_ := Aside0.mk (below_step (by repeat (first | (with_reducible first | exact HB.out | apply bA_ | apply bN_ | apply bD_ | refine bS_ ?_ GE177.out) | exact HB.out)) hb); clear HO174; clear BK177; clear HB; have HO174 := n0_; have HO182 := n1_; have BK177 := n2_; have HB := n3_; clear n0_ n1_ n2_ n3_; (try clear hb); (try clear hb2); (try clear hk); (try clear hi); (try clear ho0)) | ((with_reducible refine gate_dst (N := 13) rfl ?_); refine box_event ?hg (N := 13) ?hd (cs := #[.bool false, .int .i64 0, .slice none 0 0]) (t := 73) ?hr ?_; (case hd => rfl); (case hg => rfl); (case hr => first | (go_simp; done) | (go_simp; rfl)); intro gb185 hg w31 hbox hb; have n0_ := Aside0.mk (Kd.R_below (by (with_reducible repeat (first | apply Kd.R_alloc | apply Kd.R_drewN | apply Kd.R_drew)); exact HO174.out) hb); have n1_ := Aside0.mk (Kd.R_below (by (with_reducible repeat (first | apply Kd.R_alloc | apply Kd.R_drewN | apply Kd.R_drew)); exact HO182.out) hb); have n2_ := Aside0.mk (blk_below (g := gb177) (o := .cells #[.bool t170, .int .i64 t171, .slice Ao29 t172.length co29] 73 (0, 0)) (by (with_reducible repeat (first | refine kN_ ?_ _ | refine kD_ ?_ | refine kA_ ?_ _)); exact BK177.out) hb); have n3_ := Aside0.mk (below_step (by repeat (first | (with_reducible first | exact HB.out | apply bA_ | apply bN_ | apply bD_ | refine bS_ ?_ GE177.out) | exact HB.out)) hb); have n4_ := Aside0.mk (hbox); have n5_ := Aside0.mk ((by rw [hg]; exact (below_size (by repeat (first | (with_reducible first | exact HB.out | apply bA_ | apply bN_ | apply bD_ | refine bS_ ?_ GE177.out) | exact HB.out))) : w.heap.size ≤ gb185)); have n6_ := Aside0.mk ((by rw [hg]; exact (below_size (by repeat (first | (with_reducible first | exact HB.out | apply bA_ | apply bN_ | apply bD_ | refine bS_ ?_ GE177.out) | exact HB.out))) : w.heap.size ≤ gb185)); have n7_ := Aside0.mk ((by rw [hg]; exact Nat.ne_of_lt (blk_lt (g := gb177) (o := .cells #[.bool t170, .int .i64 t171, .slice Ao29 t172.length co29] 73 (0, 0)) (by (with_reducible repeat (first | refine kN_ ?_ _ | refine kD_ ?_ | refine kA_ ?_ _)); exact BK177.out)) : gb177 ≠ gb185)); have n8_ := Aside0.mk ((by rw [hg]; exact Nat.ne_of_gt (blk_lt (g := gb177) (o := .cells #[.bool t170, .int .i64 t171, .slice Ao29 t172.length co29] 73 (0, 0)) (by (with_reducible repeat (first | refine kN_ ?_ _ | refine kD_ ?_ | refine kA_ ?_ _)); exact BK177.out)) : gb185 ≠ gb177)); clear HO174; clear HO182; clear BK177; clear HB; have HO174 := n0_; have HO182 := n1_; have BK177 := n2_; have HB := n3_; have BK185 := n4_; have GW185 := n5_; have GE185 := n6_; have NB177_185 := n7_; have NB185_177 := n8_; clear n0_ n1_ n2_ n3_ n4_ n5_ n6_ n7_ n8_; clear hb hbox hg; have hnb32 := NB185_177.out; have hnc32 := NB177_185.out; obtain ⟨hcz33_0, hcz33_1, hcz33_2⟩ := cells3_ BK185.out; obtain ⟨hfz33_0, hfz33_1, hfz33_2⟩ := froz3_ BK185.out; obtain ⟨Ao34, co34, eo34⟩ := Kd.R_slice HO182.out; subst eo34))
               all_goals (try (exfalso; simp only [beq_iff_eq, bne_iff_ne, ne_eq, ByteArray.size_extract, decide_eq_true_eq, decide_eq_false_iff_not, beq_eq_false_iff_ne, bne_eq_false_iff_eq, eq_iff_iff, iff_true, iff_false] at *; unfold wrap64 at *; omega))
               (try simp only [Act.put, sA_, sB_, sC_])
               go_cut [96] (fun v96 wc => ∃ (kq : Nat) (x96_24 : Bool), v96 = .bool x96_24 ∧ Aside0 (platformfwlaw05_BytecodeIncremental.j3 kq a0 a1 x5_1 x96_24 = some r) ∧ Aside0 (kq ≤ kj12) ∧ Aside0 (Kd.R Kd.string 9 wc w.heap.size (fun k_ => some k_ ≠ ((.slice Ao34 t180.length co34) : Value).ownBlock) (.slice Ao29 t172.length co29) t172) ∧ Aside0 (Kd.R Kd.string 9 wc w.heap.size (fun k_ => some k_ ≠ ((.slice Ao29 t172.length co29) : Value).ownBlock) (.slice Ao34 t180.length co34) t180) ∧ Aside0 (wc.heap[gb177]? = some (.cells #[.bool t170, .int .i64 t171, (.slice Ao29 t172.length co29)] 73 (0, 0))) ∧ Aside0 (wc.heap[gb185]? = some (.cells #[.bool t178, .int .i64 t179, (.slice Ao34 t180.length co34)] 73 (0, 0))) ∧ Aside0 (Below w.heap.size w wc))
               case first =>
                have H := HC25.out
                clear HC25
                by_cases c35 : t176 = 4
                ·rw [if_pos c35] at H
                 have c35b0 : (t176 == 4) = true := beq_iff_eq.mpr c35
                 have c35b1 : (t176 != 4) = false := bne_eq_false_iff_eq.mpr c35
                 clear c35
                 (first | rw [c35b0] | (simp only [i64_w, i32_w]; rw [c35b0]) | skip)
                 have H' := Aside0.mk H
                 clear H
                 go_wp2
                 all_goals (try (exfalso; simp only [beq_iff_eq, bne_iff_ne, ne_eq, ByteArray.size_extract, decide_eq_true_eq, decide_eq_false_iff_not, beq_eq_false_iff_ne, bne_eq_false_iff_eq, eq_iff_iff, iff_true, iff_false] at *; unfold wrap64 at *; omega))
                 go_meet
                 case rel => exact ⟨_, (false), (by first | rfl | (simp; done) | (simp [*]; done)), H', ⟨by have := HK1.out; have := HJ2.out; have := HJ12.out; first | omega | exact Nat.le_refl _⟩, ⟨by (with_reducible repeat (first | apply Kd.R_alloc | apply Kd.R_drewN | apply Kd.R_drew)); exact Kd.R_mono (Kd.R_far (p := ⟨gb185, 2, none⟩) (Kd.R_far (p := ⟨gb185, 1, none⟩) (Kd.R_far (p := ⟨gb185, 0, none⟩) (Kd.R_types HO174.out BK185.out (by decide)) (fun _ hk => hk.2) (.bool t178)) (fun _ hk => hk.2) (.int .i64 t179)) (fun _ hk => hk.2) (.slice Ao34 t180.length co34)) (fun _ hk => hk.1.2)⟩, ⟨by (with_reducible repeat (first | apply Kd.R_alloc | apply Kd.R_drewN | apply Kd.R_drew)); exact Kd.R_mono (Kd.R_far (p := ⟨gb185, 2, none⟩) (Kd.R_far (p := ⟨gb185, 1, none⟩) (Kd.R_far (p := ⟨gb185, 0, none⟩) (Kd.R_types HO182.out BK185.out (by decide)) (fun _ hk => hk.2) (.bool t178)) (fun _ hk => hk.2) (.int .i64 t179)) (fun _ hk => hk.2) (.slice Ao34 t180.length co34)) (fun _ hk => hk.1.2)⟩, ⟨by (with_reducible repeat (first | refine kN_ ?_ _ | refine kD_ ?_ | refine kA_ ?_ _)); refine blk_far ?_ NB177_185.out _; (with_reducible repeat (first | refine kN_ ?_ _ | refine kD_ ?_ | refine kA_ ?_ _)); refine blk_far ?_ NB177_185.out _; (with_reducible repeat (first | refine kN_ ?_ _ | refine kD_ ?_ | refine kA_ ?_ _)); refine blk_far ?_ NB177_185.out _; (with_reducible repeat (first | refine kN_ ?_ _ | refine kD_ ?_ | refine kA_ ?_ _)); exact BK177.out⟩, ⟨by (with_reducible repeat (first | refine kN_ ?_ _ | refine kD_ ?_ | refine kA_ ?_ _)); refine blk_put (cs := #[.bool t178, .int .i64 t179, .slice none 0 0]) ?_ 2 _ rfl; (with_reducible repeat (first | refine kN_ ?_ _ | refine kD_ ?_ | refine kA_ ?_ _)); refine blk_put (cs := #[.bool t178, .int .i64 0, .slice none 0 0]) ?_ 1 _ rfl; (with_reducible repeat (first | refine kN_ ?_ _ | refine kD_ ?_ | refine kA_ ?_ _)); refine blk_put (cs := #[.bool false, .int .i64 0, .slice none 0 0]) ?_ 0 _ rfl; (with_reducible repeat (first | refine kN_ ?_ _ | refine kD_ ?_ | refine kA_ ?_ _)); exact BK185.out⟩, ⟨by repeat (first | (with_reducible first | exact HB.out | apply bA_ | apply bN_ | apply bD_ | refine bS_ ?_ GE177.out | refine bS_ ?_ GE185.out) | exact HB.out)⟩⟩
                ·rw [if_neg c35] at H
                 have c35b0 : (t176 == 4) = false := beq_eq_false_iff_ne.mpr c35
                 have c35b1 : (t176 != 4) = true := bne_iff_ne.mpr c35
                 (first | rw [c35b0] | (simp only [i64_w, i32_w]; rw [c35b0]) | skip)
                 replace H := Option.bind_eq_some_iff.mp H
                 obtain ⟨t186, A360, H⟩ := H
                 replace H : (if t186 = true then (if t175 = t183 then (platformfwlaw05_BytecodeIncremental.j3 kj12 a0 a1 x5_1 (t176 != t184)) else (platformfwlaw05_BytecodeIncremental.j3 kj12 a0 a1 x5_1 true)) else (platformfwlaw05_BytecodeIncremental.j3 kj12 a0 a1 x5_1 true)) = some r := H
                 have A36 := Aside0.mk A360
                 clear A360
                 by_cases c37 : t186 = true
                 ·subst c37
                  have H1 : (if t175 = t183 then (platformfwlaw05_BytecodeIncremental.j3 kj12 a0 a1 x5_1 (t176 != t184)) else (platformfwlaw05_BytecodeIncremental.j3 kj12 a0 a1 x5_1 true)) = some r := by rw [if_pos rfl] at H; exact H
                  clear H
                  have H := H1
                  clear H1
                  by_cases c38 : t175 = t183
                  ·rw [if_pos c38] at H
                   have c38b0 : (t175 == t183) = true := beq_iff_eq.mpr c38
                   have c38b1 : (t175 != t183) = false := bne_eq_false_iff_eq.mpr c38
                   clear c38
                   have H' := Aside0.mk H
                   clear H
                   have hnb39 := NB177_185.out
                   have hnc39 := NB185_177.out
                   obtain ⟨hcz40_0, hcz40_1, hcz40_2⟩ := cells3_ BK177.out
                   obtain ⟨hfz40_0, hfz40_1, hfz40_2⟩ := froz3_ BK177.out
                   have hcz41_0 : w31.cell? ⟨gb185, 0, none⟩ = some (.bool false) := (blk_cell BK185.out 0).trans rfl
                   have hcz41_1 : w31.cell? ⟨gb185, 1, none⟩ = some (.int .i64 0) := (blk_cell BK185.out 1).trans rfl
                   have hcz41_2 : w31.cell? ⟨gb185, 2, none⟩ = some (.slice none 0 0) := (blk_cell BK185.out 2).trans rfl
                   have hfz41_0 := blk_frozen BK185.out 0
                   have hfz41_1 := blk_frozen BK185.out 1
                   have hfz41_2 := blk_frozen BK185.out 2
                   go_wp2_with (first | (go_at_call 50; (with_reducible refine (platformfwlaw05_same.calls kj12 t170 t171 _ _ t172 t178 t179 _ _ t180 true _ ?side1 ?side2 ?side3 ?side4 A36.out).mono ?_); (case side1 => refine (Kd.R_reads' (e := 9) (base := w.heap.size) (ok := fun k_ => (True ∧ some k_ ≠ (.slice Ao34 t180.length co34 : Value).ownBlock)) (n := t172.length) (c := co29) ?_).2.2; exact (by (with_reducible repeat (first | apply Kd.R_alloc | apply Kd.R_drewN | apply Kd.R_drew)); exact (Kd.R_mono (Kd.R_far (p := ⟨gb185, 2, none⟩) (Kd.R_far (p := ⟨gb185, 1, none⟩) (Kd.R_far (p := ⟨gb185, 0, none⟩) (Kd.R_types HO174.out BK185.out (by decide)) (fun _ hk => hk.2) (.bool t178)) (fun _ hk => hk.2) (.int .i64 t179)) (fun _ hk => hk.2) (.slice Ao34 t180.length co34)) (fun _ h_ => h_.1)))); (case side2 => exact (Kd.R_reads' HO174.out).2.1); (case side3 => refine (Kd.R_reads' (e := 9) (base := w.heap.size) (ok := fun k_ => (True ∧ some k_ ≠ (.slice Ao29 t172.length co29 : Value).ownBlock)) (n := t180.length) (c := co34) ?_).2.2; exact (by (with_reducible repeat (first | apply Kd.R_alloc | apply Kd.R_drewN | apply Kd.R_drew)); exact (Kd.R_mono (Kd.R_far (p := ⟨gb185, 2, none⟩) (Kd.R_far (p := ⟨gb185, 1, none⟩) (Kd.R_far (p := ⟨gb185, 0, none⟩) (Kd.R_types HO182.out BK185.out (by decide)) (fun _ hk => hk.2) (.bool t178)) (fun _ hk => hk.2) (.int .i64 t179)) (fun _ hk => hk.2) (.slice Ao34 t180.length co34)) (fun _ h_ => h_.1)))); (case side4 => exact (Kd.R_reads' HO182.out).2.1); rintro e w42 ⟨rfl, hb⟩; have n0_ := Aside0.mk (Kd.R_below (by (with_reducible repeat (first | apply Kd.R_alloc | apply Kd.R_drewN | apply Kd.R_drew)); exact (Kd.R_mono (Kd.R_far (p := ⟨gb185, 2, none⟩) (Kd.R_far (p := ⟨gb185, 1, none⟩) (Kd.R_far (p := ⟨gb185, 0, none⟩) (Kd.R_types HO174.out BK185.out (by decide)) (fun _ hk => hk.2) (.bool t178)) (fun _ hk => hk.2) (.int .i64 t179)) (fun _ hk => hk.2) (.slice Ao34 t180.length co34)) (fun _ h_ => h_.1))) hb); have n1_ := Aside0.mk (Kd.R_below (by (with_reducible repeat (first | apply Kd.R_alloc | apply Kd.R_drewN | apply Kd.R_drew)); exact (Kd.R_mono (Kd.R_far (p := ⟨gb185, 2, none⟩) (Kd.R_far (p := ⟨gb185, 1, none⟩) (Kd.R_far (p := ⟨gb185, 0, none⟩) (Kd.R_types HO182.out BK185.out (by decide)) (fun _ hk => hk.2) (.bool t178)) (fun _ hk => hk.2) (.int .i64 t179)) (fun _ hk => hk.2) (.slice Ao34 t180.length co34)) (fun _ h_ => h_.1))) hb); have n2_ := Aside0.mk (blk_below (g := gb177) (o := .cells #[.bool t170, .int .i64 t171, .slice Ao29 t172.length co29] 73 (0, 0)) (by (with_reducible repeat (first | refine kN_ ?_ _ | refine kD_ ?_ | refine kA_ ?_ _)); refine blk_far ?_ NB177_185.out _; (with_reducible repeat (first | refine kN_ ?_ _ | refine kD_ ?_ | refine kA_ ?_ _)); refine blk_far ?_ NB177_185.out _; (with_reducible repeat (first | refine kN_ ?_ _ | refine kD_ ?_ | refine kA_ ?_ _)); refine blk_far ?_ NB177_185.out _; (with_reducible repeat (first | refine kN_ ?_ _ | refine kD_ ?_ | refine kA_ ?_ _)); exact BK177.out) hb); have n3_ := Aside0.mk (blk_below (g := gb185) (o := .cells #[.bool t178, .int .i64 t179, .slice Ao34 t180.length co34] 73 (0, 0)) (by (with_reducible repeat (first | refine kN_ ?_ _ | refine kD_ ?_ | refine kA_ ?_ _)); refine blk_put (cs := #[.bool t178, .int .i64 t179, .slice none 0 0]) ?_ 2 _ rfl; (with_reducible repeat (first | refine kN_ ?_ _ | refine kD_ ?_ | refine kA_ ?_ _)); refine blk_put (cs := #[.bool t178, .int .i64 0, .slice none 0 0]) ?_ 1 _ rfl; (with_reducible repeat (first | refine kN_ ?_ _ | refine kD_ ?_ | refine kA_ ?_ _)); refine blk_put (cs := #[.bool false, .int .i64 0, .slice none 0 0]) ?_ 0 _ rfl; (with_reducible repeat (first | refine kN_ ?_ _ | refine kD_ ?_ | refine kA_ ?_ _)); exact BK185.out) hb); have n4_ := Aside0.mk (below_step (by repeat (first | (with_reducible first | exact HB.out | apply bA_ | apply bN_ | apply bD_ | refine bS_ ?_ GE177.out | refine bS_ ?_ GE185.out) | exact HB.out)) hb); clear HO174; clear HO182; clear BK177; clear BK185; clear HB; have HO174 := n0_; have HO182 := n1_; have BK177 := n2_; have BK185 := n3_; have HB := n4_; clear n0_ n1_ n2_ n3_ n4_; (try clear hb); (try clear hb2); (try clear hk); (try clear hi)))
                   all_goals (try (exfalso; simp only [beq_iff_eq, bne_iff_ne, ne_eq, ByteArray.size_extract, decide_eq_true_eq, decide_eq_false_iff_not, beq_eq_false_iff_ne, bne_eq_false_iff_eq, eq_iff_iff, iff_true, iff_false] at *; unfold wrap64 at *; omega))
                   go_meet
                   case rel => exact ⟨_, ((t176 != t184)), (by first | rfl | (simp; done) | (simp [*]; done)), H', ⟨by have := HK1.out; have := HJ2.out; have := HJ12.out; first | omega | exact Nat.le_refl _⟩, ⟨by (with_reducible repeat (first | apply Kd.R_alloc | apply Kd.R_drewN | apply Kd.R_drew)); exact Kd.R_mono HO174.out (fun _ hk => hk.2)⟩, ⟨by (with_reducible repeat (first | apply Kd.R_alloc | apply Kd.R_drewN | apply Kd.R_drew)); exact Kd.R_mono HO182.out (fun _ hk => hk.2)⟩, ⟨by (with_reducible repeat (first | refine kN_ ?_ _ | refine kD_ ?_ | refine kA_ ?_ _)); exact BK177.out⟩, ⟨by (with_reducible repeat (first | refine kN_ ?_ _ | refine kD_ ?_ | refine kA_ ?_ _)); exact BK185.out⟩, ⟨by repeat (first | (with_reducible first | exact HB.out | apply bA_ | apply bN_ | apply bD_ | refine bS_ ?_ GE177.out | refine bS_ ?_ GE185.out) | exact HB.out)⟩⟩
                  ·rw [if_neg c38] at H
                   have c38b0 : (t175 == t183) = false := beq_eq_false_iff_ne.mpr c38
                   have c38b1 : (t175 != t183) = true := bne_iff_ne.mpr c38
                   have H' := Aside0.mk H
                   clear H
                   have hnb43 := NB177_185.out
                   have hnc43 := NB185_177.out
                   obtain ⟨hcz44_0, hcz44_1, hcz44_2⟩ := cells3_ BK177.out
                   obtain ⟨hfz44_0, hfz44_1, hfz44_2⟩ := froz3_ BK177.out
                   have hcz45_0 : w31.cell? ⟨gb185, 0, none⟩ = some (.bool false) := (blk_cell BK185.out 0).trans rfl
                   have hcz45_1 : w31.cell? ⟨gb185, 1, none⟩ = some (.int .i64 0) := (blk_cell BK185.out 1).trans rfl
                   have hcz45_2 : w31.cell? ⟨gb185, 2, none⟩ = some (.slice none 0 0) := (blk_cell BK185.out 2).trans rfl
                   have hfz45_0 := blk_frozen BK185.out 0
                   have hfz45_1 := blk_frozen BK185.out 1
                   have hfz45_2 := blk_frozen BK185.out 2
                   go_wp2_with (first | (go_at_call 50; (with_reducible refine (platformfwlaw05_same.calls kj12 t170 t171 _ _ t172 t178 t179 _ _ t180 true _ ?side1 ?side2 ?side3 ?side4 A36.out).mono ?_); (case side1 => refine (Kd.R_reads' (e := 9) (base := w.heap.size) (ok := fun k_ => (True ∧ some k_ ≠ (.slice Ao34 t180.length co34 : Value).ownBlock)) (n := t172.length) (c := co29) ?_).2.2; exact (by (with_reducible repeat (first | apply Kd.R_alloc | apply Kd.R_drewN | apply Kd.R_drew)); exact (Kd.R_mono (Kd.R_far (p := ⟨gb185, 2, none⟩) (Kd.R_far (p := ⟨gb185, 1, none⟩) (Kd.R_far (p := ⟨gb185, 0, none⟩) (Kd.R_types HO174.out BK185.out (by decide)) (fun _ hk => hk.2) (.bool t178)) (fun _ hk => hk.2) (.int .i64 t179)) (fun _ hk => hk.2) (.slice Ao34 t180.length co34)) (fun _ h_ => h_.1)))); (case side2 => exact (Kd.R_reads' HO174.out).2.1); (case side3 => refine (Kd.R_reads' (e := 9) (base := w.heap.size) (ok := fun k_ => (True ∧ some k_ ≠ (.slice Ao29 t172.length co29 : Value).ownBlock)) (n := t180.length) (c := co34) ?_).2.2; exact (by (with_reducible repeat (first | apply Kd.R_alloc | apply Kd.R_drewN | apply Kd.R_drew)); exact (Kd.R_mono (Kd.R_far (p := ⟨gb185, 2, none⟩) (Kd.R_far (p := ⟨gb185, 1, none⟩) (Kd.R_far (p := ⟨gb185, 0, none⟩) (Kd.R_types HO182.out BK185.out (by decide)) (fun _ hk => hk.2) (.bool t178)) (fun _ hk => hk.2) (.int .i64 t179)) (fun _ hk => hk.2) (.slice Ao34 t180.length co34)) (fun _ h_ => h_.1)))); (case side4 => exact (Kd.R_reads' HO182.out).2.1); rintro e w46 ⟨rfl, hb⟩; have n0_ := Aside0.mk (Kd.R_below (by (with_reducible repeat (first | apply Kd.R_alloc | apply Kd.R_drewN | apply Kd.R_drew)); exact (Kd.R_mono (Kd.R_far (p := ⟨gb185, 2, none⟩) (Kd.R_far (p := ⟨gb185, 1, none⟩) (Kd.R_far (p := ⟨gb185, 0, none⟩) (Kd.R_types HO174.out BK185.out (by decide)) (fun _ hk => hk.2) (.bool t178)) (fun _ hk => hk.2) (.int .i64 t179)) (fun _ hk => hk.2) (.slice Ao34 t180.length co34)) (fun _ h_ => h_.1))) hb); have n1_ := Aside0.mk (Kd.R_below (by (with_reducible repeat (first | apply Kd.R_alloc | apply Kd.R_drewN | apply Kd.R_drew)); exact (Kd.R_mono (Kd.R_far (p := ⟨gb185, 2, none⟩) (Kd.R_far (p := ⟨gb185, 1, none⟩) (Kd.R_far (p := ⟨gb185, 0, none⟩) (Kd.R_types HO182.out BK185.out (by decide)) (fun _ hk => hk.2) (.bool t178)) (fun _ hk => hk.2) (.int .i64 t179)) (fun _ hk => hk.2) (.slice Ao34 t180.length co34)) (fun _ h_ => h_.1))) hb); have n2_ := Aside0.mk (blk_below (g := gb177) (o := .cells #[.bool t170, .int .i64 t171, .slice Ao29 t172.length co29] 73 (0, 0)) (by (with_reducible repeat (first | refine kN_ ?_ _ | refine kD_ ?_ | refine kA_ ?_ _)); refine blk_far ?_ NB177_185.out _; (with_reducible repeat (first | refine kN_ ?_ _ | refine kD_ ?_ | refine kA_ ?_ _)); refine blk_far ?_ NB177_185.out _; (with_reducible repeat (first | refine kN_ ?_ _ | refine kD_ ?_ | refine kA_ ?_ _)); refine blk_far ?_ NB177_185.out _; (with_reducible repeat (first | refine kN_ ?_ _ | refine kD_ ?_ | refine kA_ ?_ _)); exact BK177.out) hb); have n3_ := Aside0.mk (blk_below (g := gb185) (o := .cells #[.bool t178, .int .i64 t179, .slice Ao34 t180.length co34] 73 (0, 0)) (by (with_reducible repeat (first | refine kN_ ?_ _ | refine kD_ ?_ | refine kA_ ?_ _)); refine blk_put (cs := #[.bool t178, .int .i64 t179, .slice none 0 0]) ?_ 2 _ rfl; (with_reducible repeat (first | refine kN_ ?_ _ | refine kD_ ?_ | refine kA_ ?_ _)); refine blk_put (cs := #[.bool t178, .int .i64 0, .slice none 0 0]) ?_ 1 _ rfl; (with_reducible repeat (first | refine kN_ ?_ _ | refine kD_ ?_ | refine kA_ ?_ _)); refine blk_put (cs := #[.bool false, .int .i64 0, .slice none 0 0]) ?_ 0 _ rfl; (with_reducible repeat (first | refine kN_ ?_ _ | refine kD_ ?_ | refine kA_ ?_ _)); exact BK185.out) hb); have n4_ := Aside0.mk (below_step (by repeat (first | (with_reducible first | exact HB.out | apply bA_ | apply bN_ | apply bD_ | refine bS_ ?_ GE177.out | refine bS_ ?_ GE185.out) | exact HB.out)) hb); clear HO174; clear HO182; clear BK177; clear BK185; clear HB; have HO174 := n0_; have HO182 := n1_; have BK177 := n2_; have BK185 := n3_; have HB := n4_; clear n0_ n1_ n2_ n3_ n4_; (try clear hb); (try clear hb2); (try clear hk); (try clear hi)))
                   all_goals (try (exfalso; simp only [beq_iff_eq, bne_iff_ne, ne_eq, ByteArray.size_extract, decide_eq_true_eq, decide_eq_false_iff_not, beq_eq_false_iff_ne, bne_eq_false_iff_eq, eq_iff_iff, iff_true, iff_false] at *; unfold wrap64 at *; omega))
                   go_meet
                   case rel => exact ⟨_, (true), (by first | rfl | (simp; done) | (simp [*]; done)), H', ⟨by have := HK1.out; have := HJ2.out; have := HJ12.out; first | omega | exact Nat.le_refl _⟩, ⟨by (with_reducible repeat (first | apply Kd.R_alloc | apply Kd.R_drewN | apply Kd.R_drew)); exact Kd.R_mono HO174.out (fun _ hk => hk.2)⟩, ⟨by (with_reducible repeat (first | apply Kd.R_alloc | apply Kd.R_drewN | apply Kd.R_drew)); exact Kd.R_mono HO182.out (fun _ hk => hk.2)⟩, ⟨by (with_reducible repeat (first | refine kN_ ?_ _ | refine kD_ ?_ | refine kA_ ?_ _)); exact BK177.out⟩, ⟨by (with_reducible repeat (first | refine kN_ ?_ _ | refine kD_ ?_ | refine kA_ ?_ _)); exact BK185.out⟩, ⟨by repeat (first | (with_reducible first | exact HB.out | apply bA_ | apply bN_ | apply bD_ | refine bS_ ?_ GE177.out | refine bS_ ?_ GE185.out) | exact HB.out)⟩⟩
                 ·replace c37 := Bool.eq_false_iff.mpr c37
                  subst c37
                  have H1 : (platformfwlaw05_BytecodeIncremental.j3 kj12 a0 a1 x5_1 true) = some r := by rw [if_neg (show ¬ (false = true) by decide)] at H; exact H
                  clear H
                  have H := H1
                  clear H1
                  have H' := Aside0.mk H
                  clear H
                  have hnb47 := NB177_185.out
                  have hnc47 := NB185_177.out
                  obtain ⟨hcz48_0, hcz48_1, hcz48_2⟩ := cells3_ BK177.out
                  obtain ⟨hfz48_0, hfz48_1, hfz48_2⟩ := froz3_ BK177.out
                  have hcz49_0 : w31.cell? ⟨gb185, 0, none⟩ = some (.bool false) := (blk_cell BK185.out 0).trans rfl
                  have hcz49_1 : w31.cell? ⟨gb185, 1, none⟩ = some (.int .i64 0) := (blk_cell BK185.out 1).trans rfl
                  have hcz49_2 : w31.cell? ⟨gb185, 2, none⟩ = some (.slice none 0 0) := (blk_cell BK185.out 2).trans rfl
                  have hfz49_0 := blk_frozen BK185.out 0
                  have hfz49_1 := blk_frozen BK185.out 1
                  have hfz49_2 := blk_frozen BK185.out 2
                  go_wp2_with (first | (go_at_call 50; (with_reducible refine (platformfwlaw05_same.calls kj12 t170 t171 _ _ t172 t178 t179 _ _ t180 false _ ?side1 ?side2 ?side3 ?side4 A36.out).mono ?_); (case side1 => refine (Kd.R_reads' (e := 9) (base := w.heap.size) (ok := fun k_ => (True ∧ some k_ ≠ (.slice Ao34 t180.length co34 : Value).ownBlock)) (n := t172.length) (c := co29) ?_).2.2; exact (by (with_reducible repeat (first | apply Kd.R_alloc | apply Kd.R_drewN | apply Kd.R_drew)); exact (Kd.R_mono (Kd.R_far (p := ⟨gb185, 2, none⟩) (Kd.R_far (p := ⟨gb185, 1, none⟩) (Kd.R_far (p := ⟨gb185, 0, none⟩) (Kd.R_types HO174.out BK185.out (by decide)) (fun _ hk => hk.2) (.bool t178)) (fun _ hk => hk.2) (.int .i64 t179)) (fun _ hk => hk.2) (.slice Ao34 t180.length co34)) (fun _ h_ => h_.1)))); (case side2 => exact (Kd.R_reads' HO174.out).2.1); (case side3 => refine (Kd.R_reads' (e := 9) (base := w.heap.size) (ok := fun k_ => (True ∧ some k_ ≠ (.slice Ao29 t172.length co29 : Value).ownBlock)) (n := t180.length) (c := co34) ?_).2.2; exact (by (with_reducible repeat (first | apply Kd.R_alloc | apply Kd.R_drewN | apply Kd.R_drew)); exact (Kd.R_mono (Kd.R_far (p := ⟨gb185, 2, none⟩) (Kd.R_far (p := ⟨gb185, 1, none⟩) (Kd.R_far (p := ⟨gb185, 0, none⟩) (Kd.R_types HO182.out BK185.out (by decide)) (fun _ hk => hk.2) (.bool t178)) (fun _ hk => hk.2) (.int .i64 t179)) (fun _ hk => hk.2) (.slice Ao34 t180.length co34)) (fun _ h_ => h_.1)))); (case side4 => exact (Kd.R_reads' HO182.out).2.1); rintro e w50 ⟨rfl, hb⟩; have n0_ := Aside0.mk (Kd.R_below (by (with_reducible repeat (first | apply Kd.R_alloc | apply Kd.R_drewN | apply Kd.R_drew)); exact (Kd.R_mono (Kd.R_far (p := ⟨gb185, 2, none⟩) (Kd.R_far (p := ⟨gb185, 1, none⟩) (Kd.R_far (p := ⟨gb185, 0, none⟩) (Kd.R_types HO174.out BK185.out (by decide)) (fun _ hk => hk.2) (.bool t178)) (fun _ hk => hk.2) (.int .i64 t179)) (fun _ hk => hk.2) (.slice Ao34 t180.length co34)) (fun _ h_ => h_.1))) hb); have n1_ := Aside0.mk (Kd.R_below (by (with_reducible repeat (first | apply Kd.R_alloc | apply Kd.R_drewN | apply Kd.R_drew)); exact (Kd.R_mono (Kd.R_far (p := ⟨gb185, 2, none⟩) (Kd.R_far (p := ⟨gb185, 1, none⟩) (Kd.R_far (p := ⟨gb185, 0, none⟩) (Kd.R_types HO182.out BK185.out (by decide)) (fun _ hk => hk.2) (.bool t178)) (fun _ hk => hk.2) (.int .i64 t179)) (fun _ hk => hk.2) (.slice Ao34 t180.length co34)) (fun _ h_ => h_.1))) hb); have n2_ := Aside0.mk (blk_below (g := gb177) (o := .cells #[.bool t170, .int .i64 t171, .slice Ao29 t172.length co29] 73 (0, 0)) (by (with_reducible repeat (first | refine kN_ ?_ _ | refine kD_ ?_ | refine kA_ ?_ _)); refine blk_far ?_ NB177_185.out _; (with_reducible repeat (first | refine kN_ ?_ _ | refine kD_ ?_ | refine kA_ ?_ _)); refine blk_far ?_ NB177_185.out _; (with_reducible repeat (first | refine kN_ ?_ _ | refine kD_ ?_ | refine kA_ ?_ _)); refine blk_far ?_ NB177_185.out _; (with_reducible repeat (first | refine kN_ ?_ _ | refine kD_ ?_ | refine kA_ ?_ _)); exact BK177.out) hb); have n3_ := Aside0.mk (blk_below (g := gb185) (o := .cells #[.bool t178, .int .i64 t179, .slice Ao34 t180.length co34] 73 (0, 0)) (by (with_reducible repeat (first | refine kN_ ?_ _ | refine kD_ ?_ | refine kA_ ?_ _)); refine blk_put (cs := #[.bool t178, .int .i64 t179, .slice none 0 0]) ?_ 2 _ rfl; (with_reducible repeat (first | refine kN_ ?_ _ | refine kD_ ?_ | refine kA_ ?_ _)); refine blk_put (cs := #[.bool t178, .int .i64 0, .slice none 0 0]) ?_ 1 _ rfl; (with_reducible repeat (first | refine kN_ ?_ _ | refine kD_ ?_ | refine kA_ ?_ _)); refine blk_put (cs := #[.bool false, .int .i64 0, .slice none 0 0]) ?_ 0 _ rfl; (with_reducible repeat (first | refine kN_ ?_ _ | refine kD_ ?_ | refine kA_ ?_ _)); exact BK185.out) hb); have n4_ := Aside0.mk (below_step (by repeat (first | (with_reducible first | exact HB.out | apply bA_ | apply bN_ | apply bD_ | refine bS_ ?_ GE177.out | refine bS_ ?_ GE185.out) | exact HB.out)) hb); clear HO174; clear HO182; clear BK177; clear BK185; clear HB; have HO174 := n0_; have HO182 := n1_; have BK177 := n2_; have BK185 := n3_; have HB := n4_; clear n0_ n1_ n2_ n3_ n4_; (try clear hb); (try clear hb2); (try clear hk); (try clear hi)))
                  all_goals (try (exfalso; simp only [beq_iff_eq, bne_iff_ne, ne_eq, ByteArray.size_extract, decide_eq_true_eq, decide_eq_false_iff_not, beq_eq_false_iff_ne, bne_eq_false_iff_eq, eq_iff_iff, iff_true, iff_false] at *; unfold wrap64 at *; omega))
                  go_meet
                  case rel => exact ⟨_, (true), (by first | rfl | (simp; done) | (simp [*]; done)), H', ⟨by have := HK1.out; have := HJ2.out; have := HJ12.out; first | omega | exact Nat.le_refl _⟩, ⟨by (with_reducible repeat (first | apply Kd.R_alloc | apply Kd.R_drewN | apply Kd.R_drew)); exact Kd.R_mono HO174.out (fun _ hk => hk.2)⟩, ⟨by (with_reducible repeat (first | apply Kd.R_alloc | apply Kd.R_drewN | apply Kd.R_drew)); exact Kd.R_mono HO182.out (fun _ hk => hk.2)⟩, ⟨by (with_reducible repeat (first | refine kN_ ?_ _ | refine kD_ ?_ | refine kA_ ?_ _)); exact BK177.out⟩, ⟨by (with_reducible repeat (first | refine kN_ ?_ _ | refine kD_ ?_ | refine kA_ ?_ _)); exact BK185.out⟩, ⟨by repeat (first | (with_reducible first | exact HB.out | apply bA_ | apply bN_ | apply bD_ | refine bS_ ?_ GE177.out | refine bS_ ?_ GE185.out) | exact HB.out)⟩⟩
               case rest =>
                clear HC25
                try clear c1
                try clear c2
                try clear p2
                try clear c3
                try clear c4
                try clear c4b0
                try clear c5
                try clear c6
                try clear c6b0
                try clear c6b1
                try clear c7
                try clear c7b0
                try clear c7b1
                try clear c9
                try clear c9b0
                try clear c10
                try clear c10b0
                try clear c11
                try clear c11b0
                try clear c11b1
                try clear c11b2
                try clear c14
                try clear c14b0
                try clear c14b1
                try clear c15
                try clear c15b0
                try clear c15b1
                try clear c16
                try clear c16b0
                try clear c16b1
                try clear c17
                try clear c18
                try clear c18b0
                try clear c18b1
                try clear c19
                try clear c19b0
                try clear c19b1
                try clear c21
                try clear c21b0
                try clear c22
                try clear c22b0
                try clear c23
                try clear c23b0
                try clear c23b1
                try clear c23b2
                try clear c31
                try clear c32
                try clear c35
                try clear c35b0
                try clear c35b1
                try clear c37
                try clear c38
                try clear c38b0
                try clear c38b1
                try clear c39
                try clear c43
                try clear c47
                try clear c48
                try clear hcz28_0 hcz28_1 hcz28_2
                try clear hcz33_0 hcz33_1 hcz33_2
                try clear hcz40_0 hcz40_1 hcz40_2
                try clear hcz41_0 hcz41_1 hcz41_2
                try clear hcz44_0 hcz44_1 hcz44_2
                try clear hcz45_0 hcz45_1 hcz45_2
                try clear hcz48_0 hcz48_1 hcz48_2
                try clear hcz49_0 hcz49_1 hcz49_2
                try clear hfz28_0 hfz28_1 hfz28_2
                try clear hfz33_0 hfz33_1 hfz33_2
                try clear hfz40_0 hfz40_1 hfz40_2
                try clear hfz41_0 hfz41_1 hfz41_2
                try clear hfz44_0 hfz44_1 hfz44_2
                try clear hfz45_0 hfz45_1 hfz45_2
                try clear hfz48_0 hfz48_1 hfz48_2
                try clear hfz49_0 hfz49_1 hfz49_2
                try clear p2
                obtain ⟨kq, x96_24, rfl, HA, HJ24, HO_178002, HO_186002, BK177, BK185, HB⟩ := hcut
                cases kq with
                | zero => exact absurd HA.out (by simp [platformfwlaw05_BytecodeIncremental.j3])
                | succ kj24 =>
                 have H := HA.out
                 clear HA
                 simp only [platformfwlaw05_BytecodeIncremental.j3] at H
                 by_cases c51 : x96_24 = true
                 ·subst c51
                  have H1 : (some false) = some r := by rw [if_pos rfl] at H; exact H
                  clear H
                  have H := H1
                  clear H1
                  obtain rfl := Option.some.inj H
                  exact absurd hr_.out (by simp)
                 ·replace c51 := Bool.eq_false_iff.mpr c51
                  subst c51
                  have H1 : (if 0 ≤ x5_1 then (if x5_1 ≤ (a0.size : Int) then ((bytecode_Length.f kj24 (a0.extract 0 (x5_1 : Int).toNat)).bind fun bt187 => (if (a0.extract 0 (x5_1 : Int).toNat).size + a1.size ≤ 9223372036854775807 then ((bytecode_Length.f kj24 ((a0.extract 0 (x5_1 : Int).toNat) ++ a1)).bind fun bt190 => (if bt187.2.2 = 4 then (platformfwlaw05_BytecodeIncremental.l0 kj24 a0 a1 (wrap64 (x5_1 + 1))) else (if bt187.1 = bt190.1 then (if bt187.2.1 = bt190.2.1 then (if bt187.2.2 = bt190.2.2 then (platformfwlaw05_BytecodeIncremental.l0 kj24 a0 a1 (wrap64 (x5_1 + 1))) else (some false)) else (some false)) else (some false)))) else (none))) else (none)) else (none)) = some r := by rw [if_neg (show ¬ (false = true) by decide)] at H; exact H
                  clear H
                  have H := H1
                  clear H1
                  by_cases c52 : 0 ≤ x5_1
                  ·rw [if_pos c52] at H
                   have c52b0 := eq_true c52
                   have c52b1 : decide (0 ≤ x5_1) = true := decide_eq_true c52
                   clear c52
                   by_cases c53 : x5_1 ≤ (a0.size : Int)
                   ·rw [if_pos c53] at H
                    have c53b0 := eq_true c53
                    have c53b1 : decide (x5_1 ≤ (a0.size : Int)) = true := decide_eq_true c53
                    clear c53
                    replace H := Option.bind_eq_some_iff.mp H
                    obtain ⟨⟨t187, t188, t189⟩, A540, H⟩ := H
                    replace H : (if (a0.extract 0 (x5_1 : Int).toNat).size + a1.size ≤ 9223372036854775807 then ((bytecode_Length.f kj24 ((a0.extract 0 (x5_1 : Int).toNat) ++ a1)).bind fun bt190 => (if t189 = 4 then (platformfwlaw05_BytecodeIncremental.l0 kj24 a0 a1 (wrap64 (x5_1 + 1))) else (if t187 = bt190.1 then (if t188 = bt190.2.1 then (if t189 = bt190.2.2 then (platformfwlaw05_BytecodeIncremental.l0 kj24 a0 a1 (wrap64 (x5_1 + 1))) else (some false)) else (some false)) else (some false)))) else (none)) = some r := H
                    have A54 := Aside0.mk A540
                    clear A540
                    have c55b0 := eq_true (of_decide_eq_true (by first | (with_reducible assumption) | assumption) : 0 ≤ x5_1)
                    have c56b0 := eq_true (of_decide_eq_true (by first | (with_reducible assumption) | assumption) : x5_1 ≤ (a0.size : Int))
                    by_cases c57 : (a0.extract 0 (x5_1 : Int).toNat).size + a1.size ≤ 9223372036854775807
                    ·rw [if_pos c57] at H
                     have c57b0 := eq_true c57
                     have c57b1 : decide ((a0.extract 0 (x5_1 : Int).toNat).size + a1.size ≤ 9223372036854775807) = true := decide_eq_true c57
                     try have c57b2 : (9223372036854775807 < (a0.extract 0 (x5_1 : Int).toNat).size + a1.size) = False := eq_false (Nat.not_lt.2 c57)
                     try have c57b3 : (9223372036854775807 < (x5_1 : Int).toNat + a1.size) = False := eq_false (fun h_ => Nat.not_lt.2 c57 (Nat.lt_of_lt_of_eq h_ (by have q0_ : x5_1 ≤ (a0.size : Int) := of_decide_eq_true (by first | (with_reducible assumption) | assumption); simp only [ByteArray.size_extract]; omega)))
                     clear c57
                     replace H := Option.bind_eq_some_iff.mp H
                     obtain ⟨⟨t190, t191, t192⟩, A580, H⟩ := H
                     replace H : (if t189 = 4 then (platformfwlaw05_BytecodeIncremental.l0 kj24 a0 a1 (wrap64 (x5_1 + 1))) else (if t187 = t190 then (if t188 = t191 then (if t189 = t192 then (platformfwlaw05_BytecodeIncremental.l0 kj24 a0 a1 (wrap64 (x5_1 + 1))) else (some false)) else (some false)) else (some false))) = some r := H
                     have A58 := Aside0.mk A580
                     clear A580
                     by_cases c59 : t189 = 4
                     ·rw [if_pos c59] at H
                      have c59b0 : (t189 == 4) = true := beq_iff_eq.mpr c59
                      have c59b1 : (t189 != 4) = false := bne_eq_false_iff_eq.mpr c59
                      clear c59
                      have H' := Aside0.mk H
                      clear H
                      go_wp2_with (first | ((with_reducible refine gate_callee (f := 44) rfl ?_); refine goesL_ (some 101) rfl rfl Try.func44 (by kernel_rfl) rfl #[.string (a0.extract 0 (x5_1 : Int).toNat)] rfl (by (try simp only [List.map_toArray, List.map_cons, List.map_nil]); first | done | rfl | (simp only [List.length_drop, List.length_take]; rfl)) ?_; (with_reducible refine (bytecode_Length.calls kj24 (a0.extract 0 (x5_1 : Int).toNat) t187 t188 t189 _ A54.out).mono ?_); rintro e w' ⟨rfl, ⟨nd, rfl⟩⟩; refine ⟨_, rfl, ?_⟩) | ((with_reducible refine gate_callee (f := 44) rfl ?_); refine goesL_ (some 111) rfl rfl Try.func44 (by kernel_rfl) rfl #[.string ((a0.extract 0 (x5_1 : Int).toNat) ++ a1)] rfl (by (try simp only [List.map_toArray, List.map_cons, List.map_nil]); first | done | rfl | (simp only [List.length_drop, List.length_take]; rfl)) ?_; (with_reducible refine (bytecode_Length.calls kj24 ((a0.extract 0 (x5_1 : Int).toNat) ++ a1) t190 t191 t192 _ A58.out).mono ?_); rintro e w' ⟨rfl, ⟨nd, rfl⟩⟩; refine ⟨_, rfl, ?_⟩))
                      all_goals (try (exfalso; simp only [beq_iff_eq, bne_iff_ne, ne_eq, ByteArray.size_extract, decide_eq_true_eq, decide_eq_false_iff_not, beq_eq_false_iff_ne, bne_eq_false_iff_eq, eq_iff_iff, iff_true, iff_false] at *; unfold wrap64 at *; omega))
                      go_roundg kj24
                      case measure => have := HK1.out; have := HJ2.out; have := HJ12.out; have := HJ24.out; omega
                      case rel => exact ⟨(wrap64 (x5_1 + 1)), (by first | rfl | (simp; done) | (simp [*]; done)), H', ⟨by have := HK1.out; have := HJ2.out; have := HJ12.out; have := HJ24.out; omega⟩, ⟨by repeat (first | (with_reducible first | exact HB.out | apply bA_ | apply bN_ | apply bD_ | refine bS_ ?_ GE177.out | refine bS_ ?_ GE185.out) | exact HB.out)⟩⟩
                     ·rw [if_neg c59] at H
                      have c59b0 : (t189 == 4) = false := beq_eq_false_iff_ne.mpr c59
                      have c59b1 : (t189 != 4) = true := bne_iff_ne.mpr c59
                      by_cases c60 : t187 = t190
                      ·rw [if_pos c60] at H
                       have c60b0 : (t187 == t190) = true := beq_iff_eq.mpr c60
                       have c60b1 : (t187 != t190) = false := bne_eq_false_iff_eq.mpr c60
                       clear c60
                       by_cases c61 : t188 = t191
                       ·rw [if_pos c61] at H
                        have c61b0 : (t188 == t191) = true := beq_iff_eq.mpr c61
                        have c61b1 : (t188 != t191) = false := bne_eq_false_iff_eq.mpr c61
                        clear c61
                        by_cases c62 : t189 = t192
                        ·rw [if_pos c62] at H
                         have c62b0 : (t189 == t192) = true := beq_iff_eq.mpr c62
                         have c62b1 : (t189 != t192) = false := bne_eq_false_iff_eq.mpr c62
                         clear c62
                         have H' := Aside0.mk H
                         clear H
                         go_wp2_with (first | ((with_reducible refine gate_callee (f := 44) rfl ?_); refine goesL_ (some 101) rfl rfl Try.func44 (by kernel_rfl) rfl #[.string (a0.extract 0 (x5_1 : Int).toNat)] rfl (by (try simp only [List.map_toArray, List.map_cons, List.map_nil]); first | done | rfl | (simp only [List.length_drop, List.length_take]; rfl)) ?_; (with_reducible refine (bytecode_Length.calls kj24 (a0.extract 0 (x5_1 : Int).toNat) t187 t188 t189 _ A54.out).mono ?_); rintro e w' ⟨rfl, ⟨nd, rfl⟩⟩; refine ⟨_, rfl, ?_⟩) | ((with_reducible refine gate_callee (f := 44) rfl ?_); refine goesL_ (some 111) rfl rfl Try.func44 (by kernel_rfl) rfl #[.string ((a0.extract 0 (x5_1 : Int).toNat) ++ a1)] rfl (by (try simp only [List.map_toArray, List.map_cons, List.map_nil]); first | done | rfl | (simp only [List.length_drop, List.length_take]; rfl)) ?_; (with_reducible refine (bytecode_Length.calls kj24 ((a0.extract 0 (x5_1 : Int).toNat) ++ a1) t190 t191 t192 _ A58.out).mono ?_); rintro e w' ⟨rfl, ⟨nd, rfl⟩⟩; refine ⟨_, rfl, ?_⟩))
                         all_goals (try (exfalso; simp only [beq_iff_eq, bne_iff_ne, ne_eq, ByteArray.size_extract, decide_eq_true_eq, decide_eq_false_iff_not, beq_eq_false_iff_ne, bne_eq_false_iff_eq, eq_iff_iff, iff_true, iff_false] at *; unfold wrap64 at *; omega))
                         go_roundg kj24
                         case measure => have := HK1.out; have := HJ2.out; have := HJ12.out; have := HJ24.out; omega
                         case rel => exact ⟨(wrap64 (x5_1 + 1)), (by first | rfl | (simp; done) | (simp [*]; done)), H', ⟨by have := HK1.out; have := HJ2.out; have := HJ12.out; have := HJ24.out; omega⟩, ⟨by repeat (first | (with_reducible first | exact HB.out | apply bA_ | apply bN_ | apply bD_ | refine bS_ ?_ GE177.out | refine bS_ ?_ GE185.out) | exact HB.out)⟩⟩
                        ·rw [if_neg c62] at H
                         have c62b0 : (t189 == t192) = false := beq_eq_false_iff_ne.mpr c62
                         have c62b1 : (t189 != t192) = true := bne_iff_ne.mpr c62
                         obtain rfl := Option.some.inj H
                         exact absurd hr_.out (by simp)
                       ·rw [if_neg c61] at H
                        have c61b0 : (t188 == t191) = false := beq_eq_false_iff_ne.mpr c61
                        have c61b1 : (t188 != t191) = true := bne_iff_ne.mpr c61
                        obtain rfl := Option.some.inj H
                        exact absurd hr_.out (by simp)
                      ·rw [if_neg c60] at H
                       have c60b0 : (t187 == t190) = false := beq_eq_false_iff_ne.mpr c60
                       have c60b1 : (t187 != t190) = true := bne_iff_ne.mpr c60
                       obtain rfl := Option.some.inj H
                       exact absurd hr_.out (by simp)
                    ·rw [if_neg c57] at H
                     exact absurd H (by simp)
                   ·rw [if_neg c53] at H
                    exact absurd H (by simp)
                  ·rw [if_neg c52] at H
                   exact absurd H (by simp)
              ·rw [if_neg c23] at H
               exact absurd H (by simp)
             ·rw [if_neg c19] at H
              exact absurd H (by simp)
            ·rw [if_neg c18] at H
             exact absurd H (by simp)
        ·rw [if_neg c11] at H
         exact absurd H (by simp)
       ·rw [if_neg c7] at H
        exact absurd H (by simp)
      ·rw [if_neg c6] at H
       exact absurd H (by simp)
     ·replace c5 := Bool.eq_false_iff.mpr c5
      subst c5
      have H1 : ((platformfwlaw05_awake.f kj2).bind fun t163 => (some t163)) = some r := by rw [if_neg (show ¬ (false = true) by decide)] at H; exact H
      clear H
      have H := H1
      clear H1
      replace H := Option.bind_eq_some_iff.mp H
      obtain ⟨t163, A630, H⟩ := H
      replace H : (some t163) = some r := H
      have A63 := Aside0.mk A630
      clear A630
      obtain rfl := Option.some.inj H
      go_wp2_with (first | ((with_reducible refine gate_callee (f := 33) rfl ?_); refine goesL_ (some 132) rfl rfl Try.func33 (by kernel_rfl) rfl #[] rfl (by (try simp only [List.map_toArray, List.map_cons, List.map_nil]); first | done | rfl | (simp only [List.length_drop, List.length_take]; rfl)) ?_; (with_reducible refine (platformfwlaw05_awake.calls kj2  t163 _ A63.out).mono ?_); rintro e w64 ⟨rfl, hb⟩; refine ⟨_, rfl, ?_⟩; have n0_ := Aside0.mk (below_step (by repeat (first | (with_reducible first | exact HB.out | apply bA_ | apply bN_ | apply bD_) | exact HB.out)) hb); clear HB; have HB := n0_; clear n0_; (try clear hb); (try clear hb2); (try clear hk); (try clear hi)))
      all_goals (try (exfalso; simp only [beq_iff_eq, bne_iff_ne, ne_eq, ByteArray.size_extract, decide_eq_true_eq, decide_eq_false_iff_not, beq_eq_false_iff_ne, bne_eq_false_iff_eq, eq_iff_iff, iff_true, iff_false] at *; unfold wrap64 at *; omega))
      go_ret
      exact ⟨by first | rfl | (simp [errW_none, errW_some] <;> rfl) | (simp [*, errW_none, errW_some] <;> rfl), by repeat (first | (with_reducible first | exact HB.out | apply bA_ | apply bN_ | apply bD_) | exact HB.out)⟩

/-- THE ONE PURE STATEMENT of platformfwlaw05_BytecodeIncremental: yours. -/
def platformfwlaw05_BytecodeIncremental.Pure : Prop := ∀ (a0 : ByteArray) (a1 : ByteArray), a0.size ≤ 140737488351232 → a1.size ≤ 140737488351232 → ∃ k, platformfwlaw05_BytecodeIncremental.f k a0 a1 = some true
theorem platformfwlaw05_BytecodeIncremental.walk (P : platformfwlaw05_BytecodeIncremental.Pure) (a0 : ByteArray) (a1 : ByteArray) (w : World) (w0 : a0.size ≤ 140737488351232) (w1 : a1.size ≤ 140737488351232) :
  Calls Try.prog 14 #[.string a0, .string a1] w fun e w' => e = .returned (.bool true) ∧ Below w.heap.size w w' := by
 obtain ⟨k, h⟩ := P a0 a1 w0 w1
 refine (platformfwlaw05_BytecodeIncremental.calls k a0 a1 true w ⟨rfl⟩ h).mono ?_
 rintro e w' ⟨rfl, hd⟩
 exact ⟨rfl, hd⟩

end Go.Proofs.Ytmnmidclaaiffaa.PBytecodeIncremental
