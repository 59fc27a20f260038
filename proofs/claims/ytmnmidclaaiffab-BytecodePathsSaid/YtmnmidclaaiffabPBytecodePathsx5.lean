-- Written by a program of this session's (wip/print_patch.py over the kit's print) out of the translation; Lean checks it.
import Derived.Test.YtmnmidclaaiffabPBytecodePathsx0
import Derived.Test.YtmnmidclaaiffabExtP
namespace Go.Proofs.Ytmnmidclaaiffab.PBytecodePaths
open Go.RowKit Go.Proofs.Ytmnmidclaaiffab.Ext Go.Proofs.YtmnmidclaaiffabW.PrintWords Go.Proofs.YtmnmidclaaiffabW.PrintLast Go.Proofs.YtmnmidclaaiffabW.PrintMore
attribute [local go_sem] max2_int min2_int max_two min_two max_three min_three max_four min_four   -- for this text's walks alone
set_option linter.unusedVariables false
set_option linter.unusedSimpArgs false

/-! ### bytecode_size: function 34 -/
def bytecode_size.j0 : Nat → Int → Bool → Option (Int)
 | 0, _, _ => none
 | k + 1, x3, x4 => if x4 = true then (some 0) else (if x3 = 10 then (some 1) else (if x3 = 11 then (some 2) else (if x3 = 12 then (some 4) else (if x3 = 14 then (some 8) else (some (-1))))))
def bytecode_size.f (k : Nat) (a0 : Int) : Option (Int) := if a0 = 0 then (bytecode_size.j0 k a0 (a0 == 0)) else (if a0 = 1 then (bytecode_size.j0 k a0 (a0 == 1)) else (bytecode_size.j0 k a0 (a0 == 255)))
theorem bytecode_size.mono_l : ∀ k, (∀ y0 y1, LeO (bytecode_size.j0 k y0 y1) (bytecode_size.j0 (k + 1) y0 y1))
 | 0 => fun _ _ r h => by simp [bytecode_size.j0] at h
 | k + 1 => by
  have ih0 := bytecode_size.mono_l k
  ·intro y0 y1
   unfold bytecode_size.j0
   repeat' first
   | (with_reducible exact ih0 _ _)
   | (with_reducible exact LeO.refl _)
   | (with_reducible exact LeO.none _)
   | (with_reducible refine LeO.ite ?_ ?_)
   | (with_reducible refine LeO.bind ?_ (fun _ => ?_))
   | exact ih0 _ _
   | exact LeO.none _
   | refine LeO.ite ?_ ?_
   | refine LeO.bind ?_ (fun _ => ?_)
theorem bytecode_size.mono : ∀ a0 k, LeO (bytecode_size.f k a0) (bytecode_size.f (k + 1) a0) := by
 intro a0 k
 have ih0 := bytecode_size.mono_l k
 unfold bytecode_size.f
 repeat' first
   | (with_reducible exact ih0 _ _)
   | (with_reducible exact LeO.refl _)
   | (with_reducible exact LeO.none _)
   | (with_reducible refine LeO.ite ?_ ?_)
   | (with_reducible refine LeO.bind ?_ (fun _ => ?_))
   | exact ih0 _ _
   | exact LeO.none _
   | refine LeO.ite ?_ ?_
   | refine LeO.bind ?_ (fun _ => ?_)
set_option maxHeartbeats 8000000 in
set_option maxRecDepth 100000 in
theorem bytecode_size.calls (k : Nat) (a0 : Int) (r : Int) (w : World) (h : bytecode_size.f k a0 = some r) :
  Calls Try.prog 34 #[.int .u8 a0] w fun e w' => e = .returned (.int .i64 r) ∧ Drawn0 w w' := by
 have H : (if a0 = 0 then (bytecode_size.j0 k a0 (a0 == 0)) else (if a0 = 1 then (bytecode_size.j0 k a0 (a0 == 1)) else (bytecode_size.j0 k a0 (a0 == 255)))) = some r := h
 clear h
 have HC2 := Aside0.mk H
 clear H
 go_enter Try.func34, Try.ntmps34
 go_upto_if 4 with (fail)
 go_cut [4] (fun v4 wc => ∃ (kq : Nat) (x4_1 : Bool), v4 = .bool x4_1 ∧ Aside0 (bytecode_size.j0 kq a0 x4_1 = some r) ∧ Aside0 (kq ≤ k) ∧ Drawn0 w wc)
 case first =>
  have H := HC2.out
  clear HC2
  by_cases c3 : a0 = 0
  ·rw [if_pos c3] at H
   have c3b0 : (a0 == 0) = true := beq_iff_eq.mpr c3
   have c3b1 : (a0 != 0) = false := bne_eq_false_iff_eq.mpr c3
   clear c3
   (first | rw [c3b0] | (simp only [i64_w, i32_w]; rw [c3b0]) | skip)
   have H' := Aside0.mk H
   clear H
   go_wp2
   go_meet
   case rel => exact ⟨_, ((a0 == 0)), (by first | rfl | (simp; done) | (simp [*]; done)), H', ⟨by first | omega | exact Nat.le_refl _⟩, by repeat (first | exact Drawn0.refl _ | apply Drawn0.step)⟩
  ·rw [if_neg c3] at H
   have c3b0 : (a0 == 0) = false := beq_eq_false_iff_ne.mpr c3
   have c3b1 : (a0 != 0) = true := bne_iff_ne.mpr c3
   (first | rw [c3b0] | (simp only [i64_w, i32_w]; rw [c3b0]) | skip)
   by_cases c4 : a0 = 1
   ·rw [if_pos c4] at H
    have c4b0 : (a0 == 1) = true := beq_iff_eq.mpr c4
    have c4b1 : (a0 != 1) = false := bne_eq_false_iff_eq.mpr c4
    clear c4
    have H' := Aside0.mk H
    clear H
    go_wp2
    go_meet
    case rel => exact ⟨_, ((a0 == 1)), (by first | rfl | (simp; done) | (simp [*]; done)), H', ⟨by first | omega | exact Nat.le_refl _⟩, by repeat (first | exact Drawn0.refl _ | apply Drawn0.step)⟩
   ·rw [if_neg c4] at H
    have c4b0 : (a0 == 1) = false := beq_eq_false_iff_ne.mpr c4
    have c4b1 : (a0 != 1) = true := bne_iff_ne.mpr c4
    have H' := Aside0.mk H
    clear H
    go_wp2
    go_meet
    case rel => exact ⟨_, ((a0 == 255)), (by first | rfl | (simp; done) | (simp [*]; done)), H', ⟨by first | omega | exact Nat.le_refl _⟩, by repeat (first | exact Drawn0.refl _ | apply Drawn0.step)⟩
 case rest =>
  clear HC2
  try clear p2
  try clear c3
  try clear c3b0
  try clear c3b1
  try clear c4
  try clear c4b0
  try clear c4b1
  obtain ⟨kq, x4_1, rfl, HA, HJ1, ⟨mc1, rfl⟩⟩ := hcut
  cases kq with
  | zero => exact absurd HA.out (by simp [bytecode_size.j0])
  | succ kj1 =>
   have H := HA.out
   clear HA
   simp only [bytecode_size.j0] at H
   by_cases c5 : x4_1 = true
   ·subst c5
    have H1 : (some 0) = some r := by rw [if_pos rfl] at H; exact H
    clear H
    have H := H1
    clear H1
    obtain rfl := Option.some.inj H
    go_wp2
    go_ret
    exact ⟨by first | rfl | (simp; done) | (simp [*]; done), by repeat (first | exact Drawn0.refl _ | apply Drawn0.step)⟩
   ·replace c5 := Bool.eq_false_iff.mpr c5
    subst c5
    have H1 : (if a0 = 10 then (some 1) else (if a0 = 11 then (some 2) else (if a0 = 12 then (some 4) else (if a0 = 14 then (some 8) else (some (-1)))))) = some r := by rw [if_neg (show ¬ (false = true) by decide)] at H; exact H
    clear H
    have H := H1
    clear H1
    by_cases c6 : a0 = 10
    ·rw [if_pos c6] at H
     have c6b0 : (a0 == 10) = true := beq_iff_eq.mpr c6
     have c6b1 : (a0 != 10) = false := bne_eq_false_iff_eq.mpr c6
     clear c6
     obtain rfl := Option.some.inj H
     go_wp2
     go_ret
     exact ⟨by first | rfl | (simp; done) | (simp [*]; done), by repeat (first | exact Drawn0.refl _ | apply Drawn0.step)⟩
    ·rw [if_neg c6] at H
     have c6b0 : (a0 == 10) = false := beq_eq_false_iff_ne.mpr c6
     have c6b1 : (a0 != 10) = true := bne_iff_ne.mpr c6
     by_cases c7 : a0 = 11
     ·rw [if_pos c7] at H
      have c7b0 : (a0 == 11) = true := beq_iff_eq.mpr c7
      have c7b1 : (a0 != 11) = false := bne_eq_false_iff_eq.mpr c7
      clear c7
      obtain rfl := Option.some.inj H
      go_wp2
      go_ret
      exact ⟨by first | rfl | (simp; done) | (simp [*]; done), by repeat (first | exact Drawn0.refl _ | apply Drawn0.step)⟩
     ·rw [if_neg c7] at H
      have c7b0 : (a0 == 11) = false := beq_eq_false_iff_ne.mpr c7
      have c7b1 : (a0 != 11) = true := bne_iff_ne.mpr c7
      by_cases c8 : a0 = 12
      ·rw [if_pos c8] at H
       have c8b0 : (a0 == 12) = true := beq_iff_eq.mpr c8
       have c8b1 : (a0 != 12) = false := bne_eq_false_iff_eq.mpr c8
       clear c8
       obtain rfl := Option.some.inj H
       go_wp2
       go_ret
       exact ⟨by first | rfl | (simp; done) | (simp [*]; done), by repeat (first | exact Drawn0.refl _ | apply Drawn0.step)⟩
      ·rw [if_neg c8] at H
       have c8b0 : (a0 == 12) = false := beq_eq_false_iff_ne.mpr c8
       have c8b1 : (a0 != 12) = true := bne_iff_ne.mpr c8
       by_cases c9 : a0 = 14
       ·rw [if_pos c9] at H
        have c9b0 : (a0 == 14) = true := beq_iff_eq.mpr c9
        have c9b1 : (a0 != 14) = false := bne_eq_false_iff_eq.mpr c9
        clear c9
        obtain rfl := Option.some.inj H
        go_wp2
        go_ret
        exact ⟨by first | rfl | (simp; done) | (simp [*]; done), by repeat (first | exact Drawn0.refl _ | apply Drawn0.step)⟩
       ·rw [if_neg c9] at H
        have c9b0 : (a0 == 14) = false := beq_eq_false_iff_ne.mpr c9
        have c9b1 : (a0 != 14) = true := bne_iff_ne.mpr c9
        obtain rfl := Option.some.inj H
        go_wp2
        go_ret
        exact ⟨by first | rfl | (simp; done) | (simp [*]; done), by repeat (first | exact Drawn0.refl _ | apply Drawn0.step)⟩

/-! ### bytecode_form: function 35 -/
def bytecode_form.f (a0 : Int) : Option (Int × Int) := if a0 = 0 then (some (0, 0)) else (if a0 = 1 then (some (1, 0)) else (if a0 = 18446744073709551615 then (some (255, 0)) else (if a0 < 256 then (some (10, 1)) else (if a0 < 65536 then (some (11, 2)) else (if a0 < 4294967296 then (some (12, 4)) else (some (14, 8)))))))
set_option maxHeartbeats 8000000 in
set_option maxRecDepth 100000 in
theorem bytecode_form.calls (a0 : Int) (r1 : Int) (r2 : Int) (w : World) (h : bytecode_form.f a0 = some (r1, r2)) :
  Calls Try.prog 35 #[.int .u64 a0] w fun e w' => e = .returned (.tuple #[.int .u8 r1, .int .i64 r2]) ∧ Drawn0 w w' := by
 have H : (if a0 = 0 then (some (0, 0)) else (if a0 = 1 then (some (1, 0)) else (if a0 = 18446744073709551615 then (some (255, 0)) else (if a0 < 256 then (some (10, 1)) else (if a0 < 65536 then (some (11, 2)) else (if a0 < 4294967296 then (some (12, 4)) else (some (14, 8)))))))) = some (r1, r2) := h
 clear h
 by_cases c2 : a0 = 0
 ·rw [if_pos c2] at H
  have c2b0 : (a0 == 0) = true := beq_iff_eq.mpr c2
  have c2b1 : (a0 != 0) = false := bne_eq_false_iff_eq.mpr c2
  clear c2
  simp only [Option.some.injEq, Prod.mk.injEq] at H
  obtain ⟨rfl, rfl⟩ := H
  go_enter Try.func35, Try.ntmps35
  go_wp2
  go_ret2
  exact ⟨by first | rfl | (simp; done) | (simp [*]; done), by repeat (first | exact Drawn0.refl _ | apply Drawn0.step)⟩
 ·rw [if_neg c2] at H
  have c2b0 : (a0 == 0) = false := beq_eq_false_iff_ne.mpr c2
  have c2b1 : (a0 != 0) = true := bne_iff_ne.mpr c2
  by_cases c3 : a0 = 1
  ·rw [if_pos c3] at H
   have c3b0 : (a0 == 1) = true := beq_iff_eq.mpr c3
   have c3b1 : (a0 != 1) = false := bne_eq_false_iff_eq.mpr c3
   clear c3
   simp only [Option.some.injEq, Prod.mk.injEq] at H
   obtain ⟨rfl, rfl⟩ := H
   go_enter Try.func35, Try.ntmps35
   go_wp2
   go_ret2
   exact ⟨by first | rfl | (simp; done) | (simp [*]; done), by repeat (first | exact Drawn0.refl _ | apply Drawn0.step)⟩
  ·rw [if_neg c3] at H
   have c3b0 : (a0 == 1) = false := beq_eq_false_iff_ne.mpr c3
   have c3b1 : (a0 != 1) = true := bne_iff_ne.mpr c3
   by_cases c4 : a0 = 18446744073709551615
   ·rw [if_pos c4] at H
    have c4b0 : (a0 == 18446744073709551615) = true := beq_iff_eq.mpr c4
    have c4b1 : (a0 != 18446744073709551615) = false := bne_eq_false_iff_eq.mpr c4
    clear c4
    simp only [Option.some.injEq, Prod.mk.injEq] at H
    obtain ⟨rfl, rfl⟩ := H
    go_enter Try.func35, Try.ntmps35
    go_wp2
    go_ret2
    exact ⟨by first | rfl | (simp; done) | (simp [*]; done), by repeat (first | exact Drawn0.refl _ | apply Drawn0.step)⟩
   ·rw [if_neg c4] at H
    have c4b0 : (a0 == 18446744073709551615) = false := beq_eq_false_iff_ne.mpr c4
    have c4b1 : (a0 != 18446744073709551615) = true := bne_iff_ne.mpr c4
    by_cases c5 : a0 < 256
    ·rw [if_pos c5] at H
     have c5b0 : decide (a0 < 256) = true := decide_eq_true c5
     clear c5
     simp only [Option.some.injEq, Prod.mk.injEq] at H
     obtain ⟨rfl, rfl⟩ := H
     go_enter Try.func35, Try.ntmps35
     go_wp2
     go_ret2
     exact ⟨by first | rfl | (simp; done) | (simp [*]; done), by repeat (first | exact Drawn0.refl _ | apply Drawn0.step)⟩
    ·rw [if_neg c5] at H
     have c5b0 : decide (a0 < 256) = false := decide_eq_false c5
     clear c5
     by_cases c6 : a0 < 65536
     ·rw [if_pos c6] at H
      have c6b0 : decide (a0 < 65536) = true := decide_eq_true c6
      clear c6
      simp only [Option.some.injEq, Prod.mk.injEq] at H
      obtain ⟨rfl, rfl⟩ := H
      go_enter Try.func35, Try.ntmps35
      go_wp2
      go_ret2
      exact ⟨by first | rfl | (simp; done) | (simp [*]; done), by repeat (first | exact Drawn0.refl _ | apply Drawn0.step)⟩
     ·rw [if_neg c6] at H
      have c6b0 : decide (a0 < 65536) = false := decide_eq_false c6
      clear c6
      by_cases c7 : a0 < 4294967296
      ·rw [if_pos c7] at H
       have c7b0 : decide (a0 < 4294967296) = true := decide_eq_true c7
       clear c7
       simp only [Option.some.injEq, Prod.mk.injEq] at H
       obtain ⟨rfl, rfl⟩ := H
       go_enter Try.func35, Try.ntmps35
       go_wp2
       go_ret2
       exact ⟨by first | rfl | (simp; done) | (simp [*]; done), by repeat (first | exact Drawn0.refl _ | apply Drawn0.step)⟩
      ·rw [if_neg c7] at H
       have c7b0 : decide (a0 < 4294967296) = false := decide_eq_false c7
       clear c7
       simp only [Option.some.injEq, Prod.mk.injEq] at H
       obtain ⟨rfl, rfl⟩ := H
       go_enter Try.func35, Try.ntmps35
       go_wp2
       go_ret2
       exact ⟨by first | rfl | (simp; done) | (simp [*]; done), by repeat (first | exact Drawn0.refl _ | apply Drawn0.step)⟩

/-! ### bytecode_Int: function 15 -/
def bytecode_Int.l0 : Nat → ByteArray → Int → Int → Int → Int → Option (Int × Int × Int)
 | 0, _, _, _, _, _ => none
 | k + 1, x0, x5, x6, x23, x24 => if x24 < x23 then (if 0 ≤ (wrap64 (1 + x24)) then (if (wrap64 (1 + x24)) < (x0.size : Int) then (if 0 ≤ (wrap64 (8 * x24)) then (bytecode_Int.l0 k x0 x5 (Go.bits .or .u64 x6 (shl .u64 (IntKind.u64.wrap (bt x0 (wrap64 (1 + x24)))) (wrap64 (8 * x24)))) x23 (wrap64 (x24 + 1))) else (none)) else (none)) else (none)) else (if 0 < (x0.size : Int) then (if (bt x0 0) = 1 then ((bytecode_form.f 1).bind fun bt146 => (if bt146.1 = (bt x0 0) then (some (1, wrap64 (x5 + 1), 0)) else (some (0, 0, 3)))) else (if (bt x0 0) = 255 then ((bytecode_form.f 18446744073709551615).bind fun bt148 => (if bt148.1 = (bt x0 0) then (some (18446744073709551615, wrap64 (x5 + 1), 0)) else (some (0, 0, 3)))) else ((bytecode_form.f x6).bind fun bt150 => (if bt150.1 = (bt x0 0) then (some (x6, wrap64 (x5 + 1), 0)) else (some (0, 0, 3)))))) else (none))
def bytecode_Int.f (k : Nat) (a0 : ByteArray) : Option (Int × Int × Int) := if a0.toList = ([] : List UInt8) then (some (0, 0, 4)) else (if 0 < (a0.size : Int) then ((bytecode_size.f k (bt a0 0)).bind fun t145 => (if t145 < 0 then (some (0, 0, 3)) else (if (a0.size : Int) ≤ t145 then (some (0, 0, 4)) else (bytecode_Int.l0 k a0 t145 0 t145 0)))) else (none))
theorem bytecode_Int.mono_l : ∀ k, (∀ y0 y1 y2 y3 y4, LeO (bytecode_Int.l0 k y0 y1 y2 y3 y4) (bytecode_Int.l0 (k + 1) y0 y1 y2 y3 y4))
 | 0 => fun _ _ _ _ _ r h => by simp [bytecode_Int.l0] at h
 | k + 1 => by
  have ih0 := bytecode_Int.mono_l k
  ·intro y0 y1 y2 y3 y4
   unfold bytecode_Int.l0
   repeat' first
   | (with_reducible exact ih0 _ _ _ _ _)
   | (with_reducible exact bytecode_size.mono _ _)
   | (with_reducible exact LeO.refl _)
   | (with_reducible exact LeO.none _)
   | (with_reducible refine LeO.ite ?_ ?_)
   | (with_reducible refine LeO.bind ?_ (fun _ => ?_))
   | exact ih0 _ _ _ _ _
   | exact bytecode_size.mono _ _
   | exact LeO.none _
   | refine LeO.ite ?_ ?_
   | refine LeO.bind ?_ (fun _ => ?_)
theorem bytecode_Int.mono : ∀ a0 k, LeO (bytecode_Int.f k a0) (bytecode_Int.f (k + 1) a0) := by
 intro a0 k
 have ih0 := bytecode_Int.mono_l k
 unfold bytecode_Int.f
 repeat' first
   | (with_reducible exact ih0 _ _ _ _ _)
   | (with_reducible exact bytecode_size.mono _ _)
   | (with_reducible exact LeO.refl _)
   | (with_reducible exact LeO.none _)
   | (with_reducible refine LeO.ite ?_ ?_)
   | (with_reducible refine LeO.bind ?_ (fun _ => ?_))
   | exact ih0 _ _ _ _ _
   | exact bytecode_size.mono _ _
   | exact LeO.none _
   | refine LeO.ite ?_ ?_
   | refine LeO.bind ?_ (fun _ => ?_)
set_option maxHeartbeats 8000000 in
set_option maxRecDepth 100000 in
theorem bytecode_Int.calls (k : Nat) (a0 : ByteArray) (r1 : Int) (r2 : Int) (r3 : Int) (w : World) (h : bytecode_Int.f k a0 = some (r1, r2, r3)) :
  Calls Try.prog 15 #[.string a0] w fun e w' => e = .returned (.tuple #[.int .u64 r1, .int .i64 r2, .int .i64 r3]) ∧ Drawn0 w w' := by
 have H : (if a0.toList = ([] : List UInt8) then (some (0, 0, 4)) else (if 0 < (a0.size : Int) then ((bytecode_size.f k (bt a0 0)).bind fun t145 => (if t145 < 0 then (some (0, 0, 3)) else (if (a0.size : Int) ≤ t145 then (some (0, 0, 4)) else (bytecode_Int.l0 k a0 t145 0 t145 0)))) else (none))) = some (r1, r2, r3) := h
 clear h
 by_cases c2 : a0.toList = ([] : List UInt8)
 ·rw [if_pos c2] at H
  have c2b0 : (a0.toList == ([] : List UInt8)) = true := beq_iff_eq.mpr c2
  have c2b1 : (a0.toList != ([] : List UInt8)) = false := bne_eq_false_iff_eq.mpr c2
  clear c2
  simp only [Option.some.injEq, Prod.mk.injEq] at H
  obtain ⟨rfl, rfl, rfl⟩ := H
  go_enter Try.func15, Try.ntmps15
  go_wp2
  go_ret3
  exact ⟨by first | rfl | (simp; done) | (simp [*]; done), by repeat (first | exact Drawn0.refl _ | apply Drawn0.step)⟩
 ·rw [if_neg c2] at H
  have c2b0 : (a0.toList == ([] : List UInt8)) = false := beq_eq_false_iff_ne.mpr c2
  have c2b1 : (a0.toList != ([] : List UInt8)) = true := bne_iff_ne.mpr c2
  by_cases c3 : 0 < (a0.size : Int)
  ·rw [if_pos c3] at H
   have c3b0 : decide (0 < (a0.size : Int)) = true := decide_eq_true c3
   have c3b1 : decide (0 < a0.size) = true := decide_eq_true (by omega)
   clear c3
   replace H := Option.bind_eq_some_iff.mp H
   obtain ⟨t145, A50, H⟩ := H
   replace H : (if t145 < 0 then (some (0, 0, 3)) else (if (a0.size : Int) ≤ t145 then (some (0, 0, 4)) else (bytecode_Int.l0 k a0 t145 0 t145 0))) = some (r1, r2, r3) := H
   have A5 := Aside0.mk A50
   clear A50
   by_cases c6 : t145 < 0
   ·rw [if_pos c6] at H
    have c6b0 : decide (t145 < 0) = true := decide_eq_true c6
    clear c6
    simp only [Option.some.injEq, Prod.mk.injEq] at H
    obtain ⟨rfl, rfl, rfl⟩ := H
    have p4 : 0 ≤ (0 : Int) := (by omega)
    have q4 : 0 < a0.size := (by have : (0 : Int) < (a0.size : Int) := of_decide_eq_true (by first | (with_reducible assumption) | assumption); omega)
    have hx4 : ∀ h : 0 < a0.size, ((a0[0]'h).toNat : Int) = bt a0 0 := bt_at a0 0
    clear p4
    have qi4 : (0 < (a0.size : Int)) = True := eq_true (of_decide_eq_true (by first | (with_reducible assumption) | assumption))
    replace q4 := eq_true q4
    go_enter Try.func15, Try.ntmps15
    go_wp2_with (first | ((with_reducible refine gate_callee (f := 34) rfl ?_); refine goesL_ (some 14) rfl rfl Try.func34 (by kernel_rfl) rfl #[.int .u8 (bt a0 0)] rfl (by (try simp only [List.map_toArray, List.map_cons, List.map_nil]); first | done | rfl | (simp only [List.length_drop, List.length_take]; rfl)) ?_; (with_reducible refine (bytecode_size.calls k (bt a0 0) t145 _ A5.out).mono ?_); rintro e w' ⟨rfl, ⟨nd, rfl⟩⟩; refine ⟨_, rfl, ?_⟩))
    go_ret3
    exact ⟨by first | rfl | (simp; done) | (simp [*]; done), by repeat (first | exact Drawn0.refl _ | apply Drawn0.step)⟩
   ·rw [if_neg c6] at H
    have c6b0 : decide (t145 < 0) = false := decide_eq_false c6
    clear c6
    by_cases c7 : (a0.size : Int) ≤ t145
    ·rw [if_pos c7] at H
     have c7b0 : decide ((a0.size : Int) ≤ t145) = true := decide_eq_true c7
     clear c7
     simp only [Option.some.injEq, Prod.mk.injEq] at H
     obtain ⟨rfl, rfl, rfl⟩ := H
     have p4 : 0 ≤ (0 : Int) := (by omega)
     have q4 : 0 < a0.size := (by have : (0 : Int) < (a0.size : Int) := of_decide_eq_true (by first | (with_reducible assumption) | assumption); omega)
     have hx4 : ∀ h : 0 < a0.size, ((a0[0]'h).toNat : Int) = bt a0 0 := bt_at a0 0
     clear p4
     have qi4 : (0 < (a0.size : Int)) = True := eq_true (of_decide_eq_true (by first | (with_reducible assumption) | assumption))
     replace q4 := eq_true q4
     go_enter Try.func15, Try.ntmps15
     go_wp2_with (first | ((with_reducible refine gate_callee (f := 34) rfl ?_); refine goesL_ (some 14) rfl rfl Try.func34 (by kernel_rfl) rfl #[.int .u8 (bt a0 0)] rfl (by (try simp only [List.map_toArray, List.map_cons, List.map_nil]); first | done | rfl | (simp only [List.length_drop, List.length_take]; rfl)) ?_; (with_reducible refine (bytecode_size.calls k (bt a0 0) t145 _ A5.out).mono ?_); rintro e w' ⟨rfl, ⟨nd, rfl⟩⟩; refine ⟨_, rfl, ?_⟩))
     go_ret3
     exact ⟨by first | rfl | (simp; done) | (simp [*]; done), by repeat (first | exact Drawn0.refl _ | apply Drawn0.step)⟩
    ·rw [if_neg c7] at H
     have c7b0 : decide ((a0.size : Int) ≤ t145) = false := decide_eq_false c7
     clear c7
     have H' := Aside0.mk H
     clear H
     have p4 : 0 ≤ (0 : Int) := (by omega)
     have q4 : 0 < a0.size := (by have : (0 : Int) < (a0.size : Int) := of_decide_eq_true (by first | (with_reducible assumption) | assumption); omega)
     have hx4 : ∀ h : 0 < a0.size, ((a0[0]'h).toNat : Int) = bt a0 0 := bt_at a0 0
     clear p4
     have qi4 : (0 < (a0.size : Int)) = True := eq_true (of_decide_eq_true (by first | (with_reducible assumption) | assumption))
     replace q4 := eq_true q4
     go_enter Try.func15, Try.ntmps15
     go_wp2_with (first | ((with_reducible refine gate_callee (f := 34) rfl ?_); refine goesL_ (some 14) rfl rfl Try.func34 (by kernel_rfl) rfl #[.int .u8 (bt a0 0)] rfl (by (try simp only [List.map_toArray, List.map_cons, List.map_nil]); first | done | rfl | (simp only [List.length_drop, List.length_take]; rfl)) ?_; (with_reducible refine (bytecode_size.calls k (bt a0 0) t145 _ A5.out).mono ?_); rintro e w' ⟨rfl, ⟨nd, rfl⟩⟩; refine ⟨_, rfl, ?_⟩))
     go_loopg [6, 24] k (fun kq v6 v24 w' => ∃ (x6_1 : Int) (x24_1 : Int), v6 = .int .u64 x6_1 ∧ v24 = .int .i64 x24_1 ∧ Aside0 (bytecode_Int.l0 kq a0 t145 x6_1 t145 x24_1 = some (r1, r2, r3)) ∧ Aside0 (kq ≤ k) ∧ Drawn0 w w')
     case atStart => exact ⟨(0), (0), (by first | rfl | (simp; done) | (simp [*]; done)), (by first | rfl | (simp; done) | (simp [*]; done)), H', ⟨Nat.le_refl _⟩, by repeat (first | exact Drawn0.refl _ | apply Drawn0.step)⟩
     case round =>
      clear H'
      try clear c1
      try clear c2
      try clear c2b0
      try clear c2b1
      try clear p2
      try clear c3
      try clear c3b0
      try clear c3b1
      try clear p4
      try clear q4
      try clear hx4
      try clear qi4
      try clear c6
      try clear c6b0
      try clear c7
      try clear c7b0
      try clear p4
      try clear q4
      obtain ⟨x6_1, x24_1, rfl, rfl, HA, HK1, ⟨m1, rfl⟩⟩ := hrel
      cases gk with
      | zero => exact absurd HA.out (by simp [bytecode_Int.l0])
      | succ k1 =>
       have H := HA.out
       clear HA
       simp only [bytecode_Int.l0] at H
       by_cases c8 : x24_1 < t145
       ·rw [if_pos c8] at H
        have c8b0 : decide (x24_1 < t145) = true := decide_eq_true c8
        clear c8
        obtain ⟨ji9, hji9⟩ : ∃ j_ : Int, (wrap64 (1 + x24_1)) = j_ := ⟨_, rfl⟩
        replace H : (if 0 ≤ (ji9) then (if (ji9) < (a0.size : Int) then (if 0 ≤ (wrap64 (8 * x24_1)) then (bytecode_Int.l0 k1 a0 t145 (Go.bits .or .u64 x6_1 (shl .u64 (IntKind.u64.wrap (bt a0 (ji9))) (wrap64 (8 * x24_1)))) t145 (wrap64 (x24_1 + 1))) else (none)) else (none)) else (none)) = some (r1, r2, r3) := by first | (rw [hji9] at H; exact H) | (simp only [hji9] at H ⊢; exact H)
        have hji9w : (IntKind.i64.wrap (1 + x24_1)) = ji9 := (i64_w _).trans hji9
        by_cases c10 : 0 ≤ (ji9)
        ·rw [if_pos c10] at H
         have c10b0 : decide (0 ≤ (ji9)) = true := decide_eq_true c10
         clear c10
         by_cases c11 : (ji9) < (a0.size : Int)
         ·rw [if_pos c11] at H
          have c11b0 : decide ((ji9) < (a0.size : Int)) = true := decide_eq_true c11
          clear c11
          obtain ⟨ji13, hji13⟩ : ∃ j_ : Int, (wrap64 (8 * x24_1)) = j_ := ⟨_, rfl⟩
          replace H : (if 0 ≤ (ji13) then (bytecode_Int.l0 k1 a0 t145 (Go.bits .or .u64 x6_1 (shl .u64 (IntKind.u64.wrap (bt a0 (ji9))) (ji13))) t145 (wrap64 (x24_1 + 1))) else (none)) = some (r1, r2, r3) := by first | (rw [hji13] at H; exact H) | (simp only [hji13] at H ⊢; exact H)
          have hji13w : (IntKind.i64.wrap (8 * x24_1)) = ji13 := (i64_w _).trans hji13
          by_cases c14 : 0 ≤ (ji13)
          ·rw [if_pos c14] at H
           have c14b0 := eq_true c14
           have c14b1 : decide (0 ≤ (ji13)) = true := decide_eq_true c14
           clear c14
           obtain ⟨ji15, hji15⟩ : ∃ j_ : Int, (shl .u64 (IntKind.u64.wrap (bt a0 (ji9))) (ji13)) = j_ := ⟨_, rfl⟩
           replace H : (bytecode_Int.l0 k1 a0 t145 (Go.bits .or .u64 x6_1 (ji15)) t145 (wrap64 (x24_1 + 1))) = some (r1, r2, r3) := by first | (rw [hji15] at H; exact H) | (simp only [hji15] at H ⊢; exact H)
           have hji15_ : (IntKind.u64.wrap ((IntKind.u64.wrap (bt a0 (ji9))) * 2 ^ min (ji13).toNat 64)) = ji15 := hji15
           have hji15z : (ji13) ≤ 64 → (IntKind.u64.wrap ((IntKind.u64.wrap (bt a0 (ji9))) * 2 ^ (ji13).toNat)) = ji15 := shl_small hji15
           have H' := Aside0.mk H
           clear H
           have p12 : 0 ≤ ((ji9) : Int) := of_decide_eq_true (by first | (with_reducible assumption) | assumption)
           have q12 : (ji9) < (a0.size : Int) := of_decide_eq_true (by first | (with_reducible assumption) | assumption)
           have hx12 := bt_at a0 (ji9)
           replace p12 := eq_true p12
           replace q12 := eq_true q12
           go_wp2
           go_roundg k1
           case measure => have := HK1.out; omega
           case rel => exact ⟨(Go.bits .or .u64 x6_1 (ji15)), (wrap64 (x24_1 + 1)), (by first | rfl | (simp; done) | (simp only [← hji15] <;> (first | rfl | simp)) | (simp [*]; done)), (by first | rfl | (simp; done) | (simp [*]; done)), H', ⟨by have := HK1.out; omega⟩, by repeat (first | exact Drawn0.refl _ | apply Drawn0.step)⟩
          ·rw [if_neg c14] at H
           exact absurd H (by simp)
         ·rw [if_neg c11] at H
          exact absurd H (by simp)
        ·rw [if_neg c10] at H
         exact absurd H (by simp)
       ·rw [if_neg c8] at H
        have c8b0 : decide (x24_1 < t145) = false := decide_eq_false c8
        clear c8
        by_cases c16 : 0 < (a0.size : Int)
        ·rw [if_pos c16] at H
         have c16b0 : decide (0 < (a0.size : Int)) = true := decide_eq_true c16
         have c16b1 : decide (0 < a0.size) = true := decide_eq_true (by omega)
         clear c16
         by_cases c18 : (bt a0 0) = 1
         ·rw [if_pos c18] at H
          have c18b0 : ((bt a0 0) == 1) = true := beq_iff_eq.mpr c18
          have c18b1 : ((bt a0 0) != 1) = false := bne_eq_false_iff_eq.mpr c18
          clear c18
          replace H := Option.bind_eq_some_iff.mp H
          obtain ⟨⟨t146, t147⟩, A190, H⟩ := H
          replace H : (if t146 = (bt a0 0) then (some (1, wrap64 (t145 + 1), 0)) else (some (0, 0, 3))) = some (r1, r2, r3) := H
          have A19 := Aside0.mk A190
          clear A190
          by_cases c21 : t146 = (bt a0 0)
          ·rw [if_pos c21] at H
           have c21b0 : (t146 == (bt a0 0)) = true := beq_iff_eq.mpr c21
           have c21b1 : (t146 != (bt a0 0)) = false := bne_eq_false_iff_eq.mpr c21
           clear c21
           simp only [Option.some.injEq, Prod.mk.injEq] at H
           obtain ⟨rfl, rfl, rfl⟩ := H
           have p17 : 0 ≤ (0 : Int) := (by omega)
           have q17 : 0 < a0.size := (by have : (0 : Int) < (a0.size : Int) := of_decide_eq_true (by first | (with_reducible assumption) | assumption); omega)
           have hx17 : ∀ h : 0 < a0.size, ((a0[0]'h).toNat : Int) = bt a0 0 := bt_at a0 0
           clear p17
           have qi17 : (0 < (a0.size : Int)) = True := eq_true (of_decide_eq_true (by first | (with_reducible assumption) | assumption))
           replace q17 := eq_true q17
           go_wp2_with (first | ((with_reducible refine gate_callee (f := 35) rfl ?_); refine goesL_ (some 46) rfl rfl Try.func35 (by kernel_rfl) rfl #[.int .u64 1] rfl (by (try simp only [List.map_toArray, List.map_cons, List.map_nil]); first | done | rfl | (simp only [List.length_drop, List.length_take]; rfl)) ?_; (with_reducible refine (bytecode_form.calls 1 t146 t147 _ A19.out).mono ?_); rintro e w' ⟨rfl, ⟨nd, rfl⟩⟩; refine ⟨_, rfl, ?_⟩; have p20 : 0 ≤ (0 : Int) := (by omega); have q20 : 0 < a0.size := (by have : (0 : Int) < (a0.size : Int) := of_decide_eq_true (by first | (with_reducible assumption) | assumption); omega); have hx20 : ∀ h : 0 < a0.size, ((a0[0]'h).toNat : Int) = bt a0 0 := bt_at a0 0; clear p20; have qi20 : (0 < (a0.size : Int)) = True := eq_true (of_decide_eq_true (by first | (with_reducible assumption) | assumption)); replace q20 := eq_true q20))
           go_ret3
           exact ⟨by first | rfl | (simp; done) | (simp [*]; done), by repeat (first | exact Drawn0.refl _ | apply Drawn0.step)⟩
          ·rw [if_neg c21] at H
           have c21b0 : (t146 == (bt a0 0)) = false := beq_eq_false_iff_ne.mpr c21
           have c21b1 : (t146 != (bt a0 0)) = true := bne_iff_ne.mpr c21
           simp only [Option.some.injEq, Prod.mk.injEq] at H
           obtain ⟨rfl, rfl, rfl⟩ := H
           have p17 : 0 ≤ (0 : Int) := (by omega)
           have q17 : 0 < a0.size := (by have : (0 : Int) < (a0.size : Int) := of_decide_eq_true (by first | (with_reducible assumption) | assumption); omega)
           have hx17 : ∀ h : 0 < a0.size, ((a0[0]'h).toNat : Int) = bt a0 0 := bt_at a0 0
           clear p17
           have qi17 : (0 < (a0.size : Int)) = True := eq_true (of_decide_eq_true (by first | (with_reducible assumption) | assumption))
           replace q17 := eq_true q17
           go_wp2_with (first | ((with_reducible refine gate_callee (f := 35) rfl ?_); refine goesL_ (some 46) rfl rfl Try.func35 (by kernel_rfl) rfl #[.int .u64 1] rfl (by (try simp only [List.map_toArray, List.map_cons, List.map_nil]); first | done | rfl | (simp only [List.length_drop, List.length_take]; rfl)) ?_; (with_reducible refine (bytecode_form.calls 1 t146 t147 _ A19.out).mono ?_); rintro e w' ⟨rfl, ⟨nd, rfl⟩⟩; refine ⟨_, rfl, ?_⟩; have p20 : 0 ≤ (0 : Int) := (by omega); have q20 : 0 < a0.size := (by have : (0 : Int) < (a0.size : Int) := of_decide_eq_true (by first | (with_reducible assumption) | assumption); omega); have hx20 : ∀ h : 0 < a0.size, ((a0[0]'h).toNat : Int) = bt a0 0 := bt_at a0 0; clear p20; have qi20 : (0 < (a0.size : Int)) = True := eq_true (of_decide_eq_true (by first | (with_reducible assumption) | assumption)); replace q20 := eq_true q20))
           go_ret3
           exact ⟨by first | rfl | (simp; done) | (simp [*]; done), by repeat (first | exact Drawn0.refl _ | apply Drawn0.step)⟩
         ·rw [if_neg c18] at H
          have c18b0 : ((bt a0 0) == 1) = false := beq_eq_false_iff_ne.mpr c18
          have c18b1 : ((bt a0 0) != 1) = true := bne_iff_ne.mpr c18
          by_cases c22 : (bt a0 0) = 255
          ·rw [if_pos c22] at H
           have c22b0 : ((bt a0 0) == 255) = true := beq_iff_eq.mpr c22
           have c22b1 : ((bt a0 0) != 255) = false := bne_eq_false_iff_eq.mpr c22
           clear c22
           replace H := Option.bind_eq_some_iff.mp H
           obtain ⟨⟨t148, t149⟩, A230, H⟩ := H
           replace H : (if t148 = (bt a0 0) then (some (18446744073709551615, wrap64 (t145 + 1), 0)) else (some (0, 0, 3))) = some (r1, r2, r3) := H
           have A23 := Aside0.mk A230
           clear A230
           by_cases c25 : t148 = (bt a0 0)
           ·rw [if_pos c25] at H
            have c25b0 : (t148 == (bt a0 0)) = true := beq_iff_eq.mpr c25
            have c25b1 : (t148 != (bt a0 0)) = false := bne_eq_false_iff_eq.mpr c25
            clear c25
            simp only [Option.some.injEq, Prod.mk.injEq] at H
            obtain ⟨rfl, rfl, rfl⟩ := H
            have p17 : 0 ≤ (0 : Int) := (by omega)
            have q17 : 0 < a0.size := (by have : (0 : Int) < (a0.size : Int) := of_decide_eq_true (by first | (with_reducible assumption) | assumption); omega)
            have hx17 : ∀ h : 0 < a0.size, ((a0[0]'h).toNat : Int) = bt a0 0 := bt_at a0 0
            clear p17
            have qi17 : (0 < (a0.size : Int)) = True := eq_true (of_decide_eq_true (by first | (with_reducible assumption) | assumption))
            replace q17 := eq_true q17
            go_wp2_with (first | ((with_reducible refine gate_callee (f := 35) rfl ?_); refine goesL_ (some 46) rfl rfl Try.func35 (by kernel_rfl) rfl #[.int .u64 18446744073709551615] rfl (by (try simp only [List.map_toArray, List.map_cons, List.map_nil]); first | done | rfl | (simp only [List.length_drop, List.length_take]; rfl)) ?_; (with_reducible refine (bytecode_form.calls 18446744073709551615 t148 t149 _ A23.out).mono ?_); rintro e w' ⟨rfl, ⟨nd, rfl⟩⟩; refine ⟨_, rfl, ?_⟩; have p24 : 0 ≤ (0 : Int) := (by omega); have q24 : 0 < a0.size := (by have : (0 : Int) < (a0.size : Int) := of_decide_eq_true (by first | (with_reducible assumption) | assumption); omega); have hx24 : ∀ h : 0 < a0.size, ((a0[0]'h).toNat : Int) = bt a0 0 := bt_at a0 0; clear p24; have qi24 : (0 < (a0.size : Int)) = True := eq_true (of_decide_eq_true (by first | (with_reducible assumption) | assumption)); replace q24 := eq_true q24))
            go_ret3
            exact ⟨by first | rfl | (simp; done) | (simp [*]; done), by repeat (first | exact Drawn0.refl _ | apply Drawn0.step)⟩
           ·rw [if_neg c25] at H
            have c25b0 : (t148 == (bt a0 0)) = false := beq_eq_false_iff_ne.mpr c25
            have c25b1 : (t148 != (bt a0 0)) = true := bne_iff_ne.mpr c25
            simp only [Option.some.injEq, Prod.mk.injEq] at H
            obtain ⟨rfl, rfl, rfl⟩ := H
            have p17 : 0 ≤ (0 : Int) := (by omega)
            have q17 : 0 < a0.size := (by have : (0 : Int) < (a0.size : Int) := of_decide_eq_true (by first | (with_reducible assumption) | assumption); omega)
            have hx17 : ∀ h : 0 < a0.size, ((a0[0]'h).toNat : Int) = bt a0 0 := bt_at a0 0
            clear p17
            have qi17 : (0 < (a0.size : Int)) = True := eq_true (of_decide_eq_true (by first | (with_reducible assumption) | assumption))
            replace q17 := eq_true q17
            go_wp2_with (first | ((with_reducible refine gate_callee (f := 35) rfl ?_); refine goesL_ (some 46) rfl rfl Try.func35 (by kernel_rfl) rfl #[.int .u64 18446744073709551615] rfl (by (try simp only [List.map_toArray, List.map_cons, List.map_nil]); first | done | rfl | (simp only [List.length_drop, List.length_take]; rfl)) ?_; (with_reducible refine (bytecode_form.calls 18446744073709551615 t148 t149 _ A23.out).mono ?_); rintro e w' ⟨rfl, ⟨nd, rfl⟩⟩; refine ⟨_, rfl, ?_⟩; have p24 : 0 ≤ (0 : Int) := (by omega); have q24 : 0 < a0.size := (by have : (0 : Int) < (a0.size : Int) := of_decide_eq_true (by first | (with_reducible assumption) | assumption); omega); have hx24 : ∀ h : 0 < a0.size, ((a0[0]'h).toNat : Int) = bt a0 0 := bt_at a0 0; clear p24; have qi24 : (0 < (a0.size : Int)) = True := eq_true (of_decide_eq_true (by first | (with_reducible assumption) | assumption)); replace q24 := eq_true q24))
            go_ret3
            exact ⟨by first | rfl | (simp; done) | (simp [*]; done), by repeat (first | exact Drawn0.refl _ | apply Drawn0.step)⟩
          ·rw [if_neg c22] at H
           have c22b0 : ((bt a0 0) == 255) = false := beq_eq_false_iff_ne.mpr c22
           have c22b1 : ((bt a0 0) != 255) = true := bne_iff_ne.mpr c22
           replace H := Option.bind_eq_some_iff.mp H
           obtain ⟨⟨t150, t151⟩, A260, H⟩ := H
           replace H : (if t150 = (bt a0 0) then (some (x6_1, wrap64 (t145 + 1), 0)) else (some (0, 0, 3))) = some (r1, r2, r3) := H
           have A26 := Aside0.mk A260
           clear A260
           by_cases c28 : t150 = (bt a0 0)
           ·rw [if_pos c28] at H
            have c28b0 : (t150 == (bt a0 0)) = true := beq_iff_eq.mpr c28
            have c28b1 : (t150 != (bt a0 0)) = false := bne_eq_false_iff_eq.mpr c28
            clear c28
            simp only [Option.some.injEq, Prod.mk.injEq] at H
            obtain ⟨rfl, rfl, rfl⟩ := H
            have p17 : 0 ≤ (0 : Int) := (by omega)
            have q17 : 0 < a0.size := (by have : (0 : Int) < (a0.size : Int) := of_decide_eq_true (by first | (with_reducible assumption) | assumption); omega)
            have hx17 : ∀ h : 0 < a0.size, ((a0[0]'h).toNat : Int) = bt a0 0 := bt_at a0 0
            clear p17
            have qi17 : (0 < (a0.size : Int)) = True := eq_true (of_decide_eq_true (by first | (with_reducible assumption) | assumption))
            replace q17 := eq_true q17
            go_wp2_with (first | ((with_reducible refine gate_callee (f := 35) rfl ?_); refine goesL_ (some 46) rfl rfl Try.func35 (by kernel_rfl) rfl #[.int .u64 x6_1] rfl (by (try simp only [List.map_toArray, List.map_cons, List.map_nil]); first | done | rfl | (simp only [List.length_drop, List.length_take]; rfl)) ?_; (with_reducible refine (bytecode_form.calls x6_1 t150 t151 _ A26.out).mono ?_); rintro e w' ⟨rfl, ⟨nd, rfl⟩⟩; refine ⟨_, rfl, ?_⟩; have p27 : 0 ≤ (0 : Int) := (by omega); have q27 : 0 < a0.size := (by have : (0 : Int) < (a0.size : Int) := of_decide_eq_true (by first | (with_reducible assumption) | assumption); omega); have hx27 : ∀ h : 0 < a0.size, ((a0[0]'h).toNat : Int) = bt a0 0 := bt_at a0 0; clear p27; have qi27 : (0 < (a0.size : Int)) = True := eq_true (of_decide_eq_true (by first | (with_reducible assumption) | assumption)); replace q27 := eq_true q27))
            go_ret3
            exact ⟨by first | rfl | (simp; done) | (simp [*]; done), by repeat (first | exact Drawn0.refl _ | apply Drawn0.step)⟩
           ·rw [if_neg c28] at H
            have c28b0 : (t150 == (bt a0 0)) = false := beq_eq_false_iff_ne.mpr c28
            have c28b1 : (t150 != (bt a0 0)) = true := bne_iff_ne.mpr c28
            simp only [Option.some.injEq, Prod.mk.injEq] at H
            obtain ⟨rfl, rfl, rfl⟩ := H
            have p17 : 0 ≤ (0 : Int) := (by omega)
            have q17 : 0 < a0.size := (by have : (0 : Int) < (a0.size : Int) := of_decide_eq_true (by first | (with_reducible assumption) | assumption); omega)
            have hx17 : ∀ h : 0 < a0.size, ((a0[0]'h).toNat : Int) = bt a0 0 := bt_at a0 0
            clear p17
            have qi17 : (0 < (a0.size : Int)) = True := eq_true (of_decide_eq_true (by first | (with_reducible assumption) | assumption))
            replace q17 := eq_true q17
            go_wp2_with (first | ((with_reducible refine gate_callee (f := 35) rfl ?_); refine goesL_ (some 46) rfl rfl Try.func35 (by kernel_rfl) rfl #[.int .u64 x6_1] rfl (by (try simp only [List.map_toArray, List.map_cons, List.map_nil]); first | done | rfl | (simp only [List.length_drop, List.length_take]; rfl)) ?_; (with_reducible refine (bytecode_form.calls x6_1 t150 t151 _ A26.out).mono ?_); rintro e w' ⟨rfl, ⟨nd, rfl⟩⟩; refine ⟨_, rfl, ?_⟩; have p27 : 0 ≤ (0 : Int) := (by omega); have q27 : 0 < a0.size := (by have : (0 : Int) < (a0.size : Int) := of_decide_eq_true (by first | (with_reducible assumption) | assumption); omega); have hx27 : ∀ h : 0 < a0.size, ((a0[0]'h).toNat : Int) = bt a0 0 := bt_at a0 0; clear p27; have qi27 : (0 < (a0.size : Int)) = True := eq_true (of_decide_eq_true (by first | (with_reducible assumption) | assumption)); replace q27 := eq_true q27))
            go_ret3
            exact ⟨by first | rfl | (simp; done) | (simp [*]; done), by repeat (first | exact Drawn0.refl _ | apply Drawn0.step)⟩
        ·rw [if_neg c16] at H
         exact absurd H (by simp)
  ·rw [if_neg c3] at H
   exact absurd H (by simp)

/-! ### bytecode_AppendInt: function 16 -/
def bytecode_AppendInt.l0 : Nat → ByteArray → Int → List Int → Int → Int → Option (ByteArray)
 | 0, _, _, _, _, _ => none
 | k + 1, x0, x1, x7, x16, x17 => if x17 < x16 then (if 0 ≤ (wrap64 (8 * x17)) then (if x7.length < 140737488355328 then (bytecode_AppendInt.l0 k x0 x1 (x7 ++ [(shr .u64 x1 (wrap64 (8 * x17))) % 256]) x16 (wrap64 (x17 + 1))) else (none)) else (none)) else (if x0.size + (strOfNums x7).size ≤ 9223372036854775807 then (some (x0 ++ (strOfNums x7))) else (none))
def bytecode_AppendInt.f (k : Nat) (a0 : ByteArray) (a1 : Int) : Option (ByteArray) := (bytecode_form.f a1).bind fun bt152 => (bytecode_AppendInt.l0 k a0 a1 (([bt152.1] : List Int)) bt152.2 0)
theorem bytecode_AppendInt.mono_l : ∀ k, (∀ y0 y1 y2 y3 y4, LeO (bytecode_AppendInt.l0 k y0 y1 y2 y3 y4) (bytecode_AppendInt.l0 (k + 1) y0 y1 y2 y3 y4))
 | 0 => fun _ _ _ _ _ r h => by simp [bytecode_AppendInt.l0] at h
 | k + 1 => by
  have ih0 := bytecode_AppendInt.mono_l k
  ·intro y0 y1 y2 y3 y4
   unfold bytecode_AppendInt.l0
   repeat' first
   | (with_reducible exact ih0 _ _ _ _ _)
   | (with_reducible exact LeO.refl _)
   | (with_reducible exact LeO.none _)
   | (with_reducible refine LeO.ite ?_ ?_)
   | (with_reducible refine LeO.bind ?_ (fun _ => ?_))
   | exact ih0 _ _ _ _ _
   | exact LeO.none _
   | refine LeO.ite ?_ ?_
   | refine LeO.bind ?_ (fun _ => ?_)
theorem bytecode_AppendInt.mono : ∀ a0 a1 k, LeO (bytecode_AppendInt.f k a0 a1) (bytecode_AppendInt.f (k + 1) a0 a1) := by
 intro a0 a1 k
 have ih0 := bytecode_AppendInt.mono_l k
 unfold bytecode_AppendInt.f
 repeat' first
   | (with_reducible exact ih0 _ _ _ _ _)
   | (with_reducible exact LeO.refl _)
   | (with_reducible exact LeO.none _)
   | (with_reducible refine LeO.ite ?_ ?_)
   | (with_reducible refine LeO.bind ?_ (fun _ => ?_))
   | exact ih0 _ _ _ _ _
   | exact LeO.none _
   | refine LeO.ite ?_ ?_
   | refine LeO.bind ?_ (fun _ => ?_)
set_option maxHeartbeats 8000000 in
set_option maxRecDepth 100000 in
theorem bytecode_AppendInt.calls (k : Nat) (a0 : ByteArray) (a1 : Int) (r : ByteArray) (w : World) (h : bytecode_AppendInt.f k a0 a1 = some r) :
  Calls Try.prog 16 #[.string a0, .int .u64 a1] w fun e w' => e = .returned (.string r) ∧ Below w.heap.size w w' := by
 have HB := Aside0.mk (Below.refl w.heap.size w)
 have H : ((bytecode_form.f a1).bind fun bt152 => (bytecode_AppendInt.l0 k a0 a1 (([bt152.1] : List Int)) bt152.2 0)) = some r := h
 clear h
 replace H := Option.bind_eq_some_iff.mp H
 obtain ⟨⟨t152, t153⟩, A30, H⟩ := H
 replace H : (bytecode_AppendInt.l0 k a0 a1 (([t152] : List Int)) t153 0) = some r := H
 have A3 := Aside0.mk A30
 clear A30
 obtain ⟨y154, hy154⟩ : ∃ y_ : List Int, y_ = (([t152] : List Int)) := ⟨_, rfl⟩
 replace H : (bytecode_AppendInt.l0 k a0 a1 y154 t153 0) = some r := by first | (rw [hy154]; with_reducible exact H) | (have H2_ := (Option.bind_some _ _).symm.trans H; rw [hy154]; with_reducible exact H2_) | (have H2_ := (Option.bind_some _ _).symm.trans H; with_reducible exact H2_) | with_reducible exact H | (rw [hy154]; exact H) | exact H
 have Ny154 := Aside0.mk hy154
 clear hy154
 have H' := Aside0.mk H
 clear H
 go_enter Try.func16, Try.ntmps16
 go_wp2_with (first | ((with_reducible refine gate_callee (f := 35) rfl ?_); refine goesL_ (some 11) rfl rfl Try.func35 (by kernel_rfl) rfl #[.int .u64 a1] rfl (by (try simp only [List.map_toArray, List.map_cons, List.map_nil]); first | done | rfl | (simp only [List.length_drop, List.length_take]; rfl)) ?_; (with_reducible refine (bytecode_form.calls a1 t152 t153 _ A3.out).mono ?_); rintro e w' ⟨rfl, ⟨nd, rfl⟩⟩; refine ⟨_, rfl, ?_⟩) | ((with_reducible refine gate_dst (N := 15) rfl ?_); refine Kd.R_lit (Kd.int .u8) _ 5 ?hg (N := 15) ?hd (xs := ([t152] : List Int)) (inner := [.int .u8 t152]) (ok := fun _ => True) (okp := fun _ => True) ?hr ?hp (fun _ hk => hk) trivial (Below.refl _ _) (Nat.le_refl _) (by simp) ?_; (case hd => rfl); (case hg => rfl); (case hr => first | (go_simp; done) | (go_simp; rfl)); (case hp => exact (Reps.one (show Kd.M (Kd.int .u8) _ _ _ t152 [.int .u8 t152] from rfl) (Reps.none _ _))); intro v155 w4 ho5 hb hg_ hnew_; clear hg_ hnew_; (first | rw [← Ny154.out] at ho5 | (simp only [Int.reduceToNat] at ho5; rw [← Ny154.out] at ho5)); have n0_ := Aside0.mk (Kd.R_lower ho5 (below_size (by repeat (first | (with_reducible first | exact HB.out | apply bA_ | apply bN_ | apply bD_) | exact HB.out)))); have n1_ := Aside0.mk (below_step (by repeat (first | (with_reducible first | exact HB.out | apply bA_ | apply bN_ | apply bD_) | exact HB.out)) hb); clear HB; have HO156 := n0_; have HB := n1_; clear n0_ n1_; clear hb ho5))
 go_loopg [7, 17] k (fun kq v7 v17 w' => ∃ (x7_1 : List Int) (x17_1 : Int), v17 = .int .i64 x17_1 ∧ Aside0 (bytecode_AppendInt.l0 kq a0 a1 x7_1 t153 x17_1 = some r) ∧ Aside0 (kq ≤ k) ∧ Aside0 (Kd.R (Kd.int .u8) 5 w' w.heap.size (fun _ => True) v7 x7_1) ∧ Aside0 (Below w.heap.size w w'))
 case atStart => exact ⟨(y154), (0), (by first | rfl | (simp; done) | (simp [*]; done)), H', ⟨Nat.le_refl _⟩, ⟨by (with_reducible repeat (first | apply Kd.R_alloc | apply Kd.R_drewN | apply Kd.R_drew)); exact HO156.out⟩, ⟨by repeat (first | (with_reducible first | exact HB.out | apply bA_ | apply bN_ | apply bD_) | exact HB.out)⟩⟩
 case round =>
  clear H'
  try clear c1
  try clear p2
  try clear c3
  obtain ⟨x7_1, x17_1, rfl, HA, HK1, HO_7, HB⟩ := hrel
  cases gk with
  | zero => exact absurd HA.out (by simp [bytecode_AppendInt.l0])
  | succ k1 =>
   have H := HA.out
   clear HA
   simp only [bytecode_AppendInt.l0] at H
   by_cases c6 : x17_1 < t153
   ·rw [if_pos c6] at H
    have c6b0 : decide (x17_1 < t153) = true := decide_eq_true c6
    clear c6
    obtain ⟨ji7, hji7⟩ : ∃ j_ : Int, (wrap64 (8 * x17_1)) = j_ := ⟨_, rfl⟩
    replace H : (if 0 ≤ (ji7) then (if x7_1.length < 140737488355328 then (bytecode_AppendInt.l0 k1 a0 a1 (x7_1 ++ [(shr .u64 a1 (ji7)) % 256]) t153 (wrap64 (x17_1 + 1))) else (none)) else (none)) = some r := by first | (rw [hji7] at H; exact H) | (simp only [hji7] at H ⊢; exact H)
    have hji7w : (IntKind.i64.wrap (8 * x17_1)) = ji7 := (i64_w _).trans hji7
    by_cases c8 : 0 ≤ (ji7)
    ·rw [if_pos c8] at H
     have c8b0 := eq_true c8
     have c8b1 : decide (0 ≤ (ji7)) = true := decide_eq_true c8
     clear c8
     obtain ⟨ji9, hji9⟩ : ∃ j_ : Int, (shr .u64 a1 (ji7)) = j_ := ⟨_, rfl⟩
     replace H : (if x7_1.length < 140737488355328 then (bytecode_AppendInt.l0 k1 a0 a1 (x7_1 ++ [(ji9) % 256]) t153 (wrap64 (x17_1 + 1))) else (none)) = some r := by first | (rw [hji9] at H; exact H) | (simp only [hji9] at H ⊢; exact H)
     have hji9_ : (a1 / 2 ^ min (ji7).toNat 64) = ji9 := hji9
     have hji9z : (ji7) ≤ 64 → (a1 / 2 ^ (ji7).toNat) = ji9 := shr_small hji9
     by_cases c10 : x7_1.length < 140737488355328
     ·rw [if_pos c10] at H
      have LMc10 := Aside0.mk c10
      clear c10
      obtain ⟨y157, hy157⟩ : ∃ y_ : List Int, y_ = (x7_1 ++ [(ji9) % 256]) := ⟨_, rfl⟩
      replace H : (bytecode_AppendInt.l0 k1 a0 a1 y157 t153 (wrap64 (x17_1 + 1))) = some r := by first | (rw [hy157]; with_reducible exact H) | (have H2_ := (Option.bind_some _ _).symm.trans H; rw [hy157]; with_reducible exact H2_) | (have H2_ := (Option.bind_some _ _).symm.trans H; with_reducible exact H2_) | with_reducible exact H | (rw [hy157]; exact H) | exact H
      have Ny157 := Aside0.mk hy157
      clear hy157
      have H' := Aside0.mk H
      clear H
      go_wp2_with (first | ((with_reducible refine gate_builtin (b := .append) (xs := #[.tmp 20, .tmp 26]) rfl ?_); at_builtin; refine Kd.R_append (Kd.int .u8) (w0 := w) w.heap.size rfl (.tmp 20) (.tmp 26) 37 5 (.int .u8 0) 1 rfl Try.underlying37 info5 rfl (by decide) (by omega) u7 x7_1 ((ji9) % 256) [.int .u8 ((ji9) % 256)] (fun _ => True) (fun _ => False) rfl rfl ?aP (fun _ hk => hk.elim) ?aF ?aO ?aB ?aS ?aL ?_; (case aP => exact rfl); (case aB => exact (by repeat (first | (with_reducible first | exact HB.out | apply bA_ | apply bN_ | apply bD_) | exact HB.out))); (case aF => exact (fun _ _ => trivial)); (case aO => exact (by (with_reducible repeat (first | apply Kd.R_alloc | apply Kd.R_drewN | apply Kd.R_drew)); exact HO_7.out)); (case aS => exact (below_size (by repeat (first | (with_reducible first | exact HB.out | apply bA_ | apply bN_ | apply bD_) | exact HB.out)))); (case aL => have := LMc10.out; omega); intro v158 w11 ho hb hg hat; rw [← Ny157.out] at ho; have n0_ := Aside0.mk (hb); have n1_ := Aside0.mk (ho); clear HB; clear HO_7; have HB := n0_; have HO159 := n1_; clear n0_ n1_; clear ho hb hg hat))
      go_roundg k1
      case measure => have := HK1.out; omega
      case rel => exact ⟨(y157), (wrap64 (x17_1 + 1)), (by first | rfl | (simp; done) | (simp [*]; done)), H', ⟨by have := HK1.out; omega⟩, ⟨by (with_reducible repeat (first | apply Kd.R_alloc | apply Kd.R_drewN | apply Kd.R_drew)); exact HO159.out⟩, ⟨by repeat (first | (with_reducible first | exact HB.out | apply bA_ | apply bN_ | apply bD_) | exact HB.out)⟩⟩
     ·rw [if_neg c10] at H
      exact absurd H (by simp)
    ·rw [if_neg c8] at H
     exact absurd H (by simp)
   ·rw [if_neg c6] at H
    have c6b0 : decide (x17_1 < t153) = false := decide_eq_false c6
    clear c6
    by_cases c12 : a0.size + (strOfNums x7_1).size ≤ 9223372036854775807
    ·rw [if_pos c12] at H
     have c12b0 := eq_true c12
     have c12b1 : decide (a0.size + (strOfNums x7_1).size ≤ 9223372036854775807) = true := decide_eq_true c12
     try have c12b2 : (9223372036854775807 < a0.size + (strOfNums x7_1).size) = False := eq_false (Nat.not_lt.2 c12)
     clear c12
     obtain rfl := Option.some.inj H
     have hcv13 := own_string (P := Try.prog) Try.underlying37 Try.underlying5 Try.underlying9 (Kd.own_of_R HO_7.out)
     go_wp2
     go_ret
     exact ⟨by first | rfl | (simp [errW_none, errW_some] <;> rfl) | (simp [*, errW_none, errW_some] <;> rfl), by repeat (first | (with_reducible first | exact HB.out | apply bA_ | apply bN_ | apply bD_) | exact HB.out)⟩
    ·rw [if_neg c12] at H
     exact absurd H (by simp)

/-! ### bytecode_limit: function 44 -/
def bytecode_limit.f (a0 : Int) : Option (Int) := if a0 = 1 then (some 64) else (if 0 ≤ (wrap64 (4 + (wrap64 (8 * (wrap64 (a0 - 1)))))) then (some (shl .i64 1 (wrap64 (4 + (wrap64 (8 * (wrap64 (a0 - 1)))))))) else (none))
set_option maxHeartbeats 8000000 in
set_option maxRecDepth 100000 in
theorem bytecode_limit.calls (a0 : Int) (r : Int) (w : World) (h : bytecode_limit.f a0 = some r) :
  Calls Try.prog 44 #[.int .i64 a0] w fun e w' => e = .returned (.int .i64 r) ∧ Drawn0 w w' := by
 have H : (if a0 = 1 then (some 64) else (if 0 ≤ (wrap64 (4 + (wrap64 (8 * (wrap64 (a0 - 1)))))) then (some (shl .i64 1 (wrap64 (4 + (wrap64 (8 * (wrap64 (a0 - 1)))))))) else (none))) = some r := h
 clear h
 by_cases c2 : a0 = 1
 ·rw [if_pos c2] at H
  have c2b0 : (a0 == 1) = true := beq_iff_eq.mpr c2
  have c2b1 : (a0 != 1) = false := bne_eq_false_iff_eq.mpr c2
  clear c2
  obtain rfl := Option.some.inj H
  go_enter Try.func44, Try.ntmps44
  go_wp2
  go_ret
  exact ⟨by first | rfl | (simp; done) | (simp [*]; done), by repeat (first | exact Drawn0.refl _ | apply Drawn0.step)⟩
 ·rw [if_neg c2] at H
  have c2b0 : (a0 == 1) = false := beq_eq_false_iff_ne.mpr c2
  have c2b1 : (a0 != 1) = true := bne_iff_ne.mpr c2
  obtain ⟨ji3, hji3⟩ : ∃ j_ : Int, (wrap64 (4 + (wrap64 (8 * (wrap64 (a0 - 1)))))) = j_ := ⟨_, rfl⟩
  replace H : (if 0 ≤ (ji3) then (some (shl .i64 1 (ji3))) else (none)) = some r := by first | (rw [hji3] at H; exact H) | (simp only [hji3] at H ⊢; exact H)
  have hji3w : (IntKind.i64.wrap (4 + (wrap64 (8 * (wrap64 (a0 - 1)))))) = ji3 := (i64_w _).trans hji3
  by_cases c4 : 0 ≤ (ji3)
  ·rw [if_pos c4] at H
   have c4b0 := eq_true c4
   have c4b1 : decide (0 ≤ (ji3)) = true := decide_eq_true c4
   clear c4
   obtain ⟨ji5, hji5⟩ : ∃ j_ : Int, (shl .i64 1 (ji3)) = j_ := ⟨_, rfl⟩
   replace H : (some ji5) = some r := by first | (rw [hji5] at H; exact H) | (simp only [hji5] at H ⊢; exact H)
   have hji5_ : (IntKind.i64.wrap (1 * 2 ^ min (ji3).toNat 64)) = ji5 := hji5
   have hji5z : (ji3) ≤ 64 → (IntKind.i64.wrap (1 * 2 ^ (ji3).toNat)) = ji5 := shl_small hji5
   have hji5u : (IntKind.i64.wrap (2 ^ min (ji3).toNat 64)) = ji5 := by have h_ := hji5_; rw [Int.one_mul] at h_; exact h_
   have hji5v : (ji3) ≤ 64 → (IntKind.i64.wrap (2 ^ (ji3).toNat)) = ji5 := fun hle_ => by have h_ := hji5z hle_; rw [Int.one_mul] at h_; exact h_
   have hji5y : (wrap64 (1 * 2 ^ min (ji3).toNat 64)) = ji5 := (i64_w _).symm.trans hji5_
   have hji5x : (ji3) ≤ 64 → (wrap64 (1 * 2 ^ (ji3).toNat)) = ji5 := fun h_ => (i64_w _).symm.trans (hji5z h_)
   obtain rfl := Option.some.inj H
   go_enter Try.func44, Try.ntmps44
   go_wp2
   go_ret
   exact ⟨by first | rfl | (simp; done) | (simp only [← hji3, ← hji5] <;> (first | rfl | simp)) | (simp [*]; done), by repeat (first | exact Drawn0.refl _ | apply Drawn0.step)⟩
  ·rw [if_neg c4] at H
   exact absurd H (by simp)

end Go.Proofs.Ytmnmidclaaiffab.PBytecodePaths
