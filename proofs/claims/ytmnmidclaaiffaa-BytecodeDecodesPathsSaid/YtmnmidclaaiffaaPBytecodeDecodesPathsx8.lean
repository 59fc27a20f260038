-- Written by a program of this session's (wip/print_patch.py over the kit's print) out of the translation; Lean checks it.
import Derived.Test.YtmnmidclaaiffaaPBytecodeDecodesPathsx0
import Derived.Test.YtmnmidclaaiffaaExtP
namespace Go.Proofs.Ytmnmidclaaiffaa.PBytecodeDecodesPaths
open Go.RowKit Go.Proofs.Ytmnmidclaaiffaa.Ext Go.Proofs.YtmnmidclaaiffaaW.PrintWords Go.Proofs.YtmnmidclaaiffaaW.PrintLast Go.Proofs.YtmnmidclaaiffaaW.PrintMore
attribute [local go_sem] max2_int min2_int max_two min_two max_three min_three max_four min_four   -- for this text's walks alone
set_option linter.unusedVariables false
set_option linter.unusedSimpArgs false

/-! ### platformfwref01_letter: function 95 -/
def platformfwref01_letter.f (a0 : Int) : Option (Bool) := if a0 ≥ 97 then (if a0 ≤ 122 then (some true) else (if a0 ≥ 65 then (if a0 ≤ 90 then (some true) else (some (a0 == 95))) else (some (a0 == 95)))) else (if a0 ≥ 65 then (if a0 ≤ 90 then (some true) else (some (a0 == 95))) else (some (a0 == 95)))
set_option maxHeartbeats 8000000 in
set_option maxRecDepth 100000 in
theorem platformfwref01_letter.calls (a0 : Int) (r : Bool) (w : World) (h : platformfwref01_letter.f a0 = some r) :
  Calls Try.prog 95 #[.int .u8 a0] w fun e w' => e = .returned (.bool r) ∧ Drawn0 w w' := by
 have H : (if a0 ≥ 97 then (if a0 ≤ 122 then (some true) else (if a0 ≥ 65 then (if a0 ≤ 90 then (some true) else (some (a0 == 95))) else (some (a0 == 95)))) else (if a0 ≥ 65 then (if a0 ≤ 90 then (some true) else (some (a0 == 95))) else (some (a0 == 95)))) = some r := h
 clear h
 by_cases c2 : a0 ≥ 97
 ·rw [if_pos c2] at H
  have c2b0 : decide (97 ≤ a0) = true := decide_eq_true c2
  clear c2
  by_cases c3 : a0 ≤ 122
  ·rw [if_pos c3] at H
   have c3b0 : decide (a0 ≤ 122) = true := decide_eq_true c3
   clear c3
   obtain rfl := Option.some.inj H
   go_enter Try.func95, Try.ntmps95
   go_wp2
   go_ret
   exact ⟨by first | rfl | (simp; done) | (simp [*]; done), by repeat (first | exact Drawn0.refl _ | apply Drawn0.step)⟩
  ·rw [if_neg c3] at H
   have c3b0 : decide (a0 ≤ 122) = false := decide_eq_false c3
   clear c3
   by_cases c4 : a0 ≥ 65
   ·rw [if_pos c4] at H
    have c4b0 : decide (65 ≤ a0) = true := decide_eq_true c4
    clear c4
    by_cases c5 : a0 ≤ 90
    ·rw [if_pos c5] at H
     have c5b0 : decide (a0 ≤ 90) = true := decide_eq_true c5
     clear c5
     obtain rfl := Option.some.inj H
     go_enter Try.func95, Try.ntmps95
     go_wp2
     go_ret
     exact ⟨by first | rfl | (simp; done) | (simp [*]; done), by repeat (first | exact Drawn0.refl _ | apply Drawn0.step)⟩
    ·rw [if_neg c5] at H
     have c5b0 : decide (a0 ≤ 90) = false := decide_eq_false c5
     clear c5
     obtain rfl := Option.some.inj H
     go_enter Try.func95, Try.ntmps95
     go_wp2
     go_ret
     exact ⟨by first | rfl | (simp; done) | (simp [*]; done), by repeat (first | exact Drawn0.refl _ | apply Drawn0.step)⟩
   ·rw [if_neg c4] at H
    have c4b0 : decide (65 ≤ a0) = false := decide_eq_false c4
    clear c4
    obtain rfl := Option.some.inj H
    go_enter Try.func95, Try.ntmps95
    go_wp2
    go_ret
    exact ⟨by first | rfl | (simp; done) | (simp [*]; done), by repeat (first | exact Drawn0.refl _ | apply Drawn0.step)⟩
 ·rw [if_neg c2] at H
  have c2b0 : decide (97 ≤ a0) = false := decide_eq_false c2
  clear c2
  by_cases c6 : a0 ≥ 65
  ·rw [if_pos c6] at H
   have c6b0 : decide (65 ≤ a0) = true := decide_eq_true c6
   clear c6
   by_cases c7 : a0 ≤ 90
   ·rw [if_pos c7] at H
    have c7b0 : decide (a0 ≤ 90) = true := decide_eq_true c7
    clear c7
    obtain rfl := Option.some.inj H
    go_enter Try.func95, Try.ntmps95
    go_wp2
    go_ret
    exact ⟨by first | rfl | (simp; done) | (simp [*]; done), by repeat (first | exact Drawn0.refl _ | apply Drawn0.step)⟩
   ·rw [if_neg c7] at H
    have c7b0 : decide (a0 ≤ 90) = false := decide_eq_false c7
    clear c7
    obtain rfl := Option.some.inj H
    go_enter Try.func95, Try.ntmps95
    go_wp2
    go_ret
    exact ⟨by first | rfl | (simp; done) | (simp [*]; done), by repeat (first | exact Drawn0.refl _ | apply Drawn0.step)⟩
  ·rw [if_neg c6] at H
   have c6b0 : decide (65 ≤ a0) = false := decide_eq_false c6
   clear c6
   obtain rfl := Option.some.inj H
   go_enter Try.func95, Try.ntmps95
   go_wp2
   go_ret
   exact ⟨by first | rfl | (simp; done) | (simp [*]; done), by repeat (first | exact Drawn0.refl _ | apply Drawn0.step)⟩

/-! ### platformfwref01_digit: function 100 -/
def platformfwref01_digit.f (a0 : Int) : Option (Bool) := if a0 ≥ 48 then (some (decide (a0 ≤ 57))) else (some false)
set_option maxHeartbeats 8000000 in
set_option maxRecDepth 100000 in
theorem platformfwref01_digit.calls (a0 : Int) (r : Bool) (w : World) (h : platformfwref01_digit.f a0 = some r) :
  Calls Try.prog 100 #[.int .u8 a0] w fun e w' => e = .returned (.bool r) ∧ Drawn0 w w' := by
 have H : (if a0 ≥ 48 then (some (decide (a0 ≤ 57))) else (some false)) = some r := h
 clear h
 by_cases c2 : a0 ≥ 48
 ·rw [if_pos c2] at H
  have c2b0 : decide (48 ≤ a0) = true := decide_eq_true c2
  clear c2
  obtain rfl := Option.some.inj H
  go_enter Try.func100, Try.ntmps100
  go_wp2
  go_ret
  exact ⟨by first | rfl | (simp; done) | (simp [*]; done), by repeat (first | exact Drawn0.refl _ | apply Drawn0.step)⟩
 ·rw [if_neg c2] at H
  have c2b0 : decide (48 ≤ a0) = false := decide_eq_false c2
  clear c2
  obtain rfl := Option.some.inj H
  go_enter Try.func100, Try.ntmps100
  go_wp2
  go_ret
  exact ⟨by first | rfl | (simp; done) | (simp [*]; done), by repeat (first | exact Drawn0.refl _ | apply Drawn0.step)⟩

/-! ### platformfwref01_identifier: function 96 -/
def platformfwref01_identifier.l0 : Nat → ByteArray → Int → Option (Int)
 | 0, _, _ => none
 | k + 1, x0, x1 => if x1 < (x0.size : Int) then (if 0 ≤ x1 then ((platformfwref01_letter.f (bt x0 x1)).bind fun t176 => (if t176 = true then (platformfwref01_identifier.l0 k x0 (wrap64 (x1 + 1))) else ((platformfwref01_digit.f (bt x0 x1)).bind fun t177 => (if t177 = true then (platformfwref01_identifier.l0 k x0 (wrap64 (x1 + 1))) else (some x1))))) else (none)) else (some x1)
def platformfwref01_identifier.f (k : Nat) (a0 : ByteArray) (a1 : Int) : Option (Int) := platformfwref01_identifier.l0 k a0 a1
theorem platformfwref01_identifier.mono_l : ∀ k, (∀ y0 y1, LeO (platformfwref01_identifier.l0 k y0 y1) (platformfwref01_identifier.l0 (k + 1) y0 y1))
 | 0 => fun _ _ r h => by simp [platformfwref01_identifier.l0] at h
 | k + 1 => by
  have ih0 := platformfwref01_identifier.mono_l k
  ·intro y0 y1
   unfold platformfwref01_identifier.l0
   repeat' first
   | (with_reducible exact ih0 _ _)
   | (with_reducible exact LeO.refl _)
   | (with_reducible exact LeO.none _)
   | (with_reducible refine LeO.ite ?_ ?_)
   | (with_reducible refine LeO.bind ?_ (fun _ => ?_))
   | exact ih0 _ _
   | exact LeO.none _
   | refine LeO.ite ?_ ?_
   | refine LeO.bind ?_ (fun _ => ?_)
theorem platformfwref01_identifier.mono : ∀ a0 a1 k, LeO (platformfwref01_identifier.f k a0 a1) (platformfwref01_identifier.f (k + 1) a0 a1) := by
 intro a0 a1 k
 have ih0 := platformfwref01_identifier.mono_l k
 unfold platformfwref01_identifier.f
 repeat' first
   | (with_reducible exact ih0 _ _)
   | (with_reducible exact LeO.refl _)
   | (with_reducible exact LeO.none _)
   | (with_reducible refine LeO.ite ?_ ?_)
   | (with_reducible refine LeO.bind ?_ (fun _ => ?_))
   | exact ih0 _ _
   | exact LeO.none _
   | refine LeO.ite ?_ ?_
   | refine LeO.bind ?_ (fun _ => ?_)
set_option maxHeartbeats 8000000 in
set_option maxRecDepth 100000 in
theorem platformfwref01_identifier.calls (k : Nat) (a0 : ByteArray) (a1 : Int) (r : Int) (w : World) (h : platformfwref01_identifier.f k a0 a1 = some r) :
  Calls Try.prog 96 #[.string a0, .int .i64 a1] w fun e w' => e = .returned (.int .i64 r) ∧ Drawn0 w w' := by
 have H : (platformfwref01_identifier.l0 k a0 a1) = some r := h
 clear h
 have H' := Aside0.mk H
 clear H
 go_enter Try.func96, Try.ntmps96
 go_wp2
 go_loopg [1] k (fun kq v1 w' => ∃ (x1_1 : Int), v1 = .int .i64 x1_1 ∧ Aside0 (platformfwref01_identifier.l0 kq a0 x1_1 = some r) ∧ Aside0 (kq ≤ k) ∧ Drawn0 w w')
 case atStart => exact ⟨(a1), (by first | rfl | (simp; done) | (simp [*]; done)), H', ⟨Nat.le_refl _⟩, by repeat (first | exact Drawn0.refl _ | apply Drawn0.step)⟩
 case round =>
  clear H'
  try clear p2
  obtain ⟨x1_1, rfl, HA, HK1, ⟨m1, rfl⟩⟩ := hrel
  cases gk with
  | zero => exact absurd HA.out (by simp [platformfwref01_identifier.l0])
  | succ k1 =>
   have H := HA.out
   clear HA
   simp only [platformfwref01_identifier.l0] at H
   by_cases c3 : x1_1 < (a0.size : Int)
   ·rw [if_pos c3] at H
    have c3b0 : decide (x1_1 < (a0.size : Int)) = true := decide_eq_true c3
    clear c3
    by_cases c4 : 0 ≤ x1_1
    ·rw [if_pos c4] at H
     have c4b0 : decide (0 ≤ x1_1) = true := decide_eq_true c4
     clear c4
     replace H := Option.bind_eq_some_iff.mp H
     obtain ⟨t176, A60, H⟩ := H
     replace H : (if t176 = true then (platformfwref01_identifier.l0 k1 a0 (wrap64 (x1_1 + 1))) else ((platformfwref01_digit.f (bt a0 x1_1)).bind fun t177 => (if t177 = true then (platformfwref01_identifier.l0 k1 a0 (wrap64 (x1_1 + 1))) else (some x1_1)))) = some r := H
     have A6 := Aside0.mk A60
     clear A60
     by_cases c7 : t176 = true
     ·subst c7
      have H1 : (platformfwref01_identifier.l0 k1 a0 (wrap64 (x1_1 + 1))) = some r := by rw [if_pos rfl] at H; exact H
      clear H
      have H := H1
      clear H1
      have H' := Aside0.mk H
      clear H
      have p5 : 0 ≤ (x1_1 : Int) := of_decide_eq_true (by first | (with_reducible assumption) | assumption)
      have q5 : x1_1 < (a0.size : Int) := of_decide_eq_true (by first | (with_reducible assumption) | assumption)
      have hx5 := bt_at a0 x1_1
      replace p5 := eq_true p5
      replace q5 := eq_true q5
      go_wp2_with (first | (go_at_call 95; (with_reducible refine (platformfwref01_letter.calls (bt a0 x1_1) true _ A6.out).mono ?_); rintro e w' ⟨rfl, ⟨nd, rfl⟩⟩))
      go_roundg k1
      case measure => have := HK1.out; omega
      case rel => exact ⟨(wrap64 (x1_1 + 1)), (by first | rfl | (simp; done) | (simp [*]; done)), H', ⟨by have := HK1.out; omega⟩, by repeat (first | exact Drawn0.refl _ | apply Drawn0.step)⟩
     ·replace c7 := Bool.eq_false_iff.mpr c7
      subst c7
      have H1 : ((platformfwref01_digit.f (bt a0 x1_1)).bind fun t177 => (if t177 = true then (platformfwref01_identifier.l0 k1 a0 (wrap64 (x1_1 + 1))) else (some x1_1))) = some r := by rw [if_neg (show ¬ (false = true) by decide)] at H; exact H
      clear H
      have H := H1
      clear H1
      replace H := Option.bind_eq_some_iff.mp H
      obtain ⟨t177, A90, H⟩ := H
      replace H : (if t177 = true then (platformfwref01_identifier.l0 k1 a0 (wrap64 (x1_1 + 1))) else (some x1_1)) = some r := H
      have A9 := Aside0.mk A90
      clear A90
      by_cases c10 : t177 = true
      ·subst c10
       have H1 : (platformfwref01_identifier.l0 k1 a0 (wrap64 (x1_1 + 1))) = some r := by rw [if_pos rfl] at H; exact H
       clear H
       have H := H1
       clear H1
       have H' := Aside0.mk H
       clear H
       have p5 : 0 ≤ (x1_1 : Int) := of_decide_eq_true (by first | (with_reducible assumption) | assumption)
       have q5 : x1_1 < (a0.size : Int) := of_decide_eq_true (by first | (with_reducible assumption) | assumption)
       have hx5 := bt_at a0 x1_1
       replace p5 := eq_true p5
       replace q5 := eq_true q5
       go_wp2_with (first | (go_at_call 95; (with_reducible refine (platformfwref01_letter.calls (bt a0 x1_1) false _ A6.out).mono ?_); rintro e w' ⟨rfl, ⟨nd, rfl⟩⟩; have p8 : 0 ≤ (x1_1 : Int) := of_decide_eq_true (by first | (with_reducible assumption) | assumption); have q8 : x1_1 < (a0.size : Int) := of_decide_eq_true (by first | (with_reducible assumption) | assumption); have hx8 := bt_at a0 x1_1; replace p8 := eq_true p8; replace q8 := eq_true q8) | (go_at_call 100; (with_reducible refine (platformfwref01_digit.calls (bt a0 x1_1) true _ A9.out).mono ?_); rintro e w' ⟨rfl, ⟨nd, rfl⟩⟩))
       go_roundg k1
       case measure => have := HK1.out; omega
       case rel => exact ⟨(wrap64 (x1_1 + 1)), (by first | rfl | (simp; done) | (simp [*]; done)), H', ⟨by have := HK1.out; omega⟩, by repeat (first | exact Drawn0.refl _ | apply Drawn0.step)⟩
      ·replace c10 := Bool.eq_false_iff.mpr c10
       subst c10
       have H1 : (some x1_1) = some r := by rw [if_neg (show ¬ (false = true) by decide)] at H; exact H
       clear H
       have H := H1
       clear H1
       obtain rfl := Option.some.inj H
       have p5 : 0 ≤ (x1_1 : Int) := of_decide_eq_true (by first | (with_reducible assumption) | assumption)
       have q5 : x1_1 < (a0.size : Int) := of_decide_eq_true (by first | (with_reducible assumption) | assumption)
       have hx5 := bt_at a0 x1_1
       replace p5 := eq_true p5
       replace q5 := eq_true q5
       go_wp2_with (first | (go_at_call 95; (with_reducible refine (platformfwref01_letter.calls (bt a0 x1_1) false _ A6.out).mono ?_); rintro e w' ⟨rfl, ⟨nd, rfl⟩⟩; have p8 : 0 ≤ (x1_1 : Int) := of_decide_eq_true (by first | (with_reducible assumption) | assumption); have q8 : x1_1 < (a0.size : Int) := of_decide_eq_true (by first | (with_reducible assumption) | assumption); have hx8 := bt_at a0 x1_1; replace p8 := eq_true p8; replace q8 := eq_true q8) | (go_at_call 100; (with_reducible refine (platformfwref01_digit.calls (bt a0 x1_1) false _ A9.out).mono ?_); rintro e w' ⟨rfl, ⟨nd, rfl⟩⟩))
       go_ret
       exact ⟨by first | rfl | (simp; done) | (simp [*]; done), by repeat (first | exact Drawn0.refl _ | apply Drawn0.step)⟩
    ·rw [if_neg c4] at H
     exact absurd H (by simp)
   ·rw [if_neg c3] at H
    have c3b0 : decide (x1_1 < (a0.size : Int)) = false := decide_eq_false c3
    clear c3
    obtain rfl := Option.some.inj H
    go_wp2
    go_ret
    exact ⟨by first | rfl | (simp; done) | (simp [*]; done), by repeat (first | exact Drawn0.refl _ | apply Drawn0.step)⟩

/-! ### platformfwref01_lower: function 97 -/
def platformfwref01_lower.l0 : Nat → ByteArray → Int → Option (Bool)
 | 0, _, _ => none
 | k + 1, x0, x3 => if x3 < (x0.size : Int) then (if 0 ≤ x3 then (if (bt x0 x3) ≥ 97 then (if (bt x0 x3) ≤ 122 then (some true) else (platformfwref01_lower.l0 k x0 (wrap64 (x3 + 1)))) else (platformfwref01_lower.l0 k x0 (wrap64 (x3 + 1)))) else (none)) else (some false)
def platformfwref01_lower.f (k : Nat) (a0 : ByteArray) : Option (Bool) := platformfwref01_lower.l0 k a0 0
theorem platformfwref01_lower.mono_l : ∀ k, (∀ y0 y1, LeO (platformfwref01_lower.l0 k y0 y1) (platformfwref01_lower.l0 (k + 1) y0 y1))
 | 0 => fun _ _ r h => by simp [platformfwref01_lower.l0] at h
 | k + 1 => by
  have ih0 := platformfwref01_lower.mono_l k
  ·intro y0 y1
   unfold platformfwref01_lower.l0
   repeat' first
   | (with_reducible exact ih0 _ _)
   | (with_reducible exact LeO.refl _)
   | (with_reducible exact LeO.none _)
   | (with_reducible refine LeO.ite ?_ ?_)
   | (with_reducible refine LeO.bind ?_ (fun _ => ?_))
   | exact ih0 _ _
   | exact LeO.none _
   | refine LeO.ite ?_ ?_
   | refine LeO.bind ?_ (fun _ => ?_)
theorem platformfwref01_lower.mono : ∀ a0 k, LeO (platformfwref01_lower.f k a0) (platformfwref01_lower.f (k + 1) a0) := by
 intro a0 k
 have ih0 := platformfwref01_lower.mono_l k
 unfold platformfwref01_lower.f
 repeat' first
   | (with_reducible exact ih0 _ _)
   | (with_reducible exact LeO.refl _)
   | (with_reducible exact LeO.none _)
   | (with_reducible refine LeO.ite ?_ ?_)
   | (with_reducible refine LeO.bind ?_ (fun _ => ?_))
   | exact ih0 _ _
   | exact LeO.none _
   | refine LeO.ite ?_ ?_
   | refine LeO.bind ?_ (fun _ => ?_)
set_option maxHeartbeats 8000000 in
set_option maxRecDepth 100000 in
theorem platformfwref01_lower.calls (k : Nat) (a0 : ByteArray) (r : Bool) (w : World) (h : platformfwref01_lower.f k a0 = some r) :
  Calls Try.prog 97 #[.string a0] w fun e w' => e = .returned (.bool r) ∧ Drawn0 w w' := by
 have H : (platformfwref01_lower.l0 k a0 0) = some r := h
 clear h
 have H' := Aside0.mk H
 clear H
 go_enter Try.func97, Try.ntmps97
 go_wp2
 go_loopg [3] k (fun kq v3 w' => ∃ (x3_1 : Int), v3 = .int .i64 x3_1 ∧ Aside0 (platformfwref01_lower.l0 kq a0 x3_1 = some r) ∧ Aside0 (kq ≤ k) ∧ Drawn0 w w')
 case atStart => exact ⟨(0), (by first | rfl | (simp; done) | (simp [*]; done)), H', ⟨Nat.le_refl _⟩, by repeat (first | exact Drawn0.refl _ | apply Drawn0.step)⟩
 case round =>
  clear H'
  obtain ⟨x3_1, rfl, HA, HK1, ⟨m1, rfl⟩⟩ := hrel
  cases gk with
  | zero => exact absurd HA.out (by simp [platformfwref01_lower.l0])
  | succ k1 =>
   have H := HA.out
   clear HA
   simp only [platformfwref01_lower.l0] at H
   by_cases c2 : x3_1 < (a0.size : Int)
   ·rw [if_pos c2] at H
    have c2b0 : decide (x3_1 < (a0.size : Int)) = true := decide_eq_true c2
    clear c2
    by_cases c3 : 0 ≤ x3_1
    ·rw [if_pos c3] at H
     have c3b0 : decide (0 ≤ x3_1) = true := decide_eq_true c3
     clear c3
     by_cases c5 : (bt a0 x3_1) ≥ 97
     ·rw [if_pos c5] at H
      have c5b0 : decide (97 ≤ (bt a0 x3_1)) = true := decide_eq_true c5
      clear c5
      by_cases c7 : (bt a0 x3_1) ≤ 122
      ·rw [if_pos c7] at H
       have c7b0 : decide ((bt a0 x3_1) ≤ 122) = true := decide_eq_true c7
       clear c7
       obtain rfl := Option.some.inj H
       have p4 : 0 ≤ (x3_1 : Int) := of_decide_eq_true (by first | (with_reducible assumption) | assumption)
       have q4 : x3_1 < (a0.size : Int) := of_decide_eq_true (by first | (with_reducible assumption) | assumption)
       have hx4 := bt_at a0 x3_1
       replace p4 := eq_true p4
       replace q4 := eq_true q4
       have p6 : 0 ≤ (x3_1 : Int) := of_decide_eq_true (by first | (with_reducible assumption) | assumption)
       have q6 : x3_1 < (a0.size : Int) := of_decide_eq_true (by first | (with_reducible assumption) | assumption)
       have hx6 := bt_at a0 x3_1
       replace p6 := eq_true p6
       replace q6 := eq_true q6
       go_wp2
       go_ret
       exact ⟨by first | rfl | (simp; done) | (simp [*]; done), by repeat (first | exact Drawn0.refl _ | apply Drawn0.step)⟩
      ·rw [if_neg c7] at H
       have c7b0 : decide ((bt a0 x3_1) ≤ 122) = false := decide_eq_false c7
       clear c7
       have H' := Aside0.mk H
       clear H
       have p4 : 0 ≤ (x3_1 : Int) := of_decide_eq_true (by first | (with_reducible assumption) | assumption)
       have q4 : x3_1 < (a0.size : Int) := of_decide_eq_true (by first | (with_reducible assumption) | assumption)
       have hx4 := bt_at a0 x3_1
       replace p4 := eq_true p4
       replace q4 := eq_true q4
       have p6 : 0 ≤ (x3_1 : Int) := of_decide_eq_true (by first | (with_reducible assumption) | assumption)
       have q6 : x3_1 < (a0.size : Int) := of_decide_eq_true (by first | (with_reducible assumption) | assumption)
       have hx6 := bt_at a0 x3_1
       replace p6 := eq_true p6
       replace q6 := eq_true q6
       go_wp2
       go_roundg k1
       case measure => have := HK1.out; omega
       case rel => exact ⟨(wrap64 (x3_1 + 1)), (by first | rfl | (simp; done) | (simp [*]; done)), H', ⟨by have := HK1.out; omega⟩, by repeat (first | exact Drawn0.refl _ | apply Drawn0.step)⟩
     ·rw [if_neg c5] at H
      have c5b0 : decide (97 ≤ (bt a0 x3_1)) = false := decide_eq_false c5
      clear c5
      have H' := Aside0.mk H
      clear H
      have p4 : 0 ≤ (x3_1 : Int) := of_decide_eq_true (by first | (with_reducible assumption) | assumption)
      have q4 : x3_1 < (a0.size : Int) := of_decide_eq_true (by first | (with_reducible assumption) | assumption)
      have hx4 := bt_at a0 x3_1
      replace p4 := eq_true p4
      replace q4 := eq_true q4
      go_wp2
      go_roundg k1
      case measure => have := HK1.out; omega
      case rel => exact ⟨(wrap64 (x3_1 + 1)), (by first | rfl | (simp; done) | (simp [*]; done)), H', ⟨by have := HK1.out; omega⟩, by repeat (first | exact Drawn0.refl _ | apply Drawn0.step)⟩
    ·rw [if_neg c3] at H
     exact absurd H (by simp)
   ·rw [if_neg c2] at H
    have c2b0 : decide (x3_1 < (a0.size : Int)) = false := decide_eq_false c2
    clear c2
    obtain rfl := Option.some.inj H
    go_wp2
    go_ret
    exact ⟨by first | rfl | (simp; done) | (simp [*]; done), by repeat (first | exact Drawn0.refl _ | apply Drawn0.step)⟩

/-! ### platformfwref01_Segment: function 87 -/
def platformfwref01_Segment.f (k : Nat) (a0 : ByteArray) : Option (Bool) := if (a0.size : Int) ≥ 1 then (if (a0.size : Int) ≤ 4 then (if 0 < (a0.size : Int) then ((platformfwref01_letter.f (bt a0 0)).bind fun t178 => (if t178 = true then ((platformfwref01_identifier.f k a0 0).bind fun t179 => (if t179 = (a0.size : Int) then ((platformfwref01_lower.f k a0).bind fun t180 => (some (!t180))) else (some false))) else (some false))) else (none)) else (some false)) else (some false)
theorem platformfwref01_Segment.mono : ∀ a0 k, LeO (platformfwref01_Segment.f k a0) (platformfwref01_Segment.f (k + 1) a0) := by
 intro a0 k
 unfold platformfwref01_Segment.f
 repeat' first
   | (with_reducible exact platformfwref01_identifier.mono _ _ _)
   | (with_reducible exact platformfwref01_lower.mono _ _)
   | (with_reducible exact LeO.refl _)
   | (with_reducible exact LeO.none _)
   | (with_reducible refine LeO.ite ?_ ?_)
   | (with_reducible refine LeO.bind ?_ (fun _ => ?_))
   | exact platformfwref01_identifier.mono _ _ _
   | exact platformfwref01_lower.mono _ _
   | exact LeO.none _
   | refine LeO.ite ?_ ?_
   | refine LeO.bind ?_ (fun _ => ?_)
set_option maxHeartbeats 8000000 in
set_option maxRecDepth 100000 in
theorem platformfwref01_Segment.calls (k : Nat) (a0 : ByteArray) (r : Bool) (w : World) (h : platformfwref01_Segment.f k a0 = some r) :
  Calls Try.prog 87 #[.string a0] w fun e w' => e = .returned (.bool r) ∧ Drawn0 w w' := by
 have H : (if (a0.size : Int) ≥ 1 then (if (a0.size : Int) ≤ 4 then (if 0 < (a0.size : Int) then ((platformfwref01_letter.f (bt a0 0)).bind fun t178 => (if t178 = true then ((platformfwref01_identifier.f k a0 0).bind fun t179 => (if t179 = (a0.size : Int) then ((platformfwref01_lower.f k a0).bind fun t180 => (some (!t180))) else (some false))) else (some false))) else (none)) else (some false)) else (some false)) = some r := h
 clear h
 by_cases c2 : (a0.size : Int) ≥ 1
 ·rw [if_pos c2] at H
  have c2b0 : decide (1 ≤ (a0.size : Int)) = true := decide_eq_true c2
  have c2b1 : decide (1 ≤ a0.size) = true := decide_eq_true (by omega)
  clear c2
  by_cases c3 : (a0.size : Int) ≤ 4
  ·rw [if_pos c3] at H
   have c3b0 : decide ((a0.size : Int) ≤ 4) = true := decide_eq_true c3
   have c3b1 : decide (a0.size ≤ 4) = true := decide_eq_true (by omega)
   clear c3
   by_cases c4 : 0 < (a0.size : Int)
   ·rw [if_pos c4] at H
    have c4b0 : decide (0 < (a0.size : Int)) = true := decide_eq_true c4
    have c4b1 : decide (0 < a0.size) = true := decide_eq_true (by omega)
    clear c4
    replace H := Option.bind_eq_some_iff.mp H
    obtain ⟨t178, A60, H⟩ := H
    replace H : (if t178 = true then ((platformfwref01_identifier.f k a0 0).bind fun t179 => (if t179 = (a0.size : Int) then ((platformfwref01_lower.f k a0).bind fun t180 => (some (!t180))) else (some false))) else (some false)) = some r := H
    have A6 := Aside0.mk A60
    clear A60
    by_cases c7 : t178 = true
    ·subst c7
     have H1 : ((platformfwref01_identifier.f k a0 0).bind fun t179 => (if t179 = (a0.size : Int) then ((platformfwref01_lower.f k a0).bind fun t180 => (some (!t180))) else (some false))) = some r := by rw [if_pos rfl] at H; exact H
     clear H
     have H := H1
     clear H1
     replace H := Option.bind_eq_some_iff.mp H
     obtain ⟨t179, A80, H⟩ := H
     replace H : (if t179 = (a0.size : Int) then ((platformfwref01_lower.f k a0).bind fun t180 => (some (!t180))) else (some false)) = some r := H
     have A8 := Aside0.mk A80
     clear A80
     by_cases c9 : t179 = (a0.size : Int)
     ·rw [if_pos c9] at H
      have c9b0 : (t179 == (a0.size : Int)) = true := beq_iff_eq.mpr c9
      have c9b1 : (t179 != (a0.size : Int)) = false := bne_eq_false_iff_eq.mpr c9
      clear c9
      replace H := Option.bind_eq_some_iff.mp H
      obtain ⟨t180, A100, H⟩ := H
      replace H : (some (!t180)) = some r := H
      have A10 := Aside0.mk A100
      clear A100
      obtain rfl := Option.some.inj H
      have p5 : 0 ≤ (0 : Int) := (by omega)
      have q5 : 0 < a0.size := (by have : (0 : Int) < (a0.size : Int) := of_decide_eq_true (by first | (with_reducible assumption) | assumption); omega)
      have hx5 : ∀ h : 0 < a0.size, ((a0[0]'h).toNat : Int) = bt a0 0 := bt_at a0 0
      clear p5
      have qi5 : (0 < (a0.size : Int)) = True := eq_true (of_decide_eq_true (by first | (with_reducible assumption) | assumption))
      replace q5 := eq_true q5
      go_enter Try.func87, Try.ntmps87
      go_wp2_with (first | (go_at_call 95; (with_reducible refine (platformfwref01_letter.calls (bt a0 0) true _ A6.out).mono ?_); rintro e w' ⟨rfl, ⟨nd, rfl⟩⟩) | (go_at_call 96; (with_reducible refine (platformfwref01_identifier.calls k a0 0 t179 _ A8.out).mono ?_); rintro e w' ⟨rfl, ⟨nd, rfl⟩⟩) | (go_at_call 97; (with_reducible refine (platformfwref01_lower.calls k a0 t180 _ A10.out).mono ?_); rintro e w' ⟨rfl, ⟨nd, rfl⟩⟩))
      go_ret
      exact ⟨by first | rfl | (simp; done) | (simp [*]; done), by repeat (first | exact Drawn0.refl _ | apply Drawn0.step)⟩
     ·rw [if_neg c9] at H
      have c9b0 : (t179 == (a0.size : Int)) = false := beq_eq_false_iff_ne.mpr c9
      have c9b1 : (t179 != (a0.size : Int)) = true := bne_iff_ne.mpr c9
      obtain rfl := Option.some.inj H
      have p5 : 0 ≤ (0 : Int) := (by omega)
      have q5 : 0 < a0.size := (by have : (0 : Int) < (a0.size : Int) := of_decide_eq_true (by first | (with_reducible assumption) | assumption); omega)
      have hx5 : ∀ h : 0 < a0.size, ((a0[0]'h).toNat : Int) = bt a0 0 := bt_at a0 0
      clear p5
      have qi5 : (0 < (a0.size : Int)) = True := eq_true (of_decide_eq_true (by first | (with_reducible assumption) | assumption))
      replace q5 := eq_true q5
      go_enter Try.func87, Try.ntmps87
      go_wp2_with (first | (go_at_call 95; (with_reducible refine (platformfwref01_letter.calls (bt a0 0) true _ A6.out).mono ?_); rintro e w' ⟨rfl, ⟨nd, rfl⟩⟩) | (go_at_call 96; (with_reducible refine (platformfwref01_identifier.calls k a0 0 t179 _ A8.out).mono ?_); rintro e w' ⟨rfl, ⟨nd, rfl⟩⟩))
      go_ret
      exact ⟨by first | rfl | (simp; done) | (simp [*]; done), by repeat (first | exact Drawn0.refl _ | apply Drawn0.step)⟩
    ·replace c7 := Bool.eq_false_iff.mpr c7
     subst c7
     have H1 : (some false) = some r := by rw [if_neg (show ¬ (false = true) by decide)] at H; exact H
     clear H
     have H := H1
     clear H1
     obtain rfl := Option.some.inj H
     have p5 : 0 ≤ (0 : Int) := (by omega)
     have q5 : 0 < a0.size := (by have : (0 : Int) < (a0.size : Int) := of_decide_eq_true (by first | (with_reducible assumption) | assumption); omega)
     have hx5 : ∀ h : 0 < a0.size, ((a0[0]'h).toNat : Int) = bt a0 0 := bt_at a0 0
     clear p5
     have qi5 : (0 < (a0.size : Int)) = True := eq_true (of_decide_eq_true (by first | (with_reducible assumption) | assumption))
     replace q5 := eq_true q5
     go_enter Try.func87, Try.ntmps87
     go_wp2_with (first | (go_at_call 95; (with_reducible refine (platformfwref01_letter.calls (bt a0 0) false _ A6.out).mono ?_); rintro e w' ⟨rfl, ⟨nd, rfl⟩⟩))
     go_ret
     exact ⟨by first | rfl | (simp; done) | (simp [*]; done), by repeat (first | exact Drawn0.refl _ | apply Drawn0.step)⟩
   ·rw [if_neg c4] at H
    exact absurd H (by simp)
  ·rw [if_neg c3] at H
   have c3b0 : decide ((a0.size : Int) ≤ 4) = false := decide_eq_false c3
   have c3b1 : decide (a0.size ≤ 4) = false := decide_eq_false (by omega)
   clear c3
   obtain rfl := Option.some.inj H
   go_enter Try.func87, Try.ntmps87
   go_wp2
   go_ret
   exact ⟨by first | rfl | (simp; done) | (simp [*]; done), by repeat (first | exact Drawn0.refl _ | apply Drawn0.step)⟩
 ·rw [if_neg c2] at H
  have c2b0 : decide (1 ≤ (a0.size : Int)) = false := decide_eq_false c2
  have c2b1 : decide (1 ≤ a0.size) = false := decide_eq_false (by omega)
  clear c2
  obtain rfl := Option.some.inj H
  go_enter Try.func87, Try.ntmps87
  go_wp2
  go_ret
  exact ⟨by first | rfl | (simp; done) | (simp [*]; done), by repeat (first | exact Drawn0.refl _ | apply Drawn0.step)⟩

/-! ### platformfwref05_segment: function 75 -/
mutual
def platformfwref05_segment.l0 : Nat → ByteArray → Int → Option (ByteArray × Int)
 | 0, _, _ => none
 | k + 1, x0, x4 => if x4 ≤ 4 then (if (x0.size : Int) ≥ 4 then (if 0 ≤ x4 then (if x4 ≤ (x0.size : Int) then ((platformfwref01_Segment.f k (x0.extract 0 (x4 : Int).toNat)).bind fun t181 => (if t181 = true then (if 4 ≤ (x0.size : Int) then (if 0 ≤ (wrap64 (4 - x4)) then (if (wrap64 (4 - x4)) ≤ 3 then (if (x0.extract (x4 : Int).toNat 4).toList = ((⟨#[0, 0, 0]⟩ : ByteArray).extract 0 ((wrap64 (4 - x4)) : Int).toNat).toList then (some (x0.extract 0 (x4 : Int).toNat, 0)) else (platformfwref05_segment.l0 k x0 (wrap64 (x4 + 1)))) else (none)) else (none)) else (none)) else (platformfwref05_segment.l0 k x0 (wrap64 (x4 + 1))))) else (none)) else (none)) else (platformfwref05_segment.l0 k x0 (wrap64 (x4 + 1)))) else (if (x0.size : Int) < 4 then (if x0.toList = ([] : List UInt8) then (some ((⟨#[]⟩ : ByteArray), 4)) else (platformfwref05_segment.l1 k x0 1)) else (some ((⟨#[]⟩ : ByteArray), 3)))
def platformfwref05_segment.l1 : Nat → ByteArray → Int → Option (ByteArray × Int)
 | 0, _, _ => none
 | k + 1, x0, x5 => if x5 ≤ (x0.size : Int) then (if 0 ≤ x5 then ((platformfwref01_Segment.f k (x0.extract 0 (x5 : Int).toNat)).bind fun t182 => (if t182 = true then (if 0 ≤ (wrap64 ((x0.size : Int) - x5)) then (if (wrap64 ((x0.size : Int) - x5)) ≤ 3 then (if (x0.extract (x5 : Int).toNat x0.size).toList = ((⟨#[0, 0, 0]⟩ : ByteArray).extract 0 ((wrap64 ((x0.size : Int) - x5)) : Int).toNat).toList then (some ((⟨#[]⟩ : ByteArray), 4)) else (platformfwref05_segment.l1 k x0 (wrap64 (x5 + 1)))) else (none)) else (none)) else (platformfwref05_segment.l1 k x0 (wrap64 (x5 + 1))))) else (none)) else (some ((⟨#[]⟩ : ByteArray), 3))
end
def platformfwref05_segment.f (k : Nat) (a0 : ByteArray) : Option (ByteArray × Int) := platformfwref05_segment.l0 k a0 1
theorem platformfwref05_segment.mono_l : ∀ k, (∀ y0 y1, LeO (platformfwref05_segment.l0 k y0 y1) (platformfwref05_segment.l0 (k + 1) y0 y1)) ∧ (∀ y0 y1, LeO (platformfwref05_segment.l1 k y0 y1) (platformfwref05_segment.l1 (k + 1) y0 y1))
 | 0 => ⟨fun _ _ r h => by simp [platformfwref05_segment.l0] at h, fun _ _ r h => by simp [platformfwref05_segment.l1] at h⟩
 | k + 1 => by
  obtain ⟨ih0, ih1⟩ := platformfwref05_segment.mono_l k
  refine ⟨?_, ?_⟩
  ·intro y0 y1
   unfold platformfwref05_segment.l0
   repeat' first
   | (with_reducible exact ih0 _ _)
   | (with_reducible exact ih1 _ _)
   | (with_reducible exact platformfwref01_Segment.mono _ _)
   | (with_reducible exact LeO.refl _)
   | (with_reducible exact LeO.none _)
   | (with_reducible refine LeO.ite ?_ ?_)
   | (with_reducible refine LeO.bind ?_ (fun _ => ?_))
   | exact ih0 _ _
   | exact ih1 _ _
   | exact platformfwref01_Segment.mono _ _
   | exact LeO.none _
   | refine LeO.ite ?_ ?_
   | refine LeO.bind ?_ (fun _ => ?_)
  ·intro y0 y1
   unfold platformfwref05_segment.l1
   repeat' first
   | (with_reducible exact ih0 _ _)
   | (with_reducible exact ih1 _ _)
   | (with_reducible exact platformfwref01_Segment.mono _ _)
   | (with_reducible exact LeO.refl _)
   | (with_reducible exact LeO.none _)
   | (with_reducible refine LeO.ite ?_ ?_)
   | (with_reducible refine LeO.bind ?_ (fun _ => ?_))
   | exact ih0 _ _
   | exact ih1 _ _
   | exact platformfwref01_Segment.mono _ _
   | exact LeO.none _
   | refine LeO.ite ?_ ?_
   | refine LeO.bind ?_ (fun _ => ?_)
theorem platformfwref05_segment.mono : ∀ a0 k, LeO (platformfwref05_segment.f k a0) (platformfwref05_segment.f (k + 1) a0) := by
 intro a0 k
 obtain ⟨ih0, ih1⟩ := platformfwref05_segment.mono_l k
 unfold platformfwref05_segment.f
 repeat' first
   | (with_reducible exact ih0 _ _)
   | (with_reducible exact ih1 _ _)
   | (with_reducible exact platformfwref01_Segment.mono _ _)
   | (with_reducible exact LeO.refl _)
   | (with_reducible exact LeO.none _)
   | (with_reducible refine LeO.ite ?_ ?_)
   | (with_reducible refine LeO.bind ?_ (fun _ => ?_))
   | exact ih0 _ _
   | exact ih1 _ _
   | exact platformfwref01_Segment.mono _ _
   | exact LeO.none _
   | refine LeO.ite ?_ ?_
   | refine LeO.bind ?_ (fun _ => ?_)
set_option maxHeartbeats 8000000 in
set_option maxRecDepth 100000 in
theorem platformfwref05_segment.calls (k : Nat) (a0 : ByteArray) (r1 : ByteArray) (r2 : Int) (w : World) (h : platformfwref05_segment.f k a0 = some (r1, r2)) :
  Calls Try.prog 75 #[.string a0] w fun e w' => e = .returned (.tuple #[.string r1, .int .i64 r2]) ∧ Drawn0 w w' := by
 have H : (platformfwref05_segment.l0 k a0 1) = some (r1, r2) := h
 clear h
 have H' := Aside0.mk H
 clear H
 go_enter Try.func75, Try.ntmps75
 go_wp2
 repeat (go_quiet (fail); try go_wp2)
 go_loopg [4] k (fun kq v4 w' => ∃ (x4_1 : Int), v4 = .int .i64 x4_1 ∧ Aside0 (platformfwref05_segment.l0 kq a0 x4_1 = some (r1, r2)) ∧ Aside0 (kq ≤ k) ∧ Drawn0 w w')
 case atStart => exact ⟨(1), (by first | rfl | (simp; done) | (simp [*]; done)), H', ⟨Nat.le_refl _⟩, by repeat (first | exact Drawn0.refl _ | apply Drawn0.step)⟩
 case round =>
  clear H'
  obtain ⟨x4_1, rfl, HA, HK1, ⟨m1, rfl⟩⟩ := hrel
  cases gk with
  | zero => exact absurd HA.out (by simp [platformfwref05_segment.l0])
  | succ k1 =>
   have H := HA.out
   clear HA
   simp only [platformfwref05_segment.l0] at H
   by_cases c2 : x4_1 ≤ 4
   ·rw [if_pos c2] at H
    have c2b0 : decide (x4_1 ≤ 4) = true := decide_eq_true c2
    clear c2
    by_cases c3 : (a0.size : Int) ≥ 4
    ·rw [if_pos c3] at H
     have c3b0 : decide (4 ≤ (a0.size : Int)) = true := decide_eq_true c3
     have c3b1 : decide (4 ≤ a0.size) = true := decide_eq_true (by omega)
     clear c3
     by_cases c4 : 0 ≤ x4_1
     ·rw [if_pos c4] at H
      have c4b0 := eq_true c4
      have c4b1 : decide (0 ≤ x4_1) = true := decide_eq_true c4
      clear c4
      by_cases c5 : x4_1 ≤ (a0.size : Int)
      ·rw [if_pos c5] at H
       have c5b0 := eq_true c5
       have c5b1 : decide (x4_1 ≤ (a0.size : Int)) = true := decide_eq_true c5
       clear c5
       replace H := Option.bind_eq_some_iff.mp H
       obtain ⟨t181, A60, H⟩ := H
       replace H : (if t181 = true then (if 4 ≤ (a0.size : Int) then (if 0 ≤ (wrap64 (4 - x4_1)) then (if (wrap64 (4 - x4_1)) ≤ 3 then (if (a0.extract (x4_1 : Int).toNat 4).toList = ((⟨#[0, 0, 0]⟩ : ByteArray).extract 0 ((wrap64 (4 - x4_1)) : Int).toNat).toList then (some (a0.extract 0 (x4_1 : Int).toNat, 0)) else (platformfwref05_segment.l0 k1 a0 (wrap64 (x4_1 + 1)))) else (none)) else (none)) else (none)) else (platformfwref05_segment.l0 k1 a0 (wrap64 (x4_1 + 1)))) = some (r1, r2) := H
       have A6 := Aside0.mk A60
       clear A60
       by_cases c7 : t181 = true
       ·subst c7
        have H1 : (if 4 ≤ (a0.size : Int) then (if 0 ≤ (wrap64 (4 - x4_1)) then (if (wrap64 (4 - x4_1)) ≤ 3 then (if (a0.extract (x4_1 : Int).toNat 4).toList = ((⟨#[0, 0, 0]⟩ : ByteArray).extract 0 ((wrap64 (4 - x4_1)) : Int).toNat).toList then (some (a0.extract 0 (x4_1 : Int).toNat, 0)) else (platformfwref05_segment.l0 k1 a0 (wrap64 (x4_1 + 1)))) else (none)) else (none)) else (none)) = some (r1, r2) := by rw [if_pos rfl] at H; exact H
        clear H
        have H := H1
        clear H1
        have c8b0 := eq_true (of_decide_eq_true (by first | (with_reducible assumption) | assumption) : 0 ≤ x4_1)
        have c9b0 := eq_true (of_decide_eq_true (by first | (with_reducible assumption) | assumption) : x4_1 ≤ 4)
        by_cases c10 : 4 ≤ (a0.size : Int)
        ·rw [if_pos c10] at H
         have c10b0 := eq_true c10
         have c10b1 : decide (4 ≤ (a0.size : Int)) = true := decide_eq_true c10
         clear c10
         obtain ⟨ji11, hji11⟩ : ∃ j_ : Int, (wrap64 (4 - x4_1)) = j_ := ⟨_, rfl⟩
         replace H : (if 0 ≤ (ji11) then (if (ji11) ≤ 3 then (if (a0.extract (x4_1 : Int).toNat 4).toList = ((⟨#[0, 0, 0]⟩ : ByteArray).extract 0 ((ji11) : Int).toNat).toList then (some (a0.extract 0 (x4_1 : Int).toNat, 0)) else (platformfwref05_segment.l0 k1 a0 (wrap64 (x4_1 + 1)))) else (none)) else (none)) = some (r1, r2) := by first | (rw [hji11] at H; exact H) | (simp only [hji11] at H ⊢; exact H)
         (try rw [hji11] at A6)
         have hji11w : (IntKind.i64.wrap (4 - x4_1)) = ji11 := (i64_w _).trans hji11
         by_cases c12 : 0 ≤ (ji11)
         ·rw [if_pos c12] at H
          have c12b0 := eq_true c12
          have c12b1 : decide (0 ≤ (ji11)) = true := decide_eq_true c12
          clear c12
          by_cases c13 : (ji11) ≤ 3
          ·rw [if_pos c13] at H
           have c13b0 := eq_true c13
           have c13b1 : decide ((ji11) ≤ 3) = true := decide_eq_true c13
           clear c13
           by_cases c14 : (a0.extract (x4_1 : Int).toNat 4).toList = ((⟨#[0, 0, 0]⟩ : ByteArray).extract 0 ((ji11) : Int).toNat).toList
           ·rw [if_pos c14] at H
            have c14b0 : ((a0.extract (x4_1 : Int).toNat 4).toList == ((⟨#[0, 0, 0]⟩ : ByteArray).extract 0 ((ji11) : Int).toNat).toList) = true := beq_iff_eq.mpr c14
            have c14b1 : ((a0.extract (x4_1 : Int).toNat 4).toList != ((⟨#[0, 0, 0]⟩ : ByteArray).extract 0 ((ji11) : Int).toNat).toList) = false := bne_eq_false_iff_eq.mpr c14
            clear c14
            have c15b0 := eq_true (of_decide_eq_true (by first | (with_reducible assumption) | assumption) : 0 ≤ x4_1)
            have c16b0 := eq_true (of_decide_eq_true (by first | (with_reducible assumption) | assumption) : x4_1 ≤ (a0.size : Int))
            simp only [Option.some.injEq, Prod.mk.injEq] at H
            obtain ⟨rfl, rfl⟩ := H
            go_wp2_with (first | (go_at_call 87; (with_reducible refine (platformfwref01_Segment.calls k1 (a0.extract 0 (x4_1 : Int).toNat) true _ A6.out).mono ?_); rintro e w' ⟨rfl, ⟨nd, rfl⟩⟩; (try first | exact ⟨rfl, _, World.drewN_drewN _ _ _⟩ | exact ⟨rfl, _, Eq.trans (World.drewN_drewN _ _ _) (congrArg (World.drewN _) (Nat.add_assoc _ _ _))⟩)))
            repeat (go_quiet (first | (go_at_call 87; (with_reducible refine (platformfwref01_Segment.calls k1 (a0.extract 0 (x4_1 : Int).toNat) true _ A6.out).mono ?_); rintro e w' ⟨rfl, ⟨nd, rfl⟩⟩; (try first | exact ⟨rfl, _, World.drewN_drewN _ _ _⟩ | exact ⟨rfl, _, Eq.trans (World.drewN_drewN _ _ _) (congrArg (World.drewN _) (Nat.add_assoc _ _ _))⟩))); try go_wp2_with (first | (go_at_call 87; (with_reducible refine (platformfwref01_Segment.calls k1 (a0.extract 0 (x4_1 : Int).toNat) true _ A6.out).mono ?_); rintro e w' ⟨rfl, ⟨nd, rfl⟩⟩; (try first | exact ⟨rfl, _, World.drewN_drewN _ _ _⟩ | exact ⟨rfl, _, Eq.trans (World.drewN_drewN _ _ _) (congrArg (World.drewN _) (Nat.add_assoc _ _ _))⟩))))
            go_ret2
            exact ⟨by first | rfl | (simp; done) | (simp only [← hji11] <;> (first | rfl | simp)) | (simp [*]; done), by repeat (first | exact Drawn0.refl _ | apply Drawn0.step)⟩
           ·rw [if_neg c14] at H
            have c14b0 : ((a0.extract (x4_1 : Int).toNat 4).toList == ((⟨#[0, 0, 0]⟩ : ByteArray).extract 0 ((ji11) : Int).toNat).toList) = false := beq_eq_false_iff_ne.mpr c14
            have c14b1 : ((a0.extract (x4_1 : Int).toNat 4).toList != ((⟨#[0, 0, 0]⟩ : ByteArray).extract 0 ((ji11) : Int).toNat).toList) = true := bne_iff_ne.mpr c14
            have H' := Aside0.mk H
            clear H
            go_wp2_with (first | (go_at_call 87; (with_reducible refine (platformfwref01_Segment.calls k1 (a0.extract 0 (x4_1 : Int).toNat) true _ A6.out).mono ?_); rintro e w' ⟨rfl, ⟨nd, rfl⟩⟩; (try first | exact ⟨rfl, _, World.drewN_drewN _ _ _⟩ | exact ⟨rfl, _, Eq.trans (World.drewN_drewN _ _ _) (congrArg (World.drewN _) (Nat.add_assoc _ _ _))⟩)))
            repeat (go_quiet (first | (go_at_call 87; (with_reducible refine (platformfwref01_Segment.calls k1 (a0.extract 0 (x4_1 : Int).toNat) true _ A6.out).mono ?_); rintro e w' ⟨rfl, ⟨nd, rfl⟩⟩; (try first | exact ⟨rfl, _, World.drewN_drewN _ _ _⟩ | exact ⟨rfl, _, Eq.trans (World.drewN_drewN _ _ _) (congrArg (World.drewN _) (Nat.add_assoc _ _ _))⟩))); try go_wp2_with (first | (go_at_call 87; (with_reducible refine (platformfwref01_Segment.calls k1 (a0.extract 0 (x4_1 : Int).toNat) true _ A6.out).mono ?_); rintro e w' ⟨rfl, ⟨nd, rfl⟩⟩; (try first | exact ⟨rfl, _, World.drewN_drewN _ _ _⟩ | exact ⟨rfl, _, Eq.trans (World.drewN_drewN _ _ _) (congrArg (World.drewN _) (Nat.add_assoc _ _ _))⟩))))
            go_roundg k1
            case measure => have := HK1.out; omega
            case rel => exact ⟨(wrap64 (x4_1 + 1)), (by first | rfl | (simp; done) | (simp [*]; done)), H', ⟨by have := HK1.out; omega⟩, by repeat (first | exact Drawn0.refl _ | apply Drawn0.step)⟩
          ·rw [if_neg c13] at H
           exact absurd H (by simp)
         ·rw [if_neg c12] at H
          exact absurd H (by simp)
        ·rw [if_neg c10] at H
         exact absurd H (by simp)
       ·replace c7 := Bool.eq_false_iff.mpr c7
        subst c7
        have H1 : (platformfwref05_segment.l0 k1 a0 (wrap64 (x4_1 + 1))) = some (r1, r2) := by rw [if_neg (show ¬ (false = true) by decide)] at H; exact H
        clear H
        have H := H1
        clear H1
        have H' := Aside0.mk H
        clear H
        go_wp2_with (first | (go_at_call 87; (with_reducible refine (platformfwref01_Segment.calls k1 (a0.extract 0 (x4_1 : Int).toNat) false _ A6.out).mono ?_); rintro e w' ⟨rfl, ⟨nd, rfl⟩⟩; (try first | exact ⟨rfl, _, World.drewN_drewN _ _ _⟩ | exact ⟨rfl, _, Eq.trans (World.drewN_drewN _ _ _) (congrArg (World.drewN _) (Nat.add_assoc _ _ _))⟩)))
        repeat (go_quiet (first | (go_at_call 87; (with_reducible refine (platformfwref01_Segment.calls k1 (a0.extract 0 (x4_1 : Int).toNat) false _ A6.out).mono ?_); rintro e w' ⟨rfl, ⟨nd, rfl⟩⟩; (try first | exact ⟨rfl, _, World.drewN_drewN _ _ _⟩ | exact ⟨rfl, _, Eq.trans (World.drewN_drewN _ _ _) (congrArg (World.drewN _) (Nat.add_assoc _ _ _))⟩))); try go_wp2_with (first | (go_at_call 87; (with_reducible refine (platformfwref01_Segment.calls k1 (a0.extract 0 (x4_1 : Int).toNat) false _ A6.out).mono ?_); rintro e w' ⟨rfl, ⟨nd, rfl⟩⟩; (try first | exact ⟨rfl, _, World.drewN_drewN _ _ _⟩ | exact ⟨rfl, _, Eq.trans (World.drewN_drewN _ _ _) (congrArg (World.drewN _) (Nat.add_assoc _ _ _))⟩))))
        go_roundg k1
        case measure => have := HK1.out; omega
        case rel => exact ⟨(wrap64 (x4_1 + 1)), (by first | rfl | (simp; done) | (simp [*]; done)), H', ⟨by have := HK1.out; omega⟩, by repeat (first | exact Drawn0.refl _ | apply Drawn0.step)⟩
      ·rw [if_neg c5] at H
       exact absurd H (by simp)
     ·rw [if_neg c4] at H
      exact absurd H (by simp)
    ·rw [if_neg c3] at H
     have c3b0 : decide (4 ≤ (a0.size : Int)) = false := decide_eq_false c3
     have c3b1 : decide (4 ≤ a0.size) = false := decide_eq_false (by omega)
     clear c3
     have H' := Aside0.mk H
     clear H
     go_wp2
     repeat (go_quiet (fail); try go_wp2)
     go_roundg k1
     case measure => have := HK1.out; omega
     case rel => exact ⟨(wrap64 (x4_1 + 1)), (by first | rfl | (simp; done) | (simp [*]; done)), H', ⟨by have := HK1.out; omega⟩, by repeat (first | exact Drawn0.refl _ | apply Drawn0.step)⟩
   ·rw [if_neg c2] at H
    have c2b0 : decide (x4_1 ≤ 4) = false := decide_eq_false c2
    clear c2
    by_cases c17 : (a0.size : Int) < 4
    ·rw [if_pos c17] at H
     have c17b0 : decide ((a0.size : Int) < 4) = true := decide_eq_true c17
     have c17b1 : decide (a0.size < 4) = true := decide_eq_true (by omega)
     clear c17
     by_cases c18 : a0.toList = ([] : List UInt8)
     ·rw [if_pos c18] at H
      have c18b0 : (a0.toList == ([] : List UInt8)) = true := beq_iff_eq.mpr c18
      have c18b1 : (a0.toList != ([] : List UInt8)) = false := bne_eq_false_iff_eq.mpr c18
      clear c18
      simp only [Option.some.injEq, Prod.mk.injEq] at H
      obtain ⟨rfl, rfl⟩ := H
      go_wp2
      repeat (go_quiet (fail); try go_wp2)
      go_ret2
      exact ⟨by first | rfl | (simp; done) | (simp [*]; done), by repeat (first | exact Drawn0.refl _ | apply Drawn0.step)⟩
     ·rw [if_neg c18] at H
      have c18b0 : (a0.toList == ([] : List UInt8)) = false := beq_eq_false_iff_ne.mpr c18
      have c18b1 : (a0.toList != ([] : List UInt8)) = true := bne_iff_ne.mpr c18
      have H' := Aside0.mk H
      clear H
      go_wp2
      repeat (go_quiet (fail); try go_wp2)
      go_loopg [5] k1 (fun kq v5 w' => ∃ (x5_2 : Int), v5 = .int .i64 x5_2 ∧ Aside0 (platformfwref05_segment.l1 kq a0 x5_2 = some (r1, r2)) ∧ Aside0 (kq ≤ k1) ∧ Drawn0 w w')
      case atStart => exact ⟨(1), (by first | rfl | (simp; done) | (simp [*]; done)), H', ⟨Nat.le_refl _⟩, by repeat (first | exact Drawn0.refl _ | apply Drawn0.step)⟩
      case round =>
       clear H'
       try clear c1
       try clear c2
       try clear c2b0
       try clear p2
       try clear c3
       try clear c3b0
       try clear c3b1
       try clear c4
       try clear c4b0
       try clear c4b1
       try clear c5
       try clear c5b0
       try clear c5b1
       try clear p6
       try clear c7
       try clear c8
       try clear c8b0
       try clear c9
       try clear c9b0
       try clear c10
       try clear c10b0
       try clear c10b1
       try clear c12
       try clear c12b0
       try clear c12b1
       try clear c13
       try clear c13b0
       try clear c13b1
       try clear c14
       try clear c14b0
       try clear c14b1
       try clear c15
       try clear c15b0
       try clear c16
       try clear c16b0
       try clear c17
       try clear c17b0
       try clear c17b1
       try clear c18
       try clear c18b0
       try clear c18b1
       obtain ⟨x5_2, rfl, HA, HK2, ⟨m2, rfl⟩⟩ := hrel
       cases gk with
       | zero => exact absurd HA.out (by simp [platformfwref05_segment.l1])
       | succ k2 =>
        have H := HA.out
        clear HA
        simp only [platformfwref05_segment.l1] at H
        by_cases c19 : x5_2 ≤ (a0.size : Int)
        ·rw [if_pos c19] at H
         have c19b0 : decide (x5_2 ≤ (a0.size : Int)) = true := decide_eq_true c19
         clear c19
         by_cases c20 : 0 ≤ x5_2
         ·rw [if_pos c20] at H
          have c20b0 := eq_true c20
          have c20b1 : decide (0 ≤ x5_2) = true := decide_eq_true c20
          clear c20
          have c21b0 := eq_true (of_decide_eq_true (by first | (with_reducible assumption) | assumption) : x5_2 ≤ (a0.size : Int))
          replace H := Option.bind_eq_some_iff.mp H
          obtain ⟨t182, A220, H⟩ := H
          replace H : (if t182 = true then (if 0 ≤ (wrap64 ((a0.size : Int) - x5_2)) then (if (wrap64 ((a0.size : Int) - x5_2)) ≤ 3 then (if (a0.extract (x5_2 : Int).toNat a0.size).toList = ((⟨#[0, 0, 0]⟩ : ByteArray).extract 0 ((wrap64 ((a0.size : Int) - x5_2)) : Int).toNat).toList then (some ((⟨#[]⟩ : ByteArray), 4)) else (platformfwref05_segment.l1 k2 a0 (wrap64 (x5_2 + 1)))) else (none)) else (none)) else (platformfwref05_segment.l1 k2 a0 (wrap64 (x5_2 + 1)))) = some (r1, r2) := H
          have A22 := Aside0.mk A220
          clear A220
          by_cases c23 : t182 = true
          ·subst c23
           have H1 : (if 0 ≤ (wrap64 ((a0.size : Int) - x5_2)) then (if (wrap64 ((a0.size : Int) - x5_2)) ≤ 3 then (if (a0.extract (x5_2 : Int).toNat a0.size).toList = ((⟨#[0, 0, 0]⟩ : ByteArray).extract 0 ((wrap64 ((a0.size : Int) - x5_2)) : Int).toNat).toList then (some ((⟨#[]⟩ : ByteArray), 4)) else (platformfwref05_segment.l1 k2 a0 (wrap64 (x5_2 + 1)))) else (none)) else (none)) = some (r1, r2) := by rw [if_pos rfl] at H; exact H
           clear H
           have H := H1
           clear H1
           have c24b0 := eq_true (of_decide_eq_true (by first | (with_reducible assumption) | assumption) : 0 ≤ x5_2)
           have c25b0 := eq_true (of_decide_eq_true (by first | (with_reducible assumption) | assumption) : x5_2 ≤ (a0.size : Int))
           obtain ⟨ji26, hji26⟩ : ∃ j_ : Int, (wrap64 ((a0.size : Int) - x5_2)) = j_ := ⟨_, rfl⟩
           replace H : (if 0 ≤ (ji26) then (if (ji26) ≤ 3 then (if (a0.extract (x5_2 : Int).toNat a0.size).toList = ((⟨#[0, 0, 0]⟩ : ByteArray).extract 0 ((ji26) : Int).toNat).toList then (some ((⟨#[]⟩ : ByteArray), 4)) else (platformfwref05_segment.l1 k2 a0 (wrap64 (x5_2 + 1)))) else (none)) else (none)) = some (r1, r2) := by first | (rw [hji26] at H; exact H) | (simp only [hji26] at H ⊢; exact H)
           (try rw [hji26] at A22)
           have hji26w : (IntKind.i64.wrap ((a0.size : Int) - x5_2)) = ji26 := (i64_w _).trans hji26
           by_cases c27 : 0 ≤ (ji26)
           ·rw [if_pos c27] at H
            have c27b0 := eq_true c27
            have c27b1 : decide (0 ≤ (ji26)) = true := decide_eq_true c27
            clear c27
            by_cases c28 : (ji26) ≤ 3
            ·rw [if_pos c28] at H
             have c28b0 := eq_true c28
             have c28b1 : decide ((ji26) ≤ 3) = true := decide_eq_true c28
             clear c28
             by_cases c29 : (a0.extract (x5_2 : Int).toNat a0.size).toList = ((⟨#[0, 0, 0]⟩ : ByteArray).extract 0 ((ji26) : Int).toNat).toList
             ·rw [if_pos c29] at H
              have c29b0 : ((a0.extract (x5_2 : Int).toNat a0.size).toList == ((⟨#[0, 0, 0]⟩ : ByteArray).extract 0 ((ji26) : Int).toNat).toList) = true := beq_iff_eq.mpr c29
              have c29b1 : ((a0.extract (x5_2 : Int).toNat a0.size).toList != ((⟨#[0, 0, 0]⟩ : ByteArray).extract 0 ((ji26) : Int).toNat).toList) = false := bne_eq_false_iff_eq.mpr c29
              clear c29
              simp only [Option.some.injEq, Prod.mk.injEq] at H
              obtain ⟨rfl, rfl⟩ := H
              go_wp2_with (first | (go_at_call 87; (with_reducible refine (platformfwref01_Segment.calls k2 (a0.extract 0 (x5_2 : Int).toNat) true _ A22.out).mono ?_); rintro e w' ⟨rfl, ⟨nd, rfl⟩⟩; (try first | exact ⟨rfl, _, World.drewN_drewN _ _ _⟩ | exact ⟨rfl, _, Eq.trans (World.drewN_drewN _ _ _) (congrArg (World.drewN _) (Nat.add_assoc _ _ _))⟩)))
              repeat (go_quiet (first | (go_at_call 87; (with_reducible refine (platformfwref01_Segment.calls k2 (a0.extract 0 (x5_2 : Int).toNat) true _ A22.out).mono ?_); rintro e w' ⟨rfl, ⟨nd, rfl⟩⟩; (try first | exact ⟨rfl, _, World.drewN_drewN _ _ _⟩ | exact ⟨rfl, _, Eq.trans (World.drewN_drewN _ _ _) (congrArg (World.drewN _) (Nat.add_assoc _ _ _))⟩))); try go_wp2_with (first | (go_at_call 87; (with_reducible refine (platformfwref01_Segment.calls k2 (a0.extract 0 (x5_2 : Int).toNat) true _ A22.out).mono ?_); rintro e w' ⟨rfl, ⟨nd, rfl⟩⟩; (try first | exact ⟨rfl, _, World.drewN_drewN _ _ _⟩ | exact ⟨rfl, _, Eq.trans (World.drewN_drewN _ _ _) (congrArg (World.drewN _) (Nat.add_assoc _ _ _))⟩))))
              go_ret2
              exact ⟨by first | rfl | (simp; done) | (simp only [← hji26] <;> (first | rfl | simp)) | (simp [*]; done), by repeat (first | exact Drawn0.refl _ | apply Drawn0.step)⟩
             ·rw [if_neg c29] at H
              have c29b0 : ((a0.extract (x5_2 : Int).toNat a0.size).toList == ((⟨#[0, 0, 0]⟩ : ByteArray).extract 0 ((ji26) : Int).toNat).toList) = false := beq_eq_false_iff_ne.mpr c29
              have c29b1 : ((a0.extract (x5_2 : Int).toNat a0.size).toList != ((⟨#[0, 0, 0]⟩ : ByteArray).extract 0 ((ji26) : Int).toNat).toList) = true := bne_iff_ne.mpr c29
              have H' := Aside0.mk H
              clear H
              go_wp2_with (first | (go_at_call 87; (with_reducible refine (platformfwref01_Segment.calls k2 (a0.extract 0 (x5_2 : Int).toNat) true _ A22.out).mono ?_); rintro e w' ⟨rfl, ⟨nd, rfl⟩⟩; (try first | exact ⟨rfl, _, World.drewN_drewN _ _ _⟩ | exact ⟨rfl, _, Eq.trans (World.drewN_drewN _ _ _) (congrArg (World.drewN _) (Nat.add_assoc _ _ _))⟩)))
              repeat (go_quiet (first | (go_at_call 87; (with_reducible refine (platformfwref01_Segment.calls k2 (a0.extract 0 (x5_2 : Int).toNat) true _ A22.out).mono ?_); rintro e w' ⟨rfl, ⟨nd, rfl⟩⟩; (try first | exact ⟨rfl, _, World.drewN_drewN _ _ _⟩ | exact ⟨rfl, _, Eq.trans (World.drewN_drewN _ _ _) (congrArg (World.drewN _) (Nat.add_assoc _ _ _))⟩))); try go_wp2_with (first | (go_at_call 87; (with_reducible refine (platformfwref01_Segment.calls k2 (a0.extract 0 (x5_2 : Int).toNat) true _ A22.out).mono ?_); rintro e w' ⟨rfl, ⟨nd, rfl⟩⟩; (try first | exact ⟨rfl, _, World.drewN_drewN _ _ _⟩ | exact ⟨rfl, _, Eq.trans (World.drewN_drewN _ _ _) (congrArg (World.drewN _) (Nat.add_assoc _ _ _))⟩))))
              go_roundg k2
              case measure => have := HK1.out; have := HK2.out; omega
              case rel => exact ⟨(wrap64 (x5_2 + 1)), (by first | rfl | (simp; done) | (simp [*]; done)), H', ⟨by have := HK1.out; have := HK2.out; omega⟩, by repeat (first | exact Drawn0.refl _ | apply Drawn0.step)⟩
            ·rw [if_neg c28] at H
             exact absurd H (by simp)
           ·rw [if_neg c27] at H
            exact absurd H (by simp)
          ·replace c23 := Bool.eq_false_iff.mpr c23
           subst c23
           have H1 : (platformfwref05_segment.l1 k2 a0 (wrap64 (x5_2 + 1))) = some (r1, r2) := by rw [if_neg (show ¬ (false = true) by decide)] at H; exact H
           clear H
           have H := H1
           clear H1
           have H' := Aside0.mk H
           clear H
           go_wp2_with (first | (go_at_call 87; (with_reducible refine (platformfwref01_Segment.calls k2 (a0.extract 0 (x5_2 : Int).toNat) false _ A22.out).mono ?_); rintro e w' ⟨rfl, ⟨nd, rfl⟩⟩; (try first | exact ⟨rfl, _, World.drewN_drewN _ _ _⟩ | exact ⟨rfl, _, Eq.trans (World.drewN_drewN _ _ _) (congrArg (World.drewN _) (Nat.add_assoc _ _ _))⟩)))
           repeat (go_quiet (first | (go_at_call 87; (with_reducible refine (platformfwref01_Segment.calls k2 (a0.extract 0 (x5_2 : Int).toNat) false _ A22.out).mono ?_); rintro e w' ⟨rfl, ⟨nd, rfl⟩⟩; (try first | exact ⟨rfl, _, World.drewN_drewN _ _ _⟩ | exact ⟨rfl, _, Eq.trans (World.drewN_drewN _ _ _) (congrArg (World.drewN _) (Nat.add_assoc _ _ _))⟩))); try go_wp2_with (first | (go_at_call 87; (with_reducible refine (platformfwref01_Segment.calls k2 (a0.extract 0 (x5_2 : Int).toNat) false _ A22.out).mono ?_); rintro e w' ⟨rfl, ⟨nd, rfl⟩⟩; (try first | exact ⟨rfl, _, World.drewN_drewN _ _ _⟩ | exact ⟨rfl, _, Eq.trans (World.drewN_drewN _ _ _) (congrArg (World.drewN _) (Nat.add_assoc _ _ _))⟩))))
           go_roundg k2
           case measure => have := HK1.out; have := HK2.out; omega
           case rel => exact ⟨(wrap64 (x5_2 + 1)), (by first | rfl | (simp; done) | (simp [*]; done)), H', ⟨by have := HK1.out; have := HK2.out; omega⟩, by repeat (first | exact Drawn0.refl _ | apply Drawn0.step)⟩
         ·rw [if_neg c20] at H
          exact absurd H (by simp)
        ·rw [if_neg c19] at H
         have c19b0 : decide (x5_2 ≤ (a0.size : Int)) = false := decide_eq_false c19
         clear c19
         simp only [Option.some.injEq, Prod.mk.injEq] at H
         obtain ⟨rfl, rfl⟩ := H
         go_wp2
         repeat (go_quiet (fail); try go_wp2)
         go_ret2
         exact ⟨by first | rfl | (simp; done) | (simp [*]; done), by repeat (first | exact Drawn0.refl _ | apply Drawn0.step)⟩
    ·rw [if_neg c17] at H
     have c17b0 : decide ((a0.size : Int) < 4) = false := decide_eq_false c17
     have c17b1 : decide (a0.size < 4) = false := decide_eq_false (by omega)
     clear c17
     simp only [Option.some.injEq, Prod.mk.injEq] at H
     obtain ⟨rfl, rfl⟩ := H
     go_wp2
     repeat (go_quiet (fail); try go_wp2)
     go_ret2
     exact ⟨by first | rfl | (simp; done) | (simp [*]; done), by repeat (first | exact Drawn0.refl _ | apply Drawn0.step)⟩

end Go.Proofs.Ytmnmidclaaiffaa.PBytecodeDecodesPaths
