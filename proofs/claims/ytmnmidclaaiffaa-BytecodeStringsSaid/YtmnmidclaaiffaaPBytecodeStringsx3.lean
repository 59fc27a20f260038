-- Written by a program of this session's (wip/print_patch.py over the kit's print) out of the translation; Lean checks it.
import Derived.Test.YtmnmidclaaiffaaPBytecodeStringsx0
import Derived.Test.YtmnmidclaaiffaaPBytecodeStringsx2
namespace Go.Proofs.Ytmnmidclaaiffaa.PBytecodeStrings
open Go.RowKit Go.Proofs.YtmnmidclaaiffaaW.PrintWords Go.Proofs.YtmnmidclaaiffaaW.PrintLast Go.Proofs.YtmnmidclaaiffaaW.PrintMore
attribute [local go_sem] max2_int min2_int max_two min_two max_three min_three max_four min_four   -- for this text's walks alone
set_option linter.unusedVariables false
set_option linter.unusedSimpArgs false

/-! ### platformfwref05_ReadString: function 41 -/
def platformfwref05_ReadString.f (a0 : ByteArray) : Option (ByteArray × Int × Int) := if a0.toList = ([] : List UInt8) then (some ((⟨#[]⟩ : ByteArray), 0, 4)) else (if 0 < (a0.size : Int) then (if (bt a0 0) = 13 then (if (a0.size : Int) < 2 then (some ((⟨#[]⟩ : ByteArray), 0, 4)) else (if 1 < (a0.size : Int) then (if (a0.size : Int) < (wrap64 (2 + (wrap64 (bt a0 1)))) then (some ((⟨#[]⟩ : ByteArray), 0, 4)) else (if 2 ≤ (wrap64 (2 + (wrap64 (bt a0 1)))) then (if (wrap64 (2 + (wrap64 (bt a0 1)))) ≤ (a0.size : Int) then (some (a0.extract 2 ((wrap64 (2 + (wrap64 (bt a0 1)))) : Int).toNat, wrap64 (2 + (wrap64 (bt a0 1))), 0)) else (none)) else (none))) else (none))) else (some ((⟨#[]⟩ : ByteArray), 0, 3))) else (none))
set_option maxHeartbeats 8000000 in
set_option maxRecDepth 100000 in
theorem platformfwref05_ReadString.calls (a0 : ByteArray) (r1 : ByteArray) (r2 : Int) (r3 : Int) (w : World) (h : platformfwref05_ReadString.f a0 = some (r1, r2, r3)) :
    Calls Try.prog 41 #[.string a0] w fun e w' => e = .returned (.tuple #[.string r1, .int .i64 r2, .int .i64 r3]) ∧ Drawn0 w w' := by
  have H : (if a0.toList = ([] : List UInt8) then (some ((⟨#[]⟩ : ByteArray), 0, 4)) else (if 0 < (a0.size : Int) then (if (bt a0 0) = 13 then (if (a0.size : Int) < 2 then (some ((⟨#[]⟩ : ByteArray), 0, 4)) else (if 1 < (a0.size : Int) then (if (a0.size : Int) < (wrap64 (2 + (wrap64 (bt a0 1)))) then (some ((⟨#[]⟩ : ByteArray), 0, 4)) else (if 2 ≤ (wrap64 (2 + (wrap64 (bt a0 1)))) then (if (wrap64 (2 + (wrap64 (bt a0 1)))) ≤ (a0.size : Int) then (some (a0.extract 2 ((wrap64 (2 + (wrap64 (bt a0 1)))) : Int).toNat, wrap64 (2 + (wrap64 (bt a0 1))), 0)) else (none)) else (none))) else (none))) else (some ((⟨#[]⟩ : ByteArray), 0, 3))) else (none))) = some (r1, r2, r3) := h
  clear h
  by_cases c2 : a0.toList = ([] : List UInt8)
  · rw [if_pos c2] at H
    have c2b0 : (a0.toList == ([] : List UInt8)) = true := beq_iff_eq.mpr c2
    have c2b1 : (a0.toList != ([] : List UInt8)) = false := bne_eq_false_iff_eq.mpr c2
    clear c2
    simp only [Option.some.injEq, Prod.mk.injEq] at H
    obtain ⟨rfl, rfl, rfl⟩ := H
    go_enter Try.func41, Try.ntmps41
    go_wp2
    repeat (go_quiet (fail); try go_wp2)
    go_ret3
    exact ⟨by first | rfl | (simp; done) | (simp [*]; done), by repeat (first | exact Drawn0.refl _ | apply Drawn0.step)⟩
  · rw [if_neg c2] at H
    have c2b0 : (a0.toList == ([] : List UInt8)) = false := beq_eq_false_iff_ne.mpr c2
    have c2b1 : (a0.toList != ([] : List UInt8)) = true := bne_iff_ne.mpr c2
    by_cases c3 : 0 < (a0.size : Int)
    · rw [if_pos c3] at H
      have c3b0 : decide (0 < (a0.size : Int)) = true := decide_eq_true c3
      have c3b1 : decide (0 < a0.size) = true := decide_eq_true (by omega)
      clear c3
      by_cases c5 : (bt a0 0) = 13
      · rw [if_pos c5] at H
        have c5b0 : ((bt a0 0) == 13) = true := beq_iff_eq.mpr c5
        have c5b1 : ((bt a0 0) != 13) = false := bne_eq_false_iff_eq.mpr c5
        clear c5
        by_cases c6 : (a0.size : Int) < 2
        · rw [if_pos c6] at H
          have c6b0 : decide ((a0.size : Int) < 2) = true := decide_eq_true c6
          have c6b1 : decide (a0.size < 2) = true := decide_eq_true (by omega)
          clear c6
          simp only [Option.some.injEq, Prod.mk.injEq] at H
          obtain ⟨rfl, rfl, rfl⟩ := H
          have p4 : 0 ≤ (0 : Int) := (by omega)
          have q4 : 0 < a0.size := (by have : (0 : Int) < (a0.size : Int) := of_decide_eq_true (by first | (with_reducible assumption) | assumption); omega)
          have hx4 : ∀ h : 0 < a0.size, ((a0[0]'h).toNat : Int) = bt a0 0 := bt_at a0 0
          clear p4
          have qi4 : (0 < (a0.size : Int)) = True := eq_true (of_decide_eq_true (by first | (with_reducible assumption) | assumption))
          replace q4 := eq_true q4
          go_enter Try.func41, Try.ntmps41
          go_wp2
          repeat (go_quiet (fail); try go_wp2)
          go_ret3
          exact ⟨by first | rfl | (simp; done) | (simp [*]; done), by repeat (first | exact Drawn0.refl _ | apply Drawn0.step)⟩
        · rw [if_neg c6] at H
          have c6b0 : decide ((a0.size : Int) < 2) = false := decide_eq_false c6
          have c6b1 : decide (a0.size < 2) = false := decide_eq_false (by omega)
          clear c6
          by_cases c7 : 1 < (a0.size : Int)
          · rw [if_pos c7] at H
            have c7b0 : decide (1 < (a0.size : Int)) = true := decide_eq_true c7
            have c7b1 : decide (1 < a0.size) = true := decide_eq_true (by omega)
            clear c7
            by_cases c9 : (a0.size : Int) < (wrap64 (2 + (wrap64 (bt a0 1))))
            · rw [if_pos c9] at H
              have c9b0 : decide ((a0.size : Int) < (wrap64 (2 + (wrap64 (bt a0 1))))) = true := decide_eq_true c9
              clear c9
              simp only [Option.some.injEq, Prod.mk.injEq] at H
              obtain ⟨rfl, rfl, rfl⟩ := H
              have p4 : 0 ≤ (0 : Int) := (by omega)
              have q4 : 0 < a0.size := (by have : (0 : Int) < (a0.size : Int) := of_decide_eq_true (by first | (with_reducible assumption) | assumption); omega)
              have hx4 : ∀ h : 0 < a0.size, ((a0[0]'h).toNat : Int) = bt a0 0 := bt_at a0 0
              clear p4
              have qi4 : (0 < (a0.size : Int)) = True := eq_true (of_decide_eq_true (by first | (with_reducible assumption) | assumption))
              replace q4 := eq_true q4
              have p8 : 0 ≤ (1 : Int) := (by omega)
              have q8 : 1 < a0.size := (by have : (1 : Int) < (a0.size : Int) := of_decide_eq_true (by first | (with_reducible assumption) | assumption); omega)
              have hx8 : ∀ h : 1 < a0.size, ((a0[1]'h).toNat : Int) = bt a0 1 := bt_at a0 1
              clear p8
              have qi8 : (1 < (a0.size : Int)) = True := eq_true (of_decide_eq_true (by first | (with_reducible assumption) | assumption))
              replace q8 := eq_true q8
              go_enter Try.func41, Try.ntmps41
              go_wp2
              repeat (go_quiet (fail); try go_wp2)
              go_ret3
              exact ⟨by first | rfl | (simp; done) | (simp [*]; done), by repeat (first | exact Drawn0.refl _ | apply Drawn0.step)⟩
            · rw [if_neg c9] at H
              have c9b0 : decide ((a0.size : Int) < (wrap64 (2 + (wrap64 (bt a0 1))))) = false := decide_eq_false c9
              clear c9
              by_cases c11 : 2 ≤ (wrap64 (2 + (wrap64 (bt a0 1))))
              · rw [if_pos c11] at H
                have c11b0 := eq_true c11
                have c11b1 : decide (2 ≤ (wrap64 (2 + (wrap64 (bt a0 1))))) = true := decide_eq_true c11
                clear c11
                by_cases c12 : (wrap64 (2 + (wrap64 (bt a0 1)))) ≤ (a0.size : Int)
                · rw [if_pos c12] at H
                  have c12b0 := eq_true c12
                  have c12b1 : decide ((wrap64 (2 + (wrap64 (bt a0 1)))) ≤ (a0.size : Int)) = true := decide_eq_true c12
                  clear c12
                  simp only [Option.some.injEq, Prod.mk.injEq] at H
                  obtain ⟨rfl, rfl, rfl⟩ := H
                  have p4 : 0 ≤ (0 : Int) := (by omega)
                  have q4 : 0 < a0.size := (by have : (0 : Int) < (a0.size : Int) := of_decide_eq_true (by first | (with_reducible assumption) | assumption); omega)
                  have hx4 : ∀ h : 0 < a0.size, ((a0[0]'h).toNat : Int) = bt a0 0 := bt_at a0 0
                  clear p4
                  have qi4 : (0 < (a0.size : Int)) = True := eq_true (of_decide_eq_true (by first | (with_reducible assumption) | assumption))
                  replace q4 := eq_true q4
                  have p8 : 0 ≤ (1 : Int) := (by omega)
                  have q8 : 1 < a0.size := (by have : (1 : Int) < (a0.size : Int) := of_decide_eq_true (by first | (with_reducible assumption) | assumption); omega)
                  have hx8 : ∀ h : 1 < a0.size, ((a0[1]'h).toNat : Int) = bt a0 1 := bt_at a0 1
                  clear p8
                  have qi8 : (1 < (a0.size : Int)) = True := eq_true (of_decide_eq_true (by first | (with_reducible assumption) | assumption))
                  replace q8 := eq_true q8
                  have p10 : 0 ≤ (1 : Int) := (by omega)
                  have q10 : 1 < a0.size := (by have : (1 : Int) < (a0.size : Int) := of_decide_eq_true (by first | (with_reducible assumption) | assumption); omega)
                  have hx10 : ∀ h : 1 < a0.size, ((a0[1]'h).toNat : Int) = bt a0 1 := bt_at a0 1
                  clear p10
                  have qi10 : (1 < (a0.size : Int)) = True := eq_true (of_decide_eq_true (by first | (with_reducible assumption) | assumption))
                  replace q10 := eq_true q10
                  have p13 : 0 ≤ (1 : Int) := (by omega)
                  have q13 : 1 < a0.size := (by have : (1 : Int) < (a0.size : Int) := of_decide_eq_true (by first | (with_reducible assumption) | assumption); omega)
                  have hx13 : ∀ h : 1 < a0.size, ((a0[1]'h).toNat : Int) = bt a0 1 := bt_at a0 1
                  clear p13
                  have qi13 : (1 < (a0.size : Int)) = True := eq_true (of_decide_eq_true (by first | (with_reducible assumption) | assumption))
                  replace q13 := eq_true q13
                  go_enter Try.func41, Try.ntmps41
                  go_wp2
                  repeat (go_quiet (fail); try go_wp2)
                  go_ret3
                  exact ⟨by first | rfl | (simp; done) | (simp [*]; done), by repeat (first | exact Drawn0.refl _ | apply Drawn0.step)⟩
                · rw [if_neg c12] at H
                  exact absurd H (by simp)
              · rw [if_neg c11] at H
                exact absurd H (by simp)
          · rw [if_neg c7] at H
            exact absurd H (by simp)
      · rw [if_neg c5] at H
        have c5b0 : ((bt a0 0) == 13) = false := beq_eq_false_iff_ne.mpr c5
        have c5b1 : ((bt a0 0) != 13) = true := bne_iff_ne.mpr c5
        simp only [Option.some.injEq, Prod.mk.injEq] at H
        obtain ⟨rfl, rfl, rfl⟩ := H
        have p4 : 0 ≤ (0 : Int) := (by omega)
        have q4 : 0 < a0.size := (by have : (0 : Int) < (a0.size : Int) := of_decide_eq_true (by first | (with_reducible assumption) | assumption); omega)
        have hx4 : ∀ h : 0 < a0.size, ((a0[0]'h).toNat : Int) = bt a0 0 := bt_at a0 0
        clear p4
        have qi4 : (0 < (a0.size : Int)) = True := eq_true (of_decide_eq_true (by first | (with_reducible assumption) | assumption))
        replace q4 := eq_true q4
        go_enter Try.func41, Try.ntmps41
        go_wp2
        repeat (go_quiet (fail); try go_wp2)
        go_ret3
        exact ⟨by first | rfl | (simp; done) | (simp [*]; done), by repeat (first | exact Drawn0.refl _ | apply Drawn0.step)⟩
    · rw [if_neg c3] at H
      exact absurd H (by simp)

/-! ### platformfwlaw05_BytecodeStrings: function 10 -/
def platformfwlaw05_BytecodeStrings.j0 : Nat → ByteArray → ByteArray → ByteArray → Int → Bool → Option (Bool)
  | 0, _, _, _, _, _ => none
  | k + 1, x0, x1, x2, x3, x28 => if x28 = true then (some false) else (if 0 ≤ (mn (x1.size : Int) 255) then (if (mn (x1.size : Int) 255) ≤ (x1.size : Int) then ((platformfwref05_String.f k (x1.extract 0 ((mn (x1.size : Int) 255) : Int).toNat)).bind fun t142 => (if t142.size + x2.size ≤ 9223372036854775807 then ((bytecode_String.f k (t142 ++ x2)).bind fun bt143 => ((some (([x3] : List Int) : List Int)).bind fun y146 => (if 1 + (strOfNums y146).size ≤ 9223372036854775807 then (if 1 + (strOfNums y146).size + x2.size ≤ 9223372036854775807 then ((bytecode_String.f k (((⟨#[13]⟩ : ByteArray) ++ (strOfNums y146)) ++ x2)).bind fun bt149 => ((platformfwref05_ReadString.f (((⟨#[13]⟩ : ByteArray) ++ (strOfNums y146)) ++ x2)).bind fun bt152 => ((platformfwlaw05_awake.f k).bind fun t155 => (if t155 = true then ((bytecode_AppendString.f x0 (x1.extract 0 ((mn (x1.size : Int) 255) : Int).toNat)).bind fun t156 => ((platformfwref05_String.f k (x1.extract 0 ((mn (x1.size : Int) 255) : Int).toNat)).bind fun t157 => (if x0.size + t142.size ≤ 9223372036854775807 then (if t156.toList = (x0 ++ t142).toList then (if bt143.1.toList = (x1.extract 0 ((mn (x1.size : Int) 255) : Int).toNat).toList then (if bt143.2.1 = (wrap64 (((x1.extract 0 ((mn (x1.size : Int) 255) : Int).toNat).size : Int) + 2)) then (if bt143.2.2 = 0 then (if bt149.1.toList = bt152.1.toList then (if bt149.2.1 = bt152.2.1 then (some (bt149.2.2 == bt152.2.2)) else (some false)) else (some false)) else (some false)) else (some false)) else (some false)) else (some false)) else (none)))) else (some false))))) else (none)) else (none)))) else (none))) else (none)) else (none))
def platformfwlaw05_BytecodeStrings.f (k : Nat) (a0 : ByteArray) (a1 : ByteArray) (a2 : ByteArray) (a3 : Int) : Option (Bool) := if (a1.size : Int) > 255 then ((bytecode_AppendString.f a0 a1).bind fun t141 => (platformfwlaw05_BytecodeStrings.j0 k a0 a1 a2 a3 (t141.toList != a0.toList))) else (platformfwlaw05_BytecodeStrings.j0 k a0 a1 a2 a3 false)
theorem platformfwlaw05_BytecodeStrings.mono_l : ∀ k, (∀ y0 y1 y2 y3 y4, LeO (platformfwlaw05_BytecodeStrings.j0 k y0 y1 y2 y3 y4) (platformfwlaw05_BytecodeStrings.j0 (k + 1) y0 y1 y2 y3 y4))
  | 0 => fun _ _ _ _ _ r h => by simp [platformfwlaw05_BytecodeStrings.j0] at h
  | k + 1 => by
    have ih0 := platformfwlaw05_BytecodeStrings.mono_l k
    · intro y0 y1 y2 y3 y4
      unfold platformfwlaw05_BytecodeStrings.j0
      repeat' first
      | (with_reducible exact ih0 _ _ _ _ _)
      | (with_reducible exact bytecode_String.mono _ _)
      | (with_reducible exact platformfwlaw05_awake.mono _)
      | (with_reducible exact platformfwref05_String.mono _ _)
      | (with_reducible exact LeO.refl _)
      | (with_reducible exact LeO.none _)
      | (with_reducible refine LeO.ite ?_ ?_)
      | (with_reducible refine LeO.bind ?_ (fun _ => ?_))
      | exact ih0 _ _ _ _ _
      | exact bytecode_String.mono _ _
      | exact platformfwlaw05_awake.mono _
      | exact platformfwref05_String.mono _ _
      | exact LeO.none _
      | refine LeO.ite ?_ ?_
      | refine LeO.bind ?_ (fun _ => ?_)
theorem platformfwlaw05_BytecodeStrings.mono : ∀ a0 a1 a2 a3 k, LeO (platformfwlaw05_BytecodeStrings.f k a0 a1 a2 a3) (platformfwlaw05_BytecodeStrings.f (k + 1) a0 a1 a2 a3) := by
  intro a0 a1 a2 a3 k
  have ih0 := platformfwlaw05_BytecodeStrings.mono_l k
  unfold platformfwlaw05_BytecodeStrings.f
  repeat' first
      | (with_reducible exact ih0 _ _ _ _ _)
      | (with_reducible exact bytecode_String.mono _ _)
      | (with_reducible exact platformfwlaw05_awake.mono _)
      | (with_reducible exact platformfwref05_String.mono _ _)
      | (with_reducible exact LeO.refl _)
      | (with_reducible exact LeO.none _)
      | (with_reducible refine LeO.ite ?_ ?_)
      | (with_reducible refine LeO.bind ?_ (fun _ => ?_))
      | exact ih0 _ _ _ _ _
      | exact bytecode_String.mono _ _
      | exact platformfwlaw05_awake.mono _
      | exact platformfwref05_String.mono _ _
      | exact LeO.none _
      | refine LeO.ite ?_ ?_
      | refine LeO.bind ?_ (fun _ => ?_)
set_option maxHeartbeats 8000000 in
set_option maxRecDepth 100000 in
theorem platformfwlaw05_BytecodeStrings.calls (k : Nat) (a0 : ByteArray) (a1 : ByteArray) (a2 : ByteArray) (a3 : Int) (r : Bool) (w : World) (h : platformfwlaw05_BytecodeStrings.f k a0 a1 a2 a3 = some r) :
    Calls Try.prog 10 #[.string a0, .string a1, .string a2, .int .u8 a3] w fun e w' => e = .returned (.bool r) ∧ Below w.heap.size w w' := by
  have HB := Aside0.mk (Below.refl w.heap.size w)
  have H : (if (a1.size : Int) > 255 then ((bytecode_AppendString.f a0 a1).bind fun t141 => (platformfwlaw05_BytecodeStrings.j0 k a0 a1 a2 a3 (t141.toList != a0.toList))) else (platformfwlaw05_BytecodeStrings.j0 k a0 a1 a2 a3 false)) = some r := h
  clear h
  have HC5 := Aside0.mk H
  clear H
  go_enter Try.func10, Try.ntmps10
  go_upto_region 1 with (fail)
  go_cut [28] (fun v28 wc => ∃ (kq : Nat) (x28_4 : Bool), v28 = .bool x28_4 ∧ Aside0 (platformfwlaw05_BytecodeStrings.j0 kq a0 a1 a2 a3 x28_4 = some r) ∧ Aside0 (kq ≤ k) ∧ Aside0 (Below w.heap.size w wc))
  case first =>
    have H := HC5.out
    clear HC5
    by_cases c6 : (a1.size : Int) > 255
    · rw [if_pos c6] at H
      have c6b0 : decide (255 < (a1.size : Int)) = true := decide_eq_true c6
      have c6b1 : decide (255 < a1.size) = true := decide_eq_true (by omega)
      clear c6
      (first | rw [c6b0] | (simp only [i64_w, i32_w]; rw [c6b0]) | skip)
      replace H := Option.bind_eq_some_iff.mp H
      obtain ⟨t141, A70, H⟩ := H
      replace H : (platformfwlaw05_BytecodeStrings.j0 k a0 a1 a2 a3 (t141.toList != a0.toList)) = some r := H
      have A7 := Aside0.mk A70
      clear A70
      have H' := Aside0.mk H
      clear H
      go_wp2_with (first | (go_at_call 38; (with_reducible refine (bytecode_AppendString.calls a0 a1 t141 _ A7.out).mono ?_); rintro e w8 ⟨rfl, hb⟩; have n0_ := Aside0.mk (below_step (by repeat (first | (with_reducible first | exact HB.out | apply below_alloc | apply pw_below_drewN | apply below_drew1) | exact HB.out)) hb); clear HB; have HB := n0_; clear n0_; (try clear hb); (try clear hb2); (try clear hk); (try clear hi)))
      all_goals (try (exfalso; simp only [beq_iff_eq, bne_iff_ne, ne_eq, ByteArray.size_extract, decide_eq_true_eq, decide_eq_false_iff_not, beq_eq_false_iff_ne, bne_eq_false_iff_eq, eq_iff_iff, iff_true, iff_false] at *; unfold wrap64 at *; omega))
      go_meet
      case rel => exact ⟨_, ((t141.toList != a0.toList)), (by first | rfl | (simp; done) | (simp [*]; done)), H', ⟨by first | omega | exact Nat.le_refl _⟩, ⟨by repeat (first | (with_reducible first | exact HB.out | apply below_alloc | apply pw_below_drewN | apply below_drew1) | exact HB.out)⟩⟩
    · rw [if_neg c6] at H
      have c6b0 : decide (255 < (a1.size : Int)) = false := decide_eq_false c6
      have c6b1 : decide (255 < a1.size) = false := decide_eq_false (by omega)
      clear c6
      (first | rw [c6b0] | (simp only [i64_w, i32_w]; rw [c6b0]) | skip)
      have H' := Aside0.mk H
      clear H
      go_wp2
      all_goals (try (exfalso; simp only [beq_iff_eq, bne_iff_ne, ne_eq, ByteArray.size_extract, decide_eq_true_eq, decide_eq_false_iff_not, beq_eq_false_iff_ne, bne_eq_false_iff_eq, eq_iff_iff, iff_true, iff_false] at *; unfold wrap64 at *; omega))
      go_meet
      case rel => exact ⟨_, (false), (by first | rfl | (simp; done) | (simp [*]; done)), H', ⟨by first | omega | exact Nat.le_refl _⟩, ⟨by repeat (first | (with_reducible first | exact HB.out | apply below_alloc | apply pw_below_drewN | apply below_drew1) | exact HB.out)⟩⟩
  case rest =>
    clear HC5
    try clear c1
    try clear p2
    try clear c6
    try clear c6b0
    try clear c6b1
    obtain ⟨kq, x28_4, rfl, HA, HJ4, HB⟩ := hcut
    cases kq with
    | zero => exact absurd HA.out (by simp [platformfwlaw05_BytecodeStrings.j0])
    | succ kj4 =>
      have H := HA.out
      clear HA
      simp only [platformfwlaw05_BytecodeStrings.j0] at H
      by_cases c9 : x28_4 = true
      · subst c9
        have H1 : (some false) = some r := by rw [if_pos rfl] at H; exact H
        clear H
        have H := H1
        clear H1
        obtain rfl := Option.some.inj H
        go_wp2
        all_goals (try (exfalso; simp only [beq_iff_eq, bne_iff_ne, ne_eq, ByteArray.size_extract, decide_eq_true_eq, decide_eq_false_iff_not, beq_eq_false_iff_ne, bne_eq_false_iff_eq, eq_iff_iff, iff_true, iff_false] at *; unfold wrap64 at *; omega))
        go_ret
        exact ⟨by first | rfl | (simp [errW_none, errW_some] <;> rfl) | (simp [*, errW_none, errW_some] <;> rfl), by repeat (first | (with_reducible first | exact HB.out | apply below_alloc | apply pw_below_drewN | apply below_drew1) | exact HB.out)⟩
      · replace c9 := Bool.eq_false_iff.mpr c9
        subst c9
        have H1 : (if 0 ≤ (mn (a1.size : Int) 255) then (if (mn (a1.size : Int) 255) ≤ (a1.size : Int) then ((platformfwref05_String.f kj4 (a1.extract 0 ((mn (a1.size : Int) 255) : Int).toNat)).bind fun t142 => (if t142.size + a2.size ≤ 9223372036854775807 then ((bytecode_String.f kj4 (t142 ++ a2)).bind fun bt143 => ((some (([a3] : List Int) : List Int)).bind fun y146 => (if 1 + (strOfNums y146).size ≤ 9223372036854775807 then (if 1 + (strOfNums y146).size + a2.size ≤ 9223372036854775807 then ((bytecode_String.f kj4 (((⟨#[13]⟩ : ByteArray) ++ (strOfNums y146)) ++ a2)).bind fun bt149 => ((platformfwref05_ReadString.f (((⟨#[13]⟩ : ByteArray) ++ (strOfNums y146)) ++ a2)).bind fun bt152 => ((platformfwlaw05_awake.f kj4).bind fun t155 => (if t155 = true then ((bytecode_AppendString.f a0 (a1.extract 0 ((mn (a1.size : Int) 255) : Int).toNat)).bind fun t156 => ((platformfwref05_String.f kj4 (a1.extract 0 ((mn (a1.size : Int) 255) : Int).toNat)).bind fun t157 => (if a0.size + t142.size ≤ 9223372036854775807 then (if t156.toList = (a0 ++ t142).toList then (if bt143.1.toList = (a1.extract 0 ((mn (a1.size : Int) 255) : Int).toNat).toList then (if bt143.2.1 = (wrap64 (((a1.extract 0 ((mn (a1.size : Int) 255) : Int).toNat).size : Int) + 2)) then (if bt143.2.2 = 0 then (if bt149.1.toList = bt152.1.toList then (if bt149.2.1 = bt152.2.1 then (some (bt149.2.2 == bt152.2.2)) else (some false)) else (some false)) else (some false)) else (some false)) else (some false)) else (some false)) else (none)))) else (some false))))) else (none)) else (none)))) else (none))) else (none)) else (none)) = some r := by rw [if_neg (show ¬ (false = true) by decide)] at H; exact H
        clear H
        have H := H1
        clear H1
        obtain ⟨ji10, hji10⟩ : ∃ j_ : Int, (mn (a1.size : Int) 255) = j_ := ⟨_, rfl⟩
        replace H : (if 0 ≤ (ji10) then (if (ji10) ≤ (a1.size : Int) then ((platformfwref05_String.f kj4 (a1.extract 0 ((ji10) : Int).toNat)).bind fun t142 => (if t142.size + a2.size ≤ 9223372036854775807 then ((bytecode_String.f kj4 (t142 ++ a2)).bind fun bt143 => ((some (([a3] : List Int) : List Int)).bind fun y146 => (if 1 + (strOfNums y146).size ≤ 9223372036854775807 then (if 1 + (strOfNums y146).size + a2.size ≤ 9223372036854775807 then ((bytecode_String.f kj4 (((⟨#[13]⟩ : ByteArray) ++ (strOfNums y146)) ++ a2)).bind fun bt149 => ((platformfwref05_ReadString.f (((⟨#[13]⟩ : ByteArray) ++ (strOfNums y146)) ++ a2)).bind fun bt152 => ((platformfwlaw05_awake.f kj4).bind fun t155 => (if t155 = true then ((bytecode_AppendString.f a0 (a1.extract 0 ((ji10) : Int).toNat)).bind fun t156 => ((platformfwref05_String.f kj4 (a1.extract 0 ((ji10) : Int).toNat)).bind fun t157 => (if a0.size + t142.size ≤ 9223372036854775807 then (if t156.toList = (a0 ++ t142).toList then (if bt143.1.toList = (a1.extract 0 ((ji10) : Int).toNat).toList then (if bt143.2.1 = (wrap64 (((a1.extract 0 ((ji10) : Int).toNat).size : Int) + 2)) then (if bt143.2.2 = 0 then (if bt149.1.toList = bt152.1.toList then (if bt149.2.1 = bt152.2.1 then (some (bt149.2.2 == bt152.2.2)) else (some false)) else (some false)) else (some false)) else (some false)) else (some false)) else (some false)) else (none)))) else (some false))))) else (none)) else (none)))) else (none))) else (none)) else (none)) = some r := by first | (rw [hji10] at H; exact H) | (simp only [hji10] at H ⊢; exact H)
        have hji10_ : (if 255 < (a1.size : Int) then 255 else (a1.size : Int)) = ji10 := hji10
        by_cases c11 : 0 ≤ (ji10)
        · rw [if_pos c11] at H
          have c11b0 := eq_true c11
          have c11b1 : decide (0 ≤ (ji10)) = true := decide_eq_true c11
          clear c11
          by_cases c12 : (ji10) ≤ (a1.size : Int)
          · rw [if_pos c12] at H
            have c12b0 := eq_true c12
            have c12b1 : decide ((ji10) ≤ (a1.size : Int)) = true := decide_eq_true c12
            clear c12
            replace H := Option.bind_eq_some_iff.mp H
            obtain ⟨t142, A130, H⟩ := H
            replace H : (if t142.size + a2.size ≤ 9223372036854775807 then ((bytecode_String.f kj4 (t142 ++ a2)).bind fun bt143 => ((some (([a3] : List Int) : List Int)).bind fun y146 => (if 1 + (strOfNums y146).size ≤ 9223372036854775807 then (if 1 + (strOfNums y146).size + a2.size ≤ 9223372036854775807 then ((bytecode_String.f kj4 (((⟨#[13]⟩ : ByteArray) ++ (strOfNums y146)) ++ a2)).bind fun bt149 => ((platformfwref05_ReadString.f (((⟨#[13]⟩ : ByteArray) ++ (strOfNums y146)) ++ a2)).bind fun bt152 => ((platformfwlaw05_awake.f kj4).bind fun t155 => (if t155 = true then ((bytecode_AppendString.f a0 (a1.extract 0 ((ji10) : Int).toNat)).bind fun t156 => ((platformfwref05_String.f kj4 (a1.extract 0 ((ji10) : Int).toNat)).bind fun t157 => (if a0.size + t142.size ≤ 9223372036854775807 then (if t156.toList = (a0 ++ t142).toList then (if bt143.1.toList = (a1.extract 0 ((ji10) : Int).toNat).toList then (if bt143.2.1 = (wrap64 (((a1.extract 0 ((ji10) : Int).toNat).size : Int) + 2)) then (if bt143.2.2 = 0 then (if bt149.1.toList = bt152.1.toList then (if bt149.2.1 = bt152.2.1 then (some (bt149.2.2 == bt152.2.2)) else (some false)) else (some false)) else (some false)) else (some false)) else (some false)) else (some false)) else (none)))) else (some false))))) else (none)) else (none)))) else (none)) = some r := H
            have A13 := Aside0.mk A130
            clear A130
            by_cases c14 : t142.size + a2.size ≤ 9223372036854775807
            · rw [if_pos c14] at H
              have c14b0 := eq_true c14
              have c14b1 : decide (t142.size + a2.size ≤ 9223372036854775807) = true := decide_eq_true c14
              try have c14b2 : (9223372036854775807 < t142.size + a2.size) = False := eq_false (Nat.not_lt.2 c14)
              clear c14
              replace H := Option.bind_eq_some_iff.mp H
              obtain ⟨⟨t143, t144, t145⟩, A150, H⟩ := H
              replace H : ((some (([a3] : List Int) : List Int)).bind fun y146 => (if 1 + (strOfNums y146).size ≤ 9223372036854775807 then (if 1 + (strOfNums y146).size + a2.size ≤ 9223372036854775807 then ((bytecode_String.f kj4 (((⟨#[13]⟩ : ByteArray) ++ (strOfNums y146)) ++ a2)).bind fun bt149 => ((platformfwref05_ReadString.f (((⟨#[13]⟩ : ByteArray) ++ (strOfNums y146)) ++ a2)).bind fun bt152 => ((platformfwlaw05_awake.f kj4).bind fun t155 => (if t155 = true then ((bytecode_AppendString.f a0 (a1.extract 0 ((ji10) : Int).toNat)).bind fun t156 => ((platformfwref05_String.f kj4 (a1.extract 0 ((ji10) : Int).toNat)).bind fun t157 => (if a0.size + t142.size ≤ 9223372036854775807 then (if t156.toList = (a0 ++ t142).toList then (if t143.toList = (a1.extract 0 ((ji10) : Int).toNat).toList then (if t144 = (wrap64 (((a1.extract 0 ((ji10) : Int).toNat).size : Int) + 2)) then (if t145 = 0 then (if bt149.1.toList = bt152.1.toList then (if bt149.2.1 = bt152.2.1 then (some (bt149.2.2 == bt152.2.2)) else (some false)) else (some false)) else (some false)) else (some false)) else (some false)) else (some false)) else (none)))) else (some false))))) else (none)) else (none))) = some r := H
              have A15 := Aside0.mk A150
              clear A150
              obtain ⟨y146, hy146⟩ : ∃ y_ : List Int, y_ = (([a3] : List Int)) := ⟨_, rfl⟩
              replace H : (if 1 + (strOfNums y146).size ≤ 9223372036854775807 then (if 1 + (strOfNums y146).size + a2.size ≤ 9223372036854775807 then ((bytecode_String.f kj4 (((⟨#[13]⟩ : ByteArray) ++ (strOfNums y146)) ++ a2)).bind fun bt149 => ((platformfwref05_ReadString.f (((⟨#[13]⟩ : ByteArray) ++ (strOfNums y146)) ++ a2)).bind fun bt152 => ((platformfwlaw05_awake.f kj4).bind fun t155 => (if t155 = true then ((bytecode_AppendString.f a0 (a1.extract 0 ((ji10) : Int).toNat)).bind fun t156 => ((platformfwref05_String.f kj4 (a1.extract 0 ((ji10) : Int).toNat)).bind fun t157 => (if a0.size + t142.size ≤ 9223372036854775807 then (if t156.toList = (a0 ++ t142).toList then (if t143.toList = (a1.extract 0 ((ji10) : Int).toNat).toList then (if t144 = (wrap64 (((a1.extract 0 ((ji10) : Int).toNat).size : Int) + 2)) then (if t145 = 0 then (if bt149.1.toList = bt152.1.toList then (if bt149.2.1 = bt152.2.1 then (some (bt149.2.2 == bt152.2.2)) else (some false)) else (some false)) else (some false)) else (some false)) else (some false)) else (some false)) else (none)))) else (some false))))) else (none)) else (none)) = some r := by first | (rw [hy146]; with_reducible exact H) | (have H2_ := (Option.bind_some _ _).symm.trans H; rw [hy146]; with_reducible exact H2_) | (have H2_ := (Option.bind_some _ _).symm.trans H; with_reducible exact H2_) | with_reducible exact H | (rw [hy146]; exact H) | exact H
              have Ny146 := Aside0.mk hy146
              clear hy146
              by_cases c16 : 1 + (strOfNums y146).size ≤ 9223372036854775807
              · rw [if_pos c16] at H
                have c16b0 := eq_true c16
                have c16b1 : decide (1 + (strOfNums y146).size ≤ 9223372036854775807) = true := decide_eq_true c16
                try have c16b2 : (9223372036854775807 < 1 + (strOfNums y146).size) = False := eq_false (Nat.not_lt.2 c16)
                clear c16
                by_cases c17 : 1 + (strOfNums y146).size + a2.size ≤ 9223372036854775807
                · rw [if_pos c17] at H
                  have c17b0 := eq_true c17
                  have c17b1 : decide (1 + (strOfNums y146).size + a2.size ≤ 9223372036854775807) = true := decide_eq_true c17
                  try have c17b2 : (9223372036854775807 < 1 + (strOfNums y146).size + a2.size) = False := eq_false (Nat.not_lt.2 c17)
                  clear c17
                  replace H := Option.bind_eq_some_iff.mp H
                  obtain ⟨⟨t149, t150, t151⟩, A180, H⟩ := H
                  replace H : ((platformfwref05_ReadString.f (((⟨#[13]⟩ : ByteArray) ++ (strOfNums y146)) ++ a2)).bind fun bt152 => ((platformfwlaw05_awake.f kj4).bind fun t155 => (if t155 = true then ((bytecode_AppendString.f a0 (a1.extract 0 ((ji10) : Int).toNat)).bind fun t156 => ((platformfwref05_String.f kj4 (a1.extract 0 ((ji10) : Int).toNat)).bind fun t157 => (if a0.size + t142.size ≤ 9223372036854775807 then (if t156.toList = (a0 ++ t142).toList then (if t143.toList = (a1.extract 0 ((ji10) : Int).toNat).toList then (if t144 = (wrap64 (((a1.extract 0 ((ji10) : Int).toNat).size : Int) + 2)) then (if t145 = 0 then (if t149.toList = bt152.1.toList then (if t150 = bt152.2.1 then (some (t151 == bt152.2.2)) else (some false)) else (some false)) else (some false)) else (some false)) else (some false)) else (some false)) else (none)))) else (some false)))) = some r := H
                  have A18 := Aside0.mk A180
                  clear A180
                  replace H := Option.bind_eq_some_iff.mp H
                  obtain ⟨⟨t152, t153, t154⟩, A190, H⟩ := H
                  replace H : ((platformfwlaw05_awake.f kj4).bind fun t155 => (if t155 = true then ((bytecode_AppendString.f a0 (a1.extract 0 ((ji10) : Int).toNat)).bind fun t156 => ((platformfwref05_String.f kj4 (a1.extract 0 ((ji10) : Int).toNat)).bind fun t157 => (if a0.size + t142.size ≤ 9223372036854775807 then (if t156.toList = (a0 ++ t142).toList then (if t143.toList = (a1.extract 0 ((ji10) : Int).toNat).toList then (if t144 = (wrap64 (((a1.extract 0 ((ji10) : Int).toNat).size : Int) + 2)) then (if t145 = 0 then (if t149.toList = t152.toList then (if t150 = t153 then (some (t151 == t154)) else (some false)) else (some false)) else (some false)) else (some false)) else (some false)) else (some false)) else (none)))) else (some false))) = some r := H
                  have A19 := Aside0.mk A190
                  clear A190
                  replace H := Option.bind_eq_some_iff.mp H
                  obtain ⟨t155, A200, H⟩ := H
                  replace H : (if t155 = true then ((bytecode_AppendString.f a0 (a1.extract 0 ((ji10) : Int).toNat)).bind fun t156 => ((platformfwref05_String.f kj4 (a1.extract 0 ((ji10) : Int).toNat)).bind fun t157 => (if a0.size + t142.size ≤ 9223372036854775807 then (if t156.toList = (a0 ++ t142).toList then (if t143.toList = (a1.extract 0 ((ji10) : Int).toNat).toList then (if t144 = (wrap64 (((a1.extract 0 ((ji10) : Int).toNat).size : Int) + 2)) then (if t145 = 0 then (if t149.toList = t152.toList then (if t150 = t153 then (some (t151 == t154)) else (some false)) else (some false)) else (some false)) else (some false)) else (some false)) else (some false)) else (none)))) else (some false)) = some r := H
                  have A20 := Aside0.mk A200
                  clear A200
                  by_cases c21 : t155 = true
                  · subst c21
                    have H1 : ((bytecode_AppendString.f a0 (a1.extract 0 ((ji10) : Int).toNat)).bind fun t156 => ((platformfwref05_String.f kj4 (a1.extract 0 ((ji10) : Int).toNat)).bind fun t157 => (if a0.size + t142.size ≤ 9223372036854775807 then (if t156.toList = (a0 ++ t142).toList then (if t143.toList = (a1.extract 0 ((ji10) : Int).toNat).toList then (if t144 = (wrap64 (((a1.extract 0 ((ji10) : Int).toNat).size : Int) + 2)) then (if t145 = 0 then (if t149.toList = t152.toList then (if t150 = t153 then (some (t151 == t154)) else (some false)) else (some false)) else (some false)) else (some false)) else (some false)) else (some false)) else (none)))) = some r := by rw [if_pos rfl] at H; exact H
                    clear H
                    have H := H1
                    clear H1
                    replace H := Option.bind_eq_some_iff.mp H
                    obtain ⟨t156, A220, H⟩ := H
                    replace H : ((platformfwref05_String.f kj4 (a1.extract 0 ((ji10) : Int).toNat)).bind fun t157 => (if a0.size + t142.size ≤ 9223372036854775807 then (if t156.toList = (a0 ++ t142).toList then (if t143.toList = (a1.extract 0 ((ji10) : Int).toNat).toList then (if t144 = (wrap64 (((a1.extract 0 ((ji10) : Int).toNat).size : Int) + 2)) then (if t145 = 0 then (if t149.toList = t152.toList then (if t150 = t153 then (some (t151 == t154)) else (some false)) else (some false)) else (some false)) else (some false)) else (some false)) else (some false)) else (none))) = some r := H
                    have A22 := Aside0.mk A220
                    clear A220
                    replace H := Option.bind_eq_some_iff.mp H
                    obtain ⟨t157, A230, H⟩ := H
                    replace H : (if a0.size + t142.size ≤ 9223372036854775807 then (if t156.toList = (a0 ++ t142).toList then (if t143.toList = (a1.extract 0 ((ji10) : Int).toNat).toList then (if t144 = (wrap64 (((a1.extract 0 ((ji10) : Int).toNat).size : Int) + 2)) then (if t145 = 0 then (if t149.toList = t152.toList then (if t150 = t153 then (some (t151 == t154)) else (some false)) else (some false)) else (some false)) else (some false)) else (some false)) else (some false)) else (none)) = some r := H
                    have DA23 := Option.some.inj (A13.out.symm.trans A230)
                    obtain rfl := DA23
                    have A23 := Aside0.mk A230
                    clear A230
                    by_cases c24 : a0.size + t142.size ≤ 9223372036854775807
                    · rw [if_pos c24] at H
                      have c24b0 := eq_true c24
                      have c24b1 : decide (a0.size + t142.size ≤ 9223372036854775807) = true := decide_eq_true c24
                      try have c24b2 : (9223372036854775807 < a0.size + t142.size) = False := eq_false (Nat.not_lt.2 c24)
                      clear c24
                      by_cases c25 : t156.toList = (a0 ++ t142).toList
                      · rw [if_pos c25] at H
                        have c25b0 : (t156.toList == (a0 ++ t142).toList) = true := beq_iff_eq.mpr c25
                        have c25b1 : (t156.toList != (a0 ++ t142).toList) = false := bne_eq_false_iff_eq.mpr c25
                        clear c25
                        by_cases c26 : t143.toList = (a1.extract 0 ((ji10) : Int).toNat).toList
                        · rw [if_pos c26] at H
                          have c26b0 : (t143.toList == (a1.extract 0 ((ji10) : Int).toNat).toList) = true := beq_iff_eq.mpr c26
                          have c26b1 : (t143.toList != (a1.extract 0 ((ji10) : Int).toNat).toList) = false := bne_eq_false_iff_eq.mpr c26
                          clear c26
                          by_cases c27 : t144 = (wrap64 (((a1.extract 0 ((ji10) : Int).toNat).size : Int) + 2))
                          · rw [if_pos c27] at H
                            have c27b0 : (t144 == (wrap64 (((a1.extract 0 ((ji10) : Int).toNat).size : Int) + 2))) = true := beq_iff_eq.mpr c27
                            have c27b1 : (t144 != (wrap64 (((a1.extract 0 ((ji10) : Int).toNat).size : Int) + 2))) = false := bne_eq_false_iff_eq.mpr c27
                            clear c27
                            by_cases c28 : t145 = 0
                            · rw [if_pos c28] at H
                              have c28b0 : (t145 == 0) = true := beq_iff_eq.mpr c28
                              have c28b1 : (t145 != 0) = false := bne_eq_false_iff_eq.mpr c28
                              clear c28
                              by_cases c29 : t149.toList = t152.toList
                              · rw [if_pos c29] at H
                                have c29b0 : (t149.toList == t152.toList) = true := beq_iff_eq.mpr c29
                                have c29b1 : (t149.toList != t152.toList) = false := bne_eq_false_iff_eq.mpr c29
                                clear c29
                                by_cases c30 : t150 = t153
                                · rw [if_pos c30] at H
                                  have c30b0 : (t150 == t153) = true := beq_iff_eq.mpr c30
                                  have c30b1 : (t150 != t153) = false := bne_eq_false_iff_eq.mpr c30
                                  clear c30
                                  obtain rfl := Option.some.inj H
                                  go_wp2_with (first | ((with_reducible refine gate_callee (f := 40) rfl ?_); refine goesL_ (some 36) rfl rfl Try.func40 (by kernel_rfl) rfl #[.string (a1.extract 0 ((ji10) : Int).toNat)] rfl (by (try simp only [List.map_toArray, List.map_cons, List.map_nil]); first | done | (simp only [hji10]; rfl) | rfl | (simp only [List.length_drop, List.length_take]; rfl)) ?_; (with_reducible refine (platformfwref05_String.calls kj4 (a1.extract 0 ((ji10) : Int).toNat) t142 _ A13.out).mono ?_); rintro e w31 ⟨rfl, hb⟩; refine ⟨_, rfl, ?_⟩; have n0_ := Aside0.mk (below_step (by repeat (first | (with_reducible first | exact HB.out | apply below_alloc | apply pw_below_drewN | apply below_drew1) | exact HB.out)) hb); clear HB; have HB := n0_; clear n0_; (try clear hb); (try clear hb2); (try clear hk); (try clear hi)) | ((with_reducible refine gate_callee (f := 39) rfl ?_); refine goesL_ (some 39) rfl rfl Try.func39 (by kernel_rfl) rfl #[.string (t142 ++ a2)] rfl (by (try simp only [List.map_toArray, List.map_cons, List.map_nil]); first | done | rfl | (simp only [List.length_drop, List.length_take]; rfl)) ?_; (with_reducible refine (bytecode_String.calls kj4 (t142 ++ a2) t143 t144 t145 _ A15.out).mono ?_); rintro e w' ⟨rfl, ⟨nd, rfl⟩⟩; refine ⟨_, rfl, ?_⟩) | ((with_reducible refine gate_dst (N := 44) rfl ?_); (try (refine gate_guard (by rfl) ?_; dsimp only)); refine Kd.R_lit (Kd.int .u8) _ 5 ?hg (N := 44) ?hd (xs := ([a3] : List Int)) (inner := [.int .u8 a3]) (ok := fun _ => True) (okp := fun _ => True) ?hr ?hp (fun _ hk => hk) trivial (Below.refl _ _) (Nat.le_refl _) (by simp) ?_; (case hd => rfl); (case hg => rfl); (case hr => first | (go_simp; done) | (go_simp; rfl)); (case hp => exact (Reps.one (show Kd.M (Kd.int .u8) _ _ _ a3 [.int .u8 a3] from rfl) (Reps.none _ _))); intro v147 w32 ho33 hb hg_ hnew_; clear hg_ hnew_; (first | rw [← Ny146.out] at ho33 | (simp only [Int.reduceToNat] at ho33; rw [← Ny146.out] at ho33)); have n0_ := Aside0.mk (Kd.R_lower ho33 (below_size (by repeat (first | (with_reducible first | exact HB.out | apply below_alloc | apply pw_below_drewN | apply below_drew1) | exact HB.out)))); have n1_ := Aside0.mk (below_step (by repeat (first | (with_reducible first | exact HB.out | apply below_alloc | apply pw_below_drewN | apply below_drew1) | exact HB.out)) hb); clear HB; have HO148 := n0_; have HB := n1_; clear n0_ n1_; clear hb ho33; have hcv34 := own_string (P := Try.prog) Try.underlying63 Try.underlying5 Try.underlying9 (Kd.own_of_R HO148.out)) | ((with_reducible refine gate_callee (f := 39) rfl ?_); refine goesL_ (some 51) rfl rfl Try.func39 (by kernel_rfl) rfl #[.string (((⟨#[13]⟩ : ByteArray) ++ (strOfNums y146)) ++ a2)] rfl (by (try simp only [List.map_toArray, List.map_cons, List.map_nil]); first | done | rfl | (simp only [List.length_drop, List.length_take]; rfl)) ?_; (with_reducible refine (bytecode_String.calls kj4 (((⟨#[13]⟩ : ByteArray) ++ (strOfNums y146)) ++ a2) t149 t150 t151 _ A18.out).mono ?_); rintro e w' ⟨rfl, ⟨nd, rfl⟩⟩; refine ⟨_, rfl, ?_⟩) | ((with_reducible refine gate_callee (f := 41) rfl ?_); refine goesL_ (some 57) rfl rfl Try.func41 (by kernel_rfl) rfl #[.string (((⟨#[13]⟩ : ByteArray) ++ (strOfNums y146)) ++ a2)] rfl (by (try simp only [List.map_toArray, List.map_cons, List.map_nil]); first | done | rfl | (simp only [List.length_drop, List.length_take]; rfl)) ?_; (with_reducible refine (platformfwref05_ReadString.calls (((⟨#[13]⟩ : ByteArray) ++ (strOfNums y146)) ++ a2) t152 t153 t154 _ A19.out).mono ?_); rintro e w' ⟨rfl, ⟨nd, rfl⟩⟩; refine ⟨_, rfl, ?_⟩) | ((with_reducible refine gate_callee (f := 33) rfl ?_); refine goesL_ (some 61) rfl rfl Try.func33 (by kernel_rfl) rfl #[] rfl (by (try simp only [List.map_toArray, List.map_cons, List.map_nil]); first | done | rfl | (simp only [List.length_drop, List.length_take]; rfl)) ?_; (with_reducible refine (platformfwlaw05_awake.calls kj4  true _ A20.out).mono ?_); rintro e w35 ⟨rfl, hb⟩; refine ⟨_, rfl, ?_⟩; have n0_ := Aside0.mk (Kd.R_below (by (with_reducible repeat (first | apply Kd.R_alloc | apply Kd.R_drewN | apply Kd.R_drew)); exact HO148.out) hb); have n1_ := Aside0.mk (below_step (by repeat (first | (with_reducible first | exact HB.out | apply below_alloc | apply pw_below_drewN | apply below_drew1) | exact HB.out)) hb); clear HO148; clear HB; have HO148 := n0_; have HB := n1_; clear n0_ n1_; (try clear hb); (try clear hb2); (try clear hk); (try clear hi)) | (go_at_call 38; (with_reducible refine (bytecode_AppendString.calls a0 (a1.extract 0 ((ji10) : Int).toNat) t156 _ A22.out).mono ?_); rintro e w36 ⟨rfl, hb⟩; have n0_ := Aside0.mk (Kd.R_below (by (with_reducible repeat (first | apply Kd.R_alloc | apply Kd.R_drewN | apply Kd.R_drew)); exact HO148.out) hb); have n1_ := Aside0.mk (below_step (by repeat (first | (with_reducible first | exact HB.out | apply below_alloc | apply pw_below_drewN | apply below_drew1) | exact HB.out)) hb); clear HO148; clear HB; have HO148 := n0_; have HB := n1_; clear n0_ n1_; (try clear hb); (try clear hb2); (try clear hk); (try clear hi)) | (go_at_call 40; (with_reducible refine (platformfwref05_String.calls kj4 (a1.extract 0 ((ji10) : Int).toNat) t142 _ A23.out).mono ?_); rintro e w37 ⟨rfl, hb⟩; have n0_ := Aside0.mk (Kd.R_below (by (with_reducible repeat (first | apply Kd.R_alloc | apply Kd.R_drewN | apply Kd.R_drew)); exact HO148.out) hb); have n1_ := Aside0.mk (below_step (by repeat (first | (with_reducible first | exact HB.out | apply below_alloc | apply pw_below_drewN | apply below_drew1) | exact HB.out)) hb); clear HO148; clear HB; have HO148 := n0_; have HB := n1_; clear n0_ n1_; (try clear hb); (try clear hb2); (try clear hk); (try clear hi)))
                                  all_goals (try (exfalso; simp only [beq_iff_eq, bne_iff_ne, ne_eq, ByteArray.size_extract, decide_eq_true_eq, decide_eq_false_iff_not, beq_eq_false_iff_ne, bne_eq_false_iff_eq, eq_iff_iff, iff_true, iff_false] at *; unfold wrap64 at *; omega))
                                  go_ret
                                  exact ⟨by first | rfl | (simp [errW_none, errW_some] <;> rfl) | (simp only [← hji10]; first | rfl | (simp [errW_none, errW_some] <;> rfl)) | (simp [*, errW_none, errW_some] <;> rfl), by repeat (first | (with_reducible first | exact HB.out | apply below_alloc | apply pw_below_drewN | apply below_drew1) | exact HB.out)⟩
                                · rw [if_neg c30] at H
                                  have c30b0 : (t150 == t153) = false := beq_eq_false_iff_ne.mpr c30
                                  have c30b1 : (t150 != t153) = true := bne_iff_ne.mpr c30
                                  obtain rfl := Option.some.inj H
                                  go_wp2_with (first | ((with_reducible refine gate_callee (f := 40) rfl ?_); refine goesL_ (some 36) rfl rfl Try.func40 (by kernel_rfl) rfl #[.string (a1.extract 0 ((ji10) : Int).toNat)] rfl (by (try simp only [List.map_toArray, List.map_cons, List.map_nil]); first | done | (simp only [hji10]; rfl) | rfl | (simp only [List.length_drop, List.length_take]; rfl)) ?_; (with_reducible refine (platformfwref05_String.calls kj4 (a1.extract 0 ((ji10) : Int).toNat) t142 _ A13.out).mono ?_); rintro e w38 ⟨rfl, hb⟩; refine ⟨_, rfl, ?_⟩; have n0_ := Aside0.mk (below_step (by repeat (first | (with_reducible first | exact HB.out | apply below_alloc | apply pw_below_drewN | apply below_drew1) | exact HB.out)) hb); clear HB; have HB := n0_; clear n0_; (try clear hb); (try clear hb2); (try clear hk); (try clear hi)) | ((with_reducible refine gate_callee (f := 39) rfl ?_); refine goesL_ (some 39) rfl rfl Try.func39 (by kernel_rfl) rfl #[.string (t142 ++ a2)] rfl (by (try simp only [List.map_toArray, List.map_cons, List.map_nil]); first | done | rfl | (simp only [List.length_drop, List.length_take]; rfl)) ?_; (with_reducible refine (bytecode_String.calls kj4 (t142 ++ a2) t143 t144 t145 _ A15.out).mono ?_); rintro e w' ⟨rfl, ⟨nd, rfl⟩⟩; refine ⟨_, rfl, ?_⟩) | ((with_reducible refine gate_dst (N := 44) rfl ?_); (try (refine gate_guard (by rfl) ?_; dsimp only)); refine Kd.R_lit (Kd.int .u8) _ 5 ?hg (N := 44) ?hd (xs := ([a3] : List Int)) (inner := [.int .u8 a3]) (ok := fun _ => True) (okp := fun _ => True) ?hr ?hp (fun _ hk => hk) trivial (Below.refl _ _) (Nat.le_refl _) (by simp) ?_; (case hd => rfl); (case hg => rfl); (case hr => first | (go_simp; done) | (go_simp; rfl)); (case hp => exact (Reps.one (show Kd.M (Kd.int .u8) _ _ _ a3 [.int .u8 a3] from rfl) (Reps.none _ _))); intro v147 w39 ho40 hb hg_ hnew_; clear hg_ hnew_; (first | rw [← Ny146.out] at ho40 | (simp only [Int.reduceToNat] at ho40; rw [← Ny146.out] at ho40)); have n0_ := Aside0.mk (Kd.R_lower ho40 (below_size (by repeat (first | (with_reducible first | exact HB.out | apply below_alloc | apply pw_below_drewN | apply below_drew1) | exact HB.out)))); have n1_ := Aside0.mk (below_step (by repeat (first | (with_reducible first | exact HB.out | apply below_alloc | apply pw_below_drewN | apply below_drew1) | exact HB.out)) hb); clear HB; have HO148 := n0_; have HB := n1_; clear n0_ n1_; clear hb ho40; have hcv41 := own_string (P := Try.prog) Try.underlying63 Try.underlying5 Try.underlying9 (Kd.own_of_R HO148.out)) | ((with_reducible refine gate_callee (f := 39) rfl ?_); refine goesL_ (some 51) rfl rfl Try.func39 (by kernel_rfl) rfl #[.string (((⟨#[13]⟩ : ByteArray) ++ (strOfNums y146)) ++ a2)] rfl (by (try simp only [List.map_toArray, List.map_cons, List.map_nil]); first | done | rfl | (simp only [List.length_drop, List.length_take]; rfl)) ?_; (with_reducible refine (bytecode_String.calls kj4 (((⟨#[13]⟩ : ByteArray) ++ (strOfNums y146)) ++ a2) t149 t150 t151 _ A18.out).mono ?_); rintro e w' ⟨rfl, ⟨nd, rfl⟩⟩; refine ⟨_, rfl, ?_⟩) | ((with_reducible refine gate_callee (f := 41) rfl ?_); refine goesL_ (some 57) rfl rfl Try.func41 (by kernel_rfl) rfl #[.string (((⟨#[13]⟩ : ByteArray) ++ (strOfNums y146)) ++ a2)] rfl (by (try simp only [List.map_toArray, List.map_cons, List.map_nil]); first | done | rfl | (simp only [List.length_drop, List.length_take]; rfl)) ?_; (with_reducible refine (platformfwref05_ReadString.calls (((⟨#[13]⟩ : ByteArray) ++ (strOfNums y146)) ++ a2) t152 t153 t154 _ A19.out).mono ?_); rintro e w' ⟨rfl, ⟨nd, rfl⟩⟩; refine ⟨_, rfl, ?_⟩) | ((with_reducible refine gate_callee (f := 33) rfl ?_); refine goesL_ (some 61) rfl rfl Try.func33 (by kernel_rfl) rfl #[] rfl (by (try simp only [List.map_toArray, List.map_cons, List.map_nil]); first | done | rfl | (simp only [List.length_drop, List.length_take]; rfl)) ?_; (with_reducible refine (platformfwlaw05_awake.calls kj4  true _ A20.out).mono ?_); rintro e w42 ⟨rfl, hb⟩; refine ⟨_, rfl, ?_⟩; have n0_ := Aside0.mk (Kd.R_below (by (with_reducible repeat (first | apply Kd.R_alloc | apply Kd.R_drewN | apply Kd.R_drew)); exact HO148.out) hb); have n1_ := Aside0.mk (below_step (by repeat (first | (with_reducible first | exact HB.out | apply below_alloc | apply pw_below_drewN | apply below_drew1) | exact HB.out)) hb); clear HO148; clear HB; have HO148 := n0_; have HB := n1_; clear n0_ n1_; (try clear hb); (try clear hb2); (try clear hk); (try clear hi)) | (go_at_call 38; (with_reducible refine (bytecode_AppendString.calls a0 (a1.extract 0 ((ji10) : Int).toNat) t156 _ A22.out).mono ?_); rintro e w43 ⟨rfl, hb⟩; have n0_ := Aside0.mk (Kd.R_below (by (with_reducible repeat (first | apply Kd.R_alloc | apply Kd.R_drewN | apply Kd.R_drew)); exact HO148.out) hb); have n1_ := Aside0.mk (below_step (by repeat (first | (with_reducible first | exact HB.out | apply below_alloc | apply pw_below_drewN | apply below_drew1) | exact HB.out)) hb); clear HO148; clear HB; have HO148 := n0_; have HB := n1_; clear n0_ n1_; (try clear hb); (try clear hb2); (try clear hk); (try clear hi)) | (go_at_call 40; (with_reducible refine (platformfwref05_String.calls kj4 (a1.extract 0 ((ji10) : Int).toNat) t142 _ A23.out).mono ?_); rintro e w44 ⟨rfl, hb⟩; have n0_ := Aside0.mk (Kd.R_below (by (with_reducible repeat (first | apply Kd.R_alloc | apply Kd.R_drewN | apply Kd.R_drew)); exact HO148.out) hb); have n1_ := Aside0.mk (below_step (by repeat (first | (with_reducible first | exact HB.out | apply below_alloc | apply pw_below_drewN | apply below_drew1) | exact HB.out)) hb); clear HO148; clear HB; have HO148 := n0_; have HB := n1_; clear n0_ n1_; (try clear hb); (try clear hb2); (try clear hk); (try clear hi)))
                                  all_goals (try (exfalso; simp only [beq_iff_eq, bne_iff_ne, ne_eq, ByteArray.size_extract, decide_eq_true_eq, decide_eq_false_iff_not, beq_eq_false_iff_ne, bne_eq_false_iff_eq, eq_iff_iff, iff_true, iff_false] at *; unfold wrap64 at *; omega))
                                  go_ret
                                  exact ⟨by first | rfl | (simp [errW_none, errW_some] <;> rfl) | (simp only [← hji10]; first | rfl | (simp [errW_none, errW_some] <;> rfl)) | (simp [*, errW_none, errW_some] <;> rfl), by repeat (first | (with_reducible first | exact HB.out | apply below_alloc | apply pw_below_drewN | apply below_drew1) | exact HB.out)⟩
                              · rw [if_neg c29] at H
                                have c29b0 : (t149.toList == t152.toList) = false := beq_eq_false_iff_ne.mpr c29
                                have c29b1 : (t149.toList != t152.toList) = true := bne_iff_ne.mpr c29
                                obtain rfl := Option.some.inj H
                                go_wp2_with (first | ((with_reducible refine gate_callee (f := 40) rfl ?_); refine goesL_ (some 36) rfl rfl Try.func40 (by kernel_rfl) rfl #[.string (a1.extract 0 ((ji10) : Int).toNat)] rfl (by (try simp only [List.map_toArray, List.map_cons, List.map_nil]); first | done | (simp only [hji10]; rfl) | rfl | (simp only [List.length_drop, List.length_take]; rfl)) ?_; (with_reducible refine (platformfwref05_String.calls kj4 (a1.extract 0 ((ji10) : Int).toNat) t142 _ A13.out).mono ?_); rintro e w45 ⟨rfl, hb⟩; refine ⟨_, rfl, ?_⟩; have n0_ := Aside0.mk (below_step (by repeat (first | (with_reducible first | exact HB.out | apply below_alloc | apply pw_below_drewN | apply below_drew1) | exact HB.out)) hb); clear HB; have HB := n0_; clear n0_; (try clear hb); (try clear hb2); (try clear hk); (try clear hi)) | ((with_reducible refine gate_callee (f := 39) rfl ?_); refine goesL_ (some 39) rfl rfl Try.func39 (by kernel_rfl) rfl #[.string (t142 ++ a2)] rfl (by (try simp only [List.map_toArray, List.map_cons, List.map_nil]); first | done | rfl | (simp only [List.length_drop, List.length_take]; rfl)) ?_; (with_reducible refine (bytecode_String.calls kj4 (t142 ++ a2) t143 t144 t145 _ A15.out).mono ?_); rintro e w' ⟨rfl, ⟨nd, rfl⟩⟩; refine ⟨_, rfl, ?_⟩) | ((with_reducible refine gate_dst (N := 44) rfl ?_); (try (refine gate_guard (by rfl) ?_; dsimp only)); refine Kd.R_lit (Kd.int .u8) _ 5 ?hg (N := 44) ?hd (xs := ([a3] : List Int)) (inner := [.int .u8 a3]) (ok := fun _ => True) (okp := fun _ => True) ?hr ?hp (fun _ hk => hk) trivial (Below.refl _ _) (Nat.le_refl _) (by simp) ?_; (case hd => rfl); (case hg => rfl); (case hr => first | (go_simp; done) | (go_simp; rfl)); (case hp => exact (Reps.one (show Kd.M (Kd.int .u8) _ _ _ a3 [.int .u8 a3] from rfl) (Reps.none _ _))); intro v147 w46 ho47 hb hg_ hnew_; clear hg_ hnew_; (first | rw [← Ny146.out] at ho47 | (simp only [Int.reduceToNat] at ho47; rw [← Ny146.out] at ho47)); have n0_ := Aside0.mk (Kd.R_lower ho47 (below_size (by repeat (first | (with_reducible first | exact HB.out | apply below_alloc | apply pw_below_drewN | apply below_drew1) | exact HB.out)))); have n1_ := Aside0.mk (below_step (by repeat (first | (with_reducible first | exact HB.out | apply below_alloc | apply pw_below_drewN | apply below_drew1) | exact HB.out)) hb); clear HB; have HO148 := n0_; have HB := n1_; clear n0_ n1_; clear hb ho47; have hcv48 := own_string (P := Try.prog) Try.underlying63 Try.underlying5 Try.underlying9 (Kd.own_of_R HO148.out)) | ((with_reducible refine gate_callee (f := 39) rfl ?_); refine goesL_ (some 51) rfl rfl Try.func39 (by kernel_rfl) rfl #[.string (((⟨#[13]⟩ : ByteArray) ++ (strOfNums y146)) ++ a2)] rfl (by (try simp only [List.map_toArray, List.map_cons, List.map_nil]); first | done | rfl | (simp only [List.length_drop, List.length_take]; rfl)) ?_; (with_reducible refine (bytecode_String.calls kj4 (((⟨#[13]⟩ : ByteArray) ++ (strOfNums y146)) ++ a2) t149 t150 t151 _ A18.out).mono ?_); rintro e w' ⟨rfl, ⟨nd, rfl⟩⟩; refine ⟨_, rfl, ?_⟩) | ((with_reducible refine gate_callee (f := 41) rfl ?_); refine goesL_ (some 57) rfl rfl Try.func41 (by kernel_rfl) rfl #[.string (((⟨#[13]⟩ : ByteArray) ++ (strOfNums y146)) ++ a2)] rfl (by (try simp only [List.map_toArray, List.map_cons, List.map_nil]); first | done | rfl | (simp only [List.length_drop, List.length_take]; rfl)) ?_; (with_reducible refine (platformfwref05_ReadString.calls (((⟨#[13]⟩ : ByteArray) ++ (strOfNums y146)) ++ a2) t152 t153 t154 _ A19.out).mono ?_); rintro e w' ⟨rfl, ⟨nd, rfl⟩⟩; refine ⟨_, rfl, ?_⟩) | ((with_reducible refine gate_callee (f := 33) rfl ?_); refine goesL_ (some 61) rfl rfl Try.func33 (by kernel_rfl) rfl #[] rfl (by (try simp only [List.map_toArray, List.map_cons, List.map_nil]); first | done | rfl | (simp only [List.length_drop, List.length_take]; rfl)) ?_; (with_reducible refine (platformfwlaw05_awake.calls kj4  true _ A20.out).mono ?_); rintro e w49 ⟨rfl, hb⟩; refine ⟨_, rfl, ?_⟩; have n0_ := Aside0.mk (Kd.R_below (by (with_reducible repeat (first | apply Kd.R_alloc | apply Kd.R_drewN | apply Kd.R_drew)); exact HO148.out) hb); have n1_ := Aside0.mk (below_step (by repeat (first | (with_reducible first | exact HB.out | apply below_alloc | apply pw_below_drewN | apply below_drew1) | exact HB.out)) hb); clear HO148; clear HB; have HO148 := n0_; have HB := n1_; clear n0_ n1_; (try clear hb); (try clear hb2); (try clear hk); (try clear hi)) | (go_at_call 38; (with_reducible refine (bytecode_AppendString.calls a0 (a1.extract 0 ((ji10) : Int).toNat) t156 _ A22.out).mono ?_); rintro e w50 ⟨rfl, hb⟩; have n0_ := Aside0.mk (Kd.R_below (by (with_reducible repeat (first | apply Kd.R_alloc | apply Kd.R_drewN | apply Kd.R_drew)); exact HO148.out) hb); have n1_ := Aside0.mk (below_step (by repeat (first | (with_reducible first | exact HB.out | apply below_alloc | apply pw_below_drewN | apply below_drew1) | exact HB.out)) hb); clear HO148; clear HB; have HO148 := n0_; have HB := n1_; clear n0_ n1_; (try clear hb); (try clear hb2); (try clear hk); (try clear hi)) | (go_at_call 40; (with_reducible refine (platformfwref05_String.calls kj4 (a1.extract 0 ((ji10) : Int).toNat) t142 _ A23.out).mono ?_); rintro e w51 ⟨rfl, hb⟩; have n0_ := Aside0.mk (Kd.R_below (by (with_reducible repeat (first | apply Kd.R_alloc | apply Kd.R_drewN | apply Kd.R_drew)); exact HO148.out) hb); have n1_ := Aside0.mk (below_step (by repeat (first | (with_reducible first | exact HB.out | apply below_alloc | apply pw_below_drewN | apply below_drew1) | exact HB.out)) hb); clear HO148; clear HB; have HO148 := n0_; have HB := n1_; clear n0_ n1_; (try clear hb); (try clear hb2); (try clear hk); (try clear hi)))
                                all_goals (try (exfalso; simp only [beq_iff_eq, bne_iff_ne, ne_eq, ByteArray.size_extract, decide_eq_true_eq, decide_eq_false_iff_not, beq_eq_false_iff_ne, bne_eq_false_iff_eq, eq_iff_iff, iff_true, iff_false] at *; unfold wrap64 at *; omega))
                                go_ret
                                exact ⟨by first | rfl | (simp [errW_none, errW_some] <;> rfl) | (simp only [← hji10]; first | rfl | (simp [errW_none, errW_some] <;> rfl)) | (simp [*, errW_none, errW_some] <;> rfl), by repeat (first | (with_reducible first | exact HB.out | apply below_alloc | apply pw_below_drewN | apply below_drew1) | exact HB.out)⟩
                            · rw [if_neg c28] at H
                              have c28b0 : (t145 == 0) = false := beq_eq_false_iff_ne.mpr c28
                              have c28b1 : (t145 != 0) = true := bne_iff_ne.mpr c28
                              obtain rfl := Option.some.inj H
                              go_wp2_with (first | ((with_reducible refine gate_callee (f := 40) rfl ?_); refine goesL_ (some 36) rfl rfl Try.func40 (by kernel_rfl) rfl #[.string (a1.extract 0 ((ji10) : Int).toNat)] rfl (by (try simp only [List.map_toArray, List.map_cons, List.map_nil]); first | done | (simp only [hji10]; rfl) | rfl | (simp only [List.length_drop, List.length_take]; rfl)) ?_; (with_reducible refine (platformfwref05_String.calls kj4 (a1.extract 0 ((ji10) : Int).toNat) t142 _ A13.out).mono ?_); rintro e w52 ⟨rfl, hb⟩; refine ⟨_, rfl, ?_⟩; have n0_ := Aside0.mk (below_step (by repeat (first | (with_reducible first | exact HB.out | apply below_alloc | apply pw_below_drewN | apply below_drew1) | exact HB.out)) hb); clear HB; have HB := n0_; clear n0_; (try clear hb); (try clear hb2); (try clear hk); (try clear hi)) | ((with_reducible refine gate_callee (f := 39) rfl ?_); refine goesL_ (some 39) rfl rfl Try.func39 (by kernel_rfl) rfl #[.string (t142 ++ a2)] rfl (by (try simp only [List.map_toArray, List.map_cons, List.map_nil]); first | done | rfl | (simp only [List.length_drop, List.length_take]; rfl)) ?_; (with_reducible refine (bytecode_String.calls kj4 (t142 ++ a2) t143 t144 t145 _ A15.out).mono ?_); rintro e w' ⟨rfl, ⟨nd, rfl⟩⟩; refine ⟨_, rfl, ?_⟩) | ((with_reducible refine gate_dst (N := 44) rfl ?_); (try (refine gate_guard (by rfl) ?_; dsimp only)); refine Kd.R_lit (Kd.int .u8) _ 5 ?hg (N := 44) ?hd (xs := ([a3] : List Int)) (inner := [.int .u8 a3]) (ok := fun _ => True) (okp := fun _ => True) ?hr ?hp (fun _ hk => hk) trivial (Below.refl _ _) (Nat.le_refl _) (by simp) ?_; (case hd => rfl); (case hg => rfl); (case hr => first | (go_simp; done) | (go_simp; rfl)); (case hp => exact (Reps.one (show Kd.M (Kd.int .u8) _ _ _ a3 [.int .u8 a3] from rfl) (Reps.none _ _))); intro v147 w53 ho54 hb hg_ hnew_; clear hg_ hnew_; (first | rw [← Ny146.out] at ho54 | (simp only [Int.reduceToNat] at ho54; rw [← Ny146.out] at ho54)); have n0_ := Aside0.mk (Kd.R_lower ho54 (below_size (by repeat (first | (with_reducible first | exact HB.out | apply below_alloc | apply pw_below_drewN | apply below_drew1) | exact HB.out)))); have n1_ := Aside0.mk (below_step (by repeat (first | (with_reducible first | exact HB.out | apply below_alloc | apply pw_below_drewN | apply below_drew1) | exact HB.out)) hb); clear HB; have HO148 := n0_; have HB := n1_; clear n0_ n1_; clear hb ho54; have hcv55 := own_string (P := Try.prog) Try.underlying63 Try.underlying5 Try.underlying9 (Kd.own_of_R HO148.out)) | ((with_reducible refine gate_callee (f := 39) rfl ?_); refine goesL_ (some 51) rfl rfl Try.func39 (by kernel_rfl) rfl #[.string (((⟨#[13]⟩ : ByteArray) ++ (strOfNums y146)) ++ a2)] rfl (by (try simp only [List.map_toArray, List.map_cons, List.map_nil]); first | done | rfl | (simp only [List.length_drop, List.length_take]; rfl)) ?_; (with_reducible refine (bytecode_String.calls kj4 (((⟨#[13]⟩ : ByteArray) ++ (strOfNums y146)) ++ a2) t149 t150 t151 _ A18.out).mono ?_); rintro e w' ⟨rfl, ⟨nd, rfl⟩⟩; refine ⟨_, rfl, ?_⟩) | ((with_reducible refine gate_callee (f := 41) rfl ?_); refine goesL_ (some 57) rfl rfl Try.func41 (by kernel_rfl) rfl #[.string (((⟨#[13]⟩ : ByteArray) ++ (strOfNums y146)) ++ a2)] rfl (by (try simp only [List.map_toArray, List.map_cons, List.map_nil]); first | done | rfl | (simp only [List.length_drop, List.length_take]; rfl)) ?_; (with_reducible refine (platformfwref05_ReadString.calls (((⟨#[13]⟩ : ByteArray) ++ (strOfNums y146)) ++ a2) t152 t153 t154 _ A19.out).mono ?_); rintro e w' ⟨rfl, ⟨nd, rfl⟩⟩; refine ⟨_, rfl, ?_⟩) | ((with_reducible refine gate_callee (f := 33) rfl ?_); refine goesL_ (some 61) rfl rfl Try.func33 (by kernel_rfl) rfl #[] rfl (by (try simp only [List.map_toArray, List.map_cons, List.map_nil]); first | done | rfl | (simp only [List.length_drop, List.length_take]; rfl)) ?_; (with_reducible refine (platformfwlaw05_awake.calls kj4  true _ A20.out).mono ?_); rintro e w56 ⟨rfl, hb⟩; refine ⟨_, rfl, ?_⟩; have n0_ := Aside0.mk (Kd.R_below (by (with_reducible repeat (first | apply Kd.R_alloc | apply Kd.R_drewN | apply Kd.R_drew)); exact HO148.out) hb); have n1_ := Aside0.mk (below_step (by repeat (first | (with_reducible first | exact HB.out | apply below_alloc | apply pw_below_drewN | apply below_drew1) | exact HB.out)) hb); clear HO148; clear HB; have HO148 := n0_; have HB := n1_; clear n0_ n1_; (try clear hb); (try clear hb2); (try clear hk); (try clear hi)) | (go_at_call 38; (with_reducible refine (bytecode_AppendString.calls a0 (a1.extract 0 ((ji10) : Int).toNat) t156 _ A22.out).mono ?_); rintro e w57 ⟨rfl, hb⟩; have n0_ := Aside0.mk (Kd.R_below (by (with_reducible repeat (first | apply Kd.R_alloc | apply Kd.R_drewN | apply Kd.R_drew)); exact HO148.out) hb); have n1_ := Aside0.mk (below_step (by repeat (first | (with_reducible first | exact HB.out | apply below_alloc | apply pw_below_drewN | apply below_drew1) | exact HB.out)) hb); clear HO148; clear HB; have HO148 := n0_; have HB := n1_; clear n0_ n1_; (try clear hb); (try clear hb2); (try clear hk); (try clear hi)) | (go_at_call 40; (with_reducible refine (platformfwref05_String.calls kj4 (a1.extract 0 ((ji10) : Int).toNat) t142 _ A23.out).mono ?_); rintro e w58 ⟨rfl, hb⟩; have n0_ := Aside0.mk (Kd.R_below (by (with_reducible repeat (first | apply Kd.R_alloc | apply Kd.R_drewN | apply Kd.R_drew)); exact HO148.out) hb); have n1_ := Aside0.mk (below_step (by repeat (first | (with_reducible first | exact HB.out | apply below_alloc | apply pw_below_drewN | apply below_drew1) | exact HB.out)) hb); clear HO148; clear HB; have HO148 := n0_; have HB := n1_; clear n0_ n1_; (try clear hb); (try clear hb2); (try clear hk); (try clear hi)))
                              all_goals (try (exfalso; simp only [beq_iff_eq, bne_iff_ne, ne_eq, ByteArray.size_extract, decide_eq_true_eq, decide_eq_false_iff_not, beq_eq_false_iff_ne, bne_eq_false_iff_eq, eq_iff_iff, iff_true, iff_false] at *; unfold wrap64 at *; omega))
                              go_ret
                              exact ⟨by first | rfl | (simp [errW_none, errW_some] <;> rfl) | (simp only [← hji10]; first | rfl | (simp [errW_none, errW_some] <;> rfl)) | (simp [*, errW_none, errW_some] <;> rfl), by repeat (first | (with_reducible first | exact HB.out | apply below_alloc | apply pw_below_drewN | apply below_drew1) | exact HB.out)⟩
                          · rw [if_neg c27] at H
                            have c27b0 : (t144 == (wrap64 (((a1.extract 0 ((ji10) : Int).toNat).size : Int) + 2))) = false := beq_eq_false_iff_ne.mpr c27
                            have c27b1 : (t144 != (wrap64 (((a1.extract 0 ((ji10) : Int).toNat).size : Int) + 2))) = true := bne_iff_ne.mpr c27
                            obtain rfl := Option.some.inj H
                            go_wp2_with (first | ((with_reducible refine gate_callee (f := 40) rfl ?_); refine goesL_ (some 36) rfl rfl Try.func40 (by kernel_rfl) rfl #[.string (a1.extract 0 ((ji10) : Int).toNat)] rfl (by (try simp only [List.map_toArray, List.map_cons, List.map_nil]); first | done | (simp only [hji10]; rfl) | rfl | (simp only [List.length_drop, List.length_take]; rfl)) ?_; (with_reducible refine (platformfwref05_String.calls kj4 (a1.extract 0 ((ji10) : Int).toNat) t142 _ A13.out).mono ?_); rintro e w59 ⟨rfl, hb⟩; refine ⟨_, rfl, ?_⟩; have n0_ := Aside0.mk (below_step (by repeat (first | (with_reducible first | exact HB.out | apply below_alloc | apply pw_below_drewN | apply below_drew1) | exact HB.out)) hb); clear HB; have HB := n0_; clear n0_; (try clear hb); (try clear hb2); (try clear hk); (try clear hi)) | ((with_reducible refine gate_callee (f := 39) rfl ?_); refine goesL_ (some 39) rfl rfl Try.func39 (by kernel_rfl) rfl #[.string (t142 ++ a2)] rfl (by (try simp only [List.map_toArray, List.map_cons, List.map_nil]); first | done | rfl | (simp only [List.length_drop, List.length_take]; rfl)) ?_; (with_reducible refine (bytecode_String.calls kj4 (t142 ++ a2) t143 t144 t145 _ A15.out).mono ?_); rintro e w' ⟨rfl, ⟨nd, rfl⟩⟩; refine ⟨_, rfl, ?_⟩) | ((with_reducible refine gate_dst (N := 44) rfl ?_); (try (refine gate_guard (by rfl) ?_; dsimp only)); refine Kd.R_lit (Kd.int .u8) _ 5 ?hg (N := 44) ?hd (xs := ([a3] : List Int)) (inner := [.int .u8 a3]) (ok := fun _ => True) (okp := fun _ => True) ?hr ?hp (fun _ hk => hk) trivial (Below.refl _ _) (Nat.le_refl _) (by simp) ?_; (case hd => rfl); (case hg => rfl); (case hr => first | (go_simp; done) | (go_simp; rfl)); (case hp => exact (Reps.one (show Kd.M (Kd.int .u8) _ _ _ a3 [.int .u8 a3] from rfl) (Reps.none _ _))); intro v147 w60 ho61 hb hg_ hnew_; clear hg_ hnew_; (first | rw [← Ny146.out] at ho61 | (simp only [Int.reduceToNat] at ho61; rw [← Ny146.out] at ho61)); have n0_ := Aside0.mk (Kd.R_lower ho61 (below_size (by repeat (first | (with_reducible first | exact HB.out | apply below_alloc | apply pw_below_drewN | apply below_drew1) | exact HB.out)))); have n1_ := Aside0.mk (below_step (by repeat (first | (with_reducible first | exact HB.out | apply below_alloc | apply pw_below_drewN | apply below_drew1) | exact HB.out)) hb); clear HB; have HO148 := n0_; have HB := n1_; clear n0_ n1_; clear hb ho61; have hcv62 := own_string (P := Try.prog) Try.underlying63 Try.underlying5 Try.underlying9 (Kd.own_of_R HO148.out)) | ((with_reducible refine gate_callee (f := 39) rfl ?_); refine goesL_ (some 51) rfl rfl Try.func39 (by kernel_rfl) rfl #[.string (((⟨#[13]⟩ : ByteArray) ++ (strOfNums y146)) ++ a2)] rfl (by (try simp only [List.map_toArray, List.map_cons, List.map_nil]); first | done | rfl | (simp only [List.length_drop, List.length_take]; rfl)) ?_; (with_reducible refine (bytecode_String.calls kj4 (((⟨#[13]⟩ : ByteArray) ++ (strOfNums y146)) ++ a2) t149 t150 t151 _ A18.out).mono ?_); rintro e w' ⟨rfl, ⟨nd, rfl⟩⟩; refine ⟨_, rfl, ?_⟩) | ((with_reducible refine gate_callee (f := 41) rfl ?_); refine goesL_ (some 57) rfl rfl Try.func41 (by kernel_rfl) rfl #[.string (((⟨#[13]⟩ : ByteArray) ++ (strOfNums y146)) ++ a2)] rfl (by (try simp only [List.map_toArray, List.map_cons, List.map_nil]); first | done | rfl | (simp only [List.length_drop, List.length_take]; rfl)) ?_; (with_reducible refine (platformfwref05_ReadString.calls (((⟨#[13]⟩ : ByteArray) ++ (strOfNums y146)) ++ a2) t152 t153 t154 _ A19.out).mono ?_); rintro e w' ⟨rfl, ⟨nd, rfl⟩⟩; refine ⟨_, rfl, ?_⟩) | ((with_reducible refine gate_callee (f := 33) rfl ?_); refine goesL_ (some 61) rfl rfl Try.func33 (by kernel_rfl) rfl #[] rfl (by (try simp only [List.map_toArray, List.map_cons, List.map_nil]); first | done | rfl | (simp only [List.length_drop, List.length_take]; rfl)) ?_; (with_reducible refine (platformfwlaw05_awake.calls kj4  true _ A20.out).mono ?_); rintro e w63 ⟨rfl, hb⟩; refine ⟨_, rfl, ?_⟩; have n0_ := Aside0.mk (Kd.R_below (by (with_reducible repeat (first | apply Kd.R_alloc | apply Kd.R_drewN | apply Kd.R_drew)); exact HO148.out) hb); have n1_ := Aside0.mk (below_step (by repeat (first | (with_reducible first | exact HB.out | apply below_alloc | apply pw_below_drewN | apply below_drew1) | exact HB.out)) hb); clear HO148; clear HB; have HO148 := n0_; have HB := n1_; clear n0_ n1_; (try clear hb); (try clear hb2); (try clear hk); (try clear hi)) | (go_at_call 38; (with_reducible refine (bytecode_AppendString.calls a0 (a1.extract 0 ((ji10) : Int).toNat) t156 _ A22.out).mono ?_); rintro e w64 ⟨rfl, hb⟩; have n0_ := Aside0.mk (Kd.R_below (by (with_reducible repeat (first | apply Kd.R_alloc | apply Kd.R_drewN | apply Kd.R_drew)); exact HO148.out) hb); have n1_ := Aside0.mk (below_step (by repeat (first | (with_reducible first | exact HB.out | apply below_alloc | apply pw_below_drewN | apply below_drew1) | exact HB.out)) hb); clear HO148; clear HB; have HO148 := n0_; have HB := n1_; clear n0_ n1_; (try clear hb); (try clear hb2); (try clear hk); (try clear hi)) | (go_at_call 40; (with_reducible refine (platformfwref05_String.calls kj4 (a1.extract 0 ((ji10) : Int).toNat) t142 _ A23.out).mono ?_); rintro e w65 ⟨rfl, hb⟩; have n0_ := Aside0.mk (Kd.R_below (by (with_reducible repeat (first | apply Kd.R_alloc | apply Kd.R_drewN | apply Kd.R_drew)); exact HO148.out) hb); have n1_ := Aside0.mk (below_step (by repeat (first | (with_reducible first | exact HB.out | apply below_alloc | apply pw_below_drewN | apply below_drew1) | exact HB.out)) hb); clear HO148; clear HB; have HO148 := n0_; have HB := n1_; clear n0_ n1_; (try clear hb); (try clear hb2); (try clear hk); (try clear hi)))
                            all_goals (try (exfalso; simp only [beq_iff_eq, bne_iff_ne, ne_eq, ByteArray.size_extract, decide_eq_true_eq, decide_eq_false_iff_not, beq_eq_false_iff_ne, bne_eq_false_iff_eq, eq_iff_iff, iff_true, iff_false] at *; unfold wrap64 at *; omega))
                            go_ret
                            exact ⟨by first | rfl | (simp [errW_none, errW_some] <;> rfl) | (simp only [← hji10]; first | rfl | (simp [errW_none, errW_some] <;> rfl)) | (simp [*, errW_none, errW_some] <;> rfl), by repeat (first | (with_reducible first | exact HB.out | apply below_alloc | apply pw_below_drewN | apply below_drew1) | exact HB.out)⟩
                        · rw [if_neg c26] at H
                          have c26b0 : (t143.toList == (a1.extract 0 ((ji10) : Int).toNat).toList) = false := beq_eq_false_iff_ne.mpr c26
                          have c26b1 : (t143.toList != (a1.extract 0 ((ji10) : Int).toNat).toList) = true := bne_iff_ne.mpr c26
                          obtain rfl := Option.some.inj H
                          go_wp2_with (first | ((with_reducible refine gate_callee (f := 40) rfl ?_); refine goesL_ (some 36) rfl rfl Try.func40 (by kernel_rfl) rfl #[.string (a1.extract 0 ((ji10) : Int).toNat)] rfl (by (try simp only [List.map_toArray, List.map_cons, List.map_nil]); first | done | (simp only [hji10]; rfl) | rfl | (simp only [List.length_drop, List.length_take]; rfl)) ?_; (with_reducible refine (platformfwref05_String.calls kj4 (a1.extract 0 ((ji10) : Int).toNat) t142 _ A13.out).mono ?_); rintro e w66 ⟨rfl, hb⟩; refine ⟨_, rfl, ?_⟩; have n0_ := Aside0.mk (below_step (by repeat (first | (with_reducible first | exact HB.out | apply below_alloc | apply pw_below_drewN | apply below_drew1) | exact HB.out)) hb); clear HB; have HB := n0_; clear n0_; (try clear hb); (try clear hb2); (try clear hk); (try clear hi)) | ((with_reducible refine gate_callee (f := 39) rfl ?_); refine goesL_ (some 39) rfl rfl Try.func39 (by kernel_rfl) rfl #[.string (t142 ++ a2)] rfl (by (try simp only [List.map_toArray, List.map_cons, List.map_nil]); first | done | rfl | (simp only [List.length_drop, List.length_take]; rfl)) ?_; (with_reducible refine (bytecode_String.calls kj4 (t142 ++ a2) t143 t144 t145 _ A15.out).mono ?_); rintro e w' ⟨rfl, ⟨nd, rfl⟩⟩; refine ⟨_, rfl, ?_⟩) | ((with_reducible refine gate_dst (N := 44) rfl ?_); (try (refine gate_guard (by rfl) ?_; dsimp only)); refine Kd.R_lit (Kd.int .u8) _ 5 ?hg (N := 44) ?hd (xs := ([a3] : List Int)) (inner := [.int .u8 a3]) (ok := fun _ => True) (okp := fun _ => True) ?hr ?hp (fun _ hk => hk) trivial (Below.refl _ _) (Nat.le_refl _) (by simp) ?_; (case hd => rfl); (case hg => rfl); (case hr => first | (go_simp; done) | (go_simp; rfl)); (case hp => exact (Reps.one (show Kd.M (Kd.int .u8) _ _ _ a3 [.int .u8 a3] from rfl) (Reps.none _ _))); intro v147 w67 ho68 hb hg_ hnew_; clear hg_ hnew_; (first | rw [← Ny146.out] at ho68 | (simp only [Int.reduceToNat] at ho68; rw [← Ny146.out] at ho68)); have n0_ := Aside0.mk (Kd.R_lower ho68 (below_size (by repeat (first | (with_reducible first | exact HB.out | apply below_alloc | apply pw_below_drewN | apply below_drew1) | exact HB.out)))); have n1_ := Aside0.mk (below_step (by repeat (first | (with_reducible first | exact HB.out | apply below_alloc | apply pw_below_drewN | apply below_drew1) | exact HB.out)) hb); clear HB; have HO148 := n0_; have HB := n1_; clear n0_ n1_; clear hb ho68; have hcv69 := own_string (P := Try.prog) Try.underlying63 Try.underlying5 Try.underlying9 (Kd.own_of_R HO148.out)) | ((with_reducible refine gate_callee (f := 39) rfl ?_); refine goesL_ (some 51) rfl rfl Try.func39 (by kernel_rfl) rfl #[.string (((⟨#[13]⟩ : ByteArray) ++ (strOfNums y146)) ++ a2)] rfl (by (try simp only [List.map_toArray, List.map_cons, List.map_nil]); first | done | rfl | (simp only [List.length_drop, List.length_take]; rfl)) ?_; (with_reducible refine (bytecode_String.calls kj4 (((⟨#[13]⟩ : ByteArray) ++ (strOfNums y146)) ++ a2) t149 t150 t151 _ A18.out).mono ?_); rintro e w' ⟨rfl, ⟨nd, rfl⟩⟩; refine ⟨_, rfl, ?_⟩) | ((with_reducible refine gate_callee (f := 41) rfl ?_); refine goesL_ (some 57) rfl rfl Try.func41 (by kernel_rfl) rfl #[.string (((⟨#[13]⟩ : ByteArray) ++ (strOfNums y146)) ++ a2)] rfl (by (try simp only [List.map_toArray, List.map_cons, List.map_nil]); first | done | rfl | (simp only [List.length_drop, List.length_take]; rfl)) ?_; (with_reducible refine (platformfwref05_ReadString.calls (((⟨#[13]⟩ : ByteArray) ++ (strOfNums y146)) ++ a2) t152 t153 t154 _ A19.out).mono ?_); rintro e w' ⟨rfl, ⟨nd, rfl⟩⟩; refine ⟨_, rfl, ?_⟩) | ((with_reducible refine gate_callee (f := 33) rfl ?_); refine goesL_ (some 61) rfl rfl Try.func33 (by kernel_rfl) rfl #[] rfl (by (try simp only [List.map_toArray, List.map_cons, List.map_nil]); first | done | rfl | (simp only [List.length_drop, List.length_take]; rfl)) ?_; (with_reducible refine (platformfwlaw05_awake.calls kj4  true _ A20.out).mono ?_); rintro e w70 ⟨rfl, hb⟩; refine ⟨_, rfl, ?_⟩; have n0_ := Aside0.mk (Kd.R_below (by (with_reducible repeat (first | apply Kd.R_alloc | apply Kd.R_drewN | apply Kd.R_drew)); exact HO148.out) hb); have n1_ := Aside0.mk (below_step (by repeat (first | (with_reducible first | exact HB.out | apply below_alloc | apply pw_below_drewN | apply below_drew1) | exact HB.out)) hb); clear HO148; clear HB; have HO148 := n0_; have HB := n1_; clear n0_ n1_; (try clear hb); (try clear hb2); (try clear hk); (try clear hi)) | (go_at_call 38; (with_reducible refine (bytecode_AppendString.calls a0 (a1.extract 0 ((ji10) : Int).toNat) t156 _ A22.out).mono ?_); rintro e w71 ⟨rfl, hb⟩; have n0_ := Aside0.mk (Kd.R_below (by (with_reducible repeat (first | apply Kd.R_alloc | apply Kd.R_drewN | apply Kd.R_drew)); exact HO148.out) hb); have n1_ := Aside0.mk (below_step (by repeat (first | (with_reducible first | exact HB.out | apply below_alloc | apply pw_below_drewN | apply below_drew1) | exact HB.out)) hb); clear HO148; clear HB; have HO148 := n0_; have HB := n1_; clear n0_ n1_; (try clear hb); (try clear hb2); (try clear hk); (try clear hi)) | (go_at_call 40; (with_reducible refine (platformfwref05_String.calls kj4 (a1.extract 0 ((ji10) : Int).toNat) t142 _ A23.out).mono ?_); rintro e w72 ⟨rfl, hb⟩; have n0_ := Aside0.mk (Kd.R_below (by (with_reducible repeat (first | apply Kd.R_alloc | apply Kd.R_drewN | apply Kd.R_drew)); exact HO148.out) hb); have n1_ := Aside0.mk (below_step (by repeat (first | (with_reducible first | exact HB.out | apply below_alloc | apply pw_below_drewN | apply below_drew1) | exact HB.out)) hb); clear HO148; clear HB; have HO148 := n0_; have HB := n1_; clear n0_ n1_; (try clear hb); (try clear hb2); (try clear hk); (try clear hi)))
                          all_goals (try (exfalso; simp only [beq_iff_eq, bne_iff_ne, ne_eq, ByteArray.size_extract, decide_eq_true_eq, decide_eq_false_iff_not, beq_eq_false_iff_ne, bne_eq_false_iff_eq, eq_iff_iff, iff_true, iff_false] at *; unfold wrap64 at *; omega))
                          go_ret
                          exact ⟨by first | rfl | (simp [errW_none, errW_some] <;> rfl) | (simp only [← hji10]; first | rfl | (simp [errW_none, errW_some] <;> rfl)) | (simp [*, errW_none, errW_some] <;> rfl), by repeat (first | (with_reducible first | exact HB.out | apply below_alloc | apply pw_below_drewN | apply below_drew1) | exact HB.out)⟩
                      · rw [if_neg c25] at H
                        have c25b0 : (t156.toList == (a0 ++ t142).toList) = false := beq_eq_false_iff_ne.mpr c25
                        have c25b1 : (t156.toList != (a0 ++ t142).toList) = true := bne_iff_ne.mpr c25
                        obtain rfl := Option.some.inj H
                        go_wp2_with (first | ((with_reducible refine gate_callee (f := 40) rfl ?_); refine goesL_ (some 36) rfl rfl Try.func40 (by kernel_rfl) rfl #[.string (a1.extract 0 ((ji10) : Int).toNat)] rfl (by (try simp only [List.map_toArray, List.map_cons, List.map_nil]); first | done | (simp only [hji10]; rfl) | rfl | (simp only [List.length_drop, List.length_take]; rfl)) ?_; (with_reducible refine (platformfwref05_String.calls kj4 (a1.extract 0 ((ji10) : Int).toNat) t142 _ A13.out).mono ?_); rintro e w73 ⟨rfl, hb⟩; refine ⟨_, rfl, ?_⟩; have n0_ := Aside0.mk (below_step (by repeat (first | (with_reducible first | exact HB.out | apply below_alloc | apply pw_below_drewN | apply below_drew1) | exact HB.out)) hb); clear HB; have HB := n0_; clear n0_; (try clear hb); (try clear hb2); (try clear hk); (try clear hi)) | ((with_reducible refine gate_callee (f := 39) rfl ?_); refine goesL_ (some 39) rfl rfl Try.func39 (by kernel_rfl) rfl #[.string (t142 ++ a2)] rfl (by (try simp only [List.map_toArray, List.map_cons, List.map_nil]); first | done | rfl | (simp only [List.length_drop, List.length_take]; rfl)) ?_; (with_reducible refine (bytecode_String.calls kj4 (t142 ++ a2) t143 t144 t145 _ A15.out).mono ?_); rintro e w' ⟨rfl, ⟨nd, rfl⟩⟩; refine ⟨_, rfl, ?_⟩) | ((with_reducible refine gate_dst (N := 44) rfl ?_); (try (refine gate_guard (by rfl) ?_; dsimp only)); refine Kd.R_lit (Kd.int .u8) _ 5 ?hg (N := 44) ?hd (xs := ([a3] : List Int)) (inner := [.int .u8 a3]) (ok := fun _ => True) (okp := fun _ => True) ?hr ?hp (fun _ hk => hk) trivial (Below.refl _ _) (Nat.le_refl _) (by simp) ?_; (case hd => rfl); (case hg => rfl); (case hr => first | (go_simp; done) | (go_simp; rfl)); (case hp => exact (Reps.one (show Kd.M (Kd.int .u8) _ _ _ a3 [.int .u8 a3] from rfl) (Reps.none _ _))); intro v147 w74 ho75 hb hg_ hnew_; clear hg_ hnew_; (first | rw [← Ny146.out] at ho75 | (simp only [Int.reduceToNat] at ho75; rw [← Ny146.out] at ho75)); have n0_ := Aside0.mk (Kd.R_lower ho75 (below_size (by repeat (first | (with_reducible first | exact HB.out | apply below_alloc | apply pw_below_drewN | apply below_drew1) | exact HB.out)))); have n1_ := Aside0.mk (below_step (by repeat (first | (with_reducible first | exact HB.out | apply below_alloc | apply pw_below_drewN | apply below_drew1) | exact HB.out)) hb); clear HB; have HO148 := n0_; have HB := n1_; clear n0_ n1_; clear hb ho75; have hcv76 := own_string (P := Try.prog) Try.underlying63 Try.underlying5 Try.underlying9 (Kd.own_of_R HO148.out)) | ((with_reducible refine gate_callee (f := 39) rfl ?_); refine goesL_ (some 51) rfl rfl Try.func39 (by kernel_rfl) rfl #[.string (((⟨#[13]⟩ : ByteArray) ++ (strOfNums y146)) ++ a2)] rfl (by (try simp only [List.map_toArray, List.map_cons, List.map_nil]); first | done | rfl | (simp only [List.length_drop, List.length_take]; rfl)) ?_; (with_reducible refine (bytecode_String.calls kj4 (((⟨#[13]⟩ : ByteArray) ++ (strOfNums y146)) ++ a2) t149 t150 t151 _ A18.out).mono ?_); rintro e w' ⟨rfl, ⟨nd, rfl⟩⟩; refine ⟨_, rfl, ?_⟩) | ((with_reducible refine gate_callee (f := 41) rfl ?_); refine goesL_ (some 57) rfl rfl Try.func41 (by kernel_rfl) rfl #[.string (((⟨#[13]⟩ : ByteArray) ++ (strOfNums y146)) ++ a2)] rfl (by (try simp only [List.map_toArray, List.map_cons, List.map_nil]); first | done | rfl | (simp only [List.length_drop, List.length_take]; rfl)) ?_; (with_reducible refine (platformfwref05_ReadString.calls (((⟨#[13]⟩ : ByteArray) ++ (strOfNums y146)) ++ a2) t152 t153 t154 _ A19.out).mono ?_); rintro e w' ⟨rfl, ⟨nd, rfl⟩⟩; refine ⟨_, rfl, ?_⟩) | ((with_reducible refine gate_callee (f := 33) rfl ?_); refine goesL_ (some 61) rfl rfl Try.func33 (by kernel_rfl) rfl #[] rfl (by (try simp only [List.map_toArray, List.map_cons, List.map_nil]); first | done | rfl | (simp only [List.length_drop, List.length_take]; rfl)) ?_; (with_reducible refine (platformfwlaw05_awake.calls kj4  true _ A20.out).mono ?_); rintro e w77 ⟨rfl, hb⟩; refine ⟨_, rfl, ?_⟩; have n0_ := Aside0.mk (Kd.R_below (by (with_reducible repeat (first | apply Kd.R_alloc | apply Kd.R_drewN | apply Kd.R_drew)); exact HO148.out) hb); have n1_ := Aside0.mk (below_step (by repeat (first | (with_reducible first | exact HB.out | apply below_alloc | apply pw_below_drewN | apply below_drew1) | exact HB.out)) hb); clear HO148; clear HB; have HO148 := n0_; have HB := n1_; clear n0_ n1_; (try clear hb); (try clear hb2); (try clear hk); (try clear hi)) | (go_at_call 38; (with_reducible refine (bytecode_AppendString.calls a0 (a1.extract 0 ((ji10) : Int).toNat) t156 _ A22.out).mono ?_); rintro e w78 ⟨rfl, hb⟩; have n0_ := Aside0.mk (Kd.R_below (by (with_reducible repeat (first | apply Kd.R_alloc | apply Kd.R_drewN | apply Kd.R_drew)); exact HO148.out) hb); have n1_ := Aside0.mk (below_step (by repeat (first | (with_reducible first | exact HB.out | apply below_alloc | apply pw_below_drewN | apply below_drew1) | exact HB.out)) hb); clear HO148; clear HB; have HO148 := n0_; have HB := n1_; clear n0_ n1_; (try clear hb); (try clear hb2); (try clear hk); (try clear hi)) | (go_at_call 40; (with_reducible refine (platformfwref05_String.calls kj4 (a1.extract 0 ((ji10) : Int).toNat) t142 _ A23.out).mono ?_); rintro e w79 ⟨rfl, hb⟩; have n0_ := Aside0.mk (Kd.R_below (by (with_reducible repeat (first | apply Kd.R_alloc | apply Kd.R_drewN | apply Kd.R_drew)); exact HO148.out) hb); have n1_ := Aside0.mk (below_step (by repeat (first | (with_reducible first | exact HB.out | apply below_alloc | apply pw_below_drewN | apply below_drew1) | exact HB.out)) hb); clear HO148; clear HB; have HO148 := n0_; have HB := n1_; clear n0_ n1_; (try clear hb); (try clear hb2); (try clear hk); (try clear hi)))
                        all_goals (try (exfalso; simp only [beq_iff_eq, bne_iff_ne, ne_eq, ByteArray.size_extract, decide_eq_true_eq, decide_eq_false_iff_not, beq_eq_false_iff_ne, bne_eq_false_iff_eq, eq_iff_iff, iff_true, iff_false] at *; unfold wrap64 at *; omega))
                        go_ret
                        exact ⟨by first | rfl | (simp [errW_none, errW_some] <;> rfl) | (simp only [← hji10]; first | rfl | (simp [errW_none, errW_some] <;> rfl)) | (simp [*, errW_none, errW_some] <;> rfl), by repeat (first | (with_reducible first | exact HB.out | apply below_alloc | apply pw_below_drewN | apply below_drew1) | exact HB.out)⟩
                    · rw [if_neg c24] at H
                      exact absurd H (by simp)
                  · replace c21 := Bool.eq_false_iff.mpr c21
                    subst c21
                    have H1 : (some false) = some r := by rw [if_neg (show ¬ (false = true) by decide)] at H; exact H
                    clear H
                    have H := H1
                    clear H1
                    obtain rfl := Option.some.inj H
                    go_wp2_with (first | ((with_reducible refine gate_callee (f := 40) rfl ?_); refine goesL_ (some 36) rfl rfl Try.func40 (by kernel_rfl) rfl #[.string (a1.extract 0 ((ji10) : Int).toNat)] rfl (by (try simp only [List.map_toArray, List.map_cons, List.map_nil]); first | done | (simp only [hji10]; rfl) | rfl | (simp only [List.length_drop, List.length_take]; rfl)) ?_; (with_reducible refine (platformfwref05_String.calls kj4 (a1.extract 0 ((ji10) : Int).toNat) t142 _ A13.out).mono ?_); rintro e w80 ⟨rfl, hb⟩; refine ⟨_, rfl, ?_⟩; have n0_ := Aside0.mk (below_step (by repeat (first | (with_reducible first | exact HB.out | apply below_alloc | apply pw_below_drewN | apply below_drew1) | exact HB.out)) hb); clear HB; have HB := n0_; clear n0_; (try clear hb); (try clear hb2); (try clear hk); (try clear hi)) | ((with_reducible refine gate_callee (f := 39) rfl ?_); refine goesL_ (some 39) rfl rfl Try.func39 (by kernel_rfl) rfl #[.string (t142 ++ a2)] rfl (by (try simp only [List.map_toArray, List.map_cons, List.map_nil]); first | done | rfl | (simp only [List.length_drop, List.length_take]; rfl)) ?_; (with_reducible refine (bytecode_String.calls kj4 (t142 ++ a2) t143 t144 t145 _ A15.out).mono ?_); rintro e w' ⟨rfl, ⟨nd, rfl⟩⟩; refine ⟨_, rfl, ?_⟩) | ((with_reducible refine gate_dst (N := 44) rfl ?_); (try (refine gate_guard (by rfl) ?_; dsimp only)); refine Kd.R_lit (Kd.int .u8) _ 5 ?hg (N := 44) ?hd (xs := ([a3] : List Int)) (inner := [.int .u8 a3]) (ok := fun _ => True) (okp := fun _ => True) ?hr ?hp (fun _ hk => hk) trivial (Below.refl _ _) (Nat.le_refl _) (by simp) ?_; (case hd => rfl); (case hg => rfl); (case hr => first | (go_simp; done) | (go_simp; rfl)); (case hp => exact (Reps.one (show Kd.M (Kd.int .u8) _ _ _ a3 [.int .u8 a3] from rfl) (Reps.none _ _))); intro v147 w81 ho82 hb hg_ hnew_; clear hg_ hnew_; (first | rw [← Ny146.out] at ho82 | (simp only [Int.reduceToNat] at ho82; rw [← Ny146.out] at ho82)); have n0_ := Aside0.mk (Kd.R_lower ho82 (below_size (by repeat (first | (with_reducible first | exact HB.out | apply below_alloc | apply pw_below_drewN | apply below_drew1) | exact HB.out)))); have n1_ := Aside0.mk (below_step (by repeat (first | (with_reducible first | exact HB.out | apply below_alloc | apply pw_below_drewN | apply below_drew1) | exact HB.out)) hb); clear HB; have HO148 := n0_; have HB := n1_; clear n0_ n1_; clear hb ho82; have hcv83 := own_string (P := Try.prog) Try.underlying63 Try.underlying5 Try.underlying9 (Kd.own_of_R HO148.out)) | ((with_reducible refine gate_callee (f := 39) rfl ?_); refine goesL_ (some 51) rfl rfl Try.func39 (by kernel_rfl) rfl #[.string (((⟨#[13]⟩ : ByteArray) ++ (strOfNums y146)) ++ a2)] rfl (by (try simp only [List.map_toArray, List.map_cons, List.map_nil]); first | done | rfl | (simp only [List.length_drop, List.length_take]; rfl)) ?_; (with_reducible refine (bytecode_String.calls kj4 (((⟨#[13]⟩ : ByteArray) ++ (strOfNums y146)) ++ a2) t149 t150 t151 _ A18.out).mono ?_); rintro e w' ⟨rfl, ⟨nd, rfl⟩⟩; refine ⟨_, rfl, ?_⟩) | ((with_reducible refine gate_callee (f := 41) rfl ?_); refine goesL_ (some 57) rfl rfl Try.func41 (by kernel_rfl) rfl #[.string (((⟨#[13]⟩ : ByteArray) ++ (strOfNums y146)) ++ a2)] rfl (by (try simp only [List.map_toArray, List.map_cons, List.map_nil]); first | done | rfl | (simp only [List.length_drop, List.length_take]; rfl)) ?_; (with_reducible refine (platformfwref05_ReadString.calls (((⟨#[13]⟩ : ByteArray) ++ (strOfNums y146)) ++ a2) t152 t153 t154 _ A19.out).mono ?_); rintro e w' ⟨rfl, ⟨nd, rfl⟩⟩; refine ⟨_, rfl, ?_⟩) | ((with_reducible refine gate_callee (f := 33) rfl ?_); refine goesL_ (some 61) rfl rfl Try.func33 (by kernel_rfl) rfl #[] rfl (by (try simp only [List.map_toArray, List.map_cons, List.map_nil]); first | done | rfl | (simp only [List.length_drop, List.length_take]; rfl)) ?_; (with_reducible refine (platformfwlaw05_awake.calls kj4  false _ A20.out).mono ?_); rintro e w84 ⟨rfl, hb⟩; refine ⟨_, rfl, ?_⟩; have n0_ := Aside0.mk (Kd.R_below (by (with_reducible repeat (first | apply Kd.R_alloc | apply Kd.R_drewN | apply Kd.R_drew)); exact HO148.out) hb); have n1_ := Aside0.mk (below_step (by repeat (first | (with_reducible first | exact HB.out | apply below_alloc | apply pw_below_drewN | apply below_drew1) | exact HB.out)) hb); clear HO148; clear HB; have HO148 := n0_; have HB := n1_; clear n0_ n1_; (try clear hb); (try clear hb2); (try clear hk); (try clear hi)))
                    all_goals (try (exfalso; simp only [beq_iff_eq, bne_iff_ne, ne_eq, ByteArray.size_extract, decide_eq_true_eq, decide_eq_false_iff_not, beq_eq_false_iff_ne, bne_eq_false_iff_eq, eq_iff_iff, iff_true, iff_false] at *; unfold wrap64 at *; omega))
                    go_ret
                    exact ⟨by first | rfl | (simp [errW_none, errW_some] <;> rfl) | (simp only [← hji10]; first | rfl | (simp [errW_none, errW_some] <;> rfl)) | (simp [*, errW_none, errW_some] <;> rfl), by repeat (first | (with_reducible first | exact HB.out | apply below_alloc | apply pw_below_drewN | apply below_drew1) | exact HB.out)⟩
                · rw [if_neg c17] at H
                  exact absurd H (by simp)
              · rw [if_neg c16] at H
                exact absurd H (by simp)
            · rw [if_neg c14] at H
              exact absurd H (by simp)
          · rw [if_neg c12] at H
            exact absurd H (by simp)
        · rw [if_neg c11] at H
          exact absurd H (by simp)

/-- THE ONE PURE STATEMENT of platformfwlaw05_BytecodeStrings: yours. -/
def platformfwlaw05_BytecodeStrings.Pure : Prop := ∀ (a0 : ByteArray) (a1 : ByteArray) (a2 : ByteArray) (a3 : Int), a0.size ≤ 140737488351232 → a1.size ≤ 140737488351232 → a2.size ≤ 140737488351232 → (Lit.int .u8 a3).wf = true → ∃ k, platformfwlaw05_BytecodeStrings.f k a0 a1 a2 a3 = some true
theorem platformfwlaw05_BytecodeStrings.walk (P : platformfwlaw05_BytecodeStrings.Pure) (a0 : ByteArray) (a1 : ByteArray) (a2 : ByteArray) (a3 : Int) (w : World) (w0 : a0.size ≤ 140737488351232) (w1 : a1.size ≤ 140737488351232) (w2 : a2.size ≤ 140737488351232) (w3 : (Lit.int .u8 a3).wf = true) :
    Calls Try.prog 10 #[.string a0, .string a1, .string a2, .int .u8 a3] w fun e w' => e = .returned (.bool true) ∧ Below w.heap.size w w' := by
  obtain ⟨k, h⟩ := P a0 a1 a2 a3 w0 w1 w2 w3
  refine (platformfwlaw05_BytecodeStrings.calls k a0 a1 a2 a3 true w h).mono ?_
  rintro e w' ⟨rfl, hd⟩
  exact ⟨rfl, hd⟩

end Go.Proofs.Ytmnmidclaaiffaa.PBytecodeStrings
