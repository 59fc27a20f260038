-- PRINTED BY print.sh 35421559b90ae4d0a3588c463048766b98c2df88dd9212a6774a882060cdf62d: not written by this session
import Derived.Test.YtmnmidclaaiffaaPBytecodeDecodesIntegersx0
import Derived.Test.YtmnmidclaaiffaaPBytecodeDecodesIntegersx1
import Derived.Test.YtmnmidclaaiffaaPBytecodeDecodesIntegersx2
namespace Go.Proofs.Ytmnmidclaaiffaa.PBytecodeDecodesIntegers
open Go.RowKit Go.Proofs.YtmnmidclaaiffaaW.PrintWords Go.Proofs.YtmnmidclaaiffaaW.PrintLast Go.Proofs.YtmnmidclaaiffaaW.PrintMore
attribute [local go_sem] max2_int min2_int max_two min_two max_three min_three max_four min_four   -- for this text's walks alone
set_option linter.unusedVariables false
set_option linter.unusedSimpArgs false

/-! ### platformfwref05_ReadInt: function 34 -/
mutual
def platformfwref05_ReadInt.j1 : Nat → ByteArray → Int → Option (Int × Int × Int)
  | 0, _, _ => none
  | k + 1, x0, x5 => if (x0.size : Int) ≤ x5 then (some (0, 0, 4)) else (if 1 ≤ (wrap64 (1 + x5)) then (if (wrap64 (1 + x5)) ≤ (x0.size : Int) then ((platformfwref05_number.f k (x0.extract 1 ((wrap64 (1 + x5)) : Int).toNat)).bind fun t141 => ((platformfwref05_Int.f k t141).bind fun t142 => (if 0 ≤ (wrap64 (1 + x5)) then (if t142.toList = (x0.extract 0 ((wrap64 (1 + x5)) : Int).toNat).toList then (some (t141, wrap64 (1 + x5), 0)) else (some (0, 0, 3))) else (none)))) else (none)) else (none))
def platformfwref05_ReadInt.j0 : Nat → ByteArray → Int → Bool → Option (Int × Int × Int)
  | 0, _, _, _ => none
  | k + 1, x0, x10, x11 => if x11 = true then (if 0 < (x0.size : Int) then (some (IntKind.u64.wrap (wrap64 (IntKind.i8.wrap (bt x0 0))), 1, 0)) else (none)) else (if x10 = 10 then (platformfwref05_ReadInt.j1 k x0 1) else (if x10 = 11 then (platformfwref05_ReadInt.j1 k x0 2) else (if x10 = 12 then (platformfwref05_ReadInt.j1 k x0 4) else (if x10 = 14 then (platformfwref05_ReadInt.j1 k x0 8) else (some (0, 0, 3))))))
end
def platformfwref05_ReadInt.f (k : Nat) (a0 : ByteArray) : Option (Int × Int × Int) := if a0.toList = ([] : List UInt8) then (some (0, 0, 4)) else (if 0 < (a0.size : Int) then (if (bt a0 0) = 0 then (platformfwref05_ReadInt.j0 k a0 (bt a0 0) ((bt a0 0) == 0)) else (if (bt a0 0) = 1 then (platformfwref05_ReadInt.j0 k a0 (bt a0 0) ((bt a0 0) == 1)) else (platformfwref05_ReadInt.j0 k a0 (bt a0 0) ((bt a0 0) == 255)))) else (none))
theorem platformfwref05_ReadInt.mono_l : ∀ k, (∀ y0 y1, LeO (platformfwref05_ReadInt.j1 k y0 y1) (platformfwref05_ReadInt.j1 (k + 1) y0 y1)) ∧ (∀ y0 y1 y2, LeO (platformfwref05_ReadInt.j0 k y0 y1 y2) (platformfwref05_ReadInt.j0 (k + 1) y0 y1 y2))
  | 0 => ⟨fun _ _ r h => by simp [platformfwref05_ReadInt.j1] at h, fun _ _ _ r h => by simp [platformfwref05_ReadInt.j0] at h⟩
  | k + 1 => by
    obtain ⟨ih0, ih1⟩ := platformfwref05_ReadInt.mono_l k
    refine ⟨?_, ?_⟩
    · intro y0 y1
      unfold platformfwref05_ReadInt.j1
      repeat' first
      | (with_reducible exact ih0 _ _)
      | (with_reducible exact ih1 _ _ _)
      | (with_reducible exact platformfwref05_Int.mono _ _)
      | (with_reducible exact platformfwref05_number.mono _ _)
      | (with_reducible exact LeO.refl _)
      | (with_reducible exact LeO.none _)
      | (with_reducible refine LeO.ite ?_ ?_)
      | (with_reducible refine LeO.bind ?_ (fun _ => ?_))
      | exact ih0 _ _
      | exact ih1 _ _ _
      | exact platformfwref05_Int.mono _ _
      | exact platformfwref05_number.mono _ _
      | exact LeO.none _
      | refine LeO.ite ?_ ?_
      | refine LeO.bind ?_ (fun _ => ?_)
    · intro y0 y1 y2
      unfold platformfwref05_ReadInt.j0
      repeat' first
      | (with_reducible exact ih0 _ _)
      | (with_reducible exact ih1 _ _ _)
      | (with_reducible exact platformfwref05_Int.mono _ _)
      | (with_reducible exact platformfwref05_number.mono _ _)
      | (with_reducible exact LeO.refl _)
      | (with_reducible exact LeO.none _)
      | (with_reducible refine LeO.ite ?_ ?_)
      | (with_reducible refine LeO.bind ?_ (fun _ => ?_))
      | exact ih0 _ _
      | exact ih1 _ _ _
      | exact platformfwref05_Int.mono _ _
      | exact platformfwref05_number.mono _ _
      | exact LeO.none _
      | refine LeO.ite ?_ ?_
      | refine LeO.bind ?_ (fun _ => ?_)
theorem platformfwref05_ReadInt.mono : ∀ a0 k, LeO (platformfwref05_ReadInt.f k a0) (platformfwref05_ReadInt.f (k + 1) a0) := by
  intro a0 k
  obtain ⟨ih0, ih1⟩ := platformfwref05_ReadInt.mono_l k
  unfold platformfwref05_ReadInt.f
  repeat' first
      | (with_reducible exact ih0 _ _)
      | (with_reducible exact ih1 _ _ _)
      | (with_reducible exact platformfwref05_Int.mono _ _)
      | (with_reducible exact platformfwref05_number.mono _ _)
      | (with_reducible exact LeO.refl _)
      | (with_reducible exact LeO.none _)
      | (with_reducible refine LeO.ite ?_ ?_)
      | (with_reducible refine LeO.bind ?_ (fun _ => ?_))
      | exact ih0 _ _
      | exact ih1 _ _ _
      | exact platformfwref05_Int.mono _ _
      | exact platformfwref05_number.mono _ _
      | exact LeO.none _
      | refine LeO.ite ?_ ?_
      | refine LeO.bind ?_ (fun _ => ?_)
set_option maxHeartbeats 8000000 in
set_option maxRecDepth 100000 in
theorem platformfwref05_ReadInt.calls (k : Nat) (a0 : ByteArray) (r1 : Int) (r2 : Int) (r3 : Int) (w : World) (h : platformfwref05_ReadInt.f k a0 = some (r1, r2, r3)) :
    Calls Try.prog 34 #[.string a0] w fun e w' => e = .returned (.tuple #[.int .u64 r1, .int .i64 r2, .int .i64 r3]) ∧ Below w.heap.size w w' := by
  have HB := Aside0.mk (Below.refl w.heap.size w)
  have H : (if a0.toList = ([] : List UInt8) then (some (0, 0, 4)) else (if 0 < (a0.size : Int) then (if (bt a0 0) = 0 then (platformfwref05_ReadInt.j0 k a0 (bt a0 0) ((bt a0 0) == 0)) else (if (bt a0 0) = 1 then (platformfwref05_ReadInt.j0 k a0 (bt a0 0) ((bt a0 0) == 1)) else (platformfwref05_ReadInt.j0 k a0 (bt a0 0) ((bt a0 0) == 255)))) else (none))) = some (r1, r2, r3) := h
  clear h
  by_cases c2 : a0.toList = ([] : List UInt8)
  · rw [if_pos c2] at H
    have c2b0 : (a0.toList == ([] : List UInt8)) = true := beq_iff_eq.mpr c2
    have c2b1 : (a0.toList != ([] : List UInt8)) = false := bne_eq_false_iff_eq.mpr c2
    clear c2
    simp only [Option.some.injEq, Prod.mk.injEq] at H
    obtain ⟨rfl, rfl, rfl⟩ := H
    go_enter Try.func34, Try.ntmps34
    go_wp2
    go_ret3
    exact ⟨by first | rfl | (simp [errW_none, errW_some] <;> rfl) | (simp [*, errW_none, errW_some] <;> rfl), by repeat (first | (with_reducible first | exact HB.out | apply below_alloc | apply pw_below_drewN | apply below_drew1) | exact HB.out)⟩
  · rw [if_neg c2] at H
    have c2b0 : (a0.toList == ([] : List UInt8)) = false := beq_eq_false_iff_ne.mpr c2
    have c2b1 : (a0.toList != ([] : List UInt8)) = true := bne_iff_ne.mpr c2
    by_cases c3 : 0 < (a0.size : Int)
    · rw [if_pos c3] at H
      have c3b0 : decide (0 < (a0.size : Int)) = true := decide_eq_true c3
      have c3b1 : decide (0 < a0.size) = true := decide_eq_true (by omega)
      clear c3
      have HC5 := Aside0.mk H
      clear H
      have p4 : 0 ≤ (0 : Int) := (by omega)
      have q4 : 0 < a0.size := (by have : (0 : Int) < (a0.size : Int) := of_decide_eq_true (by first | (with_reducible assumption) | assumption); omega)
      have hx4 : ∀ h : 0 < a0.size, ((a0[0]'h).toNat : Int) = bt a0 0 := bt_at a0 0
      clear p4
      have qi4 : (0 < (a0.size : Int)) = True := eq_true (of_decide_eq_true (by first | (with_reducible assumption) | assumption))
      replace q4 := eq_true q4
      go_enter Try.func34, Try.ntmps34
      go_upto_block 0 with (fail)
      go_cut [5] (fun v5 wc => ∃ (kq : Nat) (x5_4 : Int), v5 = .int .i64 x5_4 ∧ Aside0 (platformfwref05_ReadInt.j1 kq a0 x5_4 = some (r1, r2, r3)) ∧ Aside0 (kq ≤ k) ∧ Aside0 (Below w.heap.size w wc))
      case first =>
        have H := HC5.out
        clear HC5
        have HC6 := Aside0.mk H
        clear H
        go_upto_if 11 with (fail)
        go_cut [11] (fun v11 wc => ∃ (kq : Nat) (x11_5 : Bool), v11 = .bool x11_5 ∧ Aside0 (platformfwref05_ReadInt.j0 kq a0 (bt a0 0) x11_5 = some (r1, r2, r3)) ∧ Aside0 (kq ≤ k) ∧ Aside0 (Below w.heap.size w wc))
        case first =>
          have H := HC6.out
          clear HC6
          by_cases c7 : (bt a0 0) = 0
          · rw [if_pos c7] at H
            have c7b0 : ((bt a0 0) == 0) = true := beq_iff_eq.mpr c7
            have c7b1 : ((bt a0 0) != 0) = false := bne_eq_false_iff_eq.mpr c7
            clear c7
            (first | rw [c7b0] | (simp only [i64_w, i32_w]; rw [c7b0]) | skip)
            have H' := Aside0.mk H
            clear H
            go_wp2
            go_meet
            case rel => exact ⟨_, (((bt a0 0) == 0)), (by first | rfl | (simp; done) | (simp [*]; done)), H', ⟨by first | omega | exact Nat.le_refl _⟩, ⟨by repeat (first | (with_reducible first | exact HB.out | apply below_alloc | apply pw_below_drewN | apply below_drew1) | exact HB.out)⟩⟩
          · rw [if_neg c7] at H
            have c7b0 : ((bt a0 0) == 0) = false := beq_eq_false_iff_ne.mpr c7
            have c7b1 : ((bt a0 0) != 0) = true := bne_iff_ne.mpr c7
            (first | rw [c7b0] | (simp only [i64_w, i32_w]; rw [c7b0]) | skip)
            by_cases c8 : (bt a0 0) = 1
            · rw [if_pos c8] at H
              have c8b0 : ((bt a0 0) == 1) = true := beq_iff_eq.mpr c8
              have c8b1 : ((bt a0 0) != 1) = false := bne_eq_false_iff_eq.mpr c8
              clear c8
              have H' := Aside0.mk H
              clear H
              go_wp2
              go_meet
              case rel => exact ⟨_, (((bt a0 0) == 1)), (by first | rfl | (simp; done) | (simp [*]; done)), H', ⟨by first | omega | exact Nat.le_refl _⟩, ⟨by repeat (first | (with_reducible first | exact HB.out | apply below_alloc | apply pw_below_drewN | apply below_drew1) | exact HB.out)⟩⟩
            · rw [if_neg c8] at H
              have c8b0 : ((bt a0 0) == 1) = false := beq_eq_false_iff_ne.mpr c8
              have c8b1 : ((bt a0 0) != 1) = true := bne_iff_ne.mpr c8
              have H' := Aside0.mk H
              clear H
              go_wp2
              go_meet
              case rel => exact ⟨_, (((bt a0 0) == 255)), (by first | rfl | (simp; done) | (simp [*]; done)), H', ⟨by first | omega | exact Nat.le_refl _⟩, ⟨by repeat (first | (with_reducible first | exact HB.out | apply below_alloc | apply pw_below_drewN | apply below_drew1) | exact HB.out)⟩⟩
        case rest =>
          clear HC6
          try clear c2
          try clear c2b0
          try clear c2b1
          try clear p2
          try clear c3
          try clear c3b0
          try clear c3b1
          try clear p4
          try clear q4
          try clear hx4
          try clear qi4
          try clear c7
          try clear c7b0
          try clear c7b1
          try clear c8
          try clear c8b0
          try clear c8b1
          try clear p4
          try clear q4
          obtain ⟨kq, x11_5, rfl, HA, HJ5, HB⟩ := hcut
          cases kq with
          | zero => exact absurd HA.out (by simp [platformfwref05_ReadInt.j0])
          | succ kj5 =>
            have H := HA.out
            clear HA
            simp only [platformfwref05_ReadInt.j0] at H
            by_cases c9 : x11_5 = true
            · subst c9
              have H1 : (if 0 < (a0.size : Int) then (some (IntKind.u64.wrap (wrap64 (IntKind.i8.wrap (bt a0 0))), 1, 0)) else (none)) = some (r1, r2, r3) := by rw [if_pos rfl] at H; exact H
              clear H
              have H := H1
              clear H1
              by_cases c10 : 0 < (a0.size : Int)
              · rw [if_pos c10] at H
                have c10b0 : decide (0 < (a0.size : Int)) = true := decide_eq_true c10
                have c10b1 : decide (0 < a0.size) = true := decide_eq_true (by omega)
                clear c10
                simp only [Option.some.injEq, Prod.mk.injEq] at H
                obtain ⟨rfl, rfl, rfl⟩ := H
                have p11 : 0 ≤ (0 : Int) := (by omega)
                have q11 : 0 < a0.size := (by have : (0 : Int) < (a0.size : Int) := of_decide_eq_true (by first | (with_reducible assumption) | assumption); omega)
                have hx11 : ∀ h : 0 < a0.size, ((a0[0]'h).toNat : Int) = bt a0 0 := bt_at a0 0
                clear p11
                have qi11 : (0 < (a0.size : Int)) = True := eq_true (of_decide_eq_true (by first | (with_reducible assumption) | assumption))
                replace q11 := eq_true q11
                go_wp2
                go_ret3
                exact ⟨by first | rfl | (simp [errW_none, errW_some] <;> rfl) | (simp [*, errW_none, errW_some] <;> rfl), by repeat (first | (with_reducible first | exact HB.out | apply below_alloc | apply pw_below_drewN | apply below_drew1) | exact HB.out)⟩
              · rw [if_neg c10] at H
                exact absurd H (by simp)
            · replace c9 := Bool.eq_false_iff.mpr c9
              subst c9
              have H1 : (if (bt a0 0) = 10 then (platformfwref05_ReadInt.j1 kj5 a0 1) else (if (bt a0 0) = 11 then (platformfwref05_ReadInt.j1 kj5 a0 2) else (if (bt a0 0) = 12 then (platformfwref05_ReadInt.j1 kj5 a0 4) else (if (bt a0 0) = 14 then (platformfwref05_ReadInt.j1 kj5 a0 8) else (some (0, 0, 3)))))) = some (r1, r2, r3) := by rw [if_neg (show ¬ (false = true) by decide)] at H; exact H
              clear H
              have H := H1
              clear H1
              by_cases c12 : (bt a0 0) = 10
              · rw [if_pos c12] at H
                have c12b0 : ((bt a0 0) == 10) = true := beq_iff_eq.mpr c12
                have c12b1 : ((bt a0 0) != 10) = false := bne_eq_false_iff_eq.mpr c12
                clear c12
                have H' := Aside0.mk H
                clear H
                go_wp2
                go_meet
                case rel => exact ⟨_, (1), (by first | rfl | (simp; done) | (simp [*]; done)), H', ⟨by have := HJ5.out; first | omega | exact Nat.le_refl _⟩, ⟨by repeat (first | (with_reducible first | exact HB.out | apply below_alloc | apply pw_below_drewN | apply below_drew1) | exact HB.out)⟩⟩
              · rw [if_neg c12] at H
                have c12b0 : ((bt a0 0) == 10) = false := beq_eq_false_iff_ne.mpr c12
                have c12b1 : ((bt a0 0) != 10) = true := bne_iff_ne.mpr c12
                by_cases c13 : (bt a0 0) = 11
                · rw [if_pos c13] at H
                  have c13b0 : ((bt a0 0) == 11) = true := beq_iff_eq.mpr c13
                  have c13b1 : ((bt a0 0) != 11) = false := bne_eq_false_iff_eq.mpr c13
                  clear c13
                  have H' := Aside0.mk H
                  clear H
                  go_wp2
                  go_meet
                  case rel => exact ⟨_, (2), (by first | rfl | (simp; done) | (simp [*]; done)), H', ⟨by have := HJ5.out; first | omega | exact Nat.le_refl _⟩, ⟨by repeat (first | (with_reducible first | exact HB.out | apply below_alloc | apply pw_below_drewN | apply below_drew1) | exact HB.out)⟩⟩
                · rw [if_neg c13] at H
                  have c13b0 : ((bt a0 0) == 11) = false := beq_eq_false_iff_ne.mpr c13
                  have c13b1 : ((bt a0 0) != 11) = true := bne_iff_ne.mpr c13
                  by_cases c14 : (bt a0 0) = 12
                  · rw [if_pos c14] at H
                    have c14b0 : ((bt a0 0) == 12) = true := beq_iff_eq.mpr c14
                    have c14b1 : ((bt a0 0) != 12) = false := bne_eq_false_iff_eq.mpr c14
                    clear c14
                    have H' := Aside0.mk H
                    clear H
                    go_wp2
                    go_meet
                    case rel => exact ⟨_, (4), (by first | rfl | (simp; done) | (simp [*]; done)), H', ⟨by have := HJ5.out; first | omega | exact Nat.le_refl _⟩, ⟨by repeat (first | (with_reducible first | exact HB.out | apply below_alloc | apply pw_below_drewN | apply below_drew1) | exact HB.out)⟩⟩
                  · rw [if_neg c14] at H
                    have c14b0 : ((bt a0 0) == 12) = false := beq_eq_false_iff_ne.mpr c14
                    have c14b1 : ((bt a0 0) != 12) = true := bne_iff_ne.mpr c14
                    by_cases c15 : (bt a0 0) = 14
                    · rw [if_pos c15] at H
                      have c15b0 : ((bt a0 0) == 14) = true := beq_iff_eq.mpr c15
                      have c15b1 : ((bt a0 0) != 14) = false := bne_eq_false_iff_eq.mpr c15
                      clear c15
                      have H' := Aside0.mk H
                      clear H
                      go_wp2
                      go_meet
                      case rel => exact ⟨_, (8), (by first | rfl | (simp; done) | (simp [*]; done)), H', ⟨by have := HJ5.out; first | omega | exact Nat.le_refl _⟩, ⟨by repeat (first | (with_reducible first | exact HB.out | apply below_alloc | apply pw_below_drewN | apply below_drew1) | exact HB.out)⟩⟩
                    · rw [if_neg c15] at H
                      have c15b0 : ((bt a0 0) == 14) = false := beq_eq_false_iff_ne.mpr c15
                      have c15b1 : ((bt a0 0) != 14) = true := bne_iff_ne.mpr c15
                      simp only [Option.some.injEq, Prod.mk.injEq] at H
                      obtain ⟨rfl, rfl, rfl⟩ := H
                      go_wp2
                      go_ret3
                      exact ⟨by first | rfl | (simp [errW_none, errW_some] <;> rfl) | (simp [*, errW_none, errW_some] <;> rfl), by repeat (first | (with_reducible first | exact HB.out | apply below_alloc | apply pw_below_drewN | apply below_drew1) | exact HB.out)⟩
      case rest =>
        clear HC5
        try clear c1
        try clear p1
        try clear q1
        try clear hx1
        try clear qi1
        try clear c2
        try clear c2b0
        try clear c2b1
        try clear p2
        try clear c3
        try clear c3b0
        try clear c3b1
        try clear p4
        try clear q4
        try clear hx4
        try clear qi4
        try clear p6
        try clear c7
        try clear c7b0
        try clear c7b1
        try clear c8
        try clear c8b0
        try clear c8b1
        try clear c9
        try clear c10
        try clear c10b0
        try clear c10b1
        try clear p11
        try clear q11
        try clear hx11
        try clear qi11
        try clear c12
        try clear c12b0
        try clear c12b1
        try clear c13
        try clear c13b0
        try clear c13b1
        try clear c14
        try clear c14b0
        try clear c14b1
        try clear c15
        try clear c15b0
        try clear c15b1
        try clear p11
        try clear p2
        try clear p4
        try clear q11
        try clear q4
        obtain ⟨kq, x5_4, rfl, HA, HJ4, HB⟩ := hcut
        cases kq with
        | zero => exact absurd HA.out (by simp [platformfwref05_ReadInt.j1])
        | succ kj4 =>
          have H := HA.out
          clear HA
          simp only [platformfwref05_ReadInt.j1] at H
          by_cases c16 : (a0.size : Int) ≤ x5_4
          · rw [if_pos c16] at H
            have c16b0 : decide ((a0.size : Int) ≤ x5_4) = true := decide_eq_true c16
            clear c16
            simp only [Option.some.injEq, Prod.mk.injEq] at H
            obtain ⟨rfl, rfl, rfl⟩ := H
            go_wp2
            go_ret3
            exact ⟨by first | rfl | (simp [errW_none, errW_some] <;> rfl) | (simp [*, errW_none, errW_some] <;> rfl), by repeat (first | (with_reducible first | exact HB.out | apply below_alloc | apply pw_below_drewN | apply below_drew1) | exact HB.out)⟩
          · rw [if_neg c16] at H
            have c16b0 : decide ((a0.size : Int) ≤ x5_4) = false := decide_eq_false c16
            clear c16
            by_cases c17 : 1 ≤ (wrap64 (1 + x5_4))
            · rw [if_pos c17] at H
              have c17b0 := eq_true c17
              have c17b1 : decide (1 ≤ (wrap64 (1 + x5_4))) = true := decide_eq_true c17
              by_cases c18 : (wrap64 (1 + x5_4)) ≤ (a0.size : Int)
              · rw [if_pos c18] at H
                have c18b0 := eq_true c18
                have c18b1 : decide ((wrap64 (1 + x5_4)) ≤ (a0.size : Int)) = true := decide_eq_true c18
                replace H := Option.bind_eq_some_iff.mp H
                obtain ⟨t141, A190, H⟩ := H
                replace H : ((platformfwref05_Int.f kj4 t141).bind fun t142 => (if 0 ≤ (wrap64 (1 + x5_4)) then (if t142.toList = (a0.extract 0 ((wrap64 (1 + x5_4)) : Int).toNat).toList then (some (t141, wrap64 (1 + x5_4), 0)) else (some (0, 0, 3))) else (none))) = some (r1, r2, r3) := H
                have A19 := Aside0.mk A190
                clear A190
                replace H := Option.bind_eq_some_iff.mp H
                obtain ⟨t142, A200, H⟩ := H
                replace H : (if 0 ≤ (wrap64 (1 + x5_4)) then (if t142.toList = (a0.extract 0 ((wrap64 (1 + x5_4)) : Int).toNat).toList then (some (t141, wrap64 (1 + x5_4), 0)) else (some (0, 0, 3))) else (none)) = some (r1, r2, r3) := H
                have A20 := Aside0.mk A200
                clear A200
                obtain ⟨ji21, hji21⟩ : ∃ j_ : Int, (wrap64 (1 + x5_4)) = j_ := ⟨_, rfl⟩
                replace H : (if 0 ≤ (ji21) then (if t142.toList = (a0.extract 0 ((ji21) : Int).toNat).toList then (some (t141, ji21, 0)) else (some (0, 0, 3))) else (none)) = some (r1, r2, r3) := by first | (rw [hji21] at H; exact H) | (simp only [hji21] at H ⊢; exact H)
                (try rw [hji21] at c17b0)
                (try rw [hji21] at c17b1)
                (try rw [hji21] at c17)
                (try rw [hji21] at c18b0)
                (try rw [hji21] at c18b1)
                (try rw [hji21] at c18)
                (try rw [hji21] at A19)
                (try rw [hji21] at A20)
                have hji21w : (IntKind.i64.wrap (1 + x5_4)) = ji21 := (i64_w _).trans hji21
                by_cases c22 : 0 ≤ (ji21)
                · rw [if_pos c22] at H
                  have c22b0 := eq_true c22
                  have c22b1 : decide (0 ≤ (ji21)) = true := decide_eq_true c22
                  clear c22
                  have c23b0 := eq_true (of_decide_eq_true (by first | (with_reducible assumption) | assumption) : (ji21) ≤ (a0.size : Int))
                  by_cases c24 : t142.toList = (a0.extract 0 ((ji21) : Int).toNat).toList
                  · rw [if_pos c24] at H
                    have c24b0 : (t142.toList == (a0.extract 0 ((ji21) : Int).toNat).toList) = true := beq_iff_eq.mpr c24
                    have c24b1 : (t142.toList != (a0.extract 0 ((ji21) : Int).toNat).toList) = false := bne_eq_false_iff_eq.mpr c24
                    clear c24
                    simp only [Option.some.injEq, Prod.mk.injEq] at H
                    obtain ⟨rfl, rfl, rfl⟩ := H
                    try go_wp2_with (first | ((with_reducible refine gate_callee (f := 66) rfl ?_); refine goesL_ (some 36) rfl rfl Try.func66 (by kernel_rfl) rfl #[.string (a0.extract 1 ((ji21) : Int).toNat)] rfl (by (try simp only [List.map_toArray, List.map_cons, List.map_nil]); first | done | (simp only [hji21]; rfl) | rfl | (simp only [List.length_drop, List.length_take]; rfl)) ?_; (with_reducible refine (platformfwref05_number.calls kj4 (a0.extract 1 ((ji21) : Int).toNat) t141 _ A19.out).mono ?_); rintro e w' ⟨rfl, ⟨nd, rfl⟩⟩; refine ⟨_, rfl, ?_⟩))
                    (try (rw [drewN_self wc]; generalize hq_ : World.drewN wc _ = wc; have n0_ : Aside0 (Below w.heap.size w wc) := ⟨by rw [← hq_]; exact (by repeat (first | (with_reducible first | exact HB.out | apply below_alloc | apply pw_below_drewN | apply below_drew1) | exact HB.out))⟩; clear HB hq_; have HB := n0_; clear n0_))
                    have n0_ := Aside0.mk (below_drew1 HB.out)
                    clear HB
                    have HB := n0_
                    clear n0_
                    refine start_ (n := 7) (S := fun w' => True) (ds := []) #[false, false, false, false, false, false, false] (by kernel_rfl) rfl rfl trivial (fun hHeld => ?_)
                    generalize wc.drew = w25 at HB hHeld ⊢
                    refine pure_ (i := 0) (N := some 37) (v := ?_) (a' := ?_) #[true, false, false, false, false, false, false] rfl rfl (by kernel_rfl) (fun _ _ _ h => h) (Or.inl ⟨by rfl, ?_⟩) ?_ ?_
                    rotate_left
                    · intro w'
                      go_simp
                      with_reducible rfl
                    rotate_left
                    · simp only [Act.put, List.setIfInBounds_toArray, List.set_cons_zero, List.set_cons_succ, i64_w, i32_w]
                      rfl
                    refine pure_ (i := 2) (N := some 39) (v := ?_) (a' := ?_) #[true, false, true, false, false, false, false] rfl rfl (by kernel_rfl) (fun _ _ _ h => h) (Or.inl ⟨by rfl, ?_⟩) ?_ ?_
                    rotate_left
                    · intro w'
                      go_simp
                      with_reducible rfl
                    rotate_left
                    · simp only [Act.put, List.setIfInBounds_toArray, List.set_cons_zero, List.set_cons_succ, i64_w, i32_w]
                      rfl
                    refine pure_ (i := 3) (N := some 40) (v := ?_) (a' := ?_) #[true, false, true, true, false, false, false] rfl rfl (by kernel_rfl) (fun _ _ _ h => h) (Or.inl ⟨by rfl, ?_⟩) ?_ ?_
                    rotate_left
                    · intro w'
                      go_simp
                      with_reducible rfl
                    rotate_left
                    · simp only [Act.put, List.setIfInBounds_toArray, List.set_cons_zero, List.set_cons_succ, i64_w, i32_w]
                      rfl
                    refine pure_ (i := 4) (N := some 41) (v := ?_) (a' := ?_) #[true, false, true, true, true, false, false] rfl rfl (by kernel_rfl) (fun _ _ _ h => h) (Or.inl ⟨by rfl, ?_⟩) ?_ ?_
                    rotate_left
                    · intro w'
                      go_simp
                      with_reducible rfl
                    rotate_left
                    · simp only [Act.put, List.setIfInBounds_toArray, List.set_cons_zero, List.set_cons_succ, i64_w, i32_w]
                      rfl
                    refine pure_ (i := 5) (N := some 42) (v := ?_) (a' := ?_) #[true, false, true, true, true, true, false] rfl rfl (by kernel_rfl) (fun _ _ _ h => h) (Or.inl ⟨by rfl, ?_⟩) ?_ ?_
                    rotate_left
                    · intro w'
                      go_simp
                      with_reducible rfl
                    rotate_left
                    · simp only [Act.put, List.setIfInBounds_toArray, List.set_cons_zero, List.set_cons_succ, i64_w, i32_w]
                      rfl
                    refine one_ (i := 1) (N := some 38) #[true, true, true, true, true, true, false] rfl rfl (by kernel_rfl) (by decide) (fun K hK => ?_)
                    refine goes_ Try.func32 (by kernel_rfl) rfl #[.int .u64 t141] (by rfl) rfl rfl (by (try simp only [List.map_toArray, List.map_cons, List.map_nil]); first | done | rfl | (simp only [List.length_drop, List.length_take]; rfl)) ?_
                    with_reducible refine (platformfwref05_Int.calls kj4 t141 t142 _ A20.out).mono ?_
                    rintro e w26 ⟨rfl, hb⟩
                    refine ⟨_, rfl, ?_⟩
                    have n0_ := Aside0.mk (below_step (by repeat (first | (with_reducible first | exact HB.out | apply below_alloc | apply pw_below_drewN | apply below_drew1) | exact HB.out)) hb)
                    clear HB
                    have HB := n0_
                    clear n0_
                    (try clear hb)
                    (try clear hb2)
                    (try clear hk)
                    (try clear hi)
                    refine hK.out _ _ trivial (fun hHeld => ?_)
                    clear hK K
                    refine norm_ (a' := ?_) ?_ ?_
                    rotate_left
                    · show Act.put _ (some 38) _ = _
                      simp only [Act.put, List.setIfInBounds_toArray, List.set_cons_zero, List.set_cons_succ, i64_w, i32_w]
                      rfl
                    refine pure_ (i := 6) (N := some 43) (v := ?_) (a' := ?_) #[true, true, true, true, true, true, true] rfl rfl (by kernel_rfl) (fun _ _ _ h => h) (Or.inl ⟨by rfl, ?_⟩) ?_ ?_
                    rotate_left
                    · intro w'
                      go_simp
                      with_reducible rfl
                    rotate_left
                    · simp only [Act.put, List.setIfInBounds_toArray, List.set_cons_zero, List.set_cons_succ, i64_w, i32_w]
                      rfl
                    refine done_ (by kernel_rfl) ?_
                    try go_wp2
                    go_ret3
                    exact ⟨by first | rfl | (simp [errW_none, errW_some] <;> rfl) | (simp only [← hji21]; first | rfl | (simp [errW_none, errW_some] <;> rfl)) | (simp [*, errW_none, errW_some] <;> rfl), by repeat (first | (with_reducible first | exact HB.out | apply below_alloc | apply pw_below_drewN | apply below_drew1) | exact HB.out)⟩
                  · rw [if_neg c24] at H
                    have c24b0 : (t142.toList == (a0.extract 0 ((ji21) : Int).toNat).toList) = false := beq_eq_false_iff_ne.mpr c24
                    have c24b1 : (t142.toList != (a0.extract 0 ((ji21) : Int).toNat).toList) = true := bne_iff_ne.mpr c24
                    simp only [Option.some.injEq, Prod.mk.injEq] at H
                    obtain ⟨rfl, rfl, rfl⟩ := H
                    try go_wp2_with (first | ((with_reducible refine gate_callee (f := 66) rfl ?_); refine goesL_ (some 36) rfl rfl Try.func66 (by kernel_rfl) rfl #[.string (a0.extract 1 ((ji21) : Int).toNat)] rfl (by (try simp only [List.map_toArray, List.map_cons, List.map_nil]); first | done | (simp only [hji21]; rfl) | rfl | (simp only [List.length_drop, List.length_take]; rfl)) ?_; (with_reducible refine (platformfwref05_number.calls kj4 (a0.extract 1 ((ji21) : Int).toNat) t141 _ A19.out).mono ?_); rintro e w' ⟨rfl, ⟨nd, rfl⟩⟩; refine ⟨_, rfl, ?_⟩))
                    (try (rw [drewN_self wc]; generalize hq_ : World.drewN wc _ = wc; have n0_ : Aside0 (Below w.heap.size w wc) := ⟨by rw [← hq_]; exact (by repeat (first | (with_reducible first | exact HB.out | apply below_alloc | apply pw_below_drewN | apply below_drew1) | exact HB.out))⟩; clear HB hq_; have HB := n0_; clear n0_))
                    have n0_ := Aside0.mk (below_drew1 HB.out)
                    clear HB
                    have HB := n0_
                    clear n0_
                    refine start_ (n := 7) (S := fun w' => True) (ds := []) #[false, false, false, false, false, false, false] (by kernel_rfl) rfl rfl trivial (fun hHeld => ?_)
                    generalize wc.drew = w27 at HB hHeld ⊢
                    refine pure_ (i := 0) (N := some 37) (v := ?_) (a' := ?_) #[true, false, false, false, false, false, false] rfl rfl (by kernel_rfl) (fun _ _ _ h => h) (Or.inl ⟨by rfl, ?_⟩) ?_ ?_
                    rotate_left
                    · intro w'
                      go_simp
                      with_reducible rfl
                    rotate_left
                    · simp only [Act.put, List.setIfInBounds_toArray, List.set_cons_zero, List.set_cons_succ, i64_w, i32_w]
                      rfl
                    refine pure_ (i := 2) (N := some 39) (v := ?_) (a' := ?_) #[true, false, true, false, false, false, false] rfl rfl (by kernel_rfl) (fun _ _ _ h => h) (Or.inl ⟨by rfl, ?_⟩) ?_ ?_
                    rotate_left
                    · intro w'
                      go_simp
                      with_reducible rfl
                    rotate_left
                    · simp only [Act.put, List.setIfInBounds_toArray, List.set_cons_zero, List.set_cons_succ, i64_w, i32_w]
                      rfl
                    refine pure_ (i := 3) (N := some 40) (v := ?_) (a' := ?_) #[true, false, true, true, false, false, false] rfl rfl (by kernel_rfl) (fun _ _ _ h => h) (Or.inl ⟨by rfl, ?_⟩) ?_ ?_
                    rotate_left
                    · intro w'
                      go_simp
                      with_reducible rfl
                    rotate_left
                    · simp only [Act.put, List.setIfInBounds_toArray, List.set_cons_zero, List.set_cons_succ, i64_w, i32_w]
                      rfl
                    refine pure_ (i := 4) (N := some 41) (v := ?_) (a' := ?_) #[true, false, true, true, true, false, false] rfl rfl (by kernel_rfl) (fun _ _ _ h => h) (Or.inl ⟨by rfl, ?_⟩) ?_ ?_
                    rotate_left
                    · intro w'
                      go_simp
                      with_reducible rfl
                    rotate_left
                    · simp only [Act.put, List.setIfInBounds_toArray, List.set_cons_zero, List.set_cons_succ, i64_w, i32_w]
                      rfl
                    refine pure_ (i := 5) (N := some 42) (v := ?_) (a' := ?_) #[true, false, true, true, true, true, false] rfl rfl (by kernel_rfl) (fun _ _ _ h => h) (Or.inl ⟨by rfl, ?_⟩) ?_ ?_
                    rotate_left
                    · intro w'
                      go_simp
                      with_reducible rfl
                    rotate_left
                    · simp only [Act.put, List.setIfInBounds_toArray, List.set_cons_zero, List.set_cons_succ, i64_w, i32_w]
                      rfl
                    refine one_ (i := 1) (N := some 38) #[true, true, true, true, true, true, false] rfl rfl (by kernel_rfl) (by decide) (fun K hK => ?_)
                    refine goes_ Try.func32 (by kernel_rfl) rfl #[.int .u64 t141] (by rfl) rfl rfl (by (try simp only [List.map_toArray, List.map_cons, List.map_nil]); first | done | rfl | (simp only [List.length_drop, List.length_take]; rfl)) ?_
                    with_reducible refine (platformfwref05_Int.calls kj4 t141 t142 _ A20.out).mono ?_
                    rintro e w28 ⟨rfl, hb⟩
                    refine ⟨_, rfl, ?_⟩
                    have n0_ := Aside0.mk (below_step (by repeat (first | (with_reducible first | exact HB.out | apply below_alloc | apply pw_below_drewN | apply below_drew1) | exact HB.out)) hb)
                    clear HB
                    have HB := n0_
                    clear n0_
                    (try clear hb)
                    (try clear hb2)
                    (try clear hk)
                    (try clear hi)
                    refine hK.out _ _ trivial (fun hHeld => ?_)
                    clear hK K
                    refine norm_ (a' := ?_) ?_ ?_
                    rotate_left
                    · show Act.put _ (some 38) _ = _
                      simp only [Act.put, List.setIfInBounds_toArray, List.set_cons_zero, List.set_cons_succ, i64_w, i32_w]
                      rfl
                    refine pure_ (i := 6) (N := some 43) (v := ?_) (a' := ?_) #[true, true, true, true, true, true, true] rfl rfl (by kernel_rfl) (fun _ _ _ h => h) (Or.inl ⟨by rfl, ?_⟩) ?_ ?_
                    rotate_left
                    · intro w'
                      go_simp
                      with_reducible rfl
                    rotate_left
                    · simp only [Act.put, List.setIfInBounds_toArray, List.set_cons_zero, List.set_cons_succ, i64_w, i32_w]
                      rfl
                    refine done_ (by kernel_rfl) ?_
                    try go_wp2
                    go_ret3
                    exact ⟨by first | rfl | (simp [errW_none, errW_some] <;> rfl) | (simp only [← hji21]; first | rfl | (simp [errW_none, errW_some] <;> rfl)) | (simp [*, errW_none, errW_some] <;> rfl), by repeat (first | (with_reducible first | exact HB.out | apply below_alloc | apply pw_below_drewN | apply below_drew1) | exact HB.out)⟩
                · rw [if_neg c22] at H
                  exact absurd H (by simp)
              · rw [if_neg c18] at H
                exact absurd H (by simp)
            · rw [if_neg c17] at H
              exact absurd H (by simp)
    · rw [if_neg c3] at H
      exact absurd H (by simp)

/-! ### platformfwlaw05_BytecodeDecodesIntegers: function 7 -/
def platformfwlaw05_BytecodeDecodesIntegers.f (k : Nat) (a0 : ByteArray) (a1 : Int) : Option (Bool) := if 0 ≤ (Int.tmod a1 8) then (if (Int.tmod a1 8) ≤ (((Int.tmod a1 8) + 1) % 256) then (if (((Int.tmod a1 8) + 1) % 256) ≤ 8 then (if ((⟨#[0, 1, 255, 10, 11, 12, 14, 13]⟩ : ByteArray).extract ((Int.tmod a1 8) : Int).toNat ((((Int.tmod a1 8) + 1) % 256) : Int).toNat).size + a0.size ≤ 9223372036854775807 then ((bytecode_Int.f k a0).bind fun bt143 => ((platformfwref05_ReadInt.f k a0).bind fun bt146 => ((bytecode_Int.f k (((⟨#[0, 1, 255, 10, 11, 12, 14, 13]⟩ : ByteArray).extract ((Int.tmod a1 8) : Int).toNat ((((Int.tmod a1 8) + 1) % 256) : Int).toNat) ++ a0)).bind fun bt149 => ((platformfwref05_ReadInt.f k (((⟨#[0, 1, 255, 10, 11, 12, 14, 13]⟩ : ByteArray).extract ((Int.tmod a1 8) : Int).toNat ((((Int.tmod a1 8) + 1) % 256) : Int).toNat) ++ a0)).bind fun bt152 => ((platformfwlaw05_awake.f k).bind fun t155 => (if t155 = true then (if bt143.1 = bt146.1 then (if bt143.2.1 = bt146.2.1 then (if bt143.2.2 = bt146.2.2 then (if bt149.1 = bt152.1 then (if bt149.2.1 = bt152.2.1 then (some (bt149.2.2 == bt152.2.2)) else (some false)) else (some false)) else (some false)) else (some false)) else (some false)) else (some false))))))) else (none)) else (none)) else (none)) else (none)
theorem platformfwlaw05_BytecodeDecodesIntegers.mono : ∀ a0 a1 k, LeO (platformfwlaw05_BytecodeDecodesIntegers.f k a0 a1) (platformfwlaw05_BytecodeDecodesIntegers.f (k + 1) a0 a1) := by
  intro a0 a1 k
  unfold platformfwlaw05_BytecodeDecodesIntegers.f
  repeat' first
      | (with_reducible exact bytecode_Int.mono _ _)
      | (with_reducible exact platformfwlaw05_awake.mono _)
      | (with_reducible exact platformfwref05_ReadInt.mono _ _)
      | (with_reducible exact LeO.refl _)
      | (with_reducible exact LeO.none _)
      | (with_reducible refine LeO.ite ?_ ?_)
      | (with_reducible refine LeO.bind ?_ (fun _ => ?_))
      | exact bytecode_Int.mono _ _
      | exact platformfwlaw05_awake.mono _
      | exact platformfwref05_ReadInt.mono _ _
      | exact LeO.none _
      | refine LeO.ite ?_ ?_
      | refine LeO.bind ?_ (fun _ => ?_)
set_option maxHeartbeats 8000000 in
set_option maxRecDepth 100000 in
theorem platformfwlaw05_BytecodeDecodesIntegers.calls (k : Nat) (a0 : ByteArray) (a1 : Int) (r : Bool) (w : World) (h : platformfwlaw05_BytecodeDecodesIntegers.f k a0 a1 = some r) :
    Calls Try.prog 7 #[.string a0, .int .u8 a1] w fun e w' => e = .returned (.bool r) ∧ Below w.heap.size w w' := by
  have HB := Aside0.mk (Below.refl w.heap.size w)
  have H : (if 0 ≤ (Int.tmod a1 8) then (if (Int.tmod a1 8) ≤ (((Int.tmod a1 8) + 1) % 256) then (if (((Int.tmod a1 8) + 1) % 256) ≤ 8 then (if ((⟨#[0, 1, 255, 10, 11, 12, 14, 13]⟩ : ByteArray).extract ((Int.tmod a1 8) : Int).toNat ((((Int.tmod a1 8) + 1) % 256) : Int).toNat).size + a0.size ≤ 9223372036854775807 then ((bytecode_Int.f k a0).bind fun bt143 => ((platformfwref05_ReadInt.f k a0).bind fun bt146 => ((bytecode_Int.f k (((⟨#[0, 1, 255, 10, 11, 12, 14, 13]⟩ : ByteArray).extract ((Int.tmod a1 8) : Int).toNat ((((Int.tmod a1 8) + 1) % 256) : Int).toNat) ++ a0)).bind fun bt149 => ((platformfwref05_ReadInt.f k (((⟨#[0, 1, 255, 10, 11, 12, 14, 13]⟩ : ByteArray).extract ((Int.tmod a1 8) : Int).toNat ((((Int.tmod a1 8) + 1) % 256) : Int).toNat) ++ a0)).bind fun bt152 => ((platformfwlaw05_awake.f k).bind fun t155 => (if t155 = true then (if bt143.1 = bt146.1 then (if bt143.2.1 = bt146.2.1 then (if bt143.2.2 = bt146.2.2 then (if bt149.1 = bt152.1 then (if bt149.2.1 = bt152.2.1 then (some (bt149.2.2 == bt152.2.2)) else (some false)) else (some false)) else (some false)) else (some false)) else (some false)) else (some false))))))) else (none)) else (none)) else (none)) else (none)) = some r := h
  clear h
  obtain ⟨ji3, hji3⟩ : ∃ j_ : Int, (Int.tmod a1 8) = j_ := ⟨_, rfl⟩
  replace H : (if 0 ≤ (ji3) then (if (ji3) ≤ (((ji3) + 1) % 256) then (if (((ji3) + 1) % 256) ≤ 8 then (if ((⟨#[0, 1, 255, 10, 11, 12, 14, 13]⟩ : ByteArray).extract ((ji3) : Int).toNat ((((ji3) + 1) % 256) : Int).toNat).size + a0.size ≤ 9223372036854775807 then ((bytecode_Int.f k a0).bind fun bt143 => ((platformfwref05_ReadInt.f k a0).bind fun bt146 => ((bytecode_Int.f k (((⟨#[0, 1, 255, 10, 11, 12, 14, 13]⟩ : ByteArray).extract ((ji3) : Int).toNat ((((ji3) + 1) % 256) : Int).toNat) ++ a0)).bind fun bt149 => ((platformfwref05_ReadInt.f k (((⟨#[0, 1, 255, 10, 11, 12, 14, 13]⟩ : ByteArray).extract ((ji3) : Int).toNat ((((ji3) + 1) % 256) : Int).toNat) ++ a0)).bind fun bt152 => ((platformfwlaw05_awake.f k).bind fun t155 => (if t155 = true then (if bt143.1 = bt146.1 then (if bt143.2.1 = bt146.2.1 then (if bt143.2.2 = bt146.2.2 then (if bt149.1 = bt152.1 then (if bt149.2.1 = bt152.2.1 then (some (bt149.2.2 == bt152.2.2)) else (some false)) else (some false)) else (some false)) else (some false)) else (some false)) else (some false))))))) else (none)) else (none)) else (none)) else (none)) = some r := by first | (rw [hji3] at H; exact H) | (simp only [hji3] at H ⊢; exact H)
  by_cases c4 : 0 ≤ (ji3)
  · rw [if_pos c4] at H
    have c4b0 := eq_true c4
    have c4b1 : decide (0 ≤ (ji3)) = true := decide_eq_true c4
    clear c4
    by_cases c5 : (ji3) ≤ (((ji3) + 1) % 256)
    · rw [if_pos c5] at H
      have c5b0 := eq_true c5
      have c5b1 : decide ((ji3) ≤ (((ji3) + 1) % 256)) = true := decide_eq_true c5
      by_cases c6 : (((ji3) + 1) % 256) ≤ 8
      · rw [if_pos c6] at H
        have c6b0 := eq_true c6
        have c6b1 : decide ((((ji3) + 1) % 256) ≤ 8) = true := decide_eq_true c6
        by_cases c7 : ((⟨#[0, 1, 255, 10, 11, 12, 14, 13]⟩ : ByteArray).extract ((ji3) : Int).toNat ((((ji3) + 1) % 256) : Int).toNat).size + a0.size ≤ 9223372036854775807
        · rw [if_pos c7] at H
          have c7b0 := eq_true c7
          have c7b1 : decide (((⟨#[0, 1, 255, 10, 11, 12, 14, 13]⟩ : ByteArray).extract ((ji3) : Int).toNat ((((ji3) + 1) % 256) : Int).toNat).size + a0.size ≤ 9223372036854775807) = true := decide_eq_true c7
          try have c7b2 : (9223372036854775807 < ((⟨#[0, 1, 255, 10, 11, 12, 14, 13]⟩ : ByteArray).extract ((ji3) : Int).toNat ((((ji3) + 1) % 256) : Int).toNat).size + a0.size) = False := eq_false (Nat.not_lt.2 c7)
          replace H := Option.bind_eq_some_iff.mp H
          obtain ⟨⟨t143, t144, t145⟩, A80, H⟩ := H
          replace H : ((platformfwref05_ReadInt.f k a0).bind fun bt146 => ((bytecode_Int.f k (((⟨#[0, 1, 255, 10, 11, 12, 14, 13]⟩ : ByteArray).extract ((ji3) : Int).toNat ((((ji3) + 1) % 256) : Int).toNat) ++ a0)).bind fun bt149 => ((platformfwref05_ReadInt.f k (((⟨#[0, 1, 255, 10, 11, 12, 14, 13]⟩ : ByteArray).extract ((ji3) : Int).toNat ((((ji3) + 1) % 256) : Int).toNat) ++ a0)).bind fun bt152 => ((platformfwlaw05_awake.f k).bind fun t155 => (if t155 = true then (if t143 = bt146.1 then (if t144 = bt146.2.1 then (if t145 = bt146.2.2 then (if bt149.1 = bt152.1 then (if bt149.2.1 = bt152.2.1 then (some (bt149.2.2 == bt152.2.2)) else (some false)) else (some false)) else (some false)) else (some false)) else (some false)) else (some false)))))) = some r := H
          have A8 := Aside0.mk A80
          clear A80
          replace H := Option.bind_eq_some_iff.mp H
          obtain ⟨⟨t146, t147, t148⟩, A90, H⟩ := H
          replace H : ((bytecode_Int.f k (((⟨#[0, 1, 255, 10, 11, 12, 14, 13]⟩ : ByteArray).extract ((ji3) : Int).toNat ((((ji3) + 1) % 256) : Int).toNat) ++ a0)).bind fun bt149 => ((platformfwref05_ReadInt.f k (((⟨#[0, 1, 255, 10, 11, 12, 14, 13]⟩ : ByteArray).extract ((ji3) : Int).toNat ((((ji3) + 1) % 256) : Int).toNat) ++ a0)).bind fun bt152 => ((platformfwlaw05_awake.f k).bind fun t155 => (if t155 = true then (if t143 = t146 then (if t144 = t147 then (if t145 = t148 then (if bt149.1 = bt152.1 then (if bt149.2.1 = bt152.2.1 then (some (bt149.2.2 == bt152.2.2)) else (some false)) else (some false)) else (some false)) else (some false)) else (some false)) else (some false))))) = some r := H
          have A9 := Aside0.mk A90
          clear A90
          replace H := Option.bind_eq_some_iff.mp H
          obtain ⟨⟨t149, t150, t151⟩, A100, H⟩ := H
          replace H : ((platformfwref05_ReadInt.f k (((⟨#[0, 1, 255, 10, 11, 12, 14, 13]⟩ : ByteArray).extract ((ji3) : Int).toNat ((((ji3) + 1) % 256) : Int).toNat) ++ a0)).bind fun bt152 => ((platformfwlaw05_awake.f k).bind fun t155 => (if t155 = true then (if t143 = t146 then (if t144 = t147 then (if t145 = t148 then (if t149 = bt152.1 then (if t150 = bt152.2.1 then (some (t151 == bt152.2.2)) else (some false)) else (some false)) else (some false)) else (some false)) else (some false)) else (some false)))) = some r := H
          have A10 := Aside0.mk A100
          clear A100
          replace H := Option.bind_eq_some_iff.mp H
          obtain ⟨⟨t152, t153, t154⟩, A110, H⟩ := H
          replace H : ((platformfwlaw05_awake.f k).bind fun t155 => (if t155 = true then (if t143 = t146 then (if t144 = t147 then (if t145 = t148 then (if t149 = t152 then (if t150 = t153 then (some (t151 == t154)) else (some false)) else (some false)) else (some false)) else (some false)) else (some false)) else (some false))) = some r := H
          have A11 := Aside0.mk A110
          clear A110
          replace H := Option.bind_eq_some_iff.mp H
          obtain ⟨t155, A120, H⟩ := H
          replace H : (if t155 = true then (if t143 = t146 then (if t144 = t147 then (if t145 = t148 then (if t149 = t152 then (if t150 = t153 then (some (t151 == t154)) else (some false)) else (some false)) else (some false)) else (some false)) else (some false)) else (some false)) = some r := H
          have A12 := Aside0.mk A120
          clear A120
          by_cases c13 : t155 = true
          · subst c13
            have H1 : (if t143 = t146 then (if t144 = t147 then (if t145 = t148 then (if t149 = t152 then (if t150 = t153 then (some (t151 == t154)) else (some false)) else (some false)) else (some false)) else (some false)) else (some false)) = some r := by rw [if_pos rfl] at H; exact H
            clear H
            have H := H1
            clear H1
            by_cases c14 : t143 = t146
            · rw [if_pos c14] at H
              have c14b0 : (t143 == t146) = true := beq_iff_eq.mpr c14
              have c14b1 : (t143 != t146) = false := bne_eq_false_iff_eq.mpr c14
              clear c14
              by_cases c15 : t144 = t147
              · rw [if_pos c15] at H
                have c15b0 : (t144 == t147) = true := beq_iff_eq.mpr c15
                have c15b1 : (t144 != t147) = false := bne_eq_false_iff_eq.mpr c15
                clear c15
                by_cases c16 : t145 = t148
                · rw [if_pos c16] at H
                  have c16b0 : (t145 == t148) = true := beq_iff_eq.mpr c16
                  have c16b1 : (t145 != t148) = false := bne_eq_false_iff_eq.mpr c16
                  clear c16
                  by_cases c17 : t149 = t152
                  · rw [if_pos c17] at H
                    have c17b0 : (t149 == t152) = true := beq_iff_eq.mpr c17
                    have c17b1 : (t149 != t152) = false := bne_eq_false_iff_eq.mpr c17
                    clear c17
                    by_cases c18 : t150 = t153
                    · rw [if_pos c18] at H
                      have c18b0 : (t150 == t153) = true := beq_iff_eq.mpr c18
                      have c18b1 : (t150 != t153) = false := bne_eq_false_iff_eq.mpr c18
                      clear c18
                      obtain rfl := Option.some.inj H
                      go_enter Try.func7, Try.ntmps7
                      go_wp2_with (first | ((with_reducible refine gate_callee (f := 31) rfl ?_); refine goesL_ (some 28) rfl rfl Try.func31 (by kernel_rfl) rfl #[.string a0] rfl (by (try simp only [List.map_toArray, List.map_cons, List.map_nil]); first | done | rfl | (simp only [List.length_drop, List.length_take]; rfl)) ?_; (with_reducible refine (bytecode_Int.calls k a0 t143 t144 t145 _ A8.out).mono ?_); rintro e w' ⟨rfl, ⟨nd, rfl⟩⟩; refine ⟨_, rfl, ?_⟩) | ((with_reducible refine gate_callee (f := 34) rfl ?_); refine goesL_ (some 34) rfl rfl Try.func34 (by kernel_rfl) rfl #[.string a0] rfl (by (try simp only [List.map_toArray, List.map_cons, List.map_nil]); first | done | rfl | (simp only [List.length_drop, List.length_take]; rfl)) ?_; (with_reducible refine (platformfwref05_ReadInt.calls k a0 t146 t147 t148 _ A9.out).mono ?_); rintro e w19 ⟨rfl, hb⟩; refine ⟨_, rfl, ?_⟩; have n0_ := Aside0.mk (below_step (by repeat (first | (with_reducible first | exact HB.out | apply below_alloc | apply pw_below_drewN | apply below_drew1) | exact HB.out)) hb); clear HB; have HB := n0_; clear n0_; (try clear hb); (try clear hb2); (try clear hk); (try clear hi)) | ((with_reducible refine gate_callee (f := 31) rfl ?_); refine goesL_ (some 40) rfl rfl Try.func31 (by kernel_rfl) rfl #[.string (((⟨#[0, 1, 255, 10, 11, 12, 14, 13]⟩ : ByteArray).extract ((ji3) : Int).toNat ((((ji3) + 1) % 256) : Int).toNat) ++ a0)] rfl (by (try simp only [List.map_toArray, List.map_cons, List.map_nil]); first | done | (simp only [hji3]; rfl) | rfl | (simp only [List.length_drop, List.length_take]; rfl)) ?_; (with_reducible refine (bytecode_Int.calls k (((⟨#[0, 1, 255, 10, 11, 12, 14, 13]⟩ : ByteArray).extract ((ji3) : Int).toNat ((((ji3) + 1) % 256) : Int).toNat) ++ a0) t149 t150 t151 _ A10.out).mono ?_); rintro e w' ⟨rfl, ⟨nd, rfl⟩⟩; refine ⟨_, rfl, ?_⟩) | ((with_reducible refine gate_callee (f := 34) rfl ?_); refine goesL_ (some 46) rfl rfl Try.func34 (by kernel_rfl) rfl #[.string (((⟨#[0, 1, 255, 10, 11, 12, 14, 13]⟩ : ByteArray).extract ((ji3) : Int).toNat ((((ji3) + 1) % 256) : Int).toNat) ++ a0)] rfl (by (try simp only [List.map_toArray, List.map_cons, List.map_nil]); first | done | (simp only [hji3]; rfl) | rfl | (simp only [List.length_drop, List.length_take]; rfl)) ?_; (with_reducible refine (platformfwref05_ReadInt.calls k (((⟨#[0, 1, 255, 10, 11, 12, 14, 13]⟩ : ByteArray).extract ((ji3) : Int).toNat ((((ji3) + 1) % 256) : Int).toNat) ++ a0) t152 t153 t154 _ A11.out).mono ?_); rintro e w20 ⟨rfl, hb⟩; refine ⟨_, rfl, ?_⟩; have n0_ := Aside0.mk (below_step (by repeat (first | (with_reducible first | exact HB.out | apply below_alloc | apply pw_below_drewN | apply below_drew1) | exact HB.out)) hb); clear HB; have HB := n0_; clear n0_; (try clear hb); (try clear hb2); (try clear hk); (try clear hi)) | ((with_reducible refine gate_callee (f := 33) rfl ?_); refine goesL_ (some 50) rfl rfl Try.func33 (by kernel_rfl) rfl #[] rfl (by (try simp only [List.map_toArray, List.map_cons, List.map_nil]); first | done | rfl | (simp only [List.length_drop, List.length_take]; rfl)) ?_; (with_reducible refine (platformfwlaw05_awake.calls k  true _ A12.out).mono ?_); rintro e w21 ⟨rfl, hb⟩; refine ⟨_, rfl, ?_⟩; have n0_ := Aside0.mk (below_step (by repeat (first | (with_reducible first | exact HB.out | apply below_alloc | apply pw_below_drewN | apply below_drew1) | exact HB.out)) hb); clear HB; have HB := n0_; clear n0_; (try clear hb); (try clear hb2); (try clear hk); (try clear hi)))
                      go_ret
                      exact ⟨by first | rfl | (simp [errW_none, errW_some] <;> rfl) | (simp only [← hji3]; first | rfl | (simp [errW_none, errW_some] <;> rfl)) | (simp [*, errW_none, errW_some] <;> rfl), by repeat (first | (with_reducible first | exact HB.out | apply below_alloc | apply pw_below_drewN | apply below_drew1) | exact HB.out)⟩
                    · rw [if_neg c18] at H
                      have c18b0 : (t150 == t153) = false := beq_eq_false_iff_ne.mpr c18
                      have c18b1 : (t150 != t153) = true := bne_iff_ne.mpr c18
                      obtain rfl := Option.some.inj H
                      go_enter Try.func7, Try.ntmps7
                      go_wp2_with (first | ((with_reducible refine gate_callee (f := 31) rfl ?_); refine goesL_ (some 28) rfl rfl Try.func31 (by kernel_rfl) rfl #[.string a0] rfl (by (try simp only [List.map_toArray, List.map_cons, List.map_nil]); first | done | rfl | (simp only [List.length_drop, List.length_take]; rfl)) ?_; (with_reducible refine (bytecode_Int.calls k a0 t143 t144 t145 _ A8.out).mono ?_); rintro e w' ⟨rfl, ⟨nd, rfl⟩⟩; refine ⟨_, rfl, ?_⟩) | ((with_reducible refine gate_callee (f := 34) rfl ?_); refine goesL_ (some 34) rfl rfl Try.func34 (by kernel_rfl) rfl #[.string a0] rfl (by (try simp only [List.map_toArray, List.map_cons, List.map_nil]); first | done | rfl | (simp only [List.length_drop, List.length_take]; rfl)) ?_; (with_reducible refine (platformfwref05_ReadInt.calls k a0 t146 t147 t148 _ A9.out).mono ?_); rintro e w22 ⟨rfl, hb⟩; refine ⟨_, rfl, ?_⟩; have n0_ := Aside0.mk (below_step (by repeat (first | (with_reducible first | exact HB.out | apply below_alloc | apply pw_below_drewN | apply below_drew1) | exact HB.out)) hb); clear HB; have HB := n0_; clear n0_; (try clear hb); (try clear hb2); (try clear hk); (try clear hi)) | ((with_reducible refine gate_callee (f := 31) rfl ?_); refine goesL_ (some 40) rfl rfl Try.func31 (by kernel_rfl) rfl #[.string (((⟨#[0, 1, 255, 10, 11, 12, 14, 13]⟩ : ByteArray).extract ((ji3) : Int).toNat ((((ji3) + 1) % 256) : Int).toNat) ++ a0)] rfl (by (try simp only [List.map_toArray, List.map_cons, List.map_nil]); first | done | (simp only [hji3]; rfl) | rfl | (simp only [List.length_drop, List.length_take]; rfl)) ?_; (with_reducible refine (bytecode_Int.calls k (((⟨#[0, 1, 255, 10, 11, 12, 14, 13]⟩ : ByteArray).extract ((ji3) : Int).toNat ((((ji3) + 1) % 256) : Int).toNat) ++ a0) t149 t150 t151 _ A10.out).mono ?_); rintro e w' ⟨rfl, ⟨nd, rfl⟩⟩; refine ⟨_, rfl, ?_⟩) | ((with_reducible refine gate_callee (f := 34) rfl ?_); refine goesL_ (some 46) rfl rfl Try.func34 (by kernel_rfl) rfl #[.string (((⟨#[0, 1, 255, 10, 11, 12, 14, 13]⟩ : ByteArray).extract ((ji3) : Int).toNat ((((ji3) + 1) % 256) : Int).toNat) ++ a0)] rfl (by (try simp only [List.map_toArray, List.map_cons, List.map_nil]); first | done | (simp only [hji3]; rfl) | rfl | (simp only [List.length_drop, List.length_take]; rfl)) ?_; (with_reducible refine (platformfwref05_ReadInt.calls k (((⟨#[0, 1, 255, 10, 11, 12, 14, 13]⟩ : ByteArray).extract ((ji3) : Int).toNat ((((ji3) + 1) % 256) : Int).toNat) ++ a0) t152 t153 t154 _ A11.out).mono ?_); rintro e w23 ⟨rfl, hb⟩; refine ⟨_, rfl, ?_⟩; have n0_ := Aside0.mk (below_step (by repeat (first | (with_reducible first | exact HB.out | apply below_alloc | apply pw_below_drewN | apply below_drew1) | exact HB.out)) hb); clear HB; have HB := n0_; clear n0_; (try clear hb); (try clear hb2); (try clear hk); (try clear hi)) | ((with_reducible refine gate_callee (f := 33) rfl ?_); refine goesL_ (some 50) rfl rfl Try.func33 (by kernel_rfl) rfl #[] rfl (by (try simp only [List.map_toArray, List.map_cons, List.map_nil]); first | done | rfl | (simp only [List.length_drop, List.length_take]; rfl)) ?_; (with_reducible refine (platformfwlaw05_awake.calls k  true _ A12.out).mono ?_); rintro e w24 ⟨rfl, hb⟩; refine ⟨_, rfl, ?_⟩; have n0_ := Aside0.mk (below_step (by repeat (first | (with_reducible first | exact HB.out | apply below_alloc | apply pw_below_drewN | apply below_drew1) | exact HB.out)) hb); clear HB; have HB := n0_; clear n0_; (try clear hb); (try clear hb2); (try clear hk); (try clear hi)))
                      go_ret
                      exact ⟨by first | rfl | (simp [errW_none, errW_some] <;> rfl) | (simp only [← hji3]; first | rfl | (simp [errW_none, errW_some] <;> rfl)) | (simp [*, errW_none, errW_some] <;> rfl), by repeat (first | (with_reducible first | exact HB.out | apply below_alloc | apply pw_below_drewN | apply below_drew1) | exact HB.out)⟩
                  · rw [if_neg c17] at H
                    have c17b0 : (t149 == t152) = false := beq_eq_false_iff_ne.mpr c17
                    have c17b1 : (t149 != t152) = true := bne_iff_ne.mpr c17
                    obtain rfl := Option.some.inj H
                    go_enter Try.func7, Try.ntmps7
                    go_wp2_with (first | ((with_reducible refine gate_callee (f := 31) rfl ?_); refine goesL_ (some 28) rfl rfl Try.func31 (by kernel_rfl) rfl #[.string a0] rfl (by (try simp only [List.map_toArray, List.map_cons, List.map_nil]); first | done | rfl | (simp only [List.length_drop, List.length_take]; rfl)) ?_; (with_reducible refine (bytecode_Int.calls k a0 t143 t144 t145 _ A8.out).mono ?_); rintro e w' ⟨rfl, ⟨nd, rfl⟩⟩; refine ⟨_, rfl, ?_⟩) | ((with_reducible refine gate_callee (f := 34) rfl ?_); refine goesL_ (some 34) rfl rfl Try.func34 (by kernel_rfl) rfl #[.string a0] rfl (by (try simp only [List.map_toArray, List.map_cons, List.map_nil]); first | done | rfl | (simp only [List.length_drop, List.length_take]; rfl)) ?_; (with_reducible refine (platformfwref05_ReadInt.calls k a0 t146 t147 t148 _ A9.out).mono ?_); rintro e w25 ⟨rfl, hb⟩; refine ⟨_, rfl, ?_⟩; have n0_ := Aside0.mk (below_step (by repeat (first | (with_reducible first | exact HB.out | apply below_alloc | apply pw_below_drewN | apply below_drew1) | exact HB.out)) hb); clear HB; have HB := n0_; clear n0_; (try clear hb); (try clear hb2); (try clear hk); (try clear hi)) | ((with_reducible refine gate_callee (f := 31) rfl ?_); refine goesL_ (some 40) rfl rfl Try.func31 (by kernel_rfl) rfl #[.string (((⟨#[0, 1, 255, 10, 11, 12, 14, 13]⟩ : ByteArray).extract ((ji3) : Int).toNat ((((ji3) + 1) % 256) : Int).toNat) ++ a0)] rfl (by (try simp only [List.map_toArray, List.map_cons, List.map_nil]); first | done | (simp only [hji3]; rfl) | rfl | (simp only [List.length_drop, List.length_take]; rfl)) ?_; (with_reducible refine (bytecode_Int.calls k (((⟨#[0, 1, 255, 10, 11, 12, 14, 13]⟩ : ByteArray).extract ((ji3) : Int).toNat ((((ji3) + 1) % 256) : Int).toNat) ++ a0) t149 t150 t151 _ A10.out).mono ?_); rintro e w' ⟨rfl, ⟨nd, rfl⟩⟩; refine ⟨_, rfl, ?_⟩) | ((with_reducible refine gate_callee (f := 34) rfl ?_); refine goesL_ (some 46) rfl rfl Try.func34 (by kernel_rfl) rfl #[.string (((⟨#[0, 1, 255, 10, 11, 12, 14, 13]⟩ : ByteArray).extract ((ji3) : Int).toNat ((((ji3) + 1) % 256) : Int).toNat) ++ a0)] rfl (by (try simp only [List.map_toArray, List.map_cons, List.map_nil]); first | done | (simp only [hji3]; rfl) | rfl | (simp only [List.length_drop, List.length_take]; rfl)) ?_; (with_reducible refine (platformfwref05_ReadInt.calls k (((⟨#[0, 1, 255, 10, 11, 12, 14, 13]⟩ : ByteArray).extract ((ji3) : Int).toNat ((((ji3) + 1) % 256) : Int).toNat) ++ a0) t152 t153 t154 _ A11.out).mono ?_); rintro e w26 ⟨rfl, hb⟩; refine ⟨_, rfl, ?_⟩; have n0_ := Aside0.mk (below_step (by repeat (first | (with_reducible first | exact HB.out | apply below_alloc | apply pw_below_drewN | apply below_drew1) | exact HB.out)) hb); clear HB; have HB := n0_; clear n0_; (try clear hb); (try clear hb2); (try clear hk); (try clear hi)) | ((with_reducible refine gate_callee (f := 33) rfl ?_); refine goesL_ (some 50) rfl rfl Try.func33 (by kernel_rfl) rfl #[] rfl (by (try simp only [List.map_toArray, List.map_cons, List.map_nil]); first | done | rfl | (simp only [List.length_drop, List.length_take]; rfl)) ?_; (with_reducible refine (platformfwlaw05_awake.calls k  true _ A12.out).mono ?_); rintro e w27 ⟨rfl, hb⟩; refine ⟨_, rfl, ?_⟩; have n0_ := Aside0.mk (below_step (by repeat (first | (with_reducible first | exact HB.out | apply below_alloc | apply pw_below_drewN | apply below_drew1) | exact HB.out)) hb); clear HB; have HB := n0_; clear n0_; (try clear hb); (try clear hb2); (try clear hk); (try clear hi)))
                    go_ret
                    exact ⟨by first | rfl | (simp [errW_none, errW_some] <;> rfl) | (simp only [← hji3]; first | rfl | (simp [errW_none, errW_some] <;> rfl)) | (simp [*, errW_none, errW_some] <;> rfl), by repeat (first | (with_reducible first | exact HB.out | apply below_alloc | apply pw_below_drewN | apply below_drew1) | exact HB.out)⟩
                · rw [if_neg c16] at H
                  have c16b0 : (t145 == t148) = false := beq_eq_false_iff_ne.mpr c16
                  have c16b1 : (t145 != t148) = true := bne_iff_ne.mpr c16
                  obtain rfl := Option.some.inj H
                  go_enter Try.func7, Try.ntmps7
                  go_wp2_with (first | ((with_reducible refine gate_callee (f := 31) rfl ?_); refine goesL_ (some 28) rfl rfl Try.func31 (by kernel_rfl) rfl #[.string a0] rfl (by (try simp only [List.map_toArray, List.map_cons, List.map_nil]); first | done | rfl | (simp only [List.length_drop, List.length_take]; rfl)) ?_; (with_reducible refine (bytecode_Int.calls k a0 t143 t144 t145 _ A8.out).mono ?_); rintro e w' ⟨rfl, ⟨nd, rfl⟩⟩; refine ⟨_, rfl, ?_⟩) | ((with_reducible refine gate_callee (f := 34) rfl ?_); refine goesL_ (some 34) rfl rfl Try.func34 (by kernel_rfl) rfl #[.string a0] rfl (by (try simp only [List.map_toArray, List.map_cons, List.map_nil]); first | done | rfl | (simp only [List.length_drop, List.length_take]; rfl)) ?_; (with_reducible refine (platformfwref05_ReadInt.calls k a0 t146 t147 t148 _ A9.out).mono ?_); rintro e w28 ⟨rfl, hb⟩; refine ⟨_, rfl, ?_⟩; have n0_ := Aside0.mk (below_step (by repeat (first | (with_reducible first | exact HB.out | apply below_alloc | apply pw_below_drewN | apply below_drew1) | exact HB.out)) hb); clear HB; have HB := n0_; clear n0_; (try clear hb); (try clear hb2); (try clear hk); (try clear hi)) | ((with_reducible refine gate_callee (f := 31) rfl ?_); refine goesL_ (some 40) rfl rfl Try.func31 (by kernel_rfl) rfl #[.string (((⟨#[0, 1, 255, 10, 11, 12, 14, 13]⟩ : ByteArray).extract ((ji3) : Int).toNat ((((ji3) + 1) % 256) : Int).toNat) ++ a0)] rfl (by (try simp only [List.map_toArray, List.map_cons, List.map_nil]); first | done | (simp only [hji3]; rfl) | rfl | (simp only [List.length_drop, List.length_take]; rfl)) ?_; (with_reducible refine (bytecode_Int.calls k (((⟨#[0, 1, 255, 10, 11, 12, 14, 13]⟩ : ByteArray).extract ((ji3) : Int).toNat ((((ji3) + 1) % 256) : Int).toNat) ++ a0) t149 t150 t151 _ A10.out).mono ?_); rintro e w' ⟨rfl, ⟨nd, rfl⟩⟩; refine ⟨_, rfl, ?_⟩) | ((with_reducible refine gate_callee (f := 34) rfl ?_); refine goesL_ (some 46) rfl rfl Try.func34 (by kernel_rfl) rfl #[.string (((⟨#[0, 1, 255, 10, 11, 12, 14, 13]⟩ : ByteArray).extract ((ji3) : Int).toNat ((((ji3) + 1) % 256) : Int).toNat) ++ a0)] rfl (by (try simp only [List.map_toArray, List.map_cons, List.map_nil]); first | done | (simp only [hji3]; rfl) | rfl | (simp only [List.length_drop, List.length_take]; rfl)) ?_; (with_reducible refine (platformfwref05_ReadInt.calls k (((⟨#[0, 1, 255, 10, 11, 12, 14, 13]⟩ : ByteArray).extract ((ji3) : Int).toNat ((((ji3) + 1) % 256) : Int).toNat) ++ a0) t152 t153 t154 _ A11.out).mono ?_); rintro e w29 ⟨rfl, hb⟩; refine ⟨_, rfl, ?_⟩; have n0_ := Aside0.mk (below_step (by repeat (first | (with_reducible first | exact HB.out | apply below_alloc | apply pw_below_drewN | apply below_drew1) | exact HB.out)) hb); clear HB; have HB := n0_; clear n0_; (try clear hb); (try clear hb2); (try clear hk); (try clear hi)) | ((with_reducible refine gate_callee (f := 33) rfl ?_); refine goesL_ (some 50) rfl rfl Try.func33 (by kernel_rfl) rfl #[] rfl (by (try simp only [List.map_toArray, List.map_cons, List.map_nil]); first | done | rfl | (simp only [List.length_drop, List.length_take]; rfl)) ?_; (with_reducible refine (platformfwlaw05_awake.calls k  true _ A12.out).mono ?_); rintro e w30 ⟨rfl, hb⟩; refine ⟨_, rfl, ?_⟩; have n0_ := Aside0.mk (below_step (by repeat (first | (with_reducible first | exact HB.out | apply below_alloc | apply pw_below_drewN | apply below_drew1) | exact HB.out)) hb); clear HB; have HB := n0_; clear n0_; (try clear hb); (try clear hb2); (try clear hk); (try clear hi)))
                  go_ret
                  exact ⟨by first | rfl | (simp [errW_none, errW_some] <;> rfl) | (simp only [← hji3]; first | rfl | (simp [errW_none, errW_some] <;> rfl)) | (simp [*, errW_none, errW_some] <;> rfl), by repeat (first | (with_reducible first | exact HB.out | apply below_alloc | apply pw_below_drewN | apply below_drew1) | exact HB.out)⟩
              · rw [if_neg c15] at H
                have c15b0 : (t144 == t147) = false := beq_eq_false_iff_ne.mpr c15
                have c15b1 : (t144 != t147) = true := bne_iff_ne.mpr c15
                obtain rfl := Option.some.inj H
                go_enter Try.func7, Try.ntmps7
                go_wp2_with (first | ((with_reducible refine gate_callee (f := 31) rfl ?_); refine goesL_ (some 28) rfl rfl Try.func31 (by kernel_rfl) rfl #[.string a0] rfl (by (try simp only [List.map_toArray, List.map_cons, List.map_nil]); first | done | rfl | (simp only [List.length_drop, List.length_take]; rfl)) ?_; (with_reducible refine (bytecode_Int.calls k a0 t143 t144 t145 _ A8.out).mono ?_); rintro e w' ⟨rfl, ⟨nd, rfl⟩⟩; refine ⟨_, rfl, ?_⟩) | ((with_reducible refine gate_callee (f := 34) rfl ?_); refine goesL_ (some 34) rfl rfl Try.func34 (by kernel_rfl) rfl #[.string a0] rfl (by (try simp only [List.map_toArray, List.map_cons, List.map_nil]); first | done | rfl | (simp only [List.length_drop, List.length_take]; rfl)) ?_; (with_reducible refine (platformfwref05_ReadInt.calls k a0 t146 t147 t148 _ A9.out).mono ?_); rintro e w31 ⟨rfl, hb⟩; refine ⟨_, rfl, ?_⟩; have n0_ := Aside0.mk (below_step (by repeat (first | (with_reducible first | exact HB.out | apply below_alloc | apply pw_below_drewN | apply below_drew1) | exact HB.out)) hb); clear HB; have HB := n0_; clear n0_; (try clear hb); (try clear hb2); (try clear hk); (try clear hi)) | ((with_reducible refine gate_callee (f := 31) rfl ?_); refine goesL_ (some 40) rfl rfl Try.func31 (by kernel_rfl) rfl #[.string (((⟨#[0, 1, 255, 10, 11, 12, 14, 13]⟩ : ByteArray).extract ((ji3) : Int).toNat ((((ji3) + 1) % 256) : Int).toNat) ++ a0)] rfl (by (try simp only [List.map_toArray, List.map_cons, List.map_nil]); first | done | (simp only [hji3]; rfl) | rfl | (simp only [List.length_drop, List.length_take]; rfl)) ?_; (with_reducible refine (bytecode_Int.calls k (((⟨#[0, 1, 255, 10, 11, 12, 14, 13]⟩ : ByteArray).extract ((ji3) : Int).toNat ((((ji3) + 1) % 256) : Int).toNat) ++ a0) t149 t150 t151 _ A10.out).mono ?_); rintro e w' ⟨rfl, ⟨nd, rfl⟩⟩; refine ⟨_, rfl, ?_⟩) | ((with_reducible refine gate_callee (f := 34) rfl ?_); refine goesL_ (some 46) rfl rfl Try.func34 (by kernel_rfl) rfl #[.string (((⟨#[0, 1, 255, 10, 11, 12, 14, 13]⟩ : ByteArray).extract ((ji3) : Int).toNat ((((ji3) + 1) % 256) : Int).toNat) ++ a0)] rfl (by (try simp only [List.map_toArray, List.map_cons, List.map_nil]); first | done | (simp only [hji3]; rfl) | rfl | (simp only [List.length_drop, List.length_take]; rfl)) ?_; (with_reducible refine (platformfwref05_ReadInt.calls k (((⟨#[0, 1, 255, 10, 11, 12, 14, 13]⟩ : ByteArray).extract ((ji3) : Int).toNat ((((ji3) + 1) % 256) : Int).toNat) ++ a0) t152 t153 t154 _ A11.out).mono ?_); rintro e w32 ⟨rfl, hb⟩; refine ⟨_, rfl, ?_⟩; have n0_ := Aside0.mk (below_step (by repeat (first | (with_reducible first | exact HB.out | apply below_alloc | apply pw_below_drewN | apply below_drew1) | exact HB.out)) hb); clear HB; have HB := n0_; clear n0_; (try clear hb); (try clear hb2); (try clear hk); (try clear hi)) | ((with_reducible refine gate_callee (f := 33) rfl ?_); refine goesL_ (some 50) rfl rfl Try.func33 (by kernel_rfl) rfl #[] rfl (by (try simp only [List.map_toArray, List.map_cons, List.map_nil]); first | done | rfl | (simp only [List.length_drop, List.length_take]; rfl)) ?_; (with_reducible refine (platformfwlaw05_awake.calls k  true _ A12.out).mono ?_); rintro e w33 ⟨rfl, hb⟩; refine ⟨_, rfl, ?_⟩; have n0_ := Aside0.mk (below_step (by repeat (first | (with_reducible first | exact HB.out | apply below_alloc | apply pw_below_drewN | apply below_drew1) | exact HB.out)) hb); clear HB; have HB := n0_; clear n0_; (try clear hb); (try clear hb2); (try clear hk); (try clear hi)))
                go_ret
                exact ⟨by first | rfl | (simp [errW_none, errW_some] <;> rfl) | (simp only [← hji3]; first | rfl | (simp [errW_none, errW_some] <;> rfl)) | (simp [*, errW_none, errW_some] <;> rfl), by repeat (first | (with_reducible first | exact HB.out | apply below_alloc | apply pw_below_drewN | apply below_drew1) | exact HB.out)⟩
            · rw [if_neg c14] at H
              have c14b0 : (t143 == t146) = false := beq_eq_false_iff_ne.mpr c14
              have c14b1 : (t143 != t146) = true := bne_iff_ne.mpr c14
              obtain rfl := Option.some.inj H
              go_enter Try.func7, Try.ntmps7
              go_wp2_with (first | ((with_reducible refine gate_callee (f := 31) rfl ?_); refine goesL_ (some 28) rfl rfl Try.func31 (by kernel_rfl) rfl #[.string a0] rfl (by (try simp only [List.map_toArray, List.map_cons, List.map_nil]); first | done | rfl | (simp only [List.length_drop, List.length_take]; rfl)) ?_; (with_reducible refine (bytecode_Int.calls k a0 t143 t144 t145 _ A8.out).mono ?_); rintro e w' ⟨rfl, ⟨nd, rfl⟩⟩; refine ⟨_, rfl, ?_⟩) | ((with_reducible refine gate_callee (f := 34) rfl ?_); refine goesL_ (some 34) rfl rfl Try.func34 (by kernel_rfl) rfl #[.string a0] rfl (by (try simp only [List.map_toArray, List.map_cons, List.map_nil]); first | done | rfl | (simp only [List.length_drop, List.length_take]; rfl)) ?_; (with_reducible refine (platformfwref05_ReadInt.calls k a0 t146 t147 t148 _ A9.out).mono ?_); rintro e w34 ⟨rfl, hb⟩; refine ⟨_, rfl, ?_⟩; have n0_ := Aside0.mk (below_step (by repeat (first | (with_reducible first | exact HB.out | apply below_alloc | apply pw_below_drewN | apply below_drew1) | exact HB.out)) hb); clear HB; have HB := n0_; clear n0_; (try clear hb); (try clear hb2); (try clear hk); (try clear hi)) | ((with_reducible refine gate_callee (f := 31) rfl ?_); refine goesL_ (some 40) rfl rfl Try.func31 (by kernel_rfl) rfl #[.string (((⟨#[0, 1, 255, 10, 11, 12, 14, 13]⟩ : ByteArray).extract ((ji3) : Int).toNat ((((ji3) + 1) % 256) : Int).toNat) ++ a0)] rfl (by (try simp only [List.map_toArray, List.map_cons, List.map_nil]); first | done | (simp only [hji3]; rfl) | rfl | (simp only [List.length_drop, List.length_take]; rfl)) ?_; (with_reducible refine (bytecode_Int.calls k (((⟨#[0, 1, 255, 10, 11, 12, 14, 13]⟩ : ByteArray).extract ((ji3) : Int).toNat ((((ji3) + 1) % 256) : Int).toNat) ++ a0) t149 t150 t151 _ A10.out).mono ?_); rintro e w' ⟨rfl, ⟨nd, rfl⟩⟩; refine ⟨_, rfl, ?_⟩) | ((with_reducible refine gate_callee (f := 34) rfl ?_); refine goesL_ (some 46) rfl rfl Try.func34 (by kernel_rfl) rfl #[.string (((⟨#[0, 1, 255, 10, 11, 12, 14, 13]⟩ : ByteArray).extract ((ji3) : Int).toNat ((((ji3) + 1) % 256) : Int).toNat) ++ a0)] rfl (by (try simp only [List.map_toArray, List.map_cons, List.map_nil]); first | done | (simp only [hji3]; rfl) | rfl | (simp only [List.length_drop, List.length_take]; rfl)) ?_; (with_reducible refine (platformfwref05_ReadInt.calls k (((⟨#[0, 1, 255, 10, 11, 12, 14, 13]⟩ : ByteArray).extract ((ji3) : Int).toNat ((((ji3) + 1) % 256) : Int).toNat) ++ a0) t152 t153 t154 _ A11.out).mono ?_); rintro e w35 ⟨rfl, hb⟩; refine ⟨_, rfl, ?_⟩; have n0_ := Aside0.mk (below_step (by repeat (first | (with_reducible first | exact HB.out | apply below_alloc | apply pw_below_drewN | apply below_drew1) | exact HB.out)) hb); clear HB; have HB := n0_; clear n0_; (try clear hb); (try clear hb2); (try clear hk); (try clear hi)) | ((with_reducible refine gate_callee (f := 33) rfl ?_); refine goesL_ (some 50) rfl rfl Try.func33 (by kernel_rfl) rfl #[] rfl (by (try simp only [List.map_toArray, List.map_cons, List.map_nil]); first | done | rfl | (simp only [List.length_drop, List.length_take]; rfl)) ?_; (with_reducible refine (platformfwlaw05_awake.calls k  true _ A12.out).mono ?_); rintro e w36 ⟨rfl, hb⟩; refine ⟨_, rfl, ?_⟩; have n0_ := Aside0.mk (below_step (by repeat (first | (with_reducible first | exact HB.out | apply below_alloc | apply pw_below_drewN | apply below_drew1) | exact HB.out)) hb); clear HB; have HB := n0_; clear n0_; (try clear hb); (try clear hb2); (try clear hk); (try clear hi)))
              go_ret
              exact ⟨by first | rfl | (simp [errW_none, errW_some] <;> rfl) | (simp only [← hji3]; first | rfl | (simp [errW_none, errW_some] <;> rfl)) | (simp [*, errW_none, errW_some] <;> rfl), by repeat (first | (with_reducible first | exact HB.out | apply below_alloc | apply pw_below_drewN | apply below_drew1) | exact HB.out)⟩
          · replace c13 := Bool.eq_false_iff.mpr c13
            subst c13
            have H1 : (some false) = some r := by rw [if_neg (show ¬ (false = true) by decide)] at H; exact H
            clear H
            have H := H1
            clear H1
            obtain rfl := Option.some.inj H
            go_enter Try.func7, Try.ntmps7
            go_wp2_with (first | ((with_reducible refine gate_callee (f := 31) rfl ?_); refine goesL_ (some 28) rfl rfl Try.func31 (by kernel_rfl) rfl #[.string a0] rfl (by (try simp only [List.map_toArray, List.map_cons, List.map_nil]); first | done | rfl | (simp only [List.length_drop, List.length_take]; rfl)) ?_; (with_reducible refine (bytecode_Int.calls k a0 t143 t144 t145 _ A8.out).mono ?_); rintro e w' ⟨rfl, ⟨nd, rfl⟩⟩; refine ⟨_, rfl, ?_⟩) | ((with_reducible refine gate_callee (f := 34) rfl ?_); refine goesL_ (some 34) rfl rfl Try.func34 (by kernel_rfl) rfl #[.string a0] rfl (by (try simp only [List.map_toArray, List.map_cons, List.map_nil]); first | done | rfl | (simp only [List.length_drop, List.length_take]; rfl)) ?_; (with_reducible refine (platformfwref05_ReadInt.calls k a0 t146 t147 t148 _ A9.out).mono ?_); rintro e w37 ⟨rfl, hb⟩; refine ⟨_, rfl, ?_⟩; have n0_ := Aside0.mk (below_step (by repeat (first | (with_reducible first | exact HB.out | apply below_alloc | apply pw_below_drewN | apply below_drew1) | exact HB.out)) hb); clear HB; have HB := n0_; clear n0_; (try clear hb); (try clear hb2); (try clear hk); (try clear hi)) | ((with_reducible refine gate_callee (f := 31) rfl ?_); refine goesL_ (some 40) rfl rfl Try.func31 (by kernel_rfl) rfl #[.string (((⟨#[0, 1, 255, 10, 11, 12, 14, 13]⟩ : ByteArray).extract ((ji3) : Int).toNat ((((ji3) + 1) % 256) : Int).toNat) ++ a0)] rfl (by (try simp only [List.map_toArray, List.map_cons, List.map_nil]); first | done | (simp only [hji3]; rfl) | rfl | (simp only [List.length_drop, List.length_take]; rfl)) ?_; (with_reducible refine (bytecode_Int.calls k (((⟨#[0, 1, 255, 10, 11, 12, 14, 13]⟩ : ByteArray).extract ((ji3) : Int).toNat ((((ji3) + 1) % 256) : Int).toNat) ++ a0) t149 t150 t151 _ A10.out).mono ?_); rintro e w' ⟨rfl, ⟨nd, rfl⟩⟩; refine ⟨_, rfl, ?_⟩) | ((with_reducible refine gate_callee (f := 34) rfl ?_); refine goesL_ (some 46) rfl rfl Try.func34 (by kernel_rfl) rfl #[.string (((⟨#[0, 1, 255, 10, 11, 12, 14, 13]⟩ : ByteArray).extract ((ji3) : Int).toNat ((((ji3) + 1) % 256) : Int).toNat) ++ a0)] rfl (by (try simp only [List.map_toArray, List.map_cons, List.map_nil]); first | done | (simp only [hji3]; rfl) | rfl | (simp only [List.length_drop, List.length_take]; rfl)) ?_; (with_reducible refine (platformfwref05_ReadInt.calls k (((⟨#[0, 1, 255, 10, 11, 12, 14, 13]⟩ : ByteArray).extract ((ji3) : Int).toNat ((((ji3) + 1) % 256) : Int).toNat) ++ a0) t152 t153 t154 _ A11.out).mono ?_); rintro e w38 ⟨rfl, hb⟩; refine ⟨_, rfl, ?_⟩; have n0_ := Aside0.mk (below_step (by repeat (first | (with_reducible first | exact HB.out | apply below_alloc | apply pw_below_drewN | apply below_drew1) | exact HB.out)) hb); clear HB; have HB := n0_; clear n0_; (try clear hb); (try clear hb2); (try clear hk); (try clear hi)) | ((with_reducible refine gate_callee (f := 33) rfl ?_); refine goesL_ (some 50) rfl rfl Try.func33 (by kernel_rfl) rfl #[] rfl (by (try simp only [List.map_toArray, List.map_cons, List.map_nil]); first | done | rfl | (simp only [List.length_drop, List.length_take]; rfl)) ?_; (with_reducible refine (platformfwlaw05_awake.calls k  false _ A12.out).mono ?_); rintro e w39 ⟨rfl, hb⟩; refine ⟨_, rfl, ?_⟩; have n0_ := Aside0.mk (below_step (by repeat (first | (with_reducible first | exact HB.out | apply below_alloc | apply pw_below_drewN | apply below_drew1) | exact HB.out)) hb); clear HB; have HB := n0_; clear n0_; (try clear hb); (try clear hb2); (try clear hk); (try clear hi)))
            go_ret
            exact ⟨by first | rfl | (simp [errW_none, errW_some] <;> rfl) | (simp only [← hji3]; first | rfl | (simp [errW_none, errW_some] <;> rfl)) | (simp [*, errW_none, errW_some] <;> rfl), by repeat (first | (with_reducible first | exact HB.out | apply below_alloc | apply pw_below_drewN | apply below_drew1) | exact HB.out)⟩
        · rw [if_neg c7] at H
          exact absurd H (by simp)
      · rw [if_neg c6] at H
        exact absurd H (by simp)
    · rw [if_neg c5] at H
      exact absurd H (by simp)
  · rw [if_neg c4] at H
    exact absurd H (by simp)

/-- THE ONE PURE STATEMENT of platformfwlaw05_BytecodeDecodesIntegers: yours. -/
def platformfwlaw05_BytecodeDecodesIntegers.Pure : Prop := ∀ (a0 : ByteArray) (a1 : Int), a0.size ≤ 140737488351232 → (Lit.int .u8 a1).wf = true → ∃ k, platformfwlaw05_BytecodeDecodesIntegers.f k a0 a1 = some true
theorem platformfwlaw05_BytecodeDecodesIntegers.walk (P : platformfwlaw05_BytecodeDecodesIntegers.Pure) (a0 : ByteArray) (a1 : Int) (w : World) (w0 : a0.size ≤ 140737488351232) (w1 : (Lit.int .u8 a1).wf = true) :
    Calls Try.prog 7 #[.string a0, .int .u8 a1] w fun e w' => e = .returned (.bool true) ∧ Below w.heap.size w w' := by
  obtain ⟨k, h⟩ := P a0 a1 w0 w1
  refine (platformfwlaw05_BytecodeDecodesIntegers.calls k a0 a1 true w h).mono ?_
  rintro e w' ⟨rfl, hd⟩
  exact ⟨rfl, hd⟩

end Go.Proofs.Ytmnmidclaaiffaa.PBytecodeDecodesIntegers
