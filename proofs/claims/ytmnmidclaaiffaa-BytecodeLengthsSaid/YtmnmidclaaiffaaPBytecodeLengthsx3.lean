-- PRINTED BY print.sh 35421559b90ae4d0a3588c463048766b98c2df88dd9212a6774a882060cdf62d: not written by this session
import Derived.Test.YtmnmidclaaiffaaPBytecodeLengthsx0
import Derived.Test.YtmnmidclaaiffaaPBytecodeLengthsx2
namespace Go.Proofs.Ytmnmidclaaiffaa.PBytecodeLengths
open Go.RowKit Go.Proofs.YtmnmidclaaiffaaW.PrintWords Go.Proofs.YtmnmidclaaiffaaW.PrintLast Go.Proofs.YtmnmidclaaiffaaW.PrintMore
attribute [local go_sem] max2_int min2_int max_two min_two max_three min_three max_four min_four   -- for this text's walks alone
set_option linter.unusedVariables false
set_option linter.unusedSimpArgs false

/-! ### platformfwref05_Length: function 42 -/
mutual
def platformfwref05_Length.l0 : Nat → Int → Int → Option (ByteArray)
  | 0, _, _ => none
  | k + 1, x0, x3 => if x3 ≤ 4 then (if x0 ≥ 0 then (platformfwref05_Length.j1 k x0 x3 (decide (x0 < 268435456))) else (platformfwref05_Length.j1 k x0 x3 false)) else (platformfwref05_Length.j1 k x0 x3 false)
def platformfwref05_Length.j1 : Nat → Int → Int → Bool → Option (ByteArray)
  | 0, _, _, _ => none
  | k + 1, x0, x3, x14 => if x14 = true then (if x3 = 1 then (platformfwref05_Length.j2 k x0 x3 (wrap64 (x0 + x3)) (decide ((wrap64 (x0 + x3)) < 64))) else (platformfwref05_Length.j2 k x0 x3 (wrap64 (x0 + x3)) false)) else (some (⟨#[]⟩ : ByteArray))
def platformfwref05_Length.j2 : Nat → Int → Int → Int → Bool → Option (ByteArray)
  | 0, _, _, _, _ => none
  | k + 1, x0, x3, x4, x25 => if x25 = true then ((platformfwref05_little.f k (IntKind.u64.wrap (x4)) 1).bind fun t137 => (some t137)) else (if x3 > 1 then (if 0 ≤ (IntKind.u64.wrap (wrap64 ((wrap64 (8 * x3)) - 4))) then (platformfwref05_Length.j3 k x0 x3 x4 (decide (x4 < (shl .i64 1 (IntKind.u64.wrap (wrap64 ((wrap64 (8 * x3)) - 4))))))) else (none)) else (platformfwref05_Length.j3 k x0 x3 x4 false))
def platformfwref05_Length.j3 : Nat → Int → Int → Int → Bool → Option (ByteArray)
  | 0, _, _, _, _ => none
  | k + 1, x0, x3, x4, x39 => if x39 = true then ((platformfwref05_little.f k (IntKind.u64.wrap (Go.bits .or .i64 (wrap64 ((wrap64 (x3 - 1)) * 64)) (Go.bits .and .i64 x4 15))) 1).bind fun t138 => ((platformfwref05_little.f k (IntKind.u64.wrap (x4 / 16)) (wrap64 (x3 - 1))).bind fun t139 => (if t138.size + t139.size ≤ 9223372036854775807 then (some (t138 ++ t139)) else (none)))) else (platformfwref05_Length.l0 k x0 (wrap64 (x3 + 1)))
end
def platformfwref05_Length.f (k : Nat) (a0 : Int) : Option (ByteArray) := platformfwref05_Length.l0 k a0 1
theorem platformfwref05_Length.mono_l : ∀ k, (∀ y0 y1, LeO (platformfwref05_Length.l0 k y0 y1) (platformfwref05_Length.l0 (k + 1) y0 y1)) ∧ (∀ y0 y1 y2, LeO (platformfwref05_Length.j1 k y0 y1 y2) (platformfwref05_Length.j1 (k + 1) y0 y1 y2)) ∧ (∀ y0 y1 y2 y3, LeO (platformfwref05_Length.j2 k y0 y1 y2 y3) (platformfwref05_Length.j2 (k + 1) y0 y1 y2 y3)) ∧ (∀ y0 y1 y2 y3, LeO (platformfwref05_Length.j3 k y0 y1 y2 y3) (platformfwref05_Length.j3 (k + 1) y0 y1 y2 y3))
  | 0 => ⟨fun _ _ r h => by simp [platformfwref05_Length.l0] at h, fun _ _ _ r h => by simp [platformfwref05_Length.j1] at h, fun _ _ _ _ r h => by simp [platformfwref05_Length.j2] at h, fun _ _ _ _ r h => by simp [platformfwref05_Length.j3] at h⟩
  | k + 1 => by
    obtain ⟨ih0, ih1, ih2, ih3⟩ := platformfwref05_Length.mono_l k
    refine ⟨?_, ?_, ?_, ?_⟩
    · intro y0 y1
      unfold platformfwref05_Length.l0
      repeat' first
      | (with_reducible exact ih0 _ _)
      | (with_reducible exact ih1 _ _ _)
      | (with_reducible exact ih2 _ _ _ _)
      | (with_reducible exact ih3 _ _ _ _)
      | (with_reducible exact platformfwref05_little.mono _ _ _)
      | (with_reducible exact LeO.refl _)
      | (with_reducible exact LeO.none _)
      | (with_reducible refine LeO.ite ?_ ?_)
      | (with_reducible refine LeO.bind ?_ (fun _ => ?_))
      | exact ih0 _ _
      | exact ih1 _ _ _
      | exact ih2 _ _ _ _
      | exact ih3 _ _ _ _
      | exact platformfwref05_little.mono _ _ _
      | exact LeO.none _
      | refine LeO.ite ?_ ?_
      | refine LeO.bind ?_ (fun _ => ?_)
    · intro y0 y1 y2
      unfold platformfwref05_Length.j1
      repeat' first
      | (with_reducible exact ih0 _ _)
      | (with_reducible exact ih1 _ _ _)
      | (with_reducible exact ih2 _ _ _ _)
      | (with_reducible exact ih3 _ _ _ _)
      | (with_reducible exact platformfwref05_little.mono _ _ _)
      | (with_reducible exact LeO.refl _)
      | (with_reducible exact LeO.none _)
      | (with_reducible refine LeO.ite ?_ ?_)
      | (with_reducible refine LeO.bind ?_ (fun _ => ?_))
      | exact ih0 _ _
      | exact ih1 _ _ _
      | exact ih2 _ _ _ _
      | exact ih3 _ _ _ _
      | exact platformfwref05_little.mono _ _ _
      | exact LeO.none _
      | refine LeO.ite ?_ ?_
      | refine LeO.bind ?_ (fun _ => ?_)
    · intro y0 y1 y2 y3
      unfold platformfwref05_Length.j2
      repeat' first
      | (with_reducible exact ih0 _ _)
      | (with_reducible exact ih1 _ _ _)
      | (with_reducible exact ih2 _ _ _ _)
      | (with_reducible exact ih3 _ _ _ _)
      | (with_reducible exact platformfwref05_little.mono _ _ _)
      | (with_reducible exact LeO.refl _)
      | (with_reducible exact LeO.none _)
      | (with_reducible refine LeO.ite ?_ ?_)
      | (with_reducible refine LeO.bind ?_ (fun _ => ?_))
      | exact ih0 _ _
      | exact ih1 _ _ _
      | exact ih2 _ _ _ _
      | exact ih3 _ _ _ _
      | exact platformfwref05_little.mono _ _ _
      | exact LeO.none _
      | refine LeO.ite ?_ ?_
      | refine LeO.bind ?_ (fun _ => ?_)
    · intro y0 y1 y2 y3
      unfold platformfwref05_Length.j3
      repeat' first
      | (with_reducible exact ih0 _ _)
      | (with_reducible exact ih1 _ _ _)
      | (with_reducible exact ih2 _ _ _ _)
      | (with_reducible exact ih3 _ _ _ _)
      | (with_reducible exact platformfwref05_little.mono _ _ _)
      | (with_reducible exact LeO.refl _)
      | (with_reducible exact LeO.none _)
      | (with_reducible refine LeO.ite ?_ ?_)
      | (with_reducible refine LeO.bind ?_ (fun _ => ?_))
      | exact ih0 _ _
      | exact ih1 _ _ _
      | exact ih2 _ _ _ _
      | exact ih3 _ _ _ _
      | exact platformfwref05_little.mono _ _ _
      | exact LeO.none _
      | refine LeO.ite ?_ ?_
      | refine LeO.bind ?_ (fun _ => ?_)
theorem platformfwref05_Length.mono : ∀ a0 k, LeO (platformfwref05_Length.f k a0) (platformfwref05_Length.f (k + 1) a0) := by
  intro a0 k
  obtain ⟨ih0, ih1, ih2, ih3⟩ := platformfwref05_Length.mono_l k
  unfold platformfwref05_Length.f
  repeat' first
      | (with_reducible exact ih0 _ _)
      | (with_reducible exact ih1 _ _ _)
      | (with_reducible exact ih2 _ _ _ _)
      | (with_reducible exact ih3 _ _ _ _)
      | (with_reducible exact platformfwref05_little.mono _ _ _)
      | (with_reducible exact LeO.refl _)
      | (with_reducible exact LeO.none _)
      | (with_reducible refine LeO.ite ?_ ?_)
      | (with_reducible refine LeO.bind ?_ (fun _ => ?_))
      | exact ih0 _ _
      | exact ih1 _ _ _
      | exact ih2 _ _ _ _
      | exact ih3 _ _ _ _
      | exact platformfwref05_little.mono _ _ _
      | exact LeO.none _
      | refine LeO.ite ?_ ?_
      | refine LeO.bind ?_ (fun _ => ?_)
set_option maxHeartbeats 8000000 in
set_option maxRecDepth 100000 in
theorem platformfwref05_Length.calls (k : Nat) (a0 : Int) (r : ByteArray) (w : World) (h : platformfwref05_Length.f k a0 = some r) :
    Calls Try.prog 42 #[.int .i64 a0] w fun e w' => e = .returned (.string r) ∧ Below w.heap.size w w' := by
  have HB := Aside0.mk (Below.refl w.heap.size w)
  have H : (platformfwref05_Length.l0 k a0 1) = some r := h
  clear h
  have H' := Aside0.mk H
  clear H
  go_enter Try.func42, Try.ntmps42
  go_wp2
  go_loopg [3] k (fun kq v3 w' => ∃ (x3_1 : Int), v3 = .int .i64 x3_1 ∧ Aside0 (platformfwref05_Length.l0 kq a0 x3_1 = some r) ∧ Aside0 (kq ≤ k) ∧ Aside0 (Below w.heap.size w w'))
  case atStart => exact ⟨(1), (by first | rfl | (simp; done) | (simp [*]; done)), H', ⟨Nat.le_refl _⟩, ⟨by repeat (first | (with_reducible first | exact HB.out | apply below_alloc | apply pw_below_drewN | apply below_drew1) | exact HB.out)⟩⟩
  case round =>
    clear H'
    obtain ⟨x3_1, rfl, HA, HK1, HB⟩ := hrel
    cases gk with
    | zero => exact absurd HA.out (by simp [platformfwref05_Length.l0])
    | succ k1 =>
      have H := HA.out
      clear HA
      simp only [platformfwref05_Length.l0] at H
      have HC2 := Aside0.mk H
      clear H
      go_upto_region 2 with (fail)
      go_cut [14] (fun v14 wc => ∃ (kq : Nat) (x14_1 : Bool), v14 = .bool x14_1 ∧ Aside0 (platformfwref05_Length.j1 kq a0 x3_1 x14_1 = some r) ∧ Aside0 (kq ≤ k1) ∧ Aside0 (Below w.heap.size w wc))
      case first =>
        have H := HC2.out
        clear HC2
        by_cases c3 : x3_1 ≤ 4
        · rw [if_pos c3] at H
          have c3b0 : decide (x3_1 ≤ 4) = true := decide_eq_true c3
          clear c3
          (first | rw [c3b0] | (simp only [i64_w, i32_w]; rw [c3b0]) | skip)
          by_cases c4 : a0 ≥ 0
          · rw [if_pos c4] at H
            have c4b0 : decide (0 ≤ a0) = true := decide_eq_true c4
            clear c4
            have H' := Aside0.mk H
            clear H
            go_wp2
            go_meet
            case rel => exact ⟨_, (decide (a0 < 268435456)), (by first | rfl | (simp; done) | (simp [*]; done)), H', ⟨by have := HK1.out; first | omega | exact Nat.le_refl _⟩, ⟨by repeat (first | (with_reducible first | exact HB.out | apply below_alloc | apply pw_below_drewN | apply below_drew1) | exact HB.out)⟩⟩
          · rw [if_neg c4] at H
            have c4b0 : decide (0 ≤ a0) = false := decide_eq_false c4
            clear c4
            have H' := Aside0.mk H
            clear H
            go_wp2
            go_meet
            case rel => exact ⟨_, (false), (by first | rfl | (simp; done) | (simp [*]; done)), H', ⟨by have := HK1.out; first | omega | exact Nat.le_refl _⟩, ⟨by repeat (first | (with_reducible first | exact HB.out | apply below_alloc | apply pw_below_drewN | apply below_drew1) | exact HB.out)⟩⟩
        · rw [if_neg c3] at H
          have c3b0 : decide (x3_1 ≤ 4) = false := decide_eq_false c3
          clear c3
          (first | rw [c3b0] | (simp only [i64_w, i32_w]; rw [c3b0]) | skip)
          have H' := Aside0.mk H
          clear H
          go_wp2
          go_meet
          case rel => exact ⟨_, (false), (by first | rfl | (simp; done) | (simp [*]; done)), H', ⟨by have := HK1.out; first | omega | exact Nat.le_refl _⟩, ⟨by repeat (first | (with_reducible first | exact HB.out | apply below_alloc | apply pw_below_drewN | apply below_drew1) | exact HB.out)⟩⟩
      case rest =>
        clear HC2
        try clear p2
        try clear c3
        try clear c3b0
        try clear c4
        try clear c4b0
        obtain ⟨kq, x14_1, rfl, HA, HJ1, HB⟩ := hcut
        cases kq with
        | zero => exact absurd HA.out (by simp [platformfwref05_Length.j1])
        | succ kj1 =>
          have H := HA.out
          clear HA
          simp only [platformfwref05_Length.j1] at H
          by_cases c5 : x14_1 = true
          · subst c5
            have H1 : (if x3_1 = 1 then (platformfwref05_Length.j2 kj1 a0 x3_1 (wrap64 (a0 + x3_1)) (decide ((wrap64 (a0 + x3_1)) < 64))) else (platformfwref05_Length.j2 kj1 a0 x3_1 (wrap64 (a0 + x3_1)) false)) = some r := by rw [if_pos rfl] at H; exact H
            clear H
            have H := H1
            clear H1
            have HC6 := Aside0.mk H
            clear H
            go_upto_region 5 with (fail)
            go_cut [25] (fun v25 wc => ∃ (kq : Nat) (x25_5 : Bool), v25 = .bool x25_5 ∧ Aside0 (platformfwref05_Length.j2 kq a0 x3_1 (wrap64 (a0 + x3_1)) x25_5 = some r) ∧ Aside0 (kq ≤ kj1) ∧ Aside0 (Below w.heap.size w wc))
            case first =>
              have H := HC6.out
              clear HC6
              by_cases c7 : x3_1 = 1
              · rw [if_pos c7] at H
                have c7b0 : (x3_1 == 1) = true := beq_iff_eq.mpr c7
                have c7b1 : (x3_1 != 1) = false := bne_eq_false_iff_eq.mpr c7
                clear c7
                (first | rw [c7b0] | (simp only [i64_w, i32_w]; rw [c7b0]) | skip)
                have H' := Aside0.mk H
                clear H
                go_wp2
                go_meet
                case rel => exact ⟨_, (decide ((wrap64 (a0 + x3_1)) < 64)), (by first | rfl | (simp; done) | (simp [*]; done)), H', ⟨by have := HK1.out; have := HJ1.out; first | omega | exact Nat.le_refl _⟩, ⟨by repeat (first | (with_reducible first | exact HB.out | apply below_alloc | apply pw_below_drewN | apply below_drew1) | exact HB.out)⟩⟩
              · rw [if_neg c7] at H
                have c7b0 : (x3_1 == 1) = false := beq_eq_false_iff_ne.mpr c7
                have c7b1 : (x3_1 != 1) = true := bne_iff_ne.mpr c7
                (first | rw [c7b0] | (simp only [i64_w, i32_w]; rw [c7b0]) | skip)
                have H' := Aside0.mk H
                clear H
                go_wp2
                go_meet
                case rel => exact ⟨_, (false), (by first | rfl | (simp; done) | (simp [*]; done)), H', ⟨by have := HK1.out; have := HJ1.out; first | omega | exact Nat.le_refl _⟩, ⟨by repeat (first | (with_reducible first | exact HB.out | apply below_alloc | apply pw_below_drewN | apply below_drew1) | exact HB.out)⟩⟩
            case rest =>
              clear HC6
              try clear p2
              try clear c3
              try clear c3b0
              try clear c4
              try clear c4b0
              try clear c5
              try clear p6
              try clear c7
              try clear c7b0
              try clear c7b1
              try clear p2
              obtain ⟨kq, x25_5, rfl, HA, HJ5, HB⟩ := hcut
              cases kq with
              | zero => exact absurd HA.out (by simp [platformfwref05_Length.j2])
              | succ kj5 =>
                have H := HA.out
                clear HA
                simp only [platformfwref05_Length.j2] at H
                by_cases c8 : x25_5 = true
                · subst c8
                  have H1 : ((platformfwref05_little.f kj5 (IntKind.u64.wrap ((wrap64 (a0 + x3_1)))) 1).bind fun t137 => (some t137)) = some r := by rw [if_pos rfl] at H; exact H
                  clear H
                  have H := H1
                  clear H1
                  replace H := Option.bind_eq_some_iff.mp H
                  obtain ⟨t137, A90, H⟩ := H
                  replace H : (some t137) = some r := H
                  have A9 := Aside0.mk A90
                  clear A90
                  obtain rfl := Option.some.inj H
                  go_wp2_with (first | ((with_reducible refine gate_callee (f := 65) rfl ?_); refine goesL_ (some 28) rfl rfl Try.func65 (by kernel_rfl) rfl #[.int .u64 (IntKind.u64.wrap ((wrap64 (a0 + x3_1)))), .int .i64 1] rfl (by (try simp only [List.map_toArray, List.map_cons, List.map_nil]); first | done | rfl | (simp only [List.length_drop, List.length_take]; rfl)) ?_; (with_reducible refine (platformfwref05_little.calls kj5 (IntKind.u64.wrap ((wrap64 (a0 + x3_1)))) 1 t137 _ A9.out).mono ?_); rintro e w10 ⟨rfl, hb⟩; refine ⟨_, rfl, ?_⟩; have n0_ := Aside0.mk (below_step (by repeat (first | (with_reducible first | exact HB.out | apply below_alloc | apply pw_below_drewN | apply below_drew1) | exact HB.out)) hb); clear HB; have HB := n0_; clear n0_; (try clear hb); (try clear hb2); (try clear hk); (try clear hi)))
                  go_ret
                  exact ⟨by first | rfl | (simp [errW_none, errW_some] <;> rfl) | (simp [*, errW_none, errW_some] <;> rfl), by repeat (first | (with_reducible first | exact HB.out | apply below_alloc | apply pw_below_drewN | apply below_drew1) | exact HB.out)⟩
                · replace c8 := Bool.eq_false_iff.mpr c8
                  subst c8
                  have H1 : (if x3_1 > 1 then (if 0 ≤ (IntKind.u64.wrap (wrap64 ((wrap64 (8 * x3_1)) - 4))) then (platformfwref05_Length.j3 kj5 a0 x3_1 (wrap64 (a0 + x3_1)) (decide ((wrap64 (a0 + x3_1)) < (shl .i64 1 (IntKind.u64.wrap (wrap64 ((wrap64 (8 * x3_1)) - 4))))))) else (none)) else (platformfwref05_Length.j3 kj5 a0 x3_1 (wrap64 (a0 + x3_1)) false)) = some r := by rw [if_neg (show ¬ (false = true) by decide)] at H; exact H
                  clear H
                  have H := H1
                  clear H1
                  have HC11 := Aside0.mk H
                  clear H
                  go_upto_region 7 with (fail)
                  go_cut [39] (fun v39 wc => ∃ (kq : Nat) (x39_10 : Bool), v39 = .bool x39_10 ∧ Aside0 (platformfwref05_Length.j3 kq a0 x3_1 (wrap64 (a0 + x3_1)) x39_10 = some r) ∧ Aside0 (kq ≤ kj5) ∧ Aside0 (Below w.heap.size w wc))
                  case first =>
                    have H := HC11.out
                    clear HC11
                    by_cases c12 : x3_1 > 1
                    · rw [if_pos c12] at H
                      have c12b0 : decide (1 < x3_1) = true := decide_eq_true c12
                      clear c12
                      (first | rw [c12b0] | (simp only [i64_w, i32_w]; rw [c12b0]) | skip)
                      obtain ⟨ji13, hji13⟩ : ∃ j_ : Int, (IntKind.u64.wrap (wrap64 ((wrap64 (8 * x3_1)) - 4))) = j_ := ⟨_, rfl⟩
                      replace H : (if 0 ≤ (ji13) then (platformfwref05_Length.j3 kj5 a0 x3_1 (wrap64 (a0 + x3_1)) (decide ((wrap64 (a0 + x3_1)) < (shl .i64 1 (ji13))))) else (none)) = some r := by first | (rw [hji13] at H; exact H) | (simp only [hji13] at H ⊢; exact H)
                      by_cases c14 : 0 ≤ (ji13)
                      · rw [if_pos c14] at H
                        have c14b0 := eq_true c14
                        have c14b1 : decide (0 ≤ (ji13)) = true := decide_eq_true c14
                        clear c14
                        obtain ⟨ji15, hji15⟩ : ∃ j_ : Int, (shl .i64 1 (ji13)) = j_ := ⟨_, rfl⟩
                        replace H : (platformfwref05_Length.j3 kj5 a0 x3_1 (wrap64 (a0 + x3_1)) (decide ((wrap64 (a0 + x3_1)) < (ji15)))) = some r := by first | (rw [hji15] at H; exact H) | (simp only [hji15] at H ⊢; exact H)
                        have hji15_ : (IntKind.i64.wrap (1 * 2 ^ min (ji13).toNat 64)) = ji15 := hji15
                        have hji15z : (ji13) ≤ 64 → (IntKind.i64.wrap (1 * 2 ^ (ji13).toNat)) = ji15 := shl_small hji15
                        have hji15u : (IntKind.i64.wrap (2 ^ min (ji13).toNat 64)) = ji15 := by have h_ := hji15_; rw [Int.one_mul] at h_; exact h_
                        have hji15v : (ji13) ≤ 64 → (IntKind.i64.wrap (2 ^ (ji13).toNat)) = ji15 := fun hle_ => by have h_ := hji15z hle_; rw [Int.one_mul] at h_; exact h_
                        have hji15y : (wrap64 (1 * 2 ^ min (ji13).toNat 64)) = ji15 := (i64_w _).symm.trans hji15_
                        have hji15x : (ji13) ≤ 64 → (wrap64 (1 * 2 ^ (ji13).toNat)) = ji15 := fun h_ => (i64_w _).symm.trans (hji15z h_)
                        have H' := Aside0.mk H
                        clear H
                        go_wp2
                        go_meet
                        case rel => exact ⟨_, (decide ((wrap64 (a0 + x3_1)) < (ji15))), (by first | rfl | (simp; done) | (simp only [← hji15] <;> (first | rfl | simp)) | (simp [*]; done)), H', ⟨by have := HK1.out; have := HJ1.out; have := HJ5.out; first | omega | exact Nat.le_refl _⟩, ⟨by repeat (first | (with_reducible first | exact HB.out | apply below_alloc | apply pw_below_drewN | apply below_drew1) | exact HB.out)⟩⟩
                      · rw [if_neg c14] at H
                        exact absurd H (by simp)
                    · rw [if_neg c12] at H
                      have c12b0 : decide (1 < x3_1) = false := decide_eq_false c12
                      clear c12
                      (first | rw [c12b0] | (simp only [i64_w, i32_w]; rw [c12b0]) | skip)
                      have H' := Aside0.mk H
                      clear H
                      go_wp2
                      go_meet
                      case rel => exact ⟨_, (false), (by first | rfl | (simp; done) | (simp [*]; done)), H', ⟨by have := HK1.out; have := HJ1.out; have := HJ5.out; first | omega | exact Nat.le_refl _⟩, ⟨by repeat (first | (with_reducible first | exact HB.out | apply below_alloc | apply pw_below_drewN | apply below_drew1) | exact HB.out)⟩⟩
                  case rest =>
                    clear HC11
                    try clear c1
                    try clear p2
                    try clear c3
                    try clear c3b0
                    try clear c4
                    try clear c4b0
                    try clear c5
                    try clear c6
                    try clear p6
                    try clear c7
                    try clear c7b0
                    try clear c7b1
                    try clear c8
                    try clear c12
                    try clear c12b0
                    try clear c14
                    try clear c14b0
                    try clear c14b1
                    try clear p2
                    try clear p6
                    obtain ⟨kq, x39_10, rfl, HA, HJ10, HB⟩ := hcut
                    cases kq with
                    | zero => exact absurd HA.out (by simp [platformfwref05_Length.j3])
                    | succ kj10 =>
                      have H := HA.out
                      clear HA
                      simp only [platformfwref05_Length.j3] at H
                      by_cases c16 : x39_10 = true
                      · subst c16
                        have H1 : ((platformfwref05_little.f kj10 (IntKind.u64.wrap (Go.bits .or .i64 (wrap64 ((wrap64 (x3_1 - 1)) * 64)) (Go.bits .and .i64 (wrap64 (a0 + x3_1)) 15))) 1).bind fun t138 => ((platformfwref05_little.f kj10 (IntKind.u64.wrap ((wrap64 (a0 + x3_1)) / 16)) (wrap64 (x3_1 - 1))).bind fun t139 => (if t138.size + t139.size ≤ 9223372036854775807 then (some (t138 ++ t139)) else (none)))) = some r := by rw [if_pos rfl] at H; exact H
                        clear H
                        have H := H1
                        clear H1
                        replace H := Option.bind_eq_some_iff.mp H
                        obtain ⟨t138, A170, H⟩ := H
                        replace H : ((platformfwref05_little.f kj10 (IntKind.u64.wrap ((wrap64 (a0 + x3_1)) / 16)) (wrap64 (x3_1 - 1))).bind fun t139 => (if t138.size + t139.size ≤ 9223372036854775807 then (some (t138 ++ t139)) else (none))) = some r := H
                        have A17 := Aside0.mk A170
                        clear A170
                        replace H := Option.bind_eq_some_iff.mp H
                        obtain ⟨t139, A180, H⟩ := H
                        replace H : (if t138.size + t139.size ≤ 9223372036854775807 then (some (t138 ++ t139)) else (none)) = some r := H
                        have A18 := Aside0.mk A180
                        clear A180
                        by_cases c19 : t138.size + t139.size ≤ 9223372036854775807
                        · rw [if_pos c19] at H
                          have c19b0 := eq_true c19
                          have c19b1 : decide (t138.size + t139.size ≤ 9223372036854775807) = true := decide_eq_true c19
                          try have c19b2 : (9223372036854775807 < t138.size + t139.size) = False := eq_false (Nat.not_lt.2 c19)
                          obtain rfl := Option.some.inj H
                          go_wp2_with (first | ((with_reducible refine gate_callee (f := 65) rfl ?_); refine goesL_ (some 47) rfl rfl Try.func65 (by kernel_rfl) rfl #[.int .u64 (IntKind.u64.wrap (Go.bits .or .i64 (wrap64 ((wrap64 (x3_1 - 1)) * 64)) (Go.bits .and .i64 (wrap64 (a0 + x3_1)) 15))), .int .i64 1] rfl (by (try simp only [List.map_toArray, List.map_cons, List.map_nil]); first | done | rfl | (simp only [List.length_drop, List.length_take]; rfl)) ?_; (with_reducible refine (platformfwref05_little.calls kj10 (IntKind.u64.wrap (Go.bits .or .i64 (wrap64 ((wrap64 (x3_1 - 1)) * 64)) (Go.bits .and .i64 (wrap64 (a0 + x3_1)) 15))) 1 t138 _ A17.out).mono ?_); rintro e w20 ⟨rfl, hb⟩; refine ⟨_, rfl, ?_⟩; have n0_ := Aside0.mk (below_step (by repeat (first | (with_reducible first | exact HB.out | apply below_alloc | apply pw_below_drewN | apply below_drew1) | exact HB.out)) hb); clear HB; have HB := n0_; clear n0_; (try clear hb); (try clear hb2); (try clear hk); (try clear hi)) | ((with_reducible refine gate_callee (f := 65) rfl ?_); refine goesL_ (some 53) rfl rfl Try.func65 (by kernel_rfl) rfl #[.int .u64 (IntKind.u64.wrap ((wrap64 (a0 + x3_1)) / 16)), .int .i64 (wrap64 (x3_1 - 1))] rfl (by (try simp only [List.map_toArray, List.map_cons, List.map_nil]); first | done | rfl | (simp only [List.length_drop, List.length_take]; rfl)) ?_; (with_reducible refine (platformfwref05_little.calls kj10 (IntKind.u64.wrap ((wrap64 (a0 + x3_1)) / 16)) (wrap64 (x3_1 - 1)) t139 _ A18.out).mono ?_); rintro e w21 ⟨rfl, hb⟩; refine ⟨_, rfl, ?_⟩; have n0_ := Aside0.mk (below_step (by repeat (first | (with_reducible first | exact HB.out | apply below_alloc | apply pw_below_drewN | apply below_drew1) | exact HB.out)) hb); clear HB; have HB := n0_; clear n0_; (try clear hb); (try clear hb2); (try clear hk); (try clear hi)))
                          go_ret
                          exact ⟨by first | rfl | (simp [errW_none, errW_some] <;> rfl) | (simp [*, errW_none, errW_some] <;> rfl), by repeat (first | (with_reducible first | exact HB.out | apply below_alloc | apply pw_below_drewN | apply below_drew1) | exact HB.out)⟩
                        · rw [if_neg c19] at H
                          exact absurd H (by simp)
                      · replace c16 := Bool.eq_false_iff.mpr c16
                        subst c16
                        have H1 : (platformfwref05_Length.l0 kj10 a0 (wrap64 (x3_1 + 1))) = some r := by rw [if_neg (show ¬ (false = true) by decide)] at H; exact H
                        clear H
                        have H := H1
                        clear H1
                        have H' := Aside0.mk H
                        clear H
                        go_wp2
                        go_roundg kj10
                        case measure => have := HK1.out; have := HJ1.out; have := HJ5.out; have := HJ10.out; omega
                        case rel => exact ⟨(wrap64 (x3_1 + 1)), (by first | rfl | (simp; done) | (simp [*]; done)), H', ⟨by have := HK1.out; have := HJ1.out; have := HJ5.out; have := HJ10.out; omega⟩, ⟨by repeat (first | (with_reducible first | exact HB.out | apply below_alloc | apply pw_below_drewN | apply below_drew1) | exact HB.out)⟩⟩
          · replace c5 := Bool.eq_false_iff.mpr c5
            subst c5
            have H1 : (some (⟨#[]⟩ : ByteArray)) = some r := by rw [if_neg (show ¬ (false = true) by decide)] at H; exact H
            clear H
            have H := H1
            clear H1
            obtain rfl := Option.some.inj H
            go_wp2
            go_ret
            exact ⟨by first | rfl | (simp [errW_none, errW_some] <;> rfl) | (simp [*, errW_none, errW_some] <;> rfl), by repeat (first | (with_reducible first | exact HB.out | apply below_alloc | apply pw_below_drewN | apply below_drew1) | exact HB.out)⟩

/-! ### bytecode_Length: function 44 -/
mutual
def bytecode_Length.j0 : Nat → ByteArray → Int → Int → Bool → Option (Int × Int × Int)
  | 0, _, _, _, _ => none
  | k + 1, x0, x5, x6, x19 => if x19 = true then (some (0, 0, 3)) else (if (x0.size : Int) < x5 then (some (0, 0, 4)) else (bytecode_Length.l0 k x0 x5 x6 1))
def bytecode_Length.l0 : Nat → ByteArray → Int → Int → Int → Option (Int × Int × Int)
  | 0, _, _, _, _ => none
  | k + 1, x0, x5, x6, x7 => if x7 < x5 then (if 0 ≤ x7 then (if x7 < (x0.size : Int) then (if 0 ≤ (wrap64 (4 + (wrap64 (8 * (wrap64 (x7 - 1)))))) then (bytecode_Length.l0 k x0 x5 (Go.bits .or .i64 x6 (shl .i64 (wrap64 (bt x0 x7)) (wrap64 (4 + (wrap64 (8 * (wrap64 (x7 - 1)))))))) (wrap64 (x7 + 1))) else (none)) else (none)) else (none)) else (if x6 < x5 then (some (0, 0, 3)) else ((bytecode_lengthBytes.f k (wrap64 (x6 - x5))).bind fun t140 => (if t140 = x5 then (some (wrap64 (x6 - x5), x5, 0)) else (some (0, 0, 3)))))
end
def bytecode_Length.f (k : Nat) (a0 : ByteArray) : Option (Int × Int × Int) := if a0.toList = ([] : List UInt8) then (some (0, 0, 4)) else (if 0 < (a0.size : Int) then (if (wrap64 (1 + (wrap64 ((bt a0 0) / 64)))) > 1 then (bytecode_Length.j0 k a0 (wrap64 (1 + (wrap64 ((bt a0 0) / 64)))) (Go.bits .and .i64 (wrap64 (bt a0 0)) 63) (decide ((Go.bits .and .i64 (wrap64 (bt a0 0)) 63) ≥ 16))) else (bytecode_Length.j0 k a0 (wrap64 (1 + (wrap64 ((bt a0 0) / 64)))) (Go.bits .and .i64 (wrap64 (bt a0 0)) 63) false)) else (none))
theorem bytecode_Length.mono_l : ∀ k, (∀ y0 y1 y2 y3, LeO (bytecode_Length.j0 k y0 y1 y2 y3) (bytecode_Length.j0 (k + 1) y0 y1 y2 y3)) ∧ (∀ y0 y1 y2 y3, LeO (bytecode_Length.l0 k y0 y1 y2 y3) (bytecode_Length.l0 (k + 1) y0 y1 y2 y3))
  | 0 => ⟨fun _ _ _ _ r h => by simp [bytecode_Length.j0] at h, fun _ _ _ _ r h => by simp [bytecode_Length.l0] at h⟩
  | k + 1 => by
    obtain ⟨ih0, ih1⟩ := bytecode_Length.mono_l k
    refine ⟨?_, ?_⟩
    · intro y0 y1 y2 y3
      unfold bytecode_Length.j0
      repeat' first
      | (with_reducible exact ih0 _ _ _ _)
      | (with_reducible exact ih1 _ _ _ _)
      | (with_reducible exact bytecode_lengthBytes.mono _ _)
      | (with_reducible exact LeO.refl _)
      | (with_reducible exact LeO.none _)
      | (with_reducible refine LeO.ite ?_ ?_)
      | (with_reducible refine LeO.bind ?_ (fun _ => ?_))
      | exact ih0 _ _ _ _
      | exact ih1 _ _ _ _
      | exact bytecode_lengthBytes.mono _ _
      | exact LeO.none _
      | refine LeO.ite ?_ ?_
      | refine LeO.bind ?_ (fun _ => ?_)
    · intro y0 y1 y2 y3
      unfold bytecode_Length.l0
      repeat' first
      | (with_reducible exact ih0 _ _ _ _)
      | (with_reducible exact ih1 _ _ _ _)
      | (with_reducible exact bytecode_lengthBytes.mono _ _)
      | (with_reducible exact LeO.refl _)
      | (with_reducible exact LeO.none _)
      | (with_reducible refine LeO.ite ?_ ?_)
      | (with_reducible refine LeO.bind ?_ (fun _ => ?_))
      | exact ih0 _ _ _ _
      | exact ih1 _ _ _ _
      | exact bytecode_lengthBytes.mono _ _
      | exact LeO.none _
      | refine LeO.ite ?_ ?_
      | refine LeO.bind ?_ (fun _ => ?_)
theorem bytecode_Length.mono : ∀ a0 k, LeO (bytecode_Length.f k a0) (bytecode_Length.f (k + 1) a0) := by
  intro a0 k
  obtain ⟨ih0, ih1⟩ := bytecode_Length.mono_l k
  unfold bytecode_Length.f
  repeat' first
      | (with_reducible exact ih0 _ _ _ _)
      | (with_reducible exact ih1 _ _ _ _)
      | (with_reducible exact bytecode_lengthBytes.mono _ _)
      | (with_reducible exact LeO.refl _)
      | (with_reducible exact LeO.none _)
      | (with_reducible refine LeO.ite ?_ ?_)
      | (with_reducible refine LeO.bind ?_ (fun _ => ?_))
      | exact ih0 _ _ _ _
      | exact ih1 _ _ _ _
      | exact bytecode_lengthBytes.mono _ _
      | exact LeO.none _
      | refine LeO.ite ?_ ?_
      | refine LeO.bind ?_ (fun _ => ?_)
set_option maxHeartbeats 8000000 in
set_option maxRecDepth 100000 in
theorem bytecode_Length.calls (k : Nat) (a0 : ByteArray) (r1 : Int) (r2 : Int) (r3 : Int) (w : World) (h : bytecode_Length.f k a0 = some (r1, r2, r3)) :
    Calls Try.prog 44 #[.string a0] w fun e w' => e = .returned (.tuple #[.int .i64 r1, .int .i64 r2, .int .i64 r3]) ∧ Drawn0 w w' := by
  have H : (if a0.toList = ([] : List UInt8) then (some (0, 0, 4)) else (if 0 < (a0.size : Int) then (if (wrap64 (1 + (wrap64 ((bt a0 0) / 64)))) > 1 then (bytecode_Length.j0 k a0 (wrap64 (1 + (wrap64 ((bt a0 0) / 64)))) (Go.bits .and .i64 (wrap64 (bt a0 0)) 63) (decide ((Go.bits .and .i64 (wrap64 (bt a0 0)) 63) ≥ 16))) else (bytecode_Length.j0 k a0 (wrap64 (1 + (wrap64 ((bt a0 0) / 64)))) (Go.bits .and .i64 (wrap64 (bt a0 0)) 63) false)) else (none))) = some (r1, r2, r3) := h
  clear h
  by_cases c2 : a0.toList = ([] : List UInt8)
  · rw [if_pos c2] at H
    have c2b0 : (a0.toList == ([] : List UInt8)) = true := beq_iff_eq.mpr c2
    have c2b1 : (a0.toList != ([] : List UInt8)) = false := bne_eq_false_iff_eq.mpr c2
    clear c2
    simp only [Option.some.injEq, Prod.mk.injEq] at H
    obtain ⟨rfl, rfl, rfl⟩ := H
    go_enter Try.func44, Try.ntmps44
    go_wp2
    go_ret3
    exact ⟨by first | rfl | (simp; done) | (simp [*]; done), by repeat (first | exact Drawn0.refl _ | apply Drawn0.step)⟩
  · rw [if_neg c2] at H
    have c2b0 : (a0.toList == ([] : List UInt8)) = false := beq_eq_false_iff_ne.mpr c2
    have c2b1 : (a0.toList != ([] : List UInt8)) = true := bne_iff_ne.mpr c2
    by_cases c3 : 0 < (a0.size : Int)
    · rw [if_pos c3] at H
      have c3b0 : decide (0 < (a0.size : Int)) = true := decide_eq_true c3
      have c3b1 : decide (0 < a0.size) = true := decide_eq_true (by omega)
      clear c3
      have HC6 := Aside0.mk H
      clear H
      have p4 : 0 ≤ (0 : Int) := (by omega)
      have q4 : 0 < a0.size := (by have : (0 : Int) < (a0.size : Int) := of_decide_eq_true (by first | (with_reducible assumption) | assumption); omega)
      have hx4 : ∀ h : 0 < a0.size, ((a0[0]'h).toNat : Int) = bt a0 0 := bt_at a0 0
      clear p4
      have qi4 : (0 < (a0.size : Int)) = True := eq_true (of_decide_eq_true (by first | (with_reducible assumption) | assumption))
      replace q4 := eq_true q4
      have p5 : 0 ≤ (0 : Int) := (by omega)
      have q5 : 0 < a0.size := (by have : (0 : Int) < (a0.size : Int) := of_decide_eq_true (by first | (with_reducible assumption) | assumption); omega)
      have hx5 : ∀ h : 0 < a0.size, ((a0[0]'h).toNat : Int) = bt a0 0 := bt_at a0 0
      clear p5
      have qi5 : (0 < (a0.size : Int)) = True := eq_true (of_decide_eq_true (by first | (with_reducible assumption) | assumption))
      replace q5 := eq_true q5
      go_enter Try.func44, Try.ntmps44
      go_upto_region 5 with (fail)
      go_cut [19] (fun v19 wc => ∃ (kq : Nat) (x19_5 : Bool), v19 = .bool x19_5 ∧ Aside0 (bytecode_Length.j0 kq a0 (wrap64 (1 + (wrap64 ((bt a0 0) / 64)))) (Go.bits .and .i64 (wrap64 (bt a0 0)) 63) x19_5 = some (r1, r2, r3)) ∧ Aside0 (kq ≤ k) ∧ Drawn0 w wc)
      case first =>
        have H := HC6.out
        clear HC6
        by_cases c7 : (wrap64 (1 + (wrap64 ((bt a0 0) / 64)))) > 1
        · rw [if_pos c7] at H
          have c7b0 : decide (1 < (wrap64 (1 + (wrap64 ((bt a0 0) / 64))))) = true := decide_eq_true c7
          clear c7
          (first | rw [c7b0] | (simp only [i64_w, i32_w]; rw [c7b0]) | skip)
          have H' := Aside0.mk H
          clear H
          go_wp2
          go_meet
          case rel => exact ⟨_, (decide ((Go.bits .and .i64 (wrap64 (bt a0 0)) 63) ≥ 16)), (by first | rfl | (simp; done) | (simp [*]; done)), H', ⟨by first | omega | exact Nat.le_refl _⟩, by repeat (first | exact Drawn0.refl _ | apply Drawn0.step)⟩
        · rw [if_neg c7] at H
          have c7b0 : decide (1 < (wrap64 (1 + (wrap64 ((bt a0 0) / 64))))) = false := decide_eq_false c7
          clear c7
          (first | rw [c7b0] | (simp only [i64_w, i32_w]; rw [c7b0]) | skip)
          have H' := Aside0.mk H
          clear H
          go_wp2
          go_meet
          case rel => exact ⟨_, (false), (by first | rfl | (simp; done) | (simp [*]; done)), H', ⟨by first | omega | exact Nat.le_refl _⟩, by repeat (first | exact Drawn0.refl _ | apply Drawn0.step)⟩
      case rest =>
        clear HC6
        try clear c2
        try clear c2b0
        try clear c2b1
        try clear p2
        try clear c3
        try clear c3b0
        try clear c3b1
        try clear c4
        try clear p4
        try clear q4
        try clear hx4
        try clear qi4
        try clear p5
        try clear q5
        try clear hx5
        try clear qi5
        try clear p6
        try clear c7
        try clear c7b0
        try clear p4
        try clear p5
        try clear q4
        try clear q5
        obtain ⟨kq, x19_5, rfl, HA, HJ5, ⟨mc5, rfl⟩⟩ := hcut
        cases kq with
        | zero => exact absurd HA.out (by simp [bytecode_Length.j0])
        | succ kj5 =>
          have H := HA.out
          clear HA
          simp only [bytecode_Length.j0] at H
          by_cases c8 : x19_5 = true
          · subst c8
            have H1 : (some (0, 0, 3)) = some (r1, r2, r3) := by rw [if_pos rfl] at H; exact H
            clear H
            have H := H1
            clear H1
            simp only [Option.some.injEq, Prod.mk.injEq] at H
            obtain ⟨rfl, rfl, rfl⟩ := H
            go_wp2
            go_ret3
            exact ⟨by first | rfl | (simp; done) | (simp [*]; done), by repeat (first | exact Drawn0.refl _ | apply Drawn0.step)⟩
          · replace c8 := Bool.eq_false_iff.mpr c8
            subst c8
            have H1 : (if (a0.size : Int) < (wrap64 (1 + (wrap64 ((bt a0 0) / 64)))) then (some (0, 0, 4)) else (bytecode_Length.l0 kj5 a0 (wrap64 (1 + (wrap64 ((bt a0 0) / 64)))) (Go.bits .and .i64 (wrap64 (bt a0 0)) 63) 1)) = some (r1, r2, r3) := by rw [if_neg (show ¬ (false = true) by decide)] at H; exact H
            clear H
            have H := H1
            clear H1
            by_cases c9 : (a0.size : Int) < (wrap64 (1 + (wrap64 ((bt a0 0) / 64))))
            · rw [if_pos c9] at H
              have c9b0 : decide ((a0.size : Int) < (wrap64 (1 + (wrap64 ((bt a0 0) / 64))))) = true := decide_eq_true c9
              clear c9
              simp only [Option.some.injEq, Prod.mk.injEq] at H
              obtain ⟨rfl, rfl, rfl⟩ := H
              go_wp2
              go_ret3
              exact ⟨by first | rfl | (simp; done) | (simp [*]; done), by repeat (first | exact Drawn0.refl _ | apply Drawn0.step)⟩
            · rw [if_neg c9] at H
              have c9b0 : decide ((a0.size : Int) < (wrap64 (1 + (wrap64 ((bt a0 0) / 64))))) = false := decide_eq_false c9
              clear c9
              have H' := Aside0.mk H
              clear H
              go_wp2
              go_loopg [6, 7] kj5 (fun kq v6 v7 w' => ∃ (x6_2 : Int) (x7_2 : Int), v6 = .int .i64 x6_2 ∧ v7 = .int .i64 x7_2 ∧ Aside0 (bytecode_Length.l0 kq a0 (wrap64 (1 + (wrap64 ((bt a0 0) / 64)))) x6_2 x7_2 = some (r1, r2, r3)) ∧ Aside0 (kq ≤ kj5) ∧ Drawn0 w w')
              case atStart => exact ⟨((Go.bits .and .i64 (wrap64 (bt a0 0)) 63)), (1), (by first | rfl | (simp; done) | (simp [*]; done)), (by first | rfl | (simp; done) | (simp [*]; done)), H', ⟨Nat.le_refl _⟩, by repeat (first | exact Drawn0.refl _ | apply Drawn0.step)⟩
              case round =>
                clear H'
                try clear c2
                try clear c2b0
                try clear c2b1
                try clear p2
                try clear c3
                try clear c3b0
                try clear c3b1
                try clear c4
                try clear p4
                try clear q4
                try clear hx4
                try clear qi4
                try clear c5
                try clear p5
                try clear q5
                try clear hx5
                try clear qi5
                try clear p6
                try clear c7
                try clear c7b0
                try clear c8
                try clear c9
                try clear c9b0
                try clear p2
                try clear p4
                try clear p5
                try clear p6
                try clear q4
                try clear q5
                obtain ⟨x6_2, x7_2, rfl, rfl, HA, HK2, ⟨m2, rfl⟩⟩ := hrel
                cases gk with
                | zero => exact absurd HA.out (by simp [bytecode_Length.l0])
                | succ k2 =>
                  have H := HA.out
                  clear HA
                  simp only [bytecode_Length.l0] at H
                  by_cases c10 : x7_2 < (wrap64 (1 + (wrap64 ((bt a0 0) / 64))))
                  · rw [if_pos c10] at H
                    have c10b0 : decide (x7_2 < (wrap64 (1 + (wrap64 ((bt a0 0) / 64))))) = true := decide_eq_true c10
                    clear c10
                    by_cases c11 : 0 ≤ x7_2
                    · rw [if_pos c11] at H
                      have c11b0 : decide (0 ≤ x7_2) = true := decide_eq_true c11
                      clear c11
                      by_cases c12 : x7_2 < (a0.size : Int)
                      · rw [if_pos c12] at H
                        have c12b0 : decide (x7_2 < (a0.size : Int)) = true := decide_eq_true c12
                        clear c12
                        obtain ⟨ji14, hji14⟩ : ∃ j_ : Int, (wrap64 (4 + (wrap64 (8 * (wrap64 (x7_2 - 1)))))) = j_ := ⟨_, rfl⟩
                        replace H : (if 0 ≤ (ji14) then (bytecode_Length.l0 k2 a0 (wrap64 (1 + (wrap64 ((bt a0 0) / 64)))) (Go.bits .or .i64 x6_2 (shl .i64 (wrap64 (bt a0 x7_2)) (ji14))) (wrap64 (x7_2 + 1))) else (none)) = some (r1, r2, r3) := by first | (rw [hji14] at H; exact H) | (simp only [hji14] at H ⊢; exact H)
                        have hji14w : (IntKind.i64.wrap (4 + (wrap64 (8 * (wrap64 (x7_2 - 1)))))) = ji14 := (i64_w _).trans hji14
                        by_cases c15 : 0 ≤ (ji14)
                        · rw [if_pos c15] at H
                          have c15b0 := eq_true c15
                          have c15b1 : decide (0 ≤ (ji14)) = true := decide_eq_true c15
                          clear c15
                          obtain ⟨ji16, hji16⟩ : ∃ j_ : Int, (shl .i64 (wrap64 (bt a0 x7_2)) (ji14)) = j_ := ⟨_, rfl⟩
                          replace H : (bytecode_Length.l0 k2 a0 (wrap64 (1 + (wrap64 ((bt a0 0) / 64)))) (Go.bits .or .i64 x6_2 (ji16)) (wrap64 (x7_2 + 1))) = some (r1, r2, r3) := by first | (rw [hji16] at H; exact H) | (simp only [hji16] at H ⊢; exact H)
                          have hji16_ : (IntKind.i64.wrap ((wrap64 (bt a0 x7_2)) * 2 ^ min (ji14).toNat 64)) = ji16 := hji16
                          have hji16z : (ji14) ≤ 64 → (IntKind.i64.wrap ((wrap64 (bt a0 x7_2)) * 2 ^ (ji14).toNat)) = ji16 := shl_small hji16
                          have hji16y : (wrap64 ((wrap64 (bt a0 x7_2)) * 2 ^ min (ji14).toNat 64)) = ji16 := (i64_w _).symm.trans hji16_
                          have hji16x : (ji14) ≤ 64 → (wrap64 ((wrap64 (bt a0 x7_2)) * 2 ^ (ji14).toNat)) = ji16 := fun h_ => (i64_w _).symm.trans (hji16z h_)
                          have H' := Aside0.mk H
                          clear H
                          have p13 : 0 ≤ (x7_2 : Int) := of_decide_eq_true (by first | (with_reducible assumption) | assumption)
                          have q13 : x7_2 < (a0.size : Int) := of_decide_eq_true (by first | (with_reducible assumption) | assumption)
                          have hx13 := bt_at a0 x7_2
                          replace p13 := eq_true p13
                          replace q13 := eq_true q13
                          go_wp2
                          go_roundg k2
                          case measure => have := HJ5.out; have := HK2.out; omega
                          case rel => exact ⟨(Go.bits .or .i64 x6_2 (ji16)), (wrap64 (x7_2 + 1)), (by first | rfl | (simp; done) | (simp only [← hji16] <;> (first | rfl | simp)) | (simp [*]; done)), (by first | rfl | (simp; done) | (simp [*]; done)), H', ⟨by have := HJ5.out; have := HK2.out; omega⟩, by repeat (first | exact Drawn0.refl _ | apply Drawn0.step)⟩
                        · rw [if_neg c15] at H
                          exact absurd H (by simp)
                      · rw [if_neg c12] at H
                        exact absurd H (by simp)
                    · rw [if_neg c11] at H
                      exact absurd H (by simp)
                  · rw [if_neg c10] at H
                    have c10b0 : decide (x7_2 < (wrap64 (1 + (wrap64 ((bt a0 0) / 64))))) = false := decide_eq_false c10
                    clear c10
                    by_cases c17 : x6_2 < (wrap64 (1 + (wrap64 ((bt a0 0) / 64))))
                    · rw [if_pos c17] at H
                      have c17b0 : decide (x6_2 < (wrap64 (1 + (wrap64 ((bt a0 0) / 64))))) = true := decide_eq_true c17
                      clear c17
                      simp only [Option.some.injEq, Prod.mk.injEq] at H
                      obtain ⟨rfl, rfl, rfl⟩ := H
                      go_wp2
                      go_ret3
                      exact ⟨by first | rfl | (simp; done) | (simp [*]; done), by repeat (first | exact Drawn0.refl _ | apply Drawn0.step)⟩
                    · rw [if_neg c17] at H
                      have c17b0 : decide (x6_2 < (wrap64 (1 + (wrap64 ((bt a0 0) / 64))))) = false := decide_eq_false c17
                      clear c17
                      replace H := Option.bind_eq_some_iff.mp H
                      obtain ⟨t140, A180, H⟩ := H
                      replace H : (if t140 = (wrap64 (1 + (wrap64 ((bt a0 0) / 64)))) then (some (wrap64 (x6_2 - (wrap64 (1 + (wrap64 ((bt a0 0) / 64))))), (wrap64 (1 + (wrap64 ((bt a0 0) / 64)))), 0)) else (some (0, 0, 3))) = some (r1, r2, r3) := H
                      have A18 := Aside0.mk A180
                      clear A180
                      by_cases c19 : t140 = (wrap64 (1 + (wrap64 ((bt a0 0) / 64))))
                      · rw [if_pos c19] at H
                        have c19b0 : (t140 == (wrap64 (1 + (wrap64 ((bt a0 0) / 64))))) = true := beq_iff_eq.mpr c19
                        have c19b1 : (t140 != (wrap64 (1 + (wrap64 ((bt a0 0) / 64))))) = false := bne_eq_false_iff_eq.mpr c19
                        clear c19
                        simp only [Option.some.injEq, Prod.mk.injEq] at H
                        obtain ⟨rfl, rfl, rfl⟩ := H
                        go_wp2_with (first | (go_at_call 72; (with_reducible refine (bytecode_lengthBytes.calls k2 (wrap64 (x6_2 - (wrap64 (1 + (wrap64 ((bt a0 0) / 64)))))) t140 _ A18.out).mono ?_); rintro e w' ⟨rfl, ⟨nd, rfl⟩⟩))
                        go_ret3
                        exact ⟨by first | rfl | (simp; done) | (simp [*]; done), by repeat (first | exact Drawn0.refl _ | apply Drawn0.step)⟩
                      · rw [if_neg c19] at H
                        have c19b0 : (t140 == (wrap64 (1 + (wrap64 ((bt a0 0) / 64))))) = false := beq_eq_false_iff_ne.mpr c19
                        have c19b1 : (t140 != (wrap64 (1 + (wrap64 ((bt a0 0) / 64))))) = true := bne_iff_ne.mpr c19
                        simp only [Option.some.injEq, Prod.mk.injEq] at H
                        obtain ⟨rfl, rfl, rfl⟩ := H
                        go_wp2_with (first | (go_at_call 72; (with_reducible refine (bytecode_lengthBytes.calls k2 (wrap64 (x6_2 - (wrap64 (1 + (wrap64 ((bt a0 0) / 64)))))) t140 _ A18.out).mono ?_); rintro e w' ⟨rfl, ⟨nd, rfl⟩⟩))
                        go_ret3
                        exact ⟨by first | rfl | (simp; done) | (simp [*]; done), by repeat (first | exact Drawn0.refl _ | apply Drawn0.step)⟩
    · rw [if_neg c3] at H
      exact absurd H (by simp)

/-! ### platformfwref05_number: function 66 -/
def platformfwref05_number.l0 : Nat → ByteArray → Int → Int → Option (Int)
  | 0, _, _, _ => none
  | k + 1, x0, x3, x4 => if x4 ≥ 0 then (if 0 ≤ x4 then (if x4 < (x0.size : Int) then (platformfwref05_number.l0 k x0 (Go.bits .or .u64 (IntKind.u64.wrap (x3 * 256)) (IntKind.u64.wrap (bt x0 x4))) (wrap64 (x4 - 1))) else (none)) else (none)) else (some x3)
def platformfwref05_number.f (k : Nat) (a0 : ByteArray) : Option (Int) := platformfwref05_number.l0 k a0 0 (wrap64 ((a0.size : Int) - 1))
theorem platformfwref05_number.mono_l : ∀ k, (∀ y0 y1 y2, LeO (platformfwref05_number.l0 k y0 y1 y2) (platformfwref05_number.l0 (k + 1) y0 y1 y2))
  | 0 => fun _ _ _ r h => by simp [platformfwref05_number.l0] at h
  | k + 1 => by
    have ih0 := platformfwref05_number.mono_l k
    · intro y0 y1 y2
      unfold platformfwref05_number.l0
      repeat' first
      | (with_reducible exact ih0 _ _ _)
      | (with_reducible exact LeO.refl _)
      | (with_reducible exact LeO.none _)
      | (with_reducible refine LeO.ite ?_ ?_)
      | (with_reducible refine LeO.bind ?_ (fun _ => ?_))
      | exact ih0 _ _ _
      | exact LeO.none _
      | refine LeO.ite ?_ ?_
      | refine LeO.bind ?_ (fun _ => ?_)
theorem platformfwref05_number.mono : ∀ a0 k, LeO (platformfwref05_number.f k a0) (platformfwref05_number.f (k + 1) a0) := by
  intro a0 k
  have ih0 := platformfwref05_number.mono_l k
  unfold platformfwref05_number.f
  repeat' first
      | (with_reducible exact ih0 _ _ _)
      | (with_reducible exact LeO.refl _)
      | (with_reducible exact LeO.none _)
      | (with_reducible refine LeO.ite ?_ ?_)
      | (with_reducible refine LeO.bind ?_ (fun _ => ?_))
      | exact ih0 _ _ _
      | exact LeO.none _
      | refine LeO.ite ?_ ?_
      | refine LeO.bind ?_ (fun _ => ?_)
set_option maxHeartbeats 8000000 in
set_option maxRecDepth 100000 in
theorem platformfwref05_number.calls (k : Nat) (a0 : ByteArray) (r : Int) (w : World) (h : platformfwref05_number.f k a0 = some r) :
    Calls Try.prog 66 #[.string a0] w fun e w' => e = .returned (.int .u64 r) ∧ Drawn0 w w' := by
  have H : (platformfwref05_number.l0 k a0 0 (wrap64 ((a0.size : Int) - 1))) = some r := h
  clear h
  have H' := Aside0.mk H
  clear H
  go_enter Try.func66, Try.ntmps66
  go_wp2
  go_loopg [3, 4] k (fun kq v3 v4 w' => ∃ (x3_1 : Int) (x4_1 : Int), v3 = .int .u64 x3_1 ∧ v4 = .int .i64 x4_1 ∧ Aside0 (platformfwref05_number.l0 kq a0 x3_1 x4_1 = some r) ∧ Aside0 (kq ≤ k) ∧ Drawn0 w w')
  case atStart => exact ⟨(0), (wrap64 ((a0.size : Int) - 1)), (by first | rfl | (simp; done) | (simp [*]; done)), (by first | rfl | (simp; done) | (simp [*]; done)), H', ⟨Nat.le_refl _⟩, by repeat (first | exact Drawn0.refl _ | apply Drawn0.step)⟩
  case round =>
    clear H'
    obtain ⟨x3_1, x4_1, rfl, rfl, HA, HK1, ⟨m1, rfl⟩⟩ := hrel
    cases gk with
    | zero => exact absurd HA.out (by simp [platformfwref05_number.l0])
    | succ k1 =>
      have H := HA.out
      clear HA
      simp only [platformfwref05_number.l0] at H
      by_cases c2 : x4_1 ≥ 0
      · rw [if_pos c2] at H
        have c2b0 : decide (0 ≤ x4_1) = true := decide_eq_true c2
        clear c2
        by_cases c3 : 0 ≤ x4_1
        · rw [if_pos c3] at H
          have c3b0 : decide (0 ≤ x4_1) = true := decide_eq_true c3
          clear c3
          by_cases c4 : x4_1 < (a0.size : Int)
          · rw [if_pos c4] at H
            have c4b0 : decide (x4_1 < (a0.size : Int)) = true := decide_eq_true c4
            clear c4
            have H' := Aside0.mk H
            clear H
            have p5 : 0 ≤ (x4_1 : Int) := of_decide_eq_true (by first | (with_reducible assumption) | assumption)
            have q5 : x4_1 < (a0.size : Int) := of_decide_eq_true (by first | (with_reducible assumption) | assumption)
            have hx5 := bt_at a0 x4_1
            replace p5 := eq_true p5
            replace q5 := eq_true q5
            go_wp2
            go_roundg k1
            case measure => have := HK1.out; omega
            case rel => exact ⟨(Go.bits .or .u64 (IntKind.u64.wrap (x3_1 * 256)) (IntKind.u64.wrap (bt a0 x4_1))), (wrap64 (x4_1 - 1)), (by first | rfl | (simp; done) | (simp [*]; done)), (by first | rfl | (simp; done) | (simp [*]; done)), H', ⟨by have := HK1.out; omega⟩, by repeat (first | exact Drawn0.refl _ | apply Drawn0.step)⟩
          · rw [if_neg c4] at H
            exact absurd H (by simp)
        · rw [if_neg c3] at H
          exact absurd H (by simp)
      · rw [if_neg c2] at H
        have c2b0 : decide (0 ≤ x4_1) = false := decide_eq_false c2
        clear c2
        obtain rfl := Option.some.inj H
        go_wp2
        go_ret
        exact ⟨by first | rfl | (simp; done) | (simp [*]; done), by repeat (first | exact Drawn0.refl _ | apply Drawn0.step)⟩

end Go.Proofs.Ytmnmidclaaiffaa.PBytecodeLengths
