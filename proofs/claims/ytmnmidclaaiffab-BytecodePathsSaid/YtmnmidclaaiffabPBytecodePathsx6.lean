-- Written by a program of this session's (wip/print_patch.py over the kit's print) out of the translation; Lean checks it.
import Derived.Test.YtmnmidclaaiffabPBytecodePathsx0
import Derived.Test.YtmnmidclaaiffabPBytecodePathsx5
import Derived.Test.YtmnmidclaaiffabExtP
namespace Go.Proofs.Ytmnmidclaaiffab.PBytecodePaths
open Go.RowKit Go.Proofs.Ytmnmidclaaiffab.Ext Go.Proofs.YtmnmidclaaiffabW.PrintWords Go.Proofs.YtmnmidclaaiffabW.PrintLast Go.Proofs.YtmnmidclaaiffabW.PrintMore
attribute [local go_sem] max2_int min2_int max_two min_two max_three min_three max_four min_four   -- for this text's walks alone
set_option linter.unusedVariables false
set_option linter.unusedSimpArgs false

/-! ### bytecode_lengthBytes: function 36 -/
mutual
def bytecode_lengthBytes.j0 : Nat → Int → Bool → Option (Int)
 | 0, _, _ => none
 | k + 1, x0, x10 => if x10 = true then (some 0) else (bytecode_lengthBytes.l0 k x0 1)
def bytecode_lengthBytes.l0 : Nat → Int → Int → Option (Int)
 | 0, _, _ => none
 | k + 1, x0, x3 => if x3 ≤ 4 then ((bytecode_limit.f x3).bind fun t161 => (if (wrap64 (x0 + x3)) < t161 then (some x3) else (bytecode_lengthBytes.l0 k x0 (wrap64 (x3 + 1))))) else (some 0)
end
def bytecode_lengthBytes.f (k : Nat) (a0 : Int) : Option (Int) := if a0 < 0 then (bytecode_lengthBytes.j0 k a0 true) else ((bytecode_limit.f 4).bind fun t160 => (bytecode_lengthBytes.j0 k a0 (decide (a0 ≥ t160))))
theorem bytecode_lengthBytes.mono_l : ∀ k, (∀ y0 y1, LeO (bytecode_lengthBytes.j0 k y0 y1) (bytecode_lengthBytes.j0 (k + 1) y0 y1)) ∧ (∀ y0 y1, LeO (bytecode_lengthBytes.l0 k y0 y1) (bytecode_lengthBytes.l0 (k + 1) y0 y1))
 | 0 => ⟨fun _ _ r h => by simp [bytecode_lengthBytes.j0] at h, fun _ _ r h => by simp [bytecode_lengthBytes.l0] at h⟩
 | k + 1 => by
  obtain ⟨ih0, ih1⟩ := bytecode_lengthBytes.mono_l k
  refine ⟨?_, ?_⟩
  ·intro y0 y1
   unfold bytecode_lengthBytes.j0
   repeat' first
   | (with_reducible exact ih0 _ _)
   | (with_reducible exact ih1 _ _)
   | (with_reducible exact LeO.refl _)
   | (with_reducible exact LeO.none _)
   | (with_reducible refine LeO.ite ?_ ?_)
   | (with_reducible refine LeO.bind ?_ (fun _ => ?_))
   | exact ih0 _ _
   | exact ih1 _ _
   | exact LeO.none _
   | refine LeO.ite ?_ ?_
   | refine LeO.bind ?_ (fun _ => ?_)
  ·intro y0 y1
   unfold bytecode_lengthBytes.l0
   repeat' first
   | (with_reducible exact ih0 _ _)
   | (with_reducible exact ih1 _ _)
   | (with_reducible exact LeO.refl _)
   | (with_reducible exact LeO.none _)
   | (with_reducible refine LeO.ite ?_ ?_)
   | (with_reducible refine LeO.bind ?_ (fun _ => ?_))
   | exact ih0 _ _
   | exact ih1 _ _
   | exact LeO.none _
   | refine LeO.ite ?_ ?_
   | refine LeO.bind ?_ (fun _ => ?_)
theorem bytecode_lengthBytes.mono : ∀ a0 k, LeO (bytecode_lengthBytes.f k a0) (bytecode_lengthBytes.f (k + 1) a0) := by
 intro a0 k
 obtain ⟨ih0, ih1⟩ := bytecode_lengthBytes.mono_l k
 unfold bytecode_lengthBytes.f
 repeat' first
   | (with_reducible exact ih0 _ _)
   | (with_reducible exact ih1 _ _)
   | (with_reducible exact LeO.refl _)
   | (with_reducible exact LeO.none _)
   | (with_reducible refine LeO.ite ?_ ?_)
   | (with_reducible refine LeO.bind ?_ (fun _ => ?_))
   | exact ih0 _ _
   | exact ih1 _ _
   | exact LeO.none _
   | refine LeO.ite ?_ ?_
   | refine LeO.bind ?_ (fun _ => ?_)
set_option maxHeartbeats 8000000 in
set_option maxRecDepth 100000 in
theorem bytecode_lengthBytes.calls (k : Nat) (a0 : Int) (r : Int) (w : World) (h : bytecode_lengthBytes.f k a0 = some r) :
  Calls Try.prog 36 #[.int .i64 a0] w fun e w' => e = .returned (.int .i64 r) ∧ Drawn0 w w' := by
 have H : (if a0 < 0 then (bytecode_lengthBytes.j0 k a0 true) else ((bytecode_limit.f 4).bind fun t160 => (bytecode_lengthBytes.j0 k a0 (decide (a0 ≥ t160))))) = some r := h
 clear h
 have HC2 := Aside0.mk H
 clear H
 go_enter Try.func36, Try.ntmps36
 go_upto_region 1 with (fail)
 go_cut [10] (fun v10 wc => ∃ (kq : Nat) (x10_1 : Bool), v10 = .bool x10_1 ∧ Aside0 (bytecode_lengthBytes.j0 kq a0 x10_1 = some r) ∧ Aside0 (kq ≤ k) ∧ Drawn0 w wc)
 case first =>
  have H := HC2.out
  clear HC2
  by_cases c3 : a0 < 0
  ·rw [if_pos c3] at H
   have c3b0 : decide (a0 < 0) = true := decide_eq_true c3
   clear c3
   (first | rw [c3b0] | (simp only [i64_w, i32_w]; rw [c3b0]) | skip)
   have H' := Aside0.mk H
   clear H
   go_wp2
   go_meet
   case rel => exact ⟨_, (true), (by first | rfl | (simp; done) | (simp [*]; done)), H', ⟨by first | omega | exact Nat.le_refl _⟩, by repeat (first | exact Drawn0.refl _ | apply Drawn0.step)⟩
  ·rw [if_neg c3] at H
   have c3b0 : decide (a0 < 0) = false := decide_eq_false c3
   clear c3
   (first | rw [c3b0] | (simp only [i64_w, i32_w]; rw [c3b0]) | skip)
   replace H := Option.bind_eq_some_iff.mp H
   obtain ⟨t160, A40, H⟩ := H
   replace H : (bytecode_lengthBytes.j0 k a0 (decide (a0 ≥ t160))) = some r := H
   have A4 := Aside0.mk A40
   clear A40
   have H' := Aside0.mk H
   clear H
   go_wp2_with (first | (go_at_call 44; (with_reducible refine (bytecode_limit.calls 4 t160 _ A4.out).mono ?_); rintro e w' ⟨rfl, ⟨nd, rfl⟩⟩))
   go_meet
   case rel => exact ⟨_, (decide (a0 ≥ t160)), (by first | rfl | (simp; done) | (simp [*]; done)), H', ⟨by first | omega | exact Nat.le_refl _⟩, by repeat (first | exact Drawn0.refl _ | apply Drawn0.step)⟩
 case rest =>
  clear HC2
  try clear p2
  try clear c3
  try clear c3b0
  obtain ⟨kq, x10_1, rfl, HA, HJ1, ⟨mc1, rfl⟩⟩ := hcut
  cases kq with
  | zero => exact absurd HA.out (by simp [bytecode_lengthBytes.j0])
  | succ kj1 =>
   have H := HA.out
   clear HA
   simp only [bytecode_lengthBytes.j0] at H
   by_cases c5 : x10_1 = true
   ·subst c5
    have H1 : (some 0) = some r := by rw [if_pos rfl] at H; exact H
    clear H
    have H := H1
    clear H1
    obtain rfl := Option.some.inj H
    go_wp2
    go_ret
    exact ⟨by first | rfl | (simp; done) | (simp [*]; done), by repeat (first | exact Drawn0.refl _ | apply Drawn0.step)⟩
   ·replace c5 := Bool.eq_false_iff.mpr c5
    subst c5
    have H1 : (bytecode_lengthBytes.l0 kj1 a0 1) = some r := by rw [if_neg (show ¬ (false = true) by decide)] at H; exact H
    clear H
    have H := H1
    clear H1
    have H' := Aside0.mk H
    clear H
    go_wp2
    go_loopg [3] kj1 (fun kq v3 w' => ∃ (x3_2 : Int), v3 = .int .i64 x3_2 ∧ Aside0 (bytecode_lengthBytes.l0 kq a0 x3_2 = some r) ∧ Aside0 (kq ≤ kj1) ∧ Drawn0 w w')
    case atStart => exact ⟨(1), (by first | rfl | (simp; done) | (simp [*]; done)), H', ⟨Nat.le_refl _⟩, by repeat (first | exact Drawn0.refl _ | apply Drawn0.step)⟩
    case round =>
     clear H'
     try clear c1
     try clear p2
     try clear c3
     try clear c3b0
     try clear c5
     try clear p2
     obtain ⟨x3_2, rfl, HA, HK2, ⟨m2, rfl⟩⟩ := hrel
     cases gk with
     | zero => exact absurd HA.out (by simp [bytecode_lengthBytes.l0])
     | succ k2 =>
      have H := HA.out
      clear HA
      simp only [bytecode_lengthBytes.l0] at H
      by_cases c6 : x3_2 ≤ 4
      ·rw [if_pos c6] at H
       have c6b0 : decide (x3_2 ≤ 4) = true := decide_eq_true c6
       clear c6
       replace H := Option.bind_eq_some_iff.mp H
       obtain ⟨t161, A70, H⟩ := H
       replace H : (if (wrap64 (a0 + x3_2)) < t161 then (some x3_2) else (bytecode_lengthBytes.l0 k2 a0 (wrap64 (x3_2 + 1)))) = some r := H
       have A7 := Aside0.mk A70
       clear A70
       by_cases c8 : (wrap64 (a0 + x3_2)) < t161
       ·rw [if_pos c8] at H
        have c8b0 : decide ((wrap64 (a0 + x3_2)) < t161) = true := decide_eq_true c8
        clear c8
        obtain rfl := Option.some.inj H
        go_wp2_with (first | ((with_reducible refine gate_callee (f := 44) rfl ?_); refine goesL_ (some 19) rfl rfl Try.func44 (by kernel_rfl) rfl #[.int .i64 x3_2] rfl (by (try simp only [List.map_toArray, List.map_cons, List.map_nil]); first | done | rfl | (simp only [List.length_drop, List.length_take]; rfl)) ?_; (with_reducible refine (bytecode_limit.calls x3_2 t161 _ A7.out).mono ?_); rintro e w' ⟨rfl, ⟨nd, rfl⟩⟩; refine ⟨_, rfl, ?_⟩))
        go_ret
        exact ⟨by first | rfl | (simp; done) | (simp [*]; done), by repeat (first | exact Drawn0.refl _ | apply Drawn0.step)⟩
       ·rw [if_neg c8] at H
        have c8b0 : decide ((wrap64 (a0 + x3_2)) < t161) = false := decide_eq_false c8
        clear c8
        have H' := Aside0.mk H
        clear H
        go_wp2_with (first | ((with_reducible refine gate_callee (f := 44) rfl ?_); refine goesL_ (some 19) rfl rfl Try.func44 (by kernel_rfl) rfl #[.int .i64 x3_2] rfl (by (try simp only [List.map_toArray, List.map_cons, List.map_nil]); first | done | rfl | (simp only [List.length_drop, List.length_take]; rfl)) ?_; (with_reducible refine (bytecode_limit.calls x3_2 t161 _ A7.out).mono ?_); rintro e w' ⟨rfl, ⟨nd, rfl⟩⟩; refine ⟨_, rfl, ?_⟩))
        go_roundg k2
        case measure => have := HJ1.out; have := HK2.out; omega
        case rel => exact ⟨(wrap64 (x3_2 + 1)), (by first | rfl | (simp; done) | (simp [*]; done)), H', ⟨by have := HJ1.out; have := HK2.out; omega⟩, by repeat (first | exact Drawn0.refl _ | apply Drawn0.step)⟩
      ·rw [if_neg c6] at H
       have c6b0 : decide (x3_2 ≤ 4) = false := decide_eq_false c6
       clear c6
       obtain rfl := Option.some.inj H
       go_wp2
       go_ret
       exact ⟨by first | rfl | (simp; done) | (simp [*]; done), by repeat (first | exact Drawn0.refl _ | apply Drawn0.step)⟩

/-! ### bytecode_AppendLength: function 17 -/
def bytecode_AppendLength.l0 : Nat → ByteArray → Int → Int → List Int → Option (ByteArray)
 | 0, _, _, _, _ => none
 | k + 1, x0, x5, x6, x7 => if (x7.length : Int) < x5 then (if x7.length < 140737488355328 then (bytecode_AppendLength.l0 k x0 x5 (x6 / 256) (x7 ++ [(x6) % 256])) else (none)) else (if x0.size + (strOfNums x7).size ≤ 9223372036854775807 then (some (x0 ++ (strOfNums x7))) else (none))
def bytecode_AppendLength.f (k : Nat) (a0 : ByteArray) (a1 : Int) : Option (ByteArray) := (bytecode_lengthBytes.f k a1).bind fun t162 => (if t162 = 0 then (some a0) else (if t162 = 1 then ((some (([(wrap64 (a1 + 1)) % 256] : List Int) : List Int)).bind fun y163 => (if a0.size + (strOfNums y163).size ≤ 9223372036854775807 then (some (a0 ++ (strOfNums y163))) else (none))) else (bytecode_AppendLength.l0 k a0 t162 ((wrap64 (a1 + t162)) / 16) (([(Go.bits .or .i64 (wrap64 ((wrap64 (t162 - 1)) * 64)) (Go.bits .and .i64 (wrap64 (a1 + t162)) 15)) % 256] : List Int)))))
theorem bytecode_AppendLength.mono_l : ∀ k, (∀ y0 y1 y2 y3, LeO (bytecode_AppendLength.l0 k y0 y1 y2 y3) (bytecode_AppendLength.l0 (k + 1) y0 y1 y2 y3))
 | 0 => fun _ _ _ _ r h => by simp [bytecode_AppendLength.l0] at h
 | k + 1 => by
  have ih0 := bytecode_AppendLength.mono_l k
  ·intro y0 y1 y2 y3
   unfold bytecode_AppendLength.l0
   repeat' first
   | (with_reducible exact ih0 _ _ _ _)
   | (with_reducible exact bytecode_lengthBytes.mono _ _)
   | (with_reducible exact LeO.refl _)
   | (with_reducible exact LeO.none _)
   | (with_reducible refine LeO.ite ?_ ?_)
   | (with_reducible refine LeO.bind ?_ (fun _ => ?_))
   | exact ih0 _ _ _ _
   | exact bytecode_lengthBytes.mono _ _
   | exact LeO.none _
   | refine LeO.ite ?_ ?_
   | refine LeO.bind ?_ (fun _ => ?_)
theorem bytecode_AppendLength.mono : ∀ a0 a1 k, LeO (bytecode_AppendLength.f k a0 a1) (bytecode_AppendLength.f (k + 1) a0 a1) := by
 intro a0 a1 k
 have ih0 := bytecode_AppendLength.mono_l k
 unfold bytecode_AppendLength.f
 repeat' first
   | (with_reducible exact ih0 _ _ _ _)
   | (with_reducible exact bytecode_lengthBytes.mono _ _)
   | (with_reducible exact LeO.refl _)
   | (with_reducible exact LeO.none _)
   | (with_reducible refine LeO.ite ?_ ?_)
   | (with_reducible refine LeO.bind ?_ (fun _ => ?_))
   | exact ih0 _ _ _ _
   | exact bytecode_lengthBytes.mono _ _
   | exact LeO.none _
   | refine LeO.ite ?_ ?_
   | refine LeO.bind ?_ (fun _ => ?_)
set_option maxHeartbeats 8000000 in
set_option maxRecDepth 100000 in
theorem bytecode_AppendLength.calls (k : Nat) (a0 : ByteArray) (a1 : Int) (r : ByteArray) (w : World) (h : bytecode_AppendLength.f k a0 a1 = some r) :
  Calls Try.prog 17 #[.string a0, .int .i64 a1] w fun e w' => e = .returned (.string r) ∧ Below w.heap.size w w' := by
 have HB := Aside0.mk (Below.refl w.heap.size w)
 have H : ((bytecode_lengthBytes.f k a1).bind fun t162 => (if t162 = 0 then (some a0) else (if t162 = 1 then ((some (([(wrap64 (a1 + 1)) % 256] : List Int) : List Int)).bind fun y163 => (if a0.size + (strOfNums y163).size ≤ 9223372036854775807 then (some (a0 ++ (strOfNums y163))) else (none))) else (bytecode_AppendLength.l0 k a0 t162 ((wrap64 (a1 + t162)) / 16) (([(Go.bits .or .i64 (wrap64 ((wrap64 (t162 - 1)) * 64)) (Go.bits .and .i64 (wrap64 (a1 + t162)) 15)) % 256] : List Int)))))) = some r := h
 clear h
 replace H := Option.bind_eq_some_iff.mp H
 obtain ⟨t162, A30, H⟩ := H
 replace H : (if t162 = 0 then (some a0) else (if t162 = 1 then ((some (([(wrap64 (a1 + 1)) % 256] : List Int) : List Int)).bind fun y163 => (if a0.size + (strOfNums y163).size ≤ 9223372036854775807 then (some (a0 ++ (strOfNums y163))) else (none))) else (bytecode_AppendLength.l0 k a0 t162 ((wrap64 (a1 + t162)) / 16) (([(Go.bits .or .i64 (wrap64 ((wrap64 (t162 - 1)) * 64)) (Go.bits .and .i64 (wrap64 (a1 + t162)) 15)) % 256] : List Int))))) = some r := H
 have A3 := Aside0.mk A30
 clear A30
 by_cases c4 : t162 = 0
 ·rw [if_pos c4] at H
  have c4b0 : (t162 == 0) = true := beq_iff_eq.mpr c4
  have c4b1 : (t162 != 0) = false := bne_eq_false_iff_eq.mpr c4
  clear c4
  obtain rfl := Option.some.inj H
  go_enter Try.func17, Try.ntmps17
  go_wp2_with (first | ((with_reducible refine gate_callee (f := 36) rfl ?_); refine goesL_ (some 9) rfl rfl Try.func36 (by kernel_rfl) rfl #[.int .i64 a1] rfl (by (try simp only [List.map_toArray, List.map_cons, List.map_nil]); first | done | rfl | (simp only [List.length_drop, List.length_take]; rfl)) ?_; (with_reducible refine (bytecode_lengthBytes.calls k a1 t162 _ A3.out).mono ?_); rintro e w' ⟨rfl, ⟨nd, rfl⟩⟩; refine ⟨_, rfl, ?_⟩))
  go_ret
  exact ⟨by first | rfl | (simp [errW_none, errW_some] <;> rfl) | (simp [*, errW_none, errW_some] <;> rfl), by repeat (first | (with_reducible first | exact HB.out | apply bA_ | apply bN_ | apply bD_) | exact HB.out)⟩
 ·rw [if_neg c4] at H
  have c4b0 : (t162 == 0) = false := beq_eq_false_iff_ne.mpr c4
  have c4b1 : (t162 != 0) = true := bne_iff_ne.mpr c4
  by_cases c5 : t162 = 1
  ·rw [if_pos c5] at H
   have c5b0 : (t162 == 1) = true := beq_iff_eq.mpr c5
   have c5b1 : (t162 != 1) = false := bne_eq_false_iff_eq.mpr c5
   clear c5
   obtain ⟨y163, hy163⟩ : ∃ y_ : List Int, y_ = (([(wrap64 (a1 + 1)) % 256] : List Int)) := ⟨_, rfl⟩
   replace H : (if a0.size + (strOfNums y163).size ≤ 9223372036854775807 then (some (a0 ++ (strOfNums y163))) else (none)) = some r := by first | (rw [hy163]; with_reducible exact H) | (have H2_ := (Option.bind_some _ _).symm.trans H; rw [hy163]; with_reducible exact H2_) | (have H2_ := (Option.bind_some _ _).symm.trans H; with_reducible exact H2_) | with_reducible exact H | (rw [hy163]; exact H) | exact H
   have Ny163 := Aside0.mk hy163
   clear hy163
   by_cases c6 : a0.size + (strOfNums y163).size ≤ 9223372036854775807
   ·rw [if_pos c6] at H
    have c6b0 := eq_true c6
    have c6b1 : decide (a0.size + (strOfNums y163).size ≤ 9223372036854775807) = true := decide_eq_true c6
    try have c6b2 : (9223372036854775807 < a0.size + (strOfNums y163).size) = False := eq_false (Nat.not_lt.2 c6)
    clear c6
    obtain rfl := Option.some.inj H
    go_enter Try.func17, Try.ntmps17
    go_wp2_with (first | ((with_reducible refine gate_callee (f := 36) rfl ?_); refine goesL_ (some 9) rfl rfl Try.func36 (by kernel_rfl) rfl #[.int .i64 a1] rfl (by (try simp only [List.map_toArray, List.map_cons, List.map_nil]); first | done | rfl | (simp only [List.length_drop, List.length_take]; rfl)) ?_; (with_reducible refine (bytecode_lengthBytes.calls k a1 t162 _ A3.out).mono ?_); rintro e w' ⟨rfl, ⟨nd, rfl⟩⟩; refine ⟨_, rfl, ?_⟩) | ((with_reducible refine gate_dst (N := 20) rfl ?_); refine Kd.R_lit (Kd.int .u8) _ 5 ?hg (N := 20) ?hd (xs := ([(wrap64 (a1 + 1)) % 256] : List Int)) (inner := [.int .u8 ((wrap64 (a1 + 1)) % 256)]) (ok := fun _ => True) (okp := fun _ => True) ?hr ?hp (fun _ hk => hk) trivial (Below.refl _ _) (Nat.le_refl _) (by simp) ?_; (case hd => rfl); (case hg => rfl); (case hr => first | (go_simp; done) | (go_simp; rfl)); (case hp => exact (Reps.one (show Kd.M (Kd.int .u8) _ _ _ ((wrap64 (a1 + 1)) % 256) [.int .u8 ((wrap64 (a1 + 1)) % 256)] from rfl) (Reps.none _ _))); intro v164 w7 ho8 hb hg_ hnew_; clear hg_ hnew_; (first | rw [← Ny163.out] at ho8 | (simp only [Int.reduceToNat] at ho8; rw [← Ny163.out] at ho8)); have n0_ := Aside0.mk (Kd.R_lower ho8 (below_size (by repeat (first | (with_reducible first | exact HB.out | apply bA_ | apply bN_ | apply bD_) | exact HB.out)))); have n1_ := Aside0.mk (below_step (by repeat (first | (with_reducible first | exact HB.out | apply bA_ | apply bN_ | apply bD_) | exact HB.out)) hb); clear HB; have HO165 := n0_; have HB := n1_; clear n0_ n1_; clear hb ho8; have hcv9 := own_string (P := Try.prog) Try.underlying37 Try.underlying5 Try.underlying9 (Kd.own_of_R HO165.out)))
    go_ret
    exact ⟨by first | rfl | (simp [errW_none, errW_some] <;> rfl) | (simp [*, errW_none, errW_some] <;> rfl), by repeat (first | (with_reducible first | exact HB.out | apply bA_ | apply bN_ | apply bD_) | exact HB.out)⟩
   ·rw [if_neg c6] at H
    exact absurd H (by simp)
  ·rw [if_neg c5] at H
   have c5b0 : (t162 == 1) = false := beq_eq_false_iff_ne.mpr c5
   have c5b1 : (t162 != 1) = true := bne_iff_ne.mpr c5
   obtain ⟨y166, hy166⟩ : ∃ y_ : List Int, y_ = (([(Go.bits .or .i64 (wrap64 ((wrap64 (t162 - 1)) * 64)) (Go.bits .and .i64 (wrap64 (a1 + t162)) 15)) % 256] : List Int)) := ⟨_, rfl⟩
   replace H : (bytecode_AppendLength.l0 k a0 t162 ((wrap64 (a1 + t162)) / 16) y166) = some r := by first | (rw [hy166]; with_reducible exact H) | (have H2_ := (Option.bind_some _ _).symm.trans H; rw [hy166]; with_reducible exact H2_) | (have H2_ := (Option.bind_some _ _).symm.trans H; with_reducible exact H2_) | with_reducible exact H | (rw [hy166]; exact H) | exact H
   have Ny166 := Aside0.mk hy166
   clear hy166
   have H' := Aside0.mk H
   clear H
   go_enter Try.func17, Try.ntmps17
   go_wp2_with (first | ((with_reducible refine gate_callee (f := 36) rfl ?_); refine goesL_ (some 9) rfl rfl Try.func36 (by kernel_rfl) rfl #[.int .i64 a1] rfl (by (try simp only [List.map_toArray, List.map_cons, List.map_nil]); first | done | rfl | (simp only [List.length_drop, List.length_take]; rfl)) ?_; (with_reducible refine (bytecode_lengthBytes.calls k a1 t162 _ A3.out).mono ?_); rintro e w' ⟨rfl, ⟨nd, rfl⟩⟩; refine ⟨_, rfl, ?_⟩) | ((with_reducible refine gate_dst (N := 33) rfl ?_); refine Kd.R_lit (Kd.int .u8) _ 5 ?hg (N := 33) ?hd (xs := ([(Go.bits .or .i64 (wrap64 ((wrap64 (t162 - 1)) * 64)) (Go.bits .and .i64 (wrap64 (a1 + t162)) 15)) % 256] : List Int)) (inner := [.int .u8 ((Go.bits .or .i64 (wrap64 ((wrap64 (t162 - 1)) * 64)) (Go.bits .and .i64 (wrap64 (a1 + t162)) 15)) % 256)]) (ok := fun _ => True) (okp := fun _ => True) ?hr ?hp (fun _ hk => hk) trivial (Below.refl _ _) (Nat.le_refl _) (by simp) ?_; (case hd => rfl); (case hg => rfl); (case hr => first | (go_simp; done) | (go_simp; rfl)); (case hp => exact (Reps.one (show Kd.M (Kd.int .u8) _ _ _ ((Go.bits .or .i64 (wrap64 ((wrap64 (t162 - 1)) * 64)) (Go.bits .and .i64 (wrap64 (a1 + t162)) 15)) % 256) [.int .u8 ((Go.bits .or .i64 (wrap64 ((wrap64 (t162 - 1)) * 64)) (Go.bits .and .i64 (wrap64 (a1 + t162)) 15)) % 256)] from rfl) (Reps.none _ _))); intro v167 w10 ho11 hb hg_ hnew_; clear hg_ hnew_; (first | rw [← Ny166.out] at ho11 | (simp only [Int.reduceToNat] at ho11; rw [← Ny166.out] at ho11)); have n0_ := Aside0.mk (Kd.R_lower ho11 (below_size (by repeat (first | (with_reducible first | exact HB.out | apply bA_ | apply bN_ | apply bD_) | exact HB.out)))); have n1_ := Aside0.mk (below_step (by repeat (first | (with_reducible first | exact HB.out | apply bA_ | apply bN_ | apply bD_) | exact HB.out)) hb); clear HB; have HO168 := n0_; have HB := n1_; clear n0_ n1_; clear hb ho11))
   go_loopg [6, 7] k (fun kq v6 v7 w' => ∃ (x6_1 : Int) (x7_1 : List Int), v6 = .int .i64 x6_1 ∧ Aside0 (bytecode_AppendLength.l0 kq a0 t162 x6_1 x7_1 = some r) ∧ Aside0 (kq ≤ k) ∧ Aside0 (Kd.R (Kd.int .u8) 5 w' w.heap.size (fun _ => True) v7 x7_1) ∧ Aside0 (Below w.heap.size w w'))
   case atStart => exact ⟨((wrap64 (a1 + t162)) / 16), (y166), (by first | rfl | (simp; done) | (simp [*]; done)), H', ⟨Nat.le_refl _⟩, ⟨by (with_reducible repeat (first | apply Kd.R_alloc | apply Kd.R_drewN | apply Kd.R_drew)); exact HO168.out⟩, ⟨by repeat (first | (with_reducible first | exact HB.out | apply bA_ | apply bN_ | apply bD_) | exact HB.out)⟩⟩
   case round =>
    clear H'
    try clear c1
    try clear p2
    try clear c3
    try clear c4
    try clear c4b0
    try clear c4b1
    try clear c5
    try clear c5b0
    try clear c5b1
    try clear c6
    try clear c6b0
    try clear c6b1
    try clear c6b2
    try clear p6
    try clear hcv9
    obtain ⟨x6_1, x7_1, rfl, HA, HK1, HO_7, HB⟩ := hrel
    cases gk with
    | zero => exact absurd HA.out (by simp [bytecode_AppendLength.l0])
    | succ k1 =>
     have H := HA.out
     clear HA
     simp only [bytecode_AppendLength.l0] at H
     by_cases c12 : (x7_1.length : Int) < t162
     ·rw [if_pos c12] at H
      have c12b0 : decide ((x7_1.length : Int) < t162) = true := decide_eq_true c12
      clear c12
      by_cases c13 : x7_1.length < 140737488355328
      ·rw [if_pos c13] at H
       have LMc13 := Aside0.mk c13
       clear c13
       obtain ⟨y169, hy169⟩ : ∃ y_ : List Int, y_ = (x7_1 ++ [(x6_1) % 256]) := ⟨_, rfl⟩
       replace H : (bytecode_AppendLength.l0 k1 a0 t162 (x6_1 / 256) y169) = some r := by first | (rw [hy169]; with_reducible exact H) | (have H2_ := (Option.bind_some _ _).symm.trans H; rw [hy169]; with_reducible exact H2_) | (have H2_ := (Option.bind_some _ _).symm.trans H; with_reducible exact H2_) | with_reducible exact H | (rw [hy169]; exact H) | exact H
       have Ny169 := Aside0.mk hy169
       clear hy169
       have H' := Aside0.mk H
       clear H
       obtain ⟨Ao14, co14, eo14⟩ := Kd.R_slice HO_7.out
       subst eo14
       go_wp2_with (first | ((with_reducible refine gate_builtin (b := .append) (xs := #[.tmp 42, .tmp 45]) rfl ?_); at_builtin; refine Kd.R_append (Kd.int .u8) (w0 := w) w.heap.size rfl (.tmp 42) (.tmp 45) 37 5 (.int .u8 0) 1 rfl Try.underlying37 info5 rfl (by decide) (by omega) (.slice Ao14 x7_1.length co14) x7_1 ((x6_1) % 256) [.int .u8 ((x6_1) % 256)] (fun _ => True) (fun _ => False) rfl rfl ?aP (fun _ hk => hk.elim) ?aF ?aO ?aB ?aS ?aL ?_; (case aP => exact rfl); (case aB => exact (by repeat (first | (with_reducible first | exact HB.out | apply bA_ | apply bN_ | apply bD_) | exact HB.out))); (case aF => exact (fun _ _ => trivial)); (case aO => exact (by (with_reducible repeat (first | apply Kd.R_alloc | apply Kd.R_drewN | apply Kd.R_drew)); exact HO_7.out)); (case aS => exact (below_size (by repeat (first | (with_reducible first | exact HB.out | apply bA_ | apply bN_ | apply bD_) | exact HB.out)))); (case aL => have := LMc13.out; omega); intro v170 w15 ho hb hg hat; rw [← Ny169.out] at ho; have n0_ := Aside0.mk (hb); have n1_ := Aside0.mk (ho); clear HB; clear HO_7; have HB := n0_; have HO171 := n1_; clear n0_ n1_; clear ho hb hg hat))
       go_roundg k1
       case measure => have := HK1.out; omega
       case rel => exact ⟨(x6_1 / 256), (y169), (by first | rfl | (simp; done) | (simp [*]; done)), H', ⟨by have := HK1.out; omega⟩, ⟨by (with_reducible repeat (first | apply Kd.R_alloc | apply Kd.R_drewN | apply Kd.R_drew)); exact HO171.out⟩, ⟨by repeat (first | (with_reducible first | exact HB.out | apply bA_ | apply bN_ | apply bD_) | exact HB.out)⟩⟩
      ·rw [if_neg c13] at H
       exact absurd H (by simp)
     ·rw [if_neg c12] at H
      have c12b0 : decide ((x7_1.length : Int) < t162) = false := decide_eq_false c12
      clear c12
      by_cases c16 : a0.size + (strOfNums x7_1).size ≤ 9223372036854775807
      ·rw [if_pos c16] at H
       have c16b0 := eq_true c16
       have c16b1 : decide (a0.size + (strOfNums x7_1).size ≤ 9223372036854775807) = true := decide_eq_true c16
       try have c16b2 : (9223372036854775807 < a0.size + (strOfNums x7_1).size) = False := eq_false (Nat.not_lt.2 c16)
       clear c16
       obtain rfl := Option.some.inj H
       obtain ⟨Ao17, co17, eo17⟩ := Kd.R_slice HO_7.out
       subst eo17
       have hcv18 := own_string (P := Try.prog) Try.underlying37 Try.underlying5 Try.underlying9 (Kd.own_of_R HO_7.out)
       go_wp2
       go_ret
       exact ⟨by first | rfl | (simp [errW_none, errW_some] <;> rfl) | (simp [*, errW_none, errW_some] <;> rfl), by repeat (first | (with_reducible first | exact HB.out | apply bA_ | apply bN_ | apply bD_) | exact HB.out)⟩
      ·rw [if_neg c16] at H
       exact absurd H (by simp)

/-! ### platformfwlaw05_awake: function 7 -/
def platformfwlaw05_awake.f (k : Nat)  : Option (Bool) := (bytecode_Int.f k (⟨#[11, 44, 1]⟩ : ByteArray)).bind fun bt172 => ((bytecode_AppendInt.f k (⟨#[120]⟩ : ByteArray) 300).bind fun t175 => (if t175.toList = ([120, 11, 44, 1] : List UInt8) then (if bt172.1 = 300 then (if bt172.2.1 = 3 then (if bt172.2.2 = 0 then ((bytecode_AppendLength.f k (⟨#[]⟩ : ByteArray) 62).bind fun t176 => (if t176.toList = ([63] : List UInt8) then ((bytecode_AppendLength.f k (⟨#[]⟩ : ByteArray) 63).bind fun t177 => (some (t177.toList == ([65, 4] : List UInt8)))) else (some false))) else (some false)) else (some false)) else (some false)) else (some false)))
theorem platformfwlaw05_awake.mono : ∀ k, LeO (platformfwlaw05_awake.f k ) (platformfwlaw05_awake.f (k + 1) ) := by
 intro  k
 unfold platformfwlaw05_awake.f
 repeat' first
   | (with_reducible exact bytecode_AppendInt.mono _ _ _)
   | (with_reducible exact bytecode_AppendLength.mono _ _ _)
   | (with_reducible exact bytecode_Int.mono _ _)
   | (with_reducible exact LeO.refl _)
   | (with_reducible exact LeO.none _)
   | (with_reducible refine LeO.ite ?_ ?_)
   | (with_reducible refine LeO.bind ?_ (fun _ => ?_))
   | exact bytecode_AppendInt.mono _ _ _
   | exact bytecode_AppendLength.mono _ _ _
   | exact bytecode_Int.mono _ _
   | exact LeO.none _
   | refine LeO.ite ?_ ?_
   | refine LeO.bind ?_ (fun _ => ?_)
set_option maxHeartbeats 8000000 in
set_option maxRecDepth 100000 in
theorem platformfwlaw05_awake.calls (k : Nat)  (r : Bool) (w : World) (h : platformfwlaw05_awake.f k  = some r) :
  Calls Try.prog 7 #[] w fun e w' => e = .returned (.bool r) ∧ Below w.heap.size w w' := by
 have HB := Aside0.mk (Below.refl w.heap.size w)
 have H : ((bytecode_Int.f k (⟨#[11, 44, 1]⟩ : ByteArray)).bind fun bt172 => ((bytecode_AppendInt.f k (⟨#[120]⟩ : ByteArray) 300).bind fun t175 => (if t175.toList = ([120, 11, 44, 1] : List UInt8) then (if bt172.1 = 300 then (if bt172.2.1 = 3 then (if bt172.2.2 = 0 then ((bytecode_AppendLength.f k (⟨#[]⟩ : ByteArray) 62).bind fun t176 => (if t176.toList = ([63] : List UInt8) then ((bytecode_AppendLength.f k (⟨#[]⟩ : ByteArray) 63).bind fun t177 => (some (t177.toList == ([65, 4] : List UInt8)))) else (some false))) else (some false)) else (some false)) else (some false)) else (some false)))) = some r := h
 clear h
 replace H := Option.bind_eq_some_iff.mp H
 obtain ⟨⟨t172, t173, t174⟩, A10, H⟩ := H
 replace H : ((bytecode_AppendInt.f k (⟨#[120]⟩ : ByteArray) 300).bind fun t175 => (if t175.toList = ([120, 11, 44, 1] : List UInt8) then (if t172 = 300 then (if t173 = 3 then (if t174 = 0 then ((bytecode_AppendLength.f k (⟨#[]⟩ : ByteArray) 62).bind fun t176 => (if t176.toList = ([63] : List UInt8) then ((bytecode_AppendLength.f k (⟨#[]⟩ : ByteArray) 63).bind fun t177 => (some (t177.toList == ([65, 4] : List UInt8)))) else (some false))) else (some false)) else (some false)) else (some false)) else (some false))) = some r := H
 have A1 := Aside0.mk A10
 clear A10
 replace H := Option.bind_eq_some_iff.mp H
 obtain ⟨t175, A20, H⟩ := H
 replace H : (if t175.toList = ([120, 11, 44, 1] : List UInt8) then (if t172 = 300 then (if t173 = 3 then (if t174 = 0 then ((bytecode_AppendLength.f k (⟨#[]⟩ : ByteArray) 62).bind fun t176 => (if t176.toList = ([63] : List UInt8) then ((bytecode_AppendLength.f k (⟨#[]⟩ : ByteArray) 63).bind fun t177 => (some (t177.toList == ([65, 4] : List UInt8)))) else (some false))) else (some false)) else (some false)) else (some false)) else (some false)) = some r := H
 have A2 := Aside0.mk A20
 clear A20
 by_cases c3 : t175.toList = ([120, 11, 44, 1] : List UInt8)
 ·rw [if_pos c3] at H
  have c3b0 : (t175.toList == ([120, 11, 44, 1] : List UInt8)) = true := beq_iff_eq.mpr c3
  have c3b1 : (t175.toList != ([120, 11, 44, 1] : List UInt8)) = false := bne_eq_false_iff_eq.mpr c3
  clear c3
  by_cases c4 : t172 = 300
  ·rw [if_pos c4] at H
   have c4b0 : (t172 == 300) = true := beq_iff_eq.mpr c4
   have c4b1 : (t172 != 300) = false := bne_eq_false_iff_eq.mpr c4
   clear c4
   by_cases c5 : t173 = 3
   ·rw [if_pos c5] at H
    have c5b0 : (t173 == 3) = true := beq_iff_eq.mpr c5
    have c5b1 : (t173 != 3) = false := bne_eq_false_iff_eq.mpr c5
    clear c5
    by_cases c6 : t174 = 0
    ·rw [if_pos c6] at H
     have c6b0 : (t174 == 0) = true := beq_iff_eq.mpr c6
     have c6b1 : (t174 != 0) = false := bne_eq_false_iff_eq.mpr c6
     clear c6
     replace H := Option.bind_eq_some_iff.mp H
     obtain ⟨t176, A70, H⟩ := H
     replace H : (if t176.toList = ([63] : List UInt8) then ((bytecode_AppendLength.f k (⟨#[]⟩ : ByteArray) 63).bind fun t177 => (some (t177.toList == ([65, 4] : List UInt8)))) else (some false)) = some r := H
     have A7 := Aside0.mk A70
     clear A70
     by_cases c8 : t176.toList = ([63] : List UInt8)
     ·rw [if_pos c8] at H
      have c8b0 : (t176.toList == ([63] : List UInt8)) = true := beq_iff_eq.mpr c8
      have c8b1 : (t176.toList != ([63] : List UInt8)) = false := bne_eq_false_iff_eq.mpr c8
      clear c8
      replace H := Option.bind_eq_some_iff.mp H
      obtain ⟨t177, A90, H⟩ := H
      replace H : (some (t177.toList == ([65, 4] : List UInt8))) = some r := H
      have A9 := Aside0.mk A90
      clear A90
      obtain rfl := Option.some.inj H
      go_enter Try.func7, Try.ntmps7
      go_wp2_with (first | ((with_reducible refine gate_callee (f := 15) rfl ?_); refine goesL_ (some 5) rfl rfl Try.func15 (by kernel_rfl) rfl #[.string (⟨#[11, 44, 1]⟩ : ByteArray)] rfl (by (try simp only [List.map_toArray, List.map_cons, List.map_nil]); first | done | rfl | (simp only [List.length_drop, List.length_take]; rfl)) ?_; (with_reducible refine (bytecode_Int.calls k (⟨#[11, 44, 1]⟩ : ByteArray) t172 t173 t174 _ A1.out).mono ?_); rintro e w' ⟨rfl, ⟨nd, rfl⟩⟩; refine ⟨_, rfl, ?_⟩) | ((with_reducible refine gate_callee (f := 16) rfl ?_); refine goesL_ (some 9) rfl rfl Try.func16 (by kernel_rfl) rfl #[.string (⟨#[120]⟩ : ByteArray), .int .u64 300] rfl (by (try simp only [List.map_toArray, List.map_cons, List.map_nil]); first | done | rfl | (simp only [List.length_drop, List.length_take]; rfl)) ?_; (with_reducible refine (bytecode_AppendInt.calls k (⟨#[120]⟩ : ByteArray) 300 t175 _ A2.out).mono ?_); rintro e w10 ⟨rfl, hb⟩; refine ⟨_, rfl, ?_⟩; have n0_ := Aside0.mk (below_step (by repeat (first | (with_reducible first | exact HB.out | apply bA_ | apply bN_ | apply bD_) | exact HB.out)) hb); clear HB; have HB := n0_; clear n0_; (try clear hb); (try clear hb2); (try clear hk); (try clear hi)) | (go_at_call 17; (with_reducible refine (bytecode_AppendLength.calls k (⟨#[]⟩ : ByteArray) 62 t176 _ A7.out).mono ?_); rintro e w11 ⟨rfl, hb⟩; have n0_ := Aside0.mk (below_step (by repeat (first | (with_reducible first | exact HB.out | apply bA_ | apply bN_ | apply bD_) | exact HB.out)) hb); clear HB; have HB := n0_; clear n0_; (try clear hb); (try clear hb2); (try clear hk); (try clear hi)) | (go_at_call 17; (with_reducible refine (bytecode_AppendLength.calls k (⟨#[]⟩ : ByteArray) 63 t177 _ A9.out).mono ?_); rintro e w12 ⟨rfl, hb⟩; have n0_ := Aside0.mk (below_step (by repeat (first | (with_reducible first | exact HB.out | apply bA_ | apply bN_ | apply bD_) | exact HB.out)) hb); clear HB; have HB := n0_; clear n0_; (try clear hb); (try clear hb2); (try clear hk); (try clear hi)))
      go_ret
      exact ⟨by first | rfl | (simp [errW_none, errW_some] <;> rfl) | (simp [*, errW_none, errW_some] <;> rfl), by repeat (first | (with_reducible first | exact HB.out | apply bA_ | apply bN_ | apply bD_) | exact HB.out)⟩
     ·rw [if_neg c8] at H
      have c8b0 : (t176.toList == ([63] : List UInt8)) = false := beq_eq_false_iff_ne.mpr c8
      have c8b1 : (t176.toList != ([63] : List UInt8)) = true := bne_iff_ne.mpr c8
      obtain rfl := Option.some.inj H
      go_enter Try.func7, Try.ntmps7
      go_wp2_with (first | ((with_reducible refine gate_callee (f := 15) rfl ?_); refine goesL_ (some 5) rfl rfl Try.func15 (by kernel_rfl) rfl #[.string (⟨#[11, 44, 1]⟩ : ByteArray)] rfl (by (try simp only [List.map_toArray, List.map_cons, List.map_nil]); first | done | rfl | (simp only [List.length_drop, List.length_take]; rfl)) ?_; (with_reducible refine (bytecode_Int.calls k (⟨#[11, 44, 1]⟩ : ByteArray) t172 t173 t174 _ A1.out).mono ?_); rintro e w' ⟨rfl, ⟨nd, rfl⟩⟩; refine ⟨_, rfl, ?_⟩) | ((with_reducible refine gate_callee (f := 16) rfl ?_); refine goesL_ (some 9) rfl rfl Try.func16 (by kernel_rfl) rfl #[.string (⟨#[120]⟩ : ByteArray), .int .u64 300] rfl (by (try simp only [List.map_toArray, List.map_cons, List.map_nil]); first | done | rfl | (simp only [List.length_drop, List.length_take]; rfl)) ?_; (with_reducible refine (bytecode_AppendInt.calls k (⟨#[120]⟩ : ByteArray) 300 t175 _ A2.out).mono ?_); rintro e w13 ⟨rfl, hb⟩; refine ⟨_, rfl, ?_⟩; have n0_ := Aside0.mk (below_step (by repeat (first | (with_reducible first | exact HB.out | apply bA_ | apply bN_ | apply bD_) | exact HB.out)) hb); clear HB; have HB := n0_; clear n0_; (try clear hb); (try clear hb2); (try clear hk); (try clear hi)) | (go_at_call 17; (with_reducible refine (bytecode_AppendLength.calls k (⟨#[]⟩ : ByteArray) 62 t176 _ A7.out).mono ?_); rintro e w14 ⟨rfl, hb⟩; have n0_ := Aside0.mk (below_step (by repeat (first | (with_reducible first | exact HB.out | apply bA_ | apply bN_ | apply bD_) | exact HB.out)) hb); clear HB; have HB := n0_; clear n0_; (try clear hb); (try clear hb2); (try clear hk); (try clear hi)))
      go_ret
      exact ⟨by first | rfl | (simp [errW_none, errW_some] <;> rfl) | (simp [*, errW_none, errW_some] <;> rfl), by repeat (first | (with_reducible first | exact HB.out | apply bA_ | apply bN_ | apply bD_) | exact HB.out)⟩
    ·rw [if_neg c6] at H
     have c6b0 : (t174 == 0) = false := beq_eq_false_iff_ne.mpr c6
     have c6b1 : (t174 != 0) = true := bne_iff_ne.mpr c6
     obtain rfl := Option.some.inj H
     go_enter Try.func7, Try.ntmps7
     go_wp2_with (first | ((with_reducible refine gate_callee (f := 15) rfl ?_); refine goesL_ (some 5) rfl rfl Try.func15 (by kernel_rfl) rfl #[.string (⟨#[11, 44, 1]⟩ : ByteArray)] rfl (by (try simp only [List.map_toArray, List.map_cons, List.map_nil]); first | done | rfl | (simp only [List.length_drop, List.length_take]; rfl)) ?_; (with_reducible refine (bytecode_Int.calls k (⟨#[11, 44, 1]⟩ : ByteArray) t172 t173 t174 _ A1.out).mono ?_); rintro e w' ⟨rfl, ⟨nd, rfl⟩⟩; refine ⟨_, rfl, ?_⟩) | ((with_reducible refine gate_callee (f := 16) rfl ?_); refine goesL_ (some 9) rfl rfl Try.func16 (by kernel_rfl) rfl #[.string (⟨#[120]⟩ : ByteArray), .int .u64 300] rfl (by (try simp only [List.map_toArray, List.map_cons, List.map_nil]); first | done | rfl | (simp only [List.length_drop, List.length_take]; rfl)) ?_; (with_reducible refine (bytecode_AppendInt.calls k (⟨#[120]⟩ : ByteArray) 300 t175 _ A2.out).mono ?_); rintro e w15 ⟨rfl, hb⟩; refine ⟨_, rfl, ?_⟩; have n0_ := Aside0.mk (below_step (by repeat (first | (with_reducible first | exact HB.out | apply bA_ | apply bN_ | apply bD_) | exact HB.out)) hb); clear HB; have HB := n0_; clear n0_; (try clear hb); (try clear hb2); (try clear hk); (try clear hi)))
     go_ret
     exact ⟨by first | rfl | (simp [errW_none, errW_some] <;> rfl) | (simp [*, errW_none, errW_some] <;> rfl), by repeat (first | (with_reducible first | exact HB.out | apply bA_ | apply bN_ | apply bD_) | exact HB.out)⟩
   ·rw [if_neg c5] at H
    have c5b0 : (t173 == 3) = false := beq_eq_false_iff_ne.mpr c5
    have c5b1 : (t173 != 3) = true := bne_iff_ne.mpr c5
    obtain rfl := Option.some.inj H
    go_enter Try.func7, Try.ntmps7
    go_wp2_with (first | ((with_reducible refine gate_callee (f := 15) rfl ?_); refine goesL_ (some 5) rfl rfl Try.func15 (by kernel_rfl) rfl #[.string (⟨#[11, 44, 1]⟩ : ByteArray)] rfl (by (try simp only [List.map_toArray, List.map_cons, List.map_nil]); first | done | rfl | (simp only [List.length_drop, List.length_take]; rfl)) ?_; (with_reducible refine (bytecode_Int.calls k (⟨#[11, 44, 1]⟩ : ByteArray) t172 t173 t174 _ A1.out).mono ?_); rintro e w' ⟨rfl, ⟨nd, rfl⟩⟩; refine ⟨_, rfl, ?_⟩) | ((with_reducible refine gate_callee (f := 16) rfl ?_); refine goesL_ (some 9) rfl rfl Try.func16 (by kernel_rfl) rfl #[.string (⟨#[120]⟩ : ByteArray), .int .u64 300] rfl (by (try simp only [List.map_toArray, List.map_cons, List.map_nil]); first | done | rfl | (simp only [List.length_drop, List.length_take]; rfl)) ?_; (with_reducible refine (bytecode_AppendInt.calls k (⟨#[120]⟩ : ByteArray) 300 t175 _ A2.out).mono ?_); rintro e w16 ⟨rfl, hb⟩; refine ⟨_, rfl, ?_⟩; have n0_ := Aside0.mk (below_step (by repeat (first | (with_reducible first | exact HB.out | apply bA_ | apply bN_ | apply bD_) | exact HB.out)) hb); clear HB; have HB := n0_; clear n0_; (try clear hb); (try clear hb2); (try clear hk); (try clear hi)))
    go_ret
    exact ⟨by first | rfl | (simp [errW_none, errW_some] <;> rfl) | (simp [*, errW_none, errW_some] <;> rfl), by repeat (first | (with_reducible first | exact HB.out | apply bA_ | apply bN_ | apply bD_) | exact HB.out)⟩
  ·rw [if_neg c4] at H
   have c4b0 : (t172 == 300) = false := beq_eq_false_iff_ne.mpr c4
   have c4b1 : (t172 != 300) = true := bne_iff_ne.mpr c4
   obtain rfl := Option.some.inj H
   go_enter Try.func7, Try.ntmps7
   go_wp2_with (first | ((with_reducible refine gate_callee (f := 15) rfl ?_); refine goesL_ (some 5) rfl rfl Try.func15 (by kernel_rfl) rfl #[.string (⟨#[11, 44, 1]⟩ : ByteArray)] rfl (by (try simp only [List.map_toArray, List.map_cons, List.map_nil]); first | done | rfl | (simp only [List.length_drop, List.length_take]; rfl)) ?_; (with_reducible refine (bytecode_Int.calls k (⟨#[11, 44, 1]⟩ : ByteArray) t172 t173 t174 _ A1.out).mono ?_); rintro e w' ⟨rfl, ⟨nd, rfl⟩⟩; refine ⟨_, rfl, ?_⟩) | ((with_reducible refine gate_callee (f := 16) rfl ?_); refine goesL_ (some 9) rfl rfl Try.func16 (by kernel_rfl) rfl #[.string (⟨#[120]⟩ : ByteArray), .int .u64 300] rfl (by (try simp only [List.map_toArray, List.map_cons, List.map_nil]); first | done | rfl | (simp only [List.length_drop, List.length_take]; rfl)) ?_; (with_reducible refine (bytecode_AppendInt.calls k (⟨#[120]⟩ : ByteArray) 300 t175 _ A2.out).mono ?_); rintro e w17 ⟨rfl, hb⟩; refine ⟨_, rfl, ?_⟩; have n0_ := Aside0.mk (below_step (by repeat (first | (with_reducible first | exact HB.out | apply bA_ | apply bN_ | apply bD_) | exact HB.out)) hb); clear HB; have HB := n0_; clear n0_; (try clear hb); (try clear hb2); (try clear hk); (try clear hi)))
   go_ret
   exact ⟨by first | rfl | (simp [errW_none, errW_some] <;> rfl) | (simp [*, errW_none, errW_some] <;> rfl), by repeat (first | (with_reducible first | exact HB.out | apply bA_ | apply bN_ | apply bD_) | exact HB.out)⟩
 ·rw [if_neg c3] at H
  have c3b0 : (t175.toList == ([120, 11, 44, 1] : List UInt8)) = false := beq_eq_false_iff_ne.mpr c3
  have c3b1 : (t175.toList != ([120, 11, 44, 1] : List UInt8)) = true := bne_iff_ne.mpr c3
  obtain rfl := Option.some.inj H
  go_enter Try.func7, Try.ntmps7
  go_wp2_with (first | ((with_reducible refine gate_callee (f := 15) rfl ?_); refine goesL_ (some 5) rfl rfl Try.func15 (by kernel_rfl) rfl #[.string (⟨#[11, 44, 1]⟩ : ByteArray)] rfl (by (try simp only [List.map_toArray, List.map_cons, List.map_nil]); first | done | rfl | (simp only [List.length_drop, List.length_take]; rfl)) ?_; (with_reducible refine (bytecode_Int.calls k (⟨#[11, 44, 1]⟩ : ByteArray) t172 t173 t174 _ A1.out).mono ?_); rintro e w' ⟨rfl, ⟨nd, rfl⟩⟩; refine ⟨_, rfl, ?_⟩) | ((with_reducible refine gate_callee (f := 16) rfl ?_); refine goesL_ (some 9) rfl rfl Try.func16 (by kernel_rfl) rfl #[.string (⟨#[120]⟩ : ByteArray), .int .u64 300] rfl (by (try simp only [List.map_toArray, List.map_cons, List.map_nil]); first | done | rfl | (simp only [List.length_drop, List.length_take]; rfl)) ?_; (with_reducible refine (bytecode_AppendInt.calls k (⟨#[120]⟩ : ByteArray) 300 t175 _ A2.out).mono ?_); rintro e w18 ⟨rfl, hb⟩; refine ⟨_, rfl, ?_⟩; have n0_ := Aside0.mk (below_step (by repeat (first | (with_reducible first | exact HB.out | apply bA_ | apply bN_ | apply bD_) | exact HB.out)) hb); clear HB; have HB := n0_; clear n0_; (try clear hb); (try clear hb2); (try clear hk); (try clear hi)))
  go_ret
  exact ⟨by first | rfl | (simp [errW_none, errW_some] <;> rfl) | (simp [*, errW_none, errW_some] <;> rfl), by repeat (first | (with_reducible first | exact HB.out | apply bA_ | apply bN_ | apply bD_) | exact HB.out)⟩

end Go.Proofs.Ytmnmidclaaiffab.PBytecodePaths
