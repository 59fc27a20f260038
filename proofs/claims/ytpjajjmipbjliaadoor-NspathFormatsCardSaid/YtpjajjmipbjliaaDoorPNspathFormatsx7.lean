-- Written by a program of this session's (wip/print_patch.py over the kit's print) out of the translation; Lean checks it.
import Derived.Test.YtpjajjmipbjliaaDoorPNspathFormatsx0
import Derived.Test.YtpjajjmipbjliaaDoorVNspathFormatsExtP
namespace Go.Proofs.YtpjajjmipbjliaaDoor.PNspathFormats
open Go.RowKit Go.Proofs.YtpjajjmipbjliaaDoor.Ext Go.Proofs.YtpjajjmipbjliaaDoorW.PrintWords Go.Proofs.YtpjajjmipbjliaaDoorW.PrintLast Go.Proofs.YtpjajjmipbjliaaDoorW.PrintMore
attribute [local go_sem] max2_int min2_int max_two min_two max_three min_three max_four min_four   -- for this text's walks alone
set_option linter.unusedVariables false
set_option linter.unusedSimpArgs false

/-! ### platformfwlaw02_seg: function 26 -/
def platformfwlaw02_seg.f (a0 : ByteArray) : Option (ByteArray) := if (a0.size : Int) > 0 then (if 0 < (a0.size : Int) then ((some (([(⟨#[65]⟩ : ByteArray), (⟨#[95, 83, 66]⟩ : ByteArray), (⟨#[69, 67, 48]⟩ : ByteArray), (⟨#[65, 66, 67, 68]⟩ : ByteArray), (⟨#[65, 49]⟩ : ByteArray), (⟨#[95]⟩ : ByteArray), (⟨#[80, 67, 73, 48]⟩ : ByteArray), (⟨#[65, 66, 67, 68, 69]⟩ : ByteArray), (⟨#[97]⟩ : ByteArray), (⟨#[49, 65]⟩ : ByteArray), (⟨#[]⟩ : ByteArray), a0] : List ByteArray) : List ByteArray)).bind fun y260 => (if 0 ≤ (Int.tmod (wrap64 ((a0.size : Int) + (wrap64 (bt a0 0)))) 12) then (if (Int.tmod (wrap64 ((a0.size : Int) + (wrap64 (bt a0 0)))) 12) < (y260.length : Int) then (some (rdOf ByteArray.empty y260 (Int.tmod (wrap64 ((a0.size : Int) + (wrap64 (bt a0 0)))) 12))) else (none)) else (none))) else (none)) else ((some (([(⟨#[65]⟩ : ByteArray), (⟨#[95, 83, 66]⟩ : ByteArray), (⟨#[69, 67, 48]⟩ : ByteArray), (⟨#[65, 66, 67, 68]⟩ : ByteArray), (⟨#[65, 49]⟩ : ByteArray), (⟨#[95]⟩ : ByteArray), (⟨#[80, 67, 73, 48]⟩ : ByteArray), (⟨#[65, 66, 67, 68, 69]⟩ : ByteArray), (⟨#[97]⟩ : ByteArray), (⟨#[49, 65]⟩ : ByteArray), (⟨#[]⟩ : ByteArray), a0] : List ByteArray) : List ByteArray)).bind fun y264 => (if 0 ≤ ((a0.size : Int) % 12) then (if ((a0.size : Int) % 12) < (y264.length : Int) then (some (rdOf ByteArray.empty y264 ((a0.size : Int) % 12))) else (none)) else (none)))
set_option maxHeartbeats 8000000 in
set_option maxRecDepth 100000 in
theorem platformfwlaw02_seg.calls (a0 : ByteArray) (r : ByteArray) (w : World) (h : platformfwlaw02_seg.f a0 = some r) :
  Calls Tryd.prog 26 #[.string a0] w fun e w' => e = .returned (.string r) ∧ Below w.heap.size w w' := by
 have HB := Aside0.mk (Below.refl w.heap.size w)
 have H : (if (a0.size : Int) > 0 then (if 0 < (a0.size : Int) then ((some (([(⟨#[65]⟩ : ByteArray), (⟨#[95, 83, 66]⟩ : ByteArray), (⟨#[69, 67, 48]⟩ : ByteArray), (⟨#[65, 66, 67, 68]⟩ : ByteArray), (⟨#[65, 49]⟩ : ByteArray), (⟨#[95]⟩ : ByteArray), (⟨#[80, 67, 73, 48]⟩ : ByteArray), (⟨#[65, 66, 67, 68, 69]⟩ : ByteArray), (⟨#[97]⟩ : ByteArray), (⟨#[49, 65]⟩ : ByteArray), (⟨#[]⟩ : ByteArray), a0] : List ByteArray) : List ByteArray)).bind fun y260 => (if 0 ≤ (Int.tmod (wrap64 ((a0.size : Int) + (wrap64 (bt a0 0)))) 12) then (if (Int.tmod (wrap64 ((a0.size : Int) + (wrap64 (bt a0 0)))) 12) < (y260.length : Int) then (some (rdOf ByteArray.empty y260 (Int.tmod (wrap64 ((a0.size : Int) + (wrap64 (bt a0 0)))) 12))) else (none)) else (none))) else (none)) else ((some (([(⟨#[65]⟩ : ByteArray), (⟨#[95, 83, 66]⟩ : ByteArray), (⟨#[69, 67, 48]⟩ : ByteArray), (⟨#[65, 66, 67, 68]⟩ : ByteArray), (⟨#[65, 49]⟩ : ByteArray), (⟨#[95]⟩ : ByteArray), (⟨#[80, 67, 73, 48]⟩ : ByteArray), (⟨#[65, 66, 67, 68, 69]⟩ : ByteArray), (⟨#[97]⟩ : ByteArray), (⟨#[49, 65]⟩ : ByteArray), (⟨#[]⟩ : ByteArray), a0] : List ByteArray) : List ByteArray)).bind fun y264 => (if 0 ≤ ((a0.size : Int) % 12) then (if ((a0.size : Int) % 12) < (y264.length : Int) then (some (rdOf ByteArray.empty y264 ((a0.size : Int) % 12))) else (none)) else (none)))) = some r := h
 clear h
 by_cases c2 : (a0.size : Int) > 0
 ·rw [if_pos c2] at H
  have c2b0 : decide (0 < (a0.size : Int)) = true := decide_eq_true c2
  have c2b1 : decide (0 < a0.size) = true := decide_eq_true (by omega)
  clear c2
  by_cases c3 : 0 < (a0.size : Int)
  ·rw [if_pos c3] at H
   have c3b0 : decide (0 < (a0.size : Int)) = true := decide_eq_true c3
   have c3b1 : decide (0 < a0.size) = true := decide_eq_true (by omega)
   clear c3
   obtain ⟨y260, hy260⟩ : ∃ y_ : List ByteArray, y_ = (([(⟨#[65]⟩ : ByteArray), (⟨#[95, 83, 66]⟩ : ByteArray), (⟨#[69, 67, 48]⟩ : ByteArray), (⟨#[65, 66, 67, 68]⟩ : ByteArray), (⟨#[65, 49]⟩ : ByteArray), (⟨#[95]⟩ : ByteArray), (⟨#[80, 67, 73, 48]⟩ : ByteArray), (⟨#[65, 66, 67, 68, 69]⟩ : ByteArray), (⟨#[97]⟩ : ByteArray), (⟨#[49, 65]⟩ : ByteArray), (⟨#[]⟩ : ByteArray), a0] : List ByteArray)) := ⟨_, rfl⟩
   replace H : (if 0 ≤ (Int.tmod (wrap64 ((a0.size : Int) + (wrap64 (bt a0 0)))) 12) then (if (Int.tmod (wrap64 ((a0.size : Int) + (wrap64 (bt a0 0)))) 12) < (y260.length : Int) then (some (rdOf ByteArray.empty y260 (Int.tmod (wrap64 ((a0.size : Int) + (wrap64 (bt a0 0)))) 12))) else (none)) else (none)) = some r := by first | (rw [hy260]; with_reducible exact H) | (have H2_ := (Option.bind_some _ _).symm.trans H; rw [hy260]; with_reducible exact H2_) | (have H2_ := (Option.bind_some _ _).symm.trans H; with_reducible exact H2_) | with_reducible exact H | (rw [hy260]; exact H) | exact H
   have Ny260 := Aside0.mk hy260
   clear hy260
   obtain ⟨ji5, hji5⟩ : ∃ j_ : Int, (Int.tmod (wrap64 ((a0.size : Int) + (wrap64 (bt a0 0)))) 12) = j_ := ⟨_, rfl⟩
   replace H : (if 0 ≤ (ji5) then (if (ji5) < (y260.length : Int) then (some (rdOf ByteArray.empty y260 (ji5))) else (none)) else (none)) = some r := by first | (rw [hji5] at H; exact H) | (simp only [hji5] at H ⊢; exact H)
   by_cases c6 : 0 ≤ (ji5)
   ·rw [if_pos c6] at H
    have c6b0 : decide (0 ≤ (ji5)) = true := decide_eq_true c6
    clear c6
    by_cases c7 : (ji5) < (y260.length : Int)
    ·rw [if_pos c7] at H
     have c7b0 : decide ((ji5) < (y260.length : Int)) = true := decide_eq_true c7
     clear c7
     obtain rfl := Option.some.inj H
     have p4 : 0 ≤ (0 : Int) := (by omega)
     have q4 : 0 < a0.size := (by have : (0 : Int) < (a0.size : Int) := of_decide_eq_true (by first | (with_reducible assumption) | assumption); omega)
     have hx4 : ∀ h : 0 < a0.size, ((a0[0]'h).toNat : Int) = bt a0 0 := bt_at a0 0
     clear p4
     have qi4 : (0 < (a0.size : Int)) = True := eq_true (of_decide_eq_true (by first | (with_reducible assumption) | assumption))
     replace q4 := eq_true q4
     go_enter Tryd.func26, Tryd.ntmps26
     go_wp2_with (first | ((with_reducible refine gate_dst (N := 14) rfl ?_); refine Kd.R_lit Kd.string _ 9 ?hg (N := 14) ?hd (xs := ([(⟨#[65]⟩ : ByteArray), (⟨#[95, 83, 66]⟩ : ByteArray), (⟨#[69, 67, 48]⟩ : ByteArray), (⟨#[65, 66, 67, 68]⟩ : ByteArray), (⟨#[65, 49]⟩ : ByteArray), (⟨#[95]⟩ : ByteArray), (⟨#[80, 67, 73, 48]⟩ : ByteArray), (⟨#[65, 66, 67, 68, 69]⟩ : ByteArray), (⟨#[97]⟩ : ByteArray), (⟨#[49, 65]⟩ : ByteArray), (⟨#[]⟩ : ByteArray), a0] : List ByteArray)) (inner := [.string (⟨#[65]⟩ : ByteArray), .string (⟨#[95, 83, 66]⟩ : ByteArray), .string (⟨#[69, 67, 48]⟩ : ByteArray), .string (⟨#[65, 66, 67, 68]⟩ : ByteArray), .string (⟨#[65, 49]⟩ : ByteArray), .string (⟨#[95]⟩ : ByteArray), .string (⟨#[80, 67, 73, 48]⟩ : ByteArray), .string (⟨#[65, 66, 67, 68, 69]⟩ : ByteArray), .string (⟨#[97]⟩ : ByteArray), .string (⟨#[49, 65]⟩ : ByteArray), .string (⟨#[]⟩ : ByteArray), .string a0]) (ok := fun _ => True) (okp := fun _ => True) ?hr ?hp (fun _ hk => hk) trivial (Below.refl _ _) (Nat.le_refl _) (by simp) ?_; (case hd => rfl); (case hg => rfl); (case hr => first | (go_simp; done) | (go_simp; rfl)); (case hp => exact (Reps.one (show Kd.M Kd.string _ _ _ (⟨#[65]⟩ : ByteArray) [.string (⟨#[65]⟩ : ByteArray)] from rfl) (Reps.one (show Kd.M Kd.string _ _ _ (⟨#[95, 83, 66]⟩ : ByteArray) [.string (⟨#[95, 83, 66]⟩ : ByteArray)] from rfl) (Reps.one (show Kd.M Kd.string _ _ _ (⟨#[69, 67, 48]⟩ : ByteArray) [.string (⟨#[69, 67, 48]⟩ : ByteArray)] from rfl) (Reps.one (show Kd.M Kd.string _ _ _ (⟨#[65, 66, 67, 68]⟩ : ByteArray) [.string (⟨#[65, 66, 67, 68]⟩ : ByteArray)] from rfl) (Reps.one (show Kd.M Kd.string _ _ _ (⟨#[65, 49]⟩ : ByteArray) [.string (⟨#[65, 49]⟩ : ByteArray)] from rfl) (Reps.one (show Kd.M Kd.string _ _ _ (⟨#[95]⟩ : ByteArray) [.string (⟨#[95]⟩ : ByteArray)] from rfl) (Reps.one (show Kd.M Kd.string _ _ _ (⟨#[80, 67, 73, 48]⟩ : ByteArray) [.string (⟨#[80, 67, 73, 48]⟩ : ByteArray)] from rfl) (Reps.one (show Kd.M Kd.string _ _ _ (⟨#[65, 66, 67, 68, 69]⟩ : ByteArray) [.string (⟨#[65, 66, 67, 68, 69]⟩ : ByteArray)] from rfl) (Reps.one (show Kd.M Kd.string _ _ _ (⟨#[97]⟩ : ByteArray) [.string (⟨#[97]⟩ : ByteArray)] from rfl) (Reps.one (show Kd.M Kd.string _ _ _ (⟨#[49, 65]⟩ : ByteArray) [.string (⟨#[49, 65]⟩ : ByteArray)] from rfl) (Reps.one (show Kd.M Kd.string _ _ _ (⟨#[]⟩ : ByteArray) [.string (⟨#[]⟩ : ByteArray)] from rfl) (Reps.one (show Kd.M Kd.string _ _ _ a0 [.string a0] from rfl) (Reps.none _ _)))))))))))))); intro v261 w8 ho9 hb hg_ hnew_; clear hg_ hnew_; (first | rw [← Ny260.out] at ho9 | (simp only [Int.reduceToNat] at ho9; rw [← Ny260.out] at ho9)); have n0_ := Aside0.mk (Kd.R_lower ho9 (below_size (by repeat (first | (with_reducible first | exact HB.out | apply bA_ | apply bN_ | apply bD_) | exact HB.out)))); have n1_ := Aside0.mk (below_step (by repeat (first | (with_reducible first | exact HB.out | apply bA_ | apply bN_ | apply bD_) | exact HB.out)) hb); clear HB; have HO262 := n0_; have HB := n1_; clear n0_ n1_; clear hb ho9; obtain ⟨Ao10, co10, eo10⟩ := Kd.R_slice HO262.out; subst eo10; have p263 : 0 ≤ ((ji5) : Int) := of_decide_eq_true (by first | (with_reducible assumption) | assumption); have q263 : (ji5) < (y260.length : Int) := of_decide_eq_true (by first | (with_reducible assumption) | assumption); obtain ⟨ad263, e263, hx263_0⟩ := Kd.at_string (Kd.R_reads' HO262.out).2.2 (ji5) p263 q263; cases e263; replace p263 := eq_true p263; replace q263 := eq_true q263))
     go_ret
     exact ⟨by first | rfl | (simp [errW_none, errW_some] <;> rfl) | (simp only [← hji5]; first | rfl | (simp [errW_none, errW_some] <;> rfl)) | (simp [*, errW_none, errW_some] <;> rfl), by repeat (first | (with_reducible first | exact HB.out | apply bA_ | apply bN_ | apply bD_) | exact HB.out)⟩
    ·rw [if_neg c7] at H
     exact absurd H (by simp)
   ·rw [if_neg c6] at H
    exact absurd H (by simp)
  ·rw [if_neg c3] at H
   exact absurd H (by simp)
 ·rw [if_neg c2] at H
  have c2b0 : decide (0 < (a0.size : Int)) = false := decide_eq_false c2
  have c2b1 : decide (0 < a0.size) = false := decide_eq_false (by omega)
  clear c2
  obtain ⟨y264, hy264⟩ : ∃ y_ : List ByteArray, y_ = (([(⟨#[65]⟩ : ByteArray), (⟨#[95, 83, 66]⟩ : ByteArray), (⟨#[69, 67, 48]⟩ : ByteArray), (⟨#[65, 66, 67, 68]⟩ : ByteArray), (⟨#[65, 49]⟩ : ByteArray), (⟨#[95]⟩ : ByteArray), (⟨#[80, 67, 73, 48]⟩ : ByteArray), (⟨#[65, 66, 67, 68, 69]⟩ : ByteArray), (⟨#[97]⟩ : ByteArray), (⟨#[49, 65]⟩ : ByteArray), (⟨#[]⟩ : ByteArray), a0] : List ByteArray)) := ⟨_, rfl⟩
  replace H : (if 0 ≤ ((a0.size : Int) % 12) then (if ((a0.size : Int) % 12) < (y264.length : Int) then (some (rdOf ByteArray.empty y264 ((a0.size : Int) % 12))) else (none)) else (none)) = some r := by first | (rw [hy264]; with_reducible exact H) | (have H2_ := (Option.bind_some _ _).symm.trans H; rw [hy264]; with_reducible exact H2_) | (have H2_ := (Option.bind_some _ _).symm.trans H; with_reducible exact H2_) | with_reducible exact H | (rw [hy264]; exact H) | exact H
  have Ny264 := Aside0.mk hy264
  clear hy264
  obtain ⟨ji11, hji11⟩ : ∃ j_ : Int, ((a0.size : Int) % 12) = j_ := ⟨_, rfl⟩
  replace H : (if 0 ≤ (ji11) then (if (ji11) < (y264.length : Int) then (some (rdOf ByteArray.empty y264 (ji11))) else (none)) else (none)) = some r := by first | (rw [hji11] at H; exact H) | (simp only [hji11] at H ⊢; exact H)
  by_cases c12 : 0 ≤ (ji11)
  ·rw [if_pos c12] at H
   have c12b0 : decide (0 ≤ (ji11)) = true := decide_eq_true c12
   clear c12
   by_cases c13 : (ji11) < (y264.length : Int)
   ·rw [if_pos c13] at H
    have c13b0 : decide ((ji11) < (y264.length : Int)) = true := decide_eq_true c13
    clear c13
    obtain rfl := Option.some.inj H
    go_enter Tryd.func26, Tryd.ntmps26
    go_wp2_with (first | ((with_reducible refine gate_dst (N := 14) rfl ?_); refine Kd.R_lit Kd.string _ 9 ?hg (N := 14) ?hd (xs := ([(⟨#[65]⟩ : ByteArray), (⟨#[95, 83, 66]⟩ : ByteArray), (⟨#[69, 67, 48]⟩ : ByteArray), (⟨#[65, 66, 67, 68]⟩ : ByteArray), (⟨#[65, 49]⟩ : ByteArray), (⟨#[95]⟩ : ByteArray), (⟨#[80, 67, 73, 48]⟩ : ByteArray), (⟨#[65, 66, 67, 68, 69]⟩ : ByteArray), (⟨#[97]⟩ : ByteArray), (⟨#[49, 65]⟩ : ByteArray), (⟨#[]⟩ : ByteArray), a0] : List ByteArray)) (inner := [.string (⟨#[65]⟩ : ByteArray), .string (⟨#[95, 83, 66]⟩ : ByteArray), .string (⟨#[69, 67, 48]⟩ : ByteArray), .string (⟨#[65, 66, 67, 68]⟩ : ByteArray), .string (⟨#[65, 49]⟩ : ByteArray), .string (⟨#[95]⟩ : ByteArray), .string (⟨#[80, 67, 73, 48]⟩ : ByteArray), .string (⟨#[65, 66, 67, 68, 69]⟩ : ByteArray), .string (⟨#[97]⟩ : ByteArray), .string (⟨#[49, 65]⟩ : ByteArray), .string (⟨#[]⟩ : ByteArray), .string a0]) (ok := fun _ => True) (okp := fun _ => True) ?hr ?hp (fun _ hk => hk) trivial (Below.refl _ _) (Nat.le_refl _) (by simp) ?_; (case hd => rfl); (case hg => rfl); (case hr => first | (go_simp; done) | (go_simp; rfl)); (case hp => exact (Reps.one (show Kd.M Kd.string _ _ _ (⟨#[65]⟩ : ByteArray) [.string (⟨#[65]⟩ : ByteArray)] from rfl) (Reps.one (show Kd.M Kd.string _ _ _ (⟨#[95, 83, 66]⟩ : ByteArray) [.string (⟨#[95, 83, 66]⟩ : ByteArray)] from rfl) (Reps.one (show Kd.M Kd.string _ _ _ (⟨#[69, 67, 48]⟩ : ByteArray) [.string (⟨#[69, 67, 48]⟩ : ByteArray)] from rfl) (Reps.one (show Kd.M Kd.string _ _ _ (⟨#[65, 66, 67, 68]⟩ : ByteArray) [.string (⟨#[65, 66, 67, 68]⟩ : ByteArray)] from rfl) (Reps.one (show Kd.M Kd.string _ _ _ (⟨#[65, 49]⟩ : ByteArray) [.string (⟨#[65, 49]⟩ : ByteArray)] from rfl) (Reps.one (show Kd.M Kd.string _ _ _ (⟨#[95]⟩ : ByteArray) [.string (⟨#[95]⟩ : ByteArray)] from rfl) (Reps.one (show Kd.M Kd.string _ _ _ (⟨#[80, 67, 73, 48]⟩ : ByteArray) [.string (⟨#[80, 67, 73, 48]⟩ : ByteArray)] from rfl) (Reps.one (show Kd.M Kd.string _ _ _ (⟨#[65, 66, 67, 68, 69]⟩ : ByteArray) [.string (⟨#[65, 66, 67, 68, 69]⟩ : ByteArray)] from rfl) (Reps.one (show Kd.M Kd.string _ _ _ (⟨#[97]⟩ : ByteArray) [.string (⟨#[97]⟩ : ByteArray)] from rfl) (Reps.one (show Kd.M Kd.string _ _ _ (⟨#[49, 65]⟩ : ByteArray) [.string (⟨#[49, 65]⟩ : ByteArray)] from rfl) (Reps.one (show Kd.M Kd.string _ _ _ (⟨#[]⟩ : ByteArray) [.string (⟨#[]⟩ : ByteArray)] from rfl) (Reps.one (show Kd.M Kd.string _ _ _ a0 [.string a0] from rfl) (Reps.none _ _)))))))))))))); intro v265 w14 ho15 hb hg_ hnew_; clear hg_ hnew_; (first | rw [← Ny264.out] at ho15 | (simp only [Int.reduceToNat] at ho15; rw [← Ny264.out] at ho15)); have n0_ := Aside0.mk (Kd.R_lower ho15 (below_size (by repeat (first | (with_reducible first | exact HB.out | apply bA_ | apply bN_ | apply bD_) | exact HB.out)))); have n1_ := Aside0.mk (below_step (by repeat (first | (with_reducible first | exact HB.out | apply bA_ | apply bN_ | apply bD_) | exact HB.out)) hb); clear HB; have HO266 := n0_; have HB := n1_; clear n0_ n1_; clear hb ho15; obtain ⟨Ao16, co16, eo16⟩ := Kd.R_slice HO266.out; subst eo16; have p267 : 0 ≤ ((ji11) : Int) := of_decide_eq_true (by first | (with_reducible assumption) | assumption); have q267 : (ji11) < (y264.length : Int) := of_decide_eq_true (by first | (with_reducible assumption) | assumption); obtain ⟨ad267, e267, hx267_0⟩ := Kd.at_string (Kd.R_reads' HO266.out).2.2 (ji11) p267 q267; cases e267; replace p267 := eq_true p267; replace q267 := eq_true q267))
    go_ret
    exact ⟨by first | rfl | (simp [errW_none, errW_some] <;> rfl) | (simp only [← hji11]; first | rfl | (simp [errW_none, errW_some] <;> rfl)) | (simp [*, errW_none, errW_some] <;> rfl), by repeat (first | (with_reducible first | exact HB.out | apply bA_ | apply bN_ | apply bD_) | exact HB.out)⟩
   ·rw [if_neg c13] at H
    exact absurd H (by simp)
  ·rw [if_neg c12] at H
   exact absurd H (by simp)

/-! ### platformfwhelp_Mod: function 36 -/
def platformfwhelp_Mod.f (a0 : Int) (a1 : Int) : Option (Int) := if (IntKind.u64.wrap (a1)) = 0 then (none) else (some (wrap64 (Int.tmod (IntKind.u64.wrap (a0)) (IntKind.u64.wrap (a1)))))
set_option maxHeartbeats 8000000 in
set_option maxRecDepth 100000 in
theorem platformfwhelp_Mod.calls (a0 : Int) (a1 : Int) (r : Int) (w : World) (h : platformfwhelp_Mod.f a0 a1 = some r) :
  Calls Tryd.prog 36 #[.int .i64 a0, .int .i64 a1] w fun e w' => e = .returned (.int .i64 r) ∧ Drawn0 w w' := by
 have H : (if (IntKind.u64.wrap (a1)) = 0 then (none) else (some (wrap64 (Int.tmod (IntKind.u64.wrap (a0)) (IntKind.u64.wrap (a1)))))) = some r := h
 clear h
 by_cases c3 : (IntKind.u64.wrap (a1)) = 0
 ·rw [if_pos c3] at H
  exact absurd H (by simp)
 ·rw [if_neg c3] at H
  have c3b0 : ((IntKind.u64.wrap (a1)) == 0) = false := beq_eq_false_iff_ne.mpr c3
  have c3b1 : ((IntKind.u64.wrap (a1)) != 0) = true := bne_iff_ne.mpr c3
  obtain rfl := Option.some.inj H
  go_enter Tryd.func36, Tryd.ntmps36
  go_wp2
  go_ret
  exact ⟨by first | rfl | (simp; done) | (simp [*]; done), by repeat (first | exact Drawn0.refl _ | apply Drawn0.step)⟩

end Go.Proofs.YtpjajjmipbjliaaDoor.PNspathFormats
