-- Written by a program of this session's (wip/print_patch.py over the kit's print) out of the translation; Lean checks it.
import Derived.Test.YtmnmidclaaiffaaPFieldConvertsx0
import Derived.Test.YtmnmidclaaiffaaVFieldConvertsExt
namespace Go.Proofs.Ytmnmidclaaiffaa.PFieldConverts
open Go.RowKit Go.Proofs.Ytmnmidclaaiffaa.Ext Go.Proofs.YtmnmidclaaiffaaW.PrintWords Go.Proofs.YtmnmidclaaiffaaW.PrintLast Go.Proofs.YtmnmidclaaiffaaW.PrintMore
attribute [local go_sem] max2_int min2_int max_two min_two max_three min_three max_four min_four   -- for this text's walks alone
set_option linter.unusedVariables false
set_option linter.unusedSimpArgs false

/-! ### platformfwref09_bit: function 60 -/
def platformfwref09_bit.f (a0 : ByteArray) (a1 : Int) : Option (Int) := if (wrap64 (Int.tdiv a1 8)) ≥ (a0.size : Int) then (some 0) else (if 0 ≤ (wrap64 (Int.tdiv a1 8)) then (if (wrap64 (Int.tdiv a1 8)) < (a0.size : Int) then (if 0 ≤ (IntKind.u64.wrap (Int.tmod a1 8)) then (some (Go.bits .and .u64 (IntKind.u64.wrap (shr .u8 (bt a0 (wrap64 (Int.tdiv a1 8))) (IntKind.u64.wrap (Int.tmod a1 8)))) 1)) else (none)) else (none)) else (none))
set_option maxHeartbeats 8000000 in
set_option maxRecDepth 100000 in
theorem platformfwref09_bit.calls (a0 : ByteArray) (a1 : Int) (r : Int) (w : World) (h : platformfwref09_bit.f a0 a1 = some r) :
  Calls Try.prog 60 #[.string a0, .int .i64 a1] w fun e w' => e = .returned (.int .u64 r) ∧ Drawn0 w w' := by
 have H : (if (wrap64 (Int.tdiv a1 8)) ≥ (a0.size : Int) then (some 0) else (if 0 ≤ (wrap64 (Int.tdiv a1 8)) then (if (wrap64 (Int.tdiv a1 8)) < (a0.size : Int) then (if 0 ≤ (IntKind.u64.wrap (Int.tmod a1 8)) then (some (Go.bits .and .u64 (IntKind.u64.wrap (shr .u8 (bt a0 (wrap64 (Int.tdiv a1 8))) (IntKind.u64.wrap (Int.tmod a1 8)))) 1)) else (none)) else (none)) else (none))) = some r := h
 clear h
 by_cases c3 : (wrap64 (Int.tdiv a1 8)) ≥ (a0.size : Int)
 ·rw [if_pos c3] at H
  have c3b0 : decide ((a0.size : Int) ≤ (wrap64 (Int.tdiv a1 8))) = true := decide_eq_true c3
  clear c3
  obtain rfl := Option.some.inj H
  go_enter Try.func60, Try.ntmps60
  go_wp2
  go_ret
  exact ⟨by first | rfl | (simp; done) | (simp [*]; done), by repeat (first | exact Drawn0.refl _ | apply Drawn0.step)⟩
 ·rw [if_neg c3] at H
  have c3b0 : decide ((a0.size : Int) ≤ (wrap64 (Int.tdiv a1 8))) = false := decide_eq_false c3
  clear c3
  obtain ⟨ji4, hji4⟩ : ∃ j_ : Int, (wrap64 (Int.tdiv a1 8)) = j_ := ⟨_, rfl⟩
  replace H : (if 0 ≤ (ji4) then (if (ji4) < (a0.size : Int) then (if 0 ≤ (IntKind.u64.wrap (Int.tmod a1 8)) then (some (Go.bits .and .u64 (IntKind.u64.wrap (shr .u8 (bt a0 (ji4)) (IntKind.u64.wrap (Int.tmod a1 8)))) 1)) else (none)) else (none)) else (none)) = some r := by first | (rw [hji4] at H; exact H) | (simp only [hji4] at H ⊢; exact H)
  (try rw [hji4] at c3b0)
  have hji4w : (IntKind.i64.wrap (Int.tdiv a1 8)) = ji4 := (i64_w _).trans hji4
  by_cases c5 : 0 ≤ (ji4)
  ·rw [if_pos c5] at H
   have c5b0 : decide (0 ≤ (ji4)) = true := decide_eq_true c5
   clear c5
   by_cases c6 : (ji4) < (a0.size : Int)
   ·rw [if_pos c6] at H
    have c6b0 : decide ((ji4) < (a0.size : Int)) = true := decide_eq_true c6
    clear c6
    obtain ⟨ji8, hji8⟩ : ∃ j_ : Int, (IntKind.u64.wrap (Int.tmod a1 8)) = j_ := ⟨_, rfl⟩
    replace H : (if 0 ≤ (ji8) then (some (Go.bits .and .u64 (IntKind.u64.wrap (shr .u8 (bt a0 (ji4)) (ji8))) 1)) else (none)) = some r := by first | (rw [hji8] at H; exact H) | (simp only [hji8] at H ⊢; exact H)
    by_cases c9 : 0 ≤ (ji8)
    ·rw [if_pos c9] at H
     have c9b0 := eq_true c9
     have c9b1 : decide (0 ≤ (ji8)) = true := decide_eq_true c9
     clear c9
     obtain ⟨ji10, hji10⟩ : ∃ j_ : Int, (shr .u8 (bt a0 (ji4)) (ji8)) = j_ := ⟨_, rfl⟩
     replace H : (some (Go.bits .and .u64 (IntKind.u64.wrap (ji10)) 1)) = some r := by first | (rw [hji10] at H; exact H) | (simp only [hji10] at H ⊢; exact H)
     have hji10_ : ((bt a0 (ji4)) / 2 ^ min (ji8).toNat 8) = ji10 := hji10
     have hji10z : (ji8) ≤ 8 → ((bt a0 (ji4)) / 2 ^ (ji8).toNat) = ji10 := shr_small hji10
     obtain rfl := Option.some.inj H
     have p7 : 0 ≤ ((ji4) : Int) := of_decide_eq_true (by first | (with_reducible assumption) | assumption)
     have q7 : (ji4) < (a0.size : Int) := of_decide_eq_true (by first | (with_reducible assumption) | assumption)
     have hx7 := bt_at a0 (ji4)
     replace p7 := eq_true p7
     replace q7 := eq_true q7
     go_enter Try.func60, Try.ntmps60
     go_wp2
     go_ret
     exact ⟨by first | rfl | (simp; done) | (simp only [← hji4, ← hji8, ← hji10] <;> (first | rfl | simp)) | (simp [*]; done), by repeat (first | exact Drawn0.refl _ | apply Drawn0.step)⟩
    ·rw [if_neg c9] at H
     exact absurd H (by simp)
   ·rw [if_neg c6] at H
    exact absurd H (by simp)
  ·rw [if_neg c5] at H
   exact absurd H (by simp)

/-! ### platformfwref08_Valid: function 61 -/
def platformfwref08_Valid.f (a0_0 : Int) (a0_1 : Int) (a0_2 : ByteArray) (a0_3 : Int) : Option (Bool) := if a0_0 ≥ 0 then (if a0_0 ≤ 6 then (if a0_0 = 2 then (some (decide ((a0_2.size : Int) ≤ 255))) else (if a0_0 = 3 then (some (decide ((a0_2.size : Int) ≤ 255))) else (some true))) else (some false)) else (some false)
set_option maxHeartbeats 8000000 in
set_option maxRecDepth 100000 in
theorem platformfwref08_Valid.calls (a0_0 : Int) (a0_1 : Int) (a0_2 : ByteArray) (a0_3 : Int) (r : Bool) (w : World) (h : platformfwref08_Valid.f a0_0 a0_1 a0_2 a0_3 = some r) :
  Calls Try.prog 61 #[.agg #[.int .i64 a0_0, .int .u64 a0_1, .string a0_2, .int .i64 a0_3]] w fun e w' => e = .returned (.bool r) ∧ Below w.heap.size w w' := by
 have hu38 := Try.underlying38
 have HB := Aside0.mk (Below.refl w.heap.size w)
 have H : (if a0_0 ≥ 0 then (if a0_0 ≤ 6 then (if a0_0 = 2 then (some (decide ((a0_2.size : Int) ≤ 255))) else (if a0_0 = 3 then (some (decide ((a0_2.size : Int) ≤ 255))) else (some true))) else (some false)) else (some false)) = some r := h
 clear h
 by_cases c2 : a0_0 ≥ 0
 ·rw [if_pos c2] at H
  have c2b0 : decide (0 ≤ a0_0) = true := decide_eq_true c2
  clear c2
  by_cases c3 : a0_0 ≤ 6
  ·rw [if_pos c3] at H
   have c3b0 : decide (a0_0 ≤ 6) = true := decide_eq_true c3
   clear c3
   by_cases c4 : a0_0 = 2
   ·rw [if_pos c4] at H
    have c4b0 : (a0_0 == 2) = true := beq_iff_eq.mpr c4
    have c4b1 : (a0_0 != 2) = false := bne_eq_false_iff_eq.mpr c4
    clear c4
    obtain rfl := Option.some.inj H
    go_enter Try.func61, Try.ntmps61
    go_wp2_with (first | ((with_reducible refine gate_dst (N := 1) rfl ?_); (try (refine gate_guard (by rfl) ?_; dsimp only)); refine box_event ?hg (N := 1) ?hd (cs := #[.int .i64 a0_0, .int .u64 a0_1, .string a0_2, .int .i64 a0_3]) (t := 38) ?hr ?_; (case hd => rfl); (case hg => rfl); (case hr => first | (go_simp; done) | (go_simp; rfl)); intro gb197 hg w5 hbox hb; have n0_ := Aside0.mk (below_step (by repeat (first | (with_reducible first | exact HB.out | apply bA_ | apply bN_ | apply bD_) | exact HB.out)) hb); have n1_ := Aside0.mk (hbox); have n2_ := Aside0.mk ((by rw [hg]; exact (below_size (by repeat (first | (with_reducible first | exact HB.out | apply bA_ | apply bN_ | apply bD_) | exact HB.out))) : w.heap.size ≤ gb197)); have n3_ := Aside0.mk ((by rw [hg]; exact (below_size (by repeat (first | (with_reducible first | exact HB.out | apply bA_ | apply bN_ | apply bD_) | exact HB.out))) : w.heap.size ≤ gb197)); clear HB; have HB := n0_; have BK197 := n1_; have GW197 := n2_; have GE197 := n3_; clear n0_ n1_ n2_ n3_; clear hb hbox hg; obtain ⟨hcz6_0, hcz6_1, hcz6_2, hcz6_3⟩ := cells4_ BK197.out; obtain ⟨hfz6_0, hfz6_1, hfz6_2, hfz6_3⟩ := froz4_ BK197.out))
    go_ret
    exact ⟨by first | rfl | (simp [errW_none, errW_some] <;> rfl) | (simp [*, errW_none, errW_some] <;> rfl), by repeat (first | (with_reducible first | exact HB.out | apply bA_ | apply bN_ | apply bD_ | refine bS_ ?_ GE197.out) | exact HB.out)⟩
   ·rw [if_neg c4] at H
    have c4b0 : (a0_0 == 2) = false := beq_eq_false_iff_ne.mpr c4
    have c4b1 : (a0_0 != 2) = true := bne_iff_ne.mpr c4
    by_cases c7 : a0_0 = 3
    ·rw [if_pos c7] at H
     have c7b0 : (a0_0 == 3) = true := beq_iff_eq.mpr c7
     have c7b1 : (a0_0 != 3) = false := bne_eq_false_iff_eq.mpr c7
     clear c7
     obtain rfl := Option.some.inj H
     go_enter Try.func61, Try.ntmps61
     go_wp2_with (first | ((with_reducible refine gate_dst (N := 1) rfl ?_); (try (refine gate_guard (by rfl) ?_; dsimp only)); refine box_event ?hg (N := 1) ?hd (cs := #[.int .i64 a0_0, .int .u64 a0_1, .string a0_2, .int .i64 a0_3]) (t := 38) ?hr ?_; (case hd => rfl); (case hg => rfl); (case hr => first | (go_simp; done) | (go_simp; rfl)); intro gb197 hg w8 hbox hb; have n0_ := Aside0.mk (below_step (by repeat (first | (with_reducible first | exact HB.out | apply bA_ | apply bN_ | apply bD_) | exact HB.out)) hb); have n1_ := Aside0.mk (hbox); have n2_ := Aside0.mk ((by rw [hg]; exact (below_size (by repeat (first | (with_reducible first | exact HB.out | apply bA_ | apply bN_ | apply bD_) | exact HB.out))) : w.heap.size ≤ gb197)); have n3_ := Aside0.mk ((by rw [hg]; exact (below_size (by repeat (first | (with_reducible first | exact HB.out | apply bA_ | apply bN_ | apply bD_) | exact HB.out))) : w.heap.size ≤ gb197)); clear HB; have HB := n0_; have BK197 := n1_; have GW197 := n2_; have GE197 := n3_; clear n0_ n1_ n2_ n3_; clear hb hbox hg; obtain ⟨hcz9_0, hcz9_1, hcz9_2, hcz9_3⟩ := cells4_ BK197.out; obtain ⟨hfz9_0, hfz9_1, hfz9_2, hfz9_3⟩ := froz4_ BK197.out))
     go_ret
     exact ⟨by first | rfl | (simp [errW_none, errW_some] <;> rfl) | (simp [*, errW_none, errW_some] <;> rfl), by repeat (first | (with_reducible first | exact HB.out | apply bA_ | apply bN_ | apply bD_ | refine bS_ ?_ GE197.out) | exact HB.out)⟩
    ·rw [if_neg c7] at H
     have c7b0 : (a0_0 == 3) = false := beq_eq_false_iff_ne.mpr c7
     have c7b1 : (a0_0 != 3) = true := bne_iff_ne.mpr c7
     obtain rfl := Option.some.inj H
     go_enter Try.func61, Try.ntmps61
     go_wp2_with (first | ((with_reducible refine gate_dst (N := 1) rfl ?_); (try (refine gate_guard (by rfl) ?_; dsimp only)); refine box_event ?hg (N := 1) ?hd (cs := #[.int .i64 a0_0, .int .u64 a0_1, .string a0_2, .int .i64 a0_3]) (t := 38) ?hr ?_; (case hd => rfl); (case hg => rfl); (case hr => first | (go_simp; done) | (go_simp; rfl)); intro gb197 hg w10 hbox hb; have n0_ := Aside0.mk (below_step (by repeat (first | (with_reducible first | exact HB.out | apply bA_ | apply bN_ | apply bD_) | exact HB.out)) hb); have n1_ := Aside0.mk (hbox); have n2_ := Aside0.mk ((by rw [hg]; exact (below_size (by repeat (first | (with_reducible first | exact HB.out | apply bA_ | apply bN_ | apply bD_) | exact HB.out))) : w.heap.size ≤ gb197)); have n3_ := Aside0.mk ((by rw [hg]; exact (below_size (by repeat (first | (with_reducible first | exact HB.out | apply bA_ | apply bN_ | apply bD_) | exact HB.out))) : w.heap.size ≤ gb197)); clear HB; have HB := n0_; have BK197 := n1_; have GW197 := n2_; have GE197 := n3_; clear n0_ n1_ n2_ n3_; clear hb hbox hg; obtain ⟨hcz11_0, hcz11_1, hcz11_2, hcz11_3⟩ := cells4_ BK197.out; obtain ⟨hfz11_0, hfz11_1, hfz11_2, hfz11_3⟩ := froz4_ BK197.out))
     go_ret
     exact ⟨by first | rfl | (simp [errW_none, errW_some] <;> rfl) | (simp [*, errW_none, errW_some] <;> rfl), by repeat (first | (with_reducible first | exact HB.out | apply bA_ | apply bN_ | apply bD_ | refine bS_ ?_ GE197.out) | exact HB.out)⟩
  ·rw [if_neg c3] at H
   have c3b0 : decide (a0_0 ≤ 6) = false := decide_eq_false c3
   clear c3
   obtain rfl := Option.some.inj H
   go_enter Try.func61, Try.ntmps61
   go_wp2_with (first | ((with_reducible refine gate_dst (N := 1) rfl ?_); (try (refine gate_guard (by rfl) ?_; dsimp only)); refine box_event ?hg (N := 1) ?hd (cs := #[.int .i64 a0_0, .int .u64 a0_1, .string a0_2, .int .i64 a0_3]) (t := 38) ?hr ?_; (case hd => rfl); (case hg => rfl); (case hr => first | (go_simp; done) | (go_simp; rfl)); intro gb197 hg w12 hbox hb; have n0_ := Aside0.mk (below_step (by repeat (first | (with_reducible first | exact HB.out | apply bA_ | apply bN_ | apply bD_) | exact HB.out)) hb); have n1_ := Aside0.mk (hbox); have n2_ := Aside0.mk ((by rw [hg]; exact (below_size (by repeat (first | (with_reducible first | exact HB.out | apply bA_ | apply bN_ | apply bD_) | exact HB.out))) : w.heap.size ≤ gb197)); have n3_ := Aside0.mk ((by rw [hg]; exact (below_size (by repeat (first | (with_reducible first | exact HB.out | apply bA_ | apply bN_ | apply bD_) | exact HB.out))) : w.heap.size ≤ gb197)); clear HB; have HB := n0_; have BK197 := n1_; have GW197 := n2_; have GE197 := n3_; clear n0_ n1_ n2_ n3_; clear hb hbox hg; obtain ⟨hcz13_0, hcz13_1, hcz13_2, hcz13_3⟩ := cells4_ BK197.out; obtain ⟨hfz13_0, hfz13_1, hfz13_2, hfz13_3⟩ := froz4_ BK197.out))
   go_ret
   exact ⟨by first | rfl | (simp [errW_none, errW_some] <;> rfl) | (simp [*, errW_none, errW_some] <;> rfl), by repeat (first | (with_reducible first | exact HB.out | apply bA_ | apply bN_ | apply bD_ | refine bS_ ?_ GE197.out) | exact HB.out)⟩
 ·rw [if_neg c2] at H
  have c2b0 : decide (0 ≤ a0_0) = false := decide_eq_false c2
  clear c2
  obtain rfl := Option.some.inj H
  go_enter Try.func61, Try.ntmps61
  go_wp2_with (first | ((with_reducible refine gate_dst (N := 1) rfl ?_); (try (refine gate_guard (by rfl) ?_; dsimp only)); refine box_event ?hg (N := 1) ?hd (cs := #[.int .i64 a0_0, .int .u64 a0_1, .string a0_2, .int .i64 a0_3]) (t := 38) ?hr ?_; (case hd => rfl); (case hg => rfl); (case hr => first | (go_simp; done) | (go_simp; rfl)); intro gb197 hg w14 hbox hb; have n0_ := Aside0.mk (below_step (by repeat (first | (with_reducible first | exact HB.out | apply bA_ | apply bN_ | apply bD_) | exact HB.out)) hb); have n1_ := Aside0.mk (hbox); have n2_ := Aside0.mk ((by rw [hg]; exact (below_size (by repeat (first | (with_reducible first | exact HB.out | apply bA_ | apply bN_ | apply bD_) | exact HB.out))) : w.heap.size ≤ gb197)); have n3_ := Aside0.mk ((by rw [hg]; exact (below_size (by repeat (first | (with_reducible first | exact HB.out | apply bA_ | apply bN_ | apply bD_) | exact HB.out))) : w.heap.size ≤ gb197)); clear HB; have HB := n0_; have BK197 := n1_; have GW197 := n2_; have GE197 := n3_; clear n0_ n1_ n2_ n3_; clear hb hbox hg; obtain ⟨hcz15_0, hcz15_1, hcz15_2, hcz15_3⟩ := cells4_ BK197.out; obtain ⟨hfz15_0, hfz15_1, hfz15_2, hfz15_3⟩ := froz4_ BK197.out))
  go_ret
  exact ⟨by first | rfl | (simp [errW_none, errW_some] <;> rfl) | (simp [*, errW_none, errW_some] <;> rfl), by repeat (first | (with_reducible first | exact HB.out | apply bA_ | apply bN_ | apply bD_ | refine bS_ ?_ GE197.out) | exact HB.out)⟩

/-! ### platformfwref08_little: function 83 -/
def platformfwref08_little.l0 : Nat → Int → ByteArray → Int → Option (ByteArray)
 | 0, _, _, _ => none
 | k + 1, x0, x3, x4 => if x4 < 8 then (if 0 ≤ (IntKind.u64.wrap (wrap64 (8 * x4))) then ((some (([(shr .u64 x0 (IntKind.u64.wrap (wrap64 (8 * x4)))) % 256] : List Int) : List Int)).bind fun y198 => (if x3.size + (strOfNums y198).size ≤ 9223372036854775807 then (platformfwref08_little.l0 k x0 (x3 ++ (strOfNums y198)) (wrap64 (x4 + 1))) else (none))) else (none)) else (some x3)
def platformfwref08_little.f (k : Nat) (a0 : Int) : Option (ByteArray) := platformfwref08_little.l0 k a0 (⟨#[]⟩ : ByteArray) 0
theorem platformfwref08_little.mono_l : ∀ k, (∀ y0 y1 y2, LeO (platformfwref08_little.l0 k y0 y1 y2) (platformfwref08_little.l0 (k + 1) y0 y1 y2))
 | 0 => fun _ _ _ r h => by simp [platformfwref08_little.l0] at h
 | k + 1 => by
  have ih0 := platformfwref08_little.mono_l k
  ·intro y0 y1 y2
   unfold platformfwref08_little.l0
   repeat' first
   | (with_reducible exact ih0 _ _ _)
   | (with_reducible exact LeO.refl _)
   | (with_reducible exact LeO.none _)
   | (with_reducible refine LeO.ite ?_ ?_)
   | (with_reducible refine LeO.bind ?_ (fun _ => ?_))
   | exact ih0 _ _ _
   | exact LeO.none _
   | refine LeO.ite ?_ ?_
   | refine LeO.bind ?_ (fun _ => ?_)
theorem platformfwref08_little.mono : ∀ a0 k, LeO (platformfwref08_little.f k a0) (platformfwref08_little.f (k + 1) a0) := by
 intro a0 k
 have ih0 := platformfwref08_little.mono_l k
 unfold platformfwref08_little.f
 repeat' first
   | (with_reducible exact ih0 _ _ _)
   | (with_reducible exact LeO.refl _)
   | (with_reducible exact LeO.none _)
   | (with_reducible refine LeO.ite ?_ ?_)
   | (with_reducible refine LeO.bind ?_ (fun _ => ?_))
   | exact ih0 _ _ _
   | exact LeO.none _
   | refine LeO.ite ?_ ?_
   | refine LeO.bind ?_ (fun _ => ?_)
set_option maxHeartbeats 8000000 in
set_option maxRecDepth 100000 in
theorem platformfwref08_little.calls (k : Nat) (a0 : Int) (r : ByteArray) (w : World) (h : platformfwref08_little.f k a0 = some r) :
  Calls Try.prog 83 #[.int .u64 a0] w fun e w' => e = .returned (.string r) ∧ Below w.heap.size w w' := by
 have HB := Aside0.mk (Below.refl w.heap.size w)
 have H : (platformfwref08_little.l0 k a0 (⟨#[]⟩ : ByteArray) 0) = some r := h
 clear h
 have H' := Aside0.mk H
 clear H
 go_enter Try.func83, Try.ntmps83
 go_wp2
 go_loopg [3, 4] k (fun kq v3 v4 w' => ∃ (x3_1 : ByteArray) (x4_1 : Int), v3 = .string x3_1 ∧ v4 = .int .i64 x4_1 ∧ Aside0 (platformfwref08_little.l0 kq a0 x3_1 x4_1 = some r) ∧ Aside0 (kq ≤ k) ∧ Aside0 (Below w.heap.size w w'))
 case atStart => exact ⟨((⟨#[]⟩ : ByteArray)), (0), (by first | rfl | (simp; done) | (simp [*]; done)), (by first | rfl | (simp; done) | (simp [*]; done)), H', ⟨Nat.le_refl _⟩, ⟨by repeat (first | (with_reducible first | exact HB.out | apply bA_ | apply bN_ | apply bD_) | exact HB.out)⟩⟩
 case round =>
  clear H'
  obtain ⟨x3_1, x4_1, rfl, rfl, HA, HK1, HB⟩ := hrel
  cases gk with
  | zero => exact absurd HA.out (by simp [platformfwref08_little.l0])
  | succ k1 =>
   have H := HA.out
   clear HA
   simp only [platformfwref08_little.l0] at H
   by_cases c2 : x4_1 < 8
   ·rw [if_pos c2] at H
    have c2b0 : decide (x4_1 < 8) = true := decide_eq_true c2
    clear c2
    obtain ⟨ji3, hji3⟩ : ∃ j_ : Int, (IntKind.u64.wrap (wrap64 (8 * x4_1))) = j_ := ⟨_, rfl⟩
    replace H : (if 0 ≤ (ji3) then ((some (([(shr .u64 a0 (ji3)) % 256] : List Int) : List Int)).bind fun y198 => (if x3_1.size + (strOfNums y198).size ≤ 9223372036854775807 then (platformfwref08_little.l0 k1 a0 (x3_1 ++ (strOfNums y198)) (wrap64 (x4_1 + 1))) else (none))) else (none)) = some r := by first | (rw [hji3] at H; exact H) | (simp only [hji3] at H ⊢; exact H)
    by_cases c4 : 0 ≤ (ji3)
    ·rw [if_pos c4] at H
     have c4b0 := eq_true c4
     have c4b1 : decide (0 ≤ (ji3)) = true := decide_eq_true c4
     clear c4
     obtain ⟨ji5, hji5⟩ : ∃ j_ : Int, (shr .u64 a0 (ji3)) = j_ := ⟨_, rfl⟩
     replace H : ((some (([(ji5) % 256] : List Int) : List Int)).bind fun y198 => (if x3_1.size + (strOfNums y198).size ≤ 9223372036854775807 then (platformfwref08_little.l0 k1 a0 (x3_1 ++ (strOfNums y198)) (wrap64 (x4_1 + 1))) else (none))) = some r := by first | (rw [hji5] at H; exact H) | (simp only [hji5] at H ⊢; exact H)
     have hji5_ : (a0 / 2 ^ min (ji3).toNat 64) = ji5 := hji5
     have hji5z : (ji3) ≤ 64 → (a0 / 2 ^ (ji3).toNat) = ji5 := shr_small hji5
     obtain ⟨y198, hy198⟩ : ∃ y_ : List Int, y_ = (([(ji5) % 256] : List Int)) := ⟨_, rfl⟩
     replace H : (if x3_1.size + (strOfNums y198).size ≤ 9223372036854775807 then (platformfwref08_little.l0 k1 a0 (x3_1 ++ (strOfNums y198)) (wrap64 (x4_1 + 1))) else (none)) = some r := by first | (rw [hy198]; with_reducible exact H) | (have H2_ := (Option.bind_some _ _).symm.trans H; rw [hy198]; with_reducible exact H2_) | (have H2_ := (Option.bind_some _ _).symm.trans H; with_reducible exact H2_) | with_reducible exact H | (rw [hy198]; exact H) | exact H
     have Ny198 := Aside0.mk hy198
     clear hy198
     by_cases c6 : x3_1.size + (strOfNums y198).size ≤ 9223372036854775807
     ·rw [if_pos c6] at H
      have c6b0 := eq_true c6
      have c6b1 : decide (x3_1.size + (strOfNums y198).size ≤ 9223372036854775807) = true := decide_eq_true c6
      try have c6b2 : (9223372036854775807 < x3_1.size + (strOfNums y198).size) = False := eq_false (Nat.not_lt.2 c6)
      clear c6
      have H' := Aside0.mk H
      clear H
      go_wp2_with (first | ((with_reducible refine gate_dst (N := 16) rfl ?_); refine Kd.R_lit (Kd.int .u8) _ 5 ?hg (N := 16) ?hd (xs := ([(ji5) % 256] : List Int)) (inner := [.int .u8 ((ji5) % 256)]) (ok := fun _ => True) (okp := fun _ => True) ?hr ?hp (fun _ hk => hk) trivial (Below.refl _ _) (Nat.le_refl _) (by simp) ?_; (case hd => rfl); (case hg => rfl); (case hr => first | (go_simp; done) | (go_simp; rfl)); (case hp => exact (Reps.one (show Kd.M (Kd.int .u8) _ _ _ ((ji5) % 256) [.int .u8 ((ji5) % 256)] from rfl) (Reps.none _ _))); intro v199 w7 ho8 hb hg_ hnew_; clear hg_ hnew_; (first | rw [← Ny198.out] at ho8 | (simp only [Int.reduceToNat] at ho8; rw [← Ny198.out] at ho8)); have n0_ := Aside0.mk (Kd.R_lower ho8 (below_size (by repeat (first | (with_reducible first | exact HB.out | apply bA_ | apply bN_ | apply bD_) | exact HB.out)))); have n1_ := Aside0.mk (below_step (by repeat (first | (with_reducible first | exact HB.out | apply bA_ | apply bN_ | apply bD_) | exact HB.out)) hb); clear HB; have HO200 := n0_; have HB := n1_; clear n0_ n1_; clear hb ho8; have hcv9 := own_string (P := Try.prog) Try.underlying63 Try.underlying5 Try.underlying9 (Kd.own_of_R HO200.out)))
      go_roundg k1
      case measure => have := HK1.out; omega
      case rel => exact ⟨(x3_1 ++ (strOfNums y198)), (wrap64 (x4_1 + 1)), (by first | rfl | (simp; done) | (simp [*]; done)), (by first | rfl | (simp; done) | (simp [*]; done)), H', ⟨by have := HK1.out; omega⟩, ⟨by repeat (first | (with_reducible first | exact HB.out | apply bA_ | apply bN_ | apply bD_) | exact HB.out)⟩⟩
     ·rw [if_neg c6] at H
      exact absurd H (by simp)
    ·rw [if_neg c4] at H
     exact absurd H (by simp)
   ·rw [if_neg c2] at H
    have c2b0 : decide (x4_1 < 8) = false := decide_eq_false c2
    clear c2
    obtain rfl := Option.some.inj H
    go_wp2
    go_ret
    exact ⟨by first | rfl | (simp [errW_none, errW_some] <;> rfl) | (simp [*, errW_none, errW_some] <;> rfl), by repeat (first | (with_reducible first | exact HB.out | apply bA_ | apply bN_ | apply bD_) | exact HB.out)⟩

/-! ### platformfwref08_bounded: function 84 -/
def platformfwref08_bounded.f (a0 : ByteArray) : Option (ByteArray × Int) := if (a0.size : Int) > 255 then (some ((⟨#[]⟩ : ByteArray), 11)) else (some (a0, 0))
set_option maxHeartbeats 8000000 in
set_option maxRecDepth 100000 in
theorem platformfwref08_bounded.calls (a0 : ByteArray) (r1 : ByteArray) (r2 : Int) (w : World) (h : platformfwref08_bounded.f a0 = some (r1, r2)) :
  Calls Try.prog 84 #[.string a0] w fun e w' => e = .returned (.tuple #[.string r1, .int .i64 r2]) ∧ Drawn0 w w' := by
 have H : (if (a0.size : Int) > 255 then (some ((⟨#[]⟩ : ByteArray), 11)) else (some (a0, 0))) = some (r1, r2) := h
 clear h
 by_cases c2 : (a0.size : Int) > 255
 ·rw [if_pos c2] at H
  have c2b0 : decide (255 < (a0.size : Int)) = true := decide_eq_true c2
  have c2b1 : decide (255 < a0.size) = true := decide_eq_true (by omega)
  clear c2
  simp only [Option.some.injEq, Prod.mk.injEq] at H
  obtain ⟨rfl, rfl⟩ := H
  go_enter Try.func84, Try.ntmps84
  go_wp2
  go_ret2
  exact ⟨by first | rfl | (simp; done) | (simp [*]; done), by repeat (first | exact Drawn0.refl _ | apply Drawn0.step)⟩
 ·rw [if_neg c2] at H
  have c2b0 : decide (255 < (a0.size : Int)) = false := decide_eq_false c2
  have c2b1 : decide (255 < a0.size) = false := decide_eq_false (by omega)
  clear c2
  simp only [Option.some.injEq, Prod.mk.injEq] at H
  obtain ⟨rfl, rfl⟩ := H
  go_enter Try.func84, Try.ntmps84
  go_wp2
  go_ret2
  exact ⟨by first | rfl | (simp; done) | (simp [*]; done), by repeat (first | exact Drawn0.refl _ | apply Drawn0.step)⟩

/-! ### platformfwref08_Buffer: function 62 -/
def platformfwref08_Buffer.f (k : Nat) (a0_0 : Int) (a0_1 : Int) (a0_2 : ByteArray) (a0_3 : Int) : Option (ByteArray × Int) := (platformfwref08_Valid.f a0_0 a0_1 a0_2 a0_3).bind fun t202 => (if t202 = true then (if a0_0 = 3 then (some (a0_2, 0)) else (if a0_0 = 1 then ((platformfwref08_little.f k a0_1).bind fun t203 => (some (t203, 0))) else (if a0_0 = 2 then (if a0_2.size + 1 ≤ 9223372036854775807 then ((platformfwref08_bounded.f (a0_2 ++ (⟨#[0]⟩ : ByteArray))).bind fun bt204 => (some (bt204.1, bt204.2))) else (none)) else (some ((⟨#[]⟩ : ByteArray), 10))))) else (some ((⟨#[]⟩ : ByteArray), 1)))
theorem platformfwref08_Buffer.mono : ∀ a0 a1 a2 a3 k, LeO (platformfwref08_Buffer.f k a0 a1 a2 a3) (platformfwref08_Buffer.f (k + 1) a0 a1 a2 a3) := by
 intro a0 a1 a2 a3 k
 unfold platformfwref08_Buffer.f
 repeat' first
   | (with_reducible exact platformfwref08_little.mono _ _)
   | (with_reducible exact LeO.refl _)
   | (with_reducible exact LeO.none _)
   | (with_reducible refine LeO.ite ?_ ?_)
   | (with_reducible refine LeO.bind ?_ (fun _ => ?_))
   | exact platformfwref08_little.mono _ _
   | exact LeO.none _
   | refine LeO.ite ?_ ?_
   | refine LeO.bind ?_ (fun _ => ?_)
set_option maxHeartbeats 8000000 in
set_option maxRecDepth 100000 in
theorem platformfwref08_Buffer.calls (k : Nat) (a0_0 : Int) (a0_1 : Int) (a0_2 : ByteArray) (a0_3 : Int) (r1 : ByteArray) (r2 : Int) (w : World) (h : platformfwref08_Buffer.f k a0_0 a0_1 a0_2 a0_3 = some (r1, r2)) :
  Calls Try.prog 62 #[.agg #[.int .i64 a0_0, .int .u64 a0_1, .string a0_2, .int .i64 a0_3]] w fun e w' => e = .returned (.tuple #[.string r1, .int .i64 r2]) ∧ Below w.heap.size w w' := by
 have hu38 := Try.underlying38
 have HB := Aside0.mk (Below.refl w.heap.size w)
 have H : ((platformfwref08_Valid.f a0_0 a0_1 a0_2 a0_3).bind fun t202 => (if t202 = true then (if a0_0 = 3 then (some (a0_2, 0)) else (if a0_0 = 1 then ((platformfwref08_little.f k a0_1).bind fun t203 => (some (t203, 0))) else (if a0_0 = 2 then (if a0_2.size + 1 ≤ 9223372036854775807 then ((platformfwref08_bounded.f (a0_2 ++ (⟨#[0]⟩ : ByteArray))).bind fun bt204 => (some (bt204.1, bt204.2))) else (none)) else (some ((⟨#[]⟩ : ByteArray), 10))))) else (some ((⟨#[]⟩ : ByteArray), 1)))) = some (r1, r2) := h
 clear h
 replace H := Option.bind_eq_some_iff.mp H
 obtain ⟨t202, A20, H⟩ := H
 replace H : (if t202 = true then (if a0_0 = 3 then (some (a0_2, 0)) else (if a0_0 = 1 then ((platformfwref08_little.f k a0_1).bind fun t203 => (some (t203, 0))) else (if a0_0 = 2 then (if a0_2.size + 1 ≤ 9223372036854775807 then ((platformfwref08_bounded.f (a0_2 ++ (⟨#[0]⟩ : ByteArray))).bind fun bt204 => (some (bt204.1, bt204.2))) else (none)) else (some ((⟨#[]⟩ : ByteArray), 10))))) else (some ((⟨#[]⟩ : ByteArray), 1))) = some (r1, r2) := H
 have A2 := Aside0.mk A20
 clear A20
 by_cases c3 : t202 = true
 ·subst c3
  have H1 : (if a0_0 = 3 then (some (a0_2, 0)) else (if a0_0 = 1 then ((platformfwref08_little.f k a0_1).bind fun t203 => (some (t203, 0))) else (if a0_0 = 2 then (if a0_2.size + 1 ≤ 9223372036854775807 then ((platformfwref08_bounded.f (a0_2 ++ (⟨#[0]⟩ : ByteArray))).bind fun bt204 => (some (bt204.1, bt204.2))) else (none)) else (some ((⟨#[]⟩ : ByteArray), 10))))) = some (r1, r2) := by rw [if_pos rfl] at H; exact H
  clear H
  have H := H1
  clear H1
  by_cases c4 : a0_0 = 3
  ·rw [if_pos c4] at H
   have c4b0 : (a0_0 == 3) = true := beq_iff_eq.mpr c4
   have c4b1 : (a0_0 != 3) = false := bne_eq_false_iff_eq.mpr c4
   clear c4
   simp only [Option.some.injEq, Prod.mk.injEq] at H
   obtain ⟨rfl, rfl⟩ := H
   go_enter Try.func62, Try.ntmps62
   go_wp2_with (first | ((with_reducible refine gate_dst (N := 1) rfl ?_); refine box_event ?hg (N := 1) ?hd (cs := #[.int .i64 a0_0, .int .u64 a0_1, .string a0_2, .int .i64 a0_3]) (t := 38) ?hr ?_; (case hd => rfl); (case hg => rfl); (case hr => first | (go_simp; done) | (go_simp; rfl)); intro gb201 hg w5 hbox hb; have n0_ := Aside0.mk (below_step (by repeat (first | (with_reducible first | exact HB.out | apply bA_ | apply bN_ | apply bD_) | exact HB.out)) hb); have n1_ := Aside0.mk (hbox); have n2_ := Aside0.mk ((by rw [hg]; exact (below_size (by repeat (first | (with_reducible first | exact HB.out | apply bA_ | apply bN_ | apply bD_) | exact HB.out))) : w.heap.size ≤ gb201)); have n3_ := Aside0.mk ((by rw [hg]; exact (below_size (by repeat (first | (with_reducible first | exact HB.out | apply bA_ | apply bN_ | apply bD_) | exact HB.out))) : w.heap.size ≤ gb201)); clear HB; have HB := n0_; have BK201 := n1_; have GW201 := n2_; have GE201 := n3_; clear n0_ n1_ n2_ n3_; clear hb hbox hg; obtain ⟨hcz6_0, hcz6_1, hcz6_2, hcz6_3⟩ := cells4_ BK201.out; obtain ⟨hfz6_0, hfz6_1, hfz6_2, hfz6_3⟩ := froz4_ BK201.out) | ((with_reducible refine gate_callee (f := 61) rfl ?_); refine goesL_ (some 6) rfl rfl Try.func61 (by kernel_rfl) rfl #[.agg #[.int .i64 a0_0, .int .u64 a0_1, .string a0_2, .int .i64 a0_3]] rfl (by (try simp only [List.map_toArray, List.map_cons, List.map_nil]); first | done | rfl | (simp only [List.length_drop, List.length_take]; rfl)) ?_; (with_reducible refine (platformfwref08_Valid.calls a0_0 a0_1 a0_2 a0_3 true _ A2.out).mono ?_); rintro e w7 ⟨rfl, hb⟩; refine ⟨_, rfl, ?_⟩; have n0_ := Aside0.mk (blk_below (g := gb201) (o := .cells #[.int .i64 a0_0, .int .u64 a0_1, .string a0_2, .int .i64 a0_3] 38 (0, 0)) (by (with_reducible repeat (first | refine kN_ ?_ _ | refine kD_ ?_ | refine kA_ ?_ _)); exact BK201.out) hb); have n1_ := Aside0.mk (below_step (by repeat (first | (with_reducible first | exact HB.out | apply bA_ | apply bN_ | apply bD_ | refine bS_ ?_ GE201.out) | exact HB.out)) hb); clear BK201; clear HB; have BK201 := n0_; have HB := n1_; clear n0_ n1_; (try clear hb); (try clear hb2); (try clear hk); (try clear hi); obtain ⟨hcz8_0, hcz8_1, hcz8_2, hcz8_3⟩ := cells4_ BK201.out; obtain ⟨hfz8_0, hfz8_1, hfz8_2, hfz8_3⟩ := froz4_ BK201.out))
   go_ret2
   exact ⟨by first | rfl | (simp [errW_none, errW_some] <;> rfl) | (simp [*, errW_none, errW_some] <;> rfl), by repeat (first | (with_reducible first | exact HB.out | apply bA_ | apply bN_ | apply bD_ | refine bS_ ?_ GE201.out) | exact HB.out)⟩
  ·rw [if_neg c4] at H
   have c4b0 : (a0_0 == 3) = false := beq_eq_false_iff_ne.mpr c4
   have c4b1 : (a0_0 != 3) = true := bne_iff_ne.mpr c4
   by_cases c9 : a0_0 = 1
   ·rw [if_pos c9] at H
    have c9b0 : (a0_0 == 1) = true := beq_iff_eq.mpr c9
    have c9b1 : (a0_0 != 1) = false := bne_eq_false_iff_eq.mpr c9
    clear c9
    replace H := Option.bind_eq_some_iff.mp H
    obtain ⟨t203, A100, H⟩ := H
    replace H : (some (t203, 0)) = some (r1, r2) := H
    have A10 := Aside0.mk A100
    clear A100
    simp only [Option.some.injEq, Prod.mk.injEq] at H
    obtain ⟨rfl, rfl⟩ := H
    go_enter Try.func62, Try.ntmps62
    go_wp2_with (first | ((with_reducible refine gate_dst (N := 1) rfl ?_); refine box_event ?hg (N := 1) ?hd (cs := #[.int .i64 a0_0, .int .u64 a0_1, .string a0_2, .int .i64 a0_3]) (t := 38) ?hr ?_; (case hd => rfl); (case hg => rfl); (case hr => first | (go_simp; done) | (go_simp; rfl)); intro gb201 hg w11 hbox hb; have n0_ := Aside0.mk (below_step (by repeat (first | (with_reducible first | exact HB.out | apply bA_ | apply bN_ | apply bD_) | exact HB.out)) hb); have n1_ := Aside0.mk (hbox); have n2_ := Aside0.mk ((by rw [hg]; exact (below_size (by repeat (first | (with_reducible first | exact HB.out | apply bA_ | apply bN_ | apply bD_) | exact HB.out))) : w.heap.size ≤ gb201)); have n3_ := Aside0.mk ((by rw [hg]; exact (below_size (by repeat (first | (with_reducible first | exact HB.out | apply bA_ | apply bN_ | apply bD_) | exact HB.out))) : w.heap.size ≤ gb201)); clear HB; have HB := n0_; have BK201 := n1_; have GW201 := n2_; have GE201 := n3_; clear n0_ n1_ n2_ n3_; clear hb hbox hg; obtain ⟨hcz12_0, hcz12_1, hcz12_2, hcz12_3⟩ := cells4_ BK201.out; obtain ⟨hfz12_0, hfz12_1, hfz12_2, hfz12_3⟩ := froz4_ BK201.out) | ((with_reducible refine gate_callee (f := 61) rfl ?_); refine goesL_ (some 6) rfl rfl Try.func61 (by kernel_rfl) rfl #[.agg #[.int .i64 a0_0, .int .u64 a0_1, .string a0_2, .int .i64 a0_3]] rfl (by (try simp only [List.map_toArray, List.map_cons, List.map_nil]); first | done | rfl | (simp only [List.length_drop, List.length_take]; rfl)) ?_; (with_reducible refine (platformfwref08_Valid.calls a0_0 a0_1 a0_2 a0_3 true _ A2.out).mono ?_); rintro e w13 ⟨rfl, hb⟩; refine ⟨_, rfl, ?_⟩; have n0_ := Aside0.mk (blk_below (g := gb201) (o := .cells #[.int .i64 a0_0, .int .u64 a0_1, .string a0_2, .int .i64 a0_3] 38 (0, 0)) (by (with_reducible repeat (first | refine kN_ ?_ _ | refine kD_ ?_ | refine kA_ ?_ _)); exact BK201.out) hb); have n1_ := Aside0.mk (below_step (by repeat (first | (with_reducible first | exact HB.out | apply bA_ | apply bN_ | apply bD_ | refine bS_ ?_ GE201.out) | exact HB.out)) hb); clear BK201; clear HB; have BK201 := n0_; have HB := n1_; clear n0_ n1_; (try clear hb); (try clear hb2); (try clear hk); (try clear hi); obtain ⟨hcz14_0, hcz14_1, hcz14_2, hcz14_3⟩ := cells4_ BK201.out; obtain ⟨hfz14_0, hfz14_1, hfz14_2, hfz14_3⟩ := froz4_ BK201.out) | ((with_reducible refine gate_callee (f := 83) rfl ?_); refine goesL_ (some 20) rfl rfl Try.func83 (by kernel_rfl) rfl #[.int .u64 a0_1] rfl (by (try simp only [List.map_toArray, List.map_cons, List.map_nil]); first | done | rfl | (simp only [List.length_drop, List.length_take]; rfl)) ?_; (with_reducible refine (platformfwref08_little.calls k a0_1 t203 _ A10.out).mono ?_); rintro e w15 ⟨rfl, hb⟩; refine ⟨_, rfl, ?_⟩; have n0_ := Aside0.mk (blk_below (g := gb201) (o := .cells #[.int .i64 a0_0, .int .u64 a0_1, .string a0_2, .int .i64 a0_3] 38 (0, 0)) (by (with_reducible repeat (first | refine kN_ ?_ _ | refine kD_ ?_ | refine kA_ ?_ _)); exact BK201.out) hb); have n1_ := Aside0.mk (below_step (by repeat (first | (with_reducible first | exact HB.out | apply bA_ | apply bN_ | apply bD_ | refine bS_ ?_ GE201.out) | exact HB.out)) hb); clear BK201; clear HB; have BK201 := n0_; have HB := n1_; clear n0_ n1_; (try clear hb); (try clear hb2); (try clear hk); (try clear hi)))
    go_ret2
    exact ⟨by first | rfl | (simp [errW_none, errW_some] <;> rfl) | (simp [*, errW_none, errW_some] <;> rfl), by repeat (first | (with_reducible first | exact HB.out | apply bA_ | apply bN_ | apply bD_ | refine bS_ ?_ GE201.out) | exact HB.out)⟩
   ·rw [if_neg c9] at H
    have c9b0 : (a0_0 == 1) = false := beq_eq_false_iff_ne.mpr c9
    have c9b1 : (a0_0 != 1) = true := bne_iff_ne.mpr c9
    by_cases c16 : a0_0 = 2
    ·rw [if_pos c16] at H
     have c16b0 : (a0_0 == 2) = true := beq_iff_eq.mpr c16
     have c16b1 : (a0_0 != 2) = false := bne_eq_false_iff_eq.mpr c16
     clear c16
     by_cases c17 : a0_2.size + 1 ≤ 9223372036854775807
     ·rw [if_pos c17] at H
      have c17b0 := eq_true c17
      have c17b1 : decide (a0_2.size + 1 ≤ 9223372036854775807) = true := decide_eq_true c17
      try have c17b2 : (9223372036854775807 < a0_2.size + 1) = False := eq_false (Nat.not_lt.2 c17)
      clear c17
      replace H := Option.bind_eq_some_iff.mp H
      obtain ⟨⟨t204, t205⟩, A180, H⟩ := H
      replace H : (some (t204, t205)) = some (r1, r2) := H
      have A18 := Aside0.mk A180
      clear A180
      simp only [Option.some.injEq, Prod.mk.injEq] at H
      obtain ⟨rfl, rfl⟩ := H
      go_enter Try.func62, Try.ntmps62
      go_wp2_with (first | ((with_reducible refine gate_dst (N := 1) rfl ?_); refine box_event ?hg (N := 1) ?hd (cs := #[.int .i64 a0_0, .int .u64 a0_1, .string a0_2, .int .i64 a0_3]) (t := 38) ?hr ?_; (case hd => rfl); (case hg => rfl); (case hr => first | (go_simp; done) | (go_simp; rfl)); intro gb201 hg w19 hbox hb; have n0_ := Aside0.mk (below_step (by repeat (first | (with_reducible first | exact HB.out | apply bA_ | apply bN_ | apply bD_) | exact HB.out)) hb); have n1_ := Aside0.mk (hbox); have n2_ := Aside0.mk ((by rw [hg]; exact (below_size (by repeat (first | (with_reducible first | exact HB.out | apply bA_ | apply bN_ | apply bD_) | exact HB.out))) : w.heap.size ≤ gb201)); have n3_ := Aside0.mk ((by rw [hg]; exact (below_size (by repeat (first | (with_reducible first | exact HB.out | apply bA_ | apply bN_ | apply bD_) | exact HB.out))) : w.heap.size ≤ gb201)); clear HB; have HB := n0_; have BK201 := n1_; have GW201 := n2_; have GE201 := n3_; clear n0_ n1_ n2_ n3_; clear hb hbox hg; obtain ⟨hcz20_0, hcz20_1, hcz20_2, hcz20_3⟩ := cells4_ BK201.out; obtain ⟨hfz20_0, hfz20_1, hfz20_2, hfz20_3⟩ := froz4_ BK201.out) | ((with_reducible refine gate_callee (f := 61) rfl ?_); refine goesL_ (some 6) rfl rfl Try.func61 (by kernel_rfl) rfl #[.agg #[.int .i64 a0_0, .int .u64 a0_1, .string a0_2, .int .i64 a0_3]] rfl (by (try simp only [List.map_toArray, List.map_cons, List.map_nil]); first | done | rfl | (simp only [List.length_drop, List.length_take]; rfl)) ?_; (with_reducible refine (platformfwref08_Valid.calls a0_0 a0_1 a0_2 a0_3 true _ A2.out).mono ?_); rintro e w21 ⟨rfl, hb⟩; refine ⟨_, rfl, ?_⟩; have n0_ := Aside0.mk (blk_below (g := gb201) (o := .cells #[.int .i64 a0_0, .int .u64 a0_1, .string a0_2, .int .i64 a0_3] 38 (0, 0)) (by (with_reducible repeat (first | refine kN_ ?_ _ | refine kD_ ?_ | refine kA_ ?_ _)); exact BK201.out) hb); have n1_ := Aside0.mk (below_step (by repeat (first | (with_reducible first | exact HB.out | apply bA_ | apply bN_ | apply bD_ | refine bS_ ?_ GE201.out) | exact HB.out)) hb); clear BK201; clear HB; have BK201 := n0_; have HB := n1_; clear n0_ n1_; (try clear hb); (try clear hb2); (try clear hk); (try clear hi); obtain ⟨hcz22_0, hcz22_1, hcz22_2, hcz22_3⟩ := cells4_ BK201.out; obtain ⟨hfz22_0, hfz22_1, hfz22_2, hfz22_3⟩ := froz4_ BK201.out) | ((with_reducible refine gate_callee (f := 84) rfl ?_); refine goesL_ (some 28) rfl rfl Try.func84 (by kernel_rfl) rfl #[.string (a0_2 ++ (⟨#[0]⟩ : ByteArray))] rfl (by (try simp only [List.map_toArray, List.map_cons, List.map_nil]); first | done | rfl | (simp only [List.length_drop, List.length_take]; rfl)) ?_; (with_reducible refine (platformfwref08_bounded.calls (a0_2 ++ (⟨#[0]⟩ : ByteArray)) t204 t205 _ A18.out).mono ?_); rintro e w' ⟨rfl, ⟨nd, rfl⟩⟩; refine ⟨_, rfl, ?_⟩))
      go_ret2
      exact ⟨by first | rfl | (simp [errW_none, errW_some] <;> rfl) | (simp [*, errW_none, errW_some] <;> rfl), by repeat (first | (with_reducible first | exact HB.out | apply bA_ | apply bN_ | apply bD_ | refine bS_ ?_ GE201.out) | exact HB.out)⟩
     ·rw [if_neg c17] at H
      exact absurd H (by simp)
    ·rw [if_neg c16] at H
     have c16b0 : (a0_0 == 2) = false := beq_eq_false_iff_ne.mpr c16
     have c16b1 : (a0_0 != 2) = true := bne_iff_ne.mpr c16
     simp only [Option.some.injEq, Prod.mk.injEq] at H
     obtain ⟨rfl, rfl⟩ := H
     go_enter Try.func62, Try.ntmps62
     go_wp2_with (first | ((with_reducible refine gate_dst (N := 1) rfl ?_); refine box_event ?hg (N := 1) ?hd (cs := #[.int .i64 a0_0, .int .u64 a0_1, .string a0_2, .int .i64 a0_3]) (t := 38) ?hr ?_; (case hd => rfl); (case hg => rfl); (case hr => first | (go_simp; done) | (go_simp; rfl)); intro gb201 hg w23 hbox hb; have n0_ := Aside0.mk (below_step (by repeat (first | (with_reducible first | exact HB.out | apply bA_ | apply bN_ | apply bD_) | exact HB.out)) hb); have n1_ := Aside0.mk (hbox); have n2_ := Aside0.mk ((by rw [hg]; exact (below_size (by repeat (first | (with_reducible first | exact HB.out | apply bA_ | apply bN_ | apply bD_) | exact HB.out))) : w.heap.size ≤ gb201)); have n3_ := Aside0.mk ((by rw [hg]; exact (below_size (by repeat (first | (with_reducible first | exact HB.out | apply bA_ | apply bN_ | apply bD_) | exact HB.out))) : w.heap.size ≤ gb201)); clear HB; have HB := n0_; have BK201 := n1_; have GW201 := n2_; have GE201 := n3_; clear n0_ n1_ n2_ n3_; clear hb hbox hg; obtain ⟨hcz24_0, hcz24_1, hcz24_2, hcz24_3⟩ := cells4_ BK201.out; obtain ⟨hfz24_0, hfz24_1, hfz24_2, hfz24_3⟩ := froz4_ BK201.out) | ((with_reducible refine gate_callee (f := 61) rfl ?_); refine goesL_ (some 6) rfl rfl Try.func61 (by kernel_rfl) rfl #[.agg #[.int .i64 a0_0, .int .u64 a0_1, .string a0_2, .int .i64 a0_3]] rfl (by (try simp only [List.map_toArray, List.map_cons, List.map_nil]); first | done | rfl | (simp only [List.length_drop, List.length_take]; rfl)) ?_; (with_reducible refine (platformfwref08_Valid.calls a0_0 a0_1 a0_2 a0_3 true _ A2.out).mono ?_); rintro e w25 ⟨rfl, hb⟩; refine ⟨_, rfl, ?_⟩; have n0_ := Aside0.mk (blk_below (g := gb201) (o := .cells #[.int .i64 a0_0, .int .u64 a0_1, .string a0_2, .int .i64 a0_3] 38 (0, 0)) (by (with_reducible repeat (first | refine kN_ ?_ _ | refine kD_ ?_ | refine kA_ ?_ _)); exact BK201.out) hb); have n1_ := Aside0.mk (below_step (by repeat (first | (with_reducible first | exact HB.out | apply bA_ | apply bN_ | apply bD_ | refine bS_ ?_ GE201.out) | exact HB.out)) hb); clear BK201; clear HB; have BK201 := n0_; have HB := n1_; clear n0_ n1_; (try clear hb); (try clear hb2); (try clear hk); (try clear hi); obtain ⟨hcz26_0, hcz26_1, hcz26_2, hcz26_3⟩ := cells4_ BK201.out; obtain ⟨hfz26_0, hfz26_1, hfz26_2, hfz26_3⟩ := froz4_ BK201.out))
     go_ret2
     exact ⟨by first | rfl | (simp [errW_none, errW_some] <;> rfl) | (simp [*, errW_none, errW_some] <;> rfl), by repeat (first | (with_reducible first | exact HB.out | apply bA_ | apply bN_ | apply bD_ | refine bS_ ?_ GE201.out) | exact HB.out)⟩
 ·replace c3 := Bool.eq_false_iff.mpr c3
  subst c3
  have H1 : (some ((⟨#[]⟩ : ByteArray), 1)) = some (r1, r2) := by rw [if_neg (show ¬ (false = true) by decide)] at H; exact H
  clear H
  have H := H1
  clear H1
  simp only [Option.some.injEq, Prod.mk.injEq] at H
  obtain ⟨rfl, rfl⟩ := H
  go_enter Try.func62, Try.ntmps62
  go_wp2_with (first | ((with_reducible refine gate_dst (N := 1) rfl ?_); refine box_event ?hg (N := 1) ?hd (cs := #[.int .i64 a0_0, .int .u64 a0_1, .string a0_2, .int .i64 a0_3]) (t := 38) ?hr ?_; (case hd => rfl); (case hg => rfl); (case hr => first | (go_simp; done) | (go_simp; rfl)); intro gb201 hg w27 hbox hb; have n0_ := Aside0.mk (below_step (by repeat (first | (with_reducible first | exact HB.out | apply bA_ | apply bN_ | apply bD_) | exact HB.out)) hb); have n1_ := Aside0.mk (hbox); have n2_ := Aside0.mk ((by rw [hg]; exact (below_size (by repeat (first | (with_reducible first | exact HB.out | apply bA_ | apply bN_ | apply bD_) | exact HB.out))) : w.heap.size ≤ gb201)); have n3_ := Aside0.mk ((by rw [hg]; exact (below_size (by repeat (first | (with_reducible first | exact HB.out | apply bA_ | apply bN_ | apply bD_) | exact HB.out))) : w.heap.size ≤ gb201)); clear HB; have HB := n0_; have BK201 := n1_; have GW201 := n2_; have GE201 := n3_; clear n0_ n1_ n2_ n3_; clear hb hbox hg; obtain ⟨hcz28_0, hcz28_1, hcz28_2, hcz28_3⟩ := cells4_ BK201.out; obtain ⟨hfz28_0, hfz28_1, hfz28_2, hfz28_3⟩ := froz4_ BK201.out) | ((with_reducible refine gate_callee (f := 61) rfl ?_); refine goesL_ (some 6) rfl rfl Try.func61 (by kernel_rfl) rfl #[.agg #[.int .i64 a0_0, .int .u64 a0_1, .string a0_2, .int .i64 a0_3]] rfl (by (try simp only [List.map_toArray, List.map_cons, List.map_nil]); first | done | rfl | (simp only [List.length_drop, List.length_take]; rfl)) ?_; (with_reducible refine (platformfwref08_Valid.calls a0_0 a0_1 a0_2 a0_3 false _ A2.out).mono ?_); rintro e w29 ⟨rfl, hb⟩; refine ⟨_, rfl, ?_⟩; have n0_ := Aside0.mk (blk_below (g := gb201) (o := .cells #[.int .i64 a0_0, .int .u64 a0_1, .string a0_2, .int .i64 a0_3] 38 (0, 0)) (by (with_reducible repeat (first | refine kN_ ?_ _ | refine kD_ ?_ | refine kA_ ?_ _)); exact BK201.out) hb); have n1_ := Aside0.mk (below_step (by repeat (first | (with_reducible first | exact HB.out | apply bA_ | apply bN_ | apply bD_ | refine bS_ ?_ GE201.out) | exact HB.out)) hb); clear BK201; clear HB; have BK201 := n0_; have HB := n1_; clear n0_ n1_; (try clear hb); (try clear hb2); (try clear hk); (try clear hi)))
  go_ret2
  exact ⟨by first | rfl | (simp [errW_none, errW_some] <;> rfl) | (simp [*, errW_none, errW_some] <;> rfl), by repeat (first | (with_reducible first | exact HB.out | apply bA_ | apply bN_ | apply bD_ | refine bS_ ?_ GE201.out) | exact HB.out)⟩

end Go.Proofs.Ytmnmidclaaiffaa.PFieldConverts
