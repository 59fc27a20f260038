-- Written by a program of this session's (wip/print_patch.py over the kit's print) out of the translation; Lean checks it.
import Derived.Test.YtdmeglmmihaonaaDoorPValueArithmeticx0
import Derived.Test.YtdmeglmmihaonaaDoorPValueArithmeticx2
import Derived.Test.YtdmeglmmihaonaaDoorPValueArithmeticx3
import Derived.Test.YtdmeglmmihaonaaDoorPValueArithmeticx5
import Derived.Test.YtdmeglmmihaonaaDoorVValueArithmeticExtP
namespace Go.Proofs.YtdmeglmmihaonaaDoor.PValueArithmetic
open Go.RowKit Go.Proofs.YtdmeglmmihaonaaDoor.Ext Go.Proofs.YtdmeglmmihaonaaDoorW.PrintWords Go.Proofs.YtdmeglmmihaonaaDoorW.PrintLast Go.Proofs.YtdmeglmmihaonaaDoorW.PrintMore
attribute [local go_sem] max2_int min2_int max_two min_two max_three min_three max_four min_four   -- for this text's walks alone
set_option linter.unusedVariables false
set_option linter.unusedSimpArgs false

/-! ### value_number: function 42 -/
def value_number.f (a0 : Int) (a1 : Int) : Option (Int × Int × ByteArray × Int × Int) := if a1 = 0 then ((value_integer.f a0).bind fun bt316 => (some (bt316.1, bt316.2.1, bt316.2.2.1, bt316.2.2.2, 0))) else (some (0, 0, (⟨#[]⟩ : ByteArray), 0, a1))
set_option maxHeartbeats 8000000 in
set_option maxRecDepth 100000 in
theorem value_number.calls (a0 : Int) (a1 : Int) (r1 : Int) (r2 : Int) (r3 : ByteArray) (r4 : Int) (r5 : Int) (w : World) (h : value_number.f a0 a1 = some (r1, r2, r3, r4, r5)) :
  Calls Tryd.prog 42 #[.int .u64 a0, .int .i64 a1] w fun e w' => e = .returned (.tuple #[.agg #[.int .i64 r1, .int .u64 r2, .string r3, .int .i64 r4], .int .i64 r5]) ∧ Below w.heap.size w w' := by
 have hu24 := Tryd.underlying24
 have HB := Aside0.mk (Below.refl w.heap.size w)
 have H : (if a1 = 0 then ((value_integer.f a0).bind fun bt316 => (some (bt316.1, bt316.2.1, bt316.2.2.1, bt316.2.2.2, 0))) else (some (0, 0, (⟨#[]⟩ : ByteArray), 0, a1))) = some (r1, r2, r3, r4, r5) := h
 clear h
 by_cases c3 : a1 = 0
 ·rw [if_pos c3] at H
  have c3b0 : (a1 == 0) = true := beq_iff_eq.mpr c3
  have c3b1 : (a1 != 0) = false := bne_eq_false_iff_eq.mpr c3
  clear c3
  replace H := Option.bind_eq_some_iff.mp H
  obtain ⟨⟨t316, t317, t318, t319⟩, A40, H⟩ := H
  replace H : (some (t316, t317, t318, t319, 0)) = some (r1, r2, r3, r4, r5) := H
  have A4 := Aside0.mk A40
  clear A40
  simp only [Option.some.injEq, Prod.mk.injEq] at H
  obtain ⟨rfl, rfl, rfl, rfl, rfl⟩ := H
  go_enter Tryd.func42, Tryd.ntmps42
  go_wp2_with (first | ((with_reducible refine gate_dst (N := 4) rfl ?_); refine box_event ?hg (N := 4) ?hd (cs := #[.int .i64 0, .int .u64 0, .string (⟨#[]⟩ : ByteArray), .int .i64 0]) (t := 24) ?hr ?_; (case hd => rfl); (case hg => rfl); (case hr => first | (go_simp; done) | (go_simp; rfl)); intro gb315 hg w5 hbox hb; have n0_ := Aside0.mk (below_step (by repeat (first | (with_reducible first | exact HB.out | apply bA_ | apply bN_ | apply bD_) | exact HB.out)) hb); have n1_ := Aside0.mk (hbox); have n2_ := Aside0.mk ((by rw [hg]; exact (below_size (by repeat (first | (with_reducible first | exact HB.out | apply bA_ | apply bN_ | apply bD_) | exact HB.out))) : w.heap.size ≤ gb315)); have n3_ := Aside0.mk ((by rw [hg]; exact (below_size (by repeat (first | (with_reducible first | exact HB.out | apply bA_ | apply bN_ | apply bD_) | exact HB.out))) : w.heap.size ≤ gb315)); clear HB; have HB := n0_; have BK315 := n1_; have GW315 := n2_; have GE315 := n3_; clear n0_ n1_ n2_ n3_; clear hb hbox hg) | ((with_reducible refine gate_callee (f := 44) rfl ?_); refine goesL_ (some 11) rfl rfl Tryd.func44 (by kernel_rfl) rfl #[.int .u64 a0] rfl (by (try simp only [List.map_toArray, List.map_cons, List.map_nil]); first | done | rfl | (simp only [List.length_drop, List.length_take]; rfl)) ?_; (with_reducible refine (value_integer.calls a0 t316 t317 t318 t319 _ A4.out).mono ?_); rintro e w6 ⟨rfl, hb⟩; refine ⟨_, rfl, ?_⟩; have n0_ := Aside0.mk (blk_below (g := gb315) (o := .cells #[.int .i64 0, .int .u64 0, .string (⟨#[]⟩ : ByteArray), .int .i64 0] 24 (0, 0)) (by (with_reducible repeat (first | apply kN_ | apply kD_ | apply kA_)); exact BK315.out) hb); have n1_ := Aside0.mk (below_step (by repeat (first | (with_reducible first | exact HB.out | apply bA_ | apply bN_ | apply bD_ | refine bS_ ?_ GE315.out) | exact HB.out)) hb); clear BK315; clear HB; have BK315 := n0_; have HB := n1_; clear n0_ n1_; (try clear hb); (try clear hb2); (try clear hk); (try clear hi); obtain ⟨hcz7_0, hcz7_1, hcz7_2, hcz7_3⟩ := cells4_ BK315.out; obtain ⟨hfz7_0, hfz7_1, hfz7_2, hfz7_3⟩ := froz4_ BK315.out))
  refine bodyPost_ret (results_ct rfl _ _ gb315 24 #[.int .i64 t316, .int .u64 t317, .string t318, .int .i64 t319] (0, 0) _ rfl (by (with_reducible repeat (first | apply kN_ | apply kD_ | apply kA_)); refine blk_put (cs := #[.int .i64 t316, .int .u64 t317, .string t318, .int .i64 0]) ?_ 3 _ rfl; (with_reducible repeat (first | apply kN_ | apply kD_ | apply kA_)); refine blk_put (cs := #[.int .i64 t316, .int .u64 t317, .string (⟨#[]⟩ : ByteArray), .int .i64 0]) ?_ 2 _ rfl; (with_reducible repeat (first | apply kN_ | apply kD_ | apply kA_)); refine blk_put (cs := #[.int .i64 t316, .int .u64 0, .string (⟨#[]⟩ : ByteArray), .int .i64 0]) ?_ 1 _ rfl; (with_reducible repeat (first | apply kN_ | apply kD_ | apply kA_)); refine blk_put (cs := #[.int .i64 0, .int .u64 0, .string (⟨#[]⟩ : ByteArray), .int .i64 0]) ?_ 0 _ rfl; (with_reducible repeat (first | apply kN_ | apply kD_ | apply kA_)); exact BK315.out) Tryd.underlying24 rfl (by kernel_rfl)) rfl ?_
  exact ⟨by first | rfl | (simp [errW_none, errW_some] <;> rfl) | (simp [*, errW_none, errW_some] <;> rfl), by repeat (first | (with_reducible first | exact HB.out | apply bA_ | apply bN_ | apply bD_ | refine bS_ ?_ GE315.out) | exact HB.out)⟩
 ·rw [if_neg c3] at H
  have c3b0 : (a1 == 0) = false := beq_eq_false_iff_ne.mpr c3
  have c3b1 : (a1 != 0) = true := bne_iff_ne.mpr c3
  simp only [Option.some.injEq, Prod.mk.injEq] at H
  obtain ⟨rfl, rfl, rfl, rfl, rfl⟩ := H
  go_enter Tryd.func42, Tryd.ntmps42
  go_wp2_with (first | ((with_reducible refine gate_dst (N := 4) rfl ?_); refine box_event ?hg (N := 4) ?hd (cs := #[.int .i64 0, .int .u64 0, .string (⟨#[]⟩ : ByteArray), .int .i64 0]) (t := 24) ?hr ?_; (case hd => rfl); (case hg => rfl); (case hr => first | (go_simp; done) | (go_simp; rfl)); intro gb315 hg w8 hbox hb; have n0_ := Aside0.mk (below_step (by repeat (first | (with_reducible first | exact HB.out | apply bA_ | apply bN_ | apply bD_) | exact HB.out)) hb); have n1_ := Aside0.mk (hbox); have n2_ := Aside0.mk ((by rw [hg]; exact (below_size (by repeat (first | (with_reducible first | exact HB.out | apply bA_ | apply bN_ | apply bD_) | exact HB.out))) : w.heap.size ≤ gb315)); have n3_ := Aside0.mk ((by rw [hg]; exact (below_size (by repeat (first | (with_reducible first | exact HB.out | apply bA_ | apply bN_ | apply bD_) | exact HB.out))) : w.heap.size ≤ gb315)); clear HB; have HB := n0_; have BK315 := n1_; have GW315 := n2_; have GE315 := n3_; clear n0_ n1_ n2_ n3_; clear hb hbox hg; obtain ⟨hcz9_0, hcz9_1, hcz9_2, hcz9_3⟩ := cells4_ BK315.out; obtain ⟨hfz9_0, hfz9_1, hfz9_2, hfz9_3⟩ := froz4_ BK315.out))
  refine bodyPost_ret (results_ct rfl _ _ gb315 24 #[.int .i64 0, .int .u64 0, .string (⟨#[]⟩ : ByteArray), .int .i64 0] (0, 0) _ rfl (by (with_reducible repeat (first | apply kN_ | apply kD_ | apply kA_)); refine blk_put (cs := #[.int .i64 0, .int .u64 0, .string (⟨#[]⟩ : ByteArray), .int .i64 0]) ?_ 3 _ rfl; (with_reducible repeat (first | apply kN_ | apply kD_ | apply kA_)); refine blk_put (cs := #[.int .i64 0, .int .u64 0, .string (⟨#[]⟩ : ByteArray), .int .i64 0]) ?_ 2 _ rfl; (with_reducible repeat (first | apply kN_ | apply kD_ | apply kA_)); refine blk_put (cs := #[.int .i64 0, .int .u64 0, .string (⟨#[]⟩ : ByteArray), .int .i64 0]) ?_ 1 _ rfl; (with_reducible repeat (first | apply kN_ | apply kD_ | apply kA_)); refine blk_put (cs := #[.int .i64 0, .int .u64 0, .string (⟨#[]⟩ : ByteArray), .int .i64 0]) ?_ 0 _ rfl; (with_reducible repeat (first | apply kN_ | apply kD_ | apply kA_)); exact BK315.out) Tryd.underlying24 rfl (by kernel_rfl)) rfl ?_
  exact ⟨by first | rfl | (simp [errW_none, errW_some] <;> rfl) | (simp [*, errW_none, errW_some] <;> rfl), by repeat (first | (with_reducible first | exact HB.out | apply bA_ | apply bN_ | apply bD_ | refine bS_ ?_ GE315.out) | exact HB.out)⟩

/-! ### value_parse: function 72 -/
def value_parse.l0 : Nat → ByteArray → Int → Int → Int → Int → Option (Int × Int)
 | 0, _, _, _, _, _ => none
 | k + 1, x0, x1, x6, x10, x11 => if x11 < x10 then (if 0 ≤ x11 then (if x11 < (x0.size : Int) then ((value_digit.f k (bt x0 x11) x1).bind fun t320 => (if t320 < 0 then (some (x6, 0)) else (if (IntKind.u64.wrap (x1)) = 0 then (none) else (if x6 > (IntKind.u64.wrap (Int.tdiv (IntKind.u64.wrap (18446744073709551615 - (IntKind.u64.wrap (t320)))) (IntKind.u64.wrap (x1)))) then (some (0, 11)) else (value_parse.l0 k x0 x1 (IntKind.u64.wrap ((IntKind.u64.wrap (x6 * (IntKind.u64.wrap (x1)))) + (IntKind.u64.wrap (t320)))) x10 (wrap64 (x11 + 1))))))) else (none)) else (none)) else (some (x6, 0))
def value_parse.f (k : Nat) (a0 : ByteArray) (a1 : Int) : Option (Int × Int) := value_parse.l0 k a0 a1 0 (a0.size : Int) 0
theorem value_parse.mono_l : ∀ k, (∀ y0 y1 y2 y3 y4, LeO (value_parse.l0 k y0 y1 y2 y3 y4) (value_parse.l0 (k + 1) y0 y1 y2 y3 y4))
 | 0 => fun _ _ _ _ _ r h => by simp [value_parse.l0] at h
 | k + 1 => by
  have ih0 := value_parse.mono_l k
  ·intro y0 y1 y2 y3 y4
   unfold value_parse.l0
   repeat' first
   | (with_reducible exact ih0 _ _ _ _ _)
   | (with_reducible exact value_digit.mono _ _ _)
   | (with_reducible exact LeO.refl _)
   | (with_reducible exact LeO.none _)
   | (with_reducible refine LeO.ite ?_ ?_)
   | (with_reducible refine LeO.bind ?_ (fun _ => ?_))
   | exact ih0 _ _ _ _ _
   | exact value_digit.mono _ _ _
   | exact LeO.none _
   | refine LeO.ite ?_ ?_
   | refine LeO.bind ?_ (fun _ => ?_)
theorem value_parse.mono : ∀ a0 a1 k, LeO (value_parse.f k a0 a1) (value_parse.f (k + 1) a0 a1) := by
 intro a0 a1 k
 have ih0 := value_parse.mono_l k
 unfold value_parse.f
 repeat' first
   | (with_reducible exact ih0 _ _ _ _ _)
   | (with_reducible exact value_digit.mono _ _ _)
   | (with_reducible exact LeO.refl _)
   | (with_reducible exact LeO.none _)
   | (with_reducible refine LeO.ite ?_ ?_)
   | (with_reducible refine LeO.bind ?_ (fun _ => ?_))
   | exact ih0 _ _ _ _ _
   | exact value_digit.mono _ _ _
   | exact LeO.none _
   | refine LeO.ite ?_ ?_
   | refine LeO.bind ?_ (fun _ => ?_)
set_option maxHeartbeats 8000000 in
set_option maxRecDepth 100000 in
theorem value_parse.calls (k : Nat) (a0 : ByteArray) (a1 : Int) (r1 : Int) (r2 : Int) (w : World) (h : value_parse.f k a0 a1 = some (r1, r2)) :
  Calls Tryd.prog 72 #[.string a0, .int .i64 a1] w fun e w' => e = .returned (.tuple #[.int .u64 r1, .int .i64 r2]) ∧ Drawn0 w w' := by
 have H : (value_parse.l0 k a0 a1 0 (a0.size : Int) 0) = some (r1, r2) := h
 clear h
 have H' := Aside0.mk H
 clear H
 go_enter Tryd.func72, Tryd.ntmps72
 go_wp2
 go_loopg [6, 11] k (fun kq v6 v11 w' => ∃ (x6_1 : Int) (x11_1 : Int), v6 = .int .u64 x6_1 ∧ v11 = .int .i64 x11_1 ∧ Aside0 (value_parse.l0 kq a0 a1 x6_1 (a0.size : Int) x11_1 = some (r1, r2)) ∧ Aside0 (kq ≤ k) ∧ Drawn0 w w')
 case atStart => exact ⟨(0), (0), (by first | rfl | (simp; done) | (simp [*]; done)), (by first | rfl | (simp; done) | (simp [*]; done)), H', ⟨Nat.le_refl _⟩, by repeat (first | exact Drawn0.refl _ | apply Drawn0.step)⟩
 case round =>
  clear H'
  try clear p2
  obtain ⟨x6_1, x11_1, rfl, rfl, HA, HK1, ⟨m1, rfl⟩⟩ := hrel
  cases gk with
  | zero => exact absurd HA.out (by simp [value_parse.l0])
  | succ k1 =>
   have H := HA.out
   clear HA
   simp only [value_parse.l0] at H
   by_cases c3 : x11_1 < (a0.size : Int)
   ·rw [if_pos c3] at H
    have c3b0 : decide (x11_1 < (a0.size : Int)) = true := decide_eq_true c3
    clear c3
    by_cases c4 : 0 ≤ x11_1
    ·rw [if_pos c4] at H
     have c4b0 : decide (0 ≤ x11_1) = true := decide_eq_true c4
     clear c4
     by_cases c5 : x11_1 < (a0.size : Int)
     ·rw [if_pos c5] at H
      have c5b0 : decide (x11_1 < (a0.size : Int)) = true := decide_eq_true c5
      clear c5
      replace H := Option.bind_eq_some_iff.mp H
      obtain ⟨t320, A70, H⟩ := H
      replace H : (if t320 < 0 then (some (x6_1, 0)) else (if (IntKind.u64.wrap (a1)) = 0 then (none) else (if x6_1 > (IntKind.u64.wrap (Int.tdiv (IntKind.u64.wrap (18446744073709551615 - (IntKind.u64.wrap (t320)))) (IntKind.u64.wrap (a1)))) then (some (0, 11)) else (value_parse.l0 k1 a0 a1 (IntKind.u64.wrap ((IntKind.u64.wrap (x6_1 * (IntKind.u64.wrap (a1)))) + (IntKind.u64.wrap (t320)))) (a0.size : Int) (wrap64 (x11_1 + 1)))))) = some (r1, r2) := H
      have A7 := Aside0.mk A70
      clear A70
      by_cases c8 : t320 < 0
      ·rw [if_pos c8] at H
       have c8b0 : decide (t320 < 0) = true := decide_eq_true c8
       clear c8
       simp only [Option.some.injEq, Prod.mk.injEq] at H
       obtain ⟨rfl, rfl⟩ := H
       have p6 : 0 ≤ (x11_1 : Int) := of_decide_eq_true (by first | (with_reducible assumption) | assumption)
       have q6 : x11_1 < (a0.size : Int) := of_decide_eq_true (by first | (with_reducible assumption) | assumption)
       have hx6 := bt_at a0 x11_1
       replace p6 := eq_true p6
       replace q6 := eq_true q6
       go_wp2_with (first | ((with_reducible refine gate_callee (f := 71) rfl ?_); refine goesL_ (some 18) rfl rfl Tryd.func71 (by kernel_rfl) rfl #[.int .u8 (bt a0 x11_1), .int .i64 a1] rfl (by (try simp only [List.map_toArray, List.map_cons, List.map_nil]); first | done | rfl | (simp only [List.length_drop, List.length_take]; rfl)) ?_; (with_reducible refine (value_digit.calls k1 (bt a0 x11_1) a1 t320 _ A7.out).mono ?_); rintro e w' ⟨rfl, ⟨nd, rfl⟩⟩; refine ⟨_, rfl, ?_⟩))
       go_ret2
       exact ⟨by first | rfl | (simp; done) | (simp [*]; done), by repeat (first | exact Drawn0.refl _ | apply Drawn0.step)⟩
      ·rw [if_neg c8] at H
       have c8b0 : decide (t320 < 0) = false := decide_eq_false c8
       clear c8
       by_cases c9 : (IntKind.u64.wrap (a1)) = 0
       ·rw [if_pos c9] at H
        exact absurd H (by simp)
       ·rw [if_neg c9] at H
        have c9b0 : ((IntKind.u64.wrap (a1)) == 0) = false := beq_eq_false_iff_ne.mpr c9
        have c9b1 : ((IntKind.u64.wrap (a1)) != 0) = true := bne_iff_ne.mpr c9
        by_cases c10 : x6_1 > (IntKind.u64.wrap (Int.tdiv (IntKind.u64.wrap (18446744073709551615 - (IntKind.u64.wrap (t320)))) (IntKind.u64.wrap (a1))))
        ·rw [if_pos c10] at H
         have c10b0 : decide ((IntKind.u64.wrap (Int.tdiv (IntKind.u64.wrap (18446744073709551615 - (IntKind.u64.wrap (t320)))) (IntKind.u64.wrap (a1)))) < x6_1) = true := decide_eq_true c10
         clear c10
         simp only [Option.some.injEq, Prod.mk.injEq] at H
         obtain ⟨rfl, rfl⟩ := H
         have p6 : 0 ≤ (x11_1 : Int) := of_decide_eq_true (by first | (with_reducible assumption) | assumption)
         have q6 : x11_1 < (a0.size : Int) := of_decide_eq_true (by first | (with_reducible assumption) | assumption)
         have hx6 := bt_at a0 x11_1
         replace p6 := eq_true p6
         replace q6 := eq_true q6
         go_wp2_with (first | ((with_reducible refine gate_callee (f := 71) rfl ?_); refine goesL_ (some 18) rfl rfl Tryd.func71 (by kernel_rfl) rfl #[.int .u8 (bt a0 x11_1), .int .i64 a1] rfl (by (try simp only [List.map_toArray, List.map_cons, List.map_nil]); first | done | rfl | (simp only [List.length_drop, List.length_take]; rfl)) ?_; (with_reducible refine (value_digit.calls k1 (bt a0 x11_1) a1 t320 _ A7.out).mono ?_); rintro e w' ⟨rfl, ⟨nd, rfl⟩⟩; refine ⟨_, rfl, ?_⟩))
         go_ret2
         exact ⟨by first | rfl | (simp; done) | (simp [*]; done), by repeat (first | exact Drawn0.refl _ | apply Drawn0.step)⟩
        ·rw [if_neg c10] at H
         have c10b0 : decide ((IntKind.u64.wrap (Int.tdiv (IntKind.u64.wrap (18446744073709551615 - (IntKind.u64.wrap (t320)))) (IntKind.u64.wrap (a1)))) < x6_1) = false := decide_eq_false c10
         clear c10
         have H' := Aside0.mk H
         clear H
         have p6 : 0 ≤ (x11_1 : Int) := of_decide_eq_true (by first | (with_reducible assumption) | assumption)
         have q6 : x11_1 < (a0.size : Int) := of_decide_eq_true (by first | (with_reducible assumption) | assumption)
         have hx6 := bt_at a0 x11_1
         replace p6 := eq_true p6
         replace q6 := eq_true q6
         go_wp2_with (first | ((with_reducible refine gate_callee (f := 71) rfl ?_); refine goesL_ (some 18) rfl rfl Tryd.func71 (by kernel_rfl) rfl #[.int .u8 (bt a0 x11_1), .int .i64 a1] rfl (by (try simp only [List.map_toArray, List.map_cons, List.map_nil]); first | done | rfl | (simp only [List.length_drop, List.length_take]; rfl)) ?_; (with_reducible refine (value_digit.calls k1 (bt a0 x11_1) a1 t320 _ A7.out).mono ?_); rintro e w' ⟨rfl, ⟨nd, rfl⟩⟩; refine ⟨_, rfl, ?_⟩))
         go_roundg k1
         case measure => have := HK1.out; omega
         case rel => exact ⟨(IntKind.u64.wrap ((IntKind.u64.wrap (x6_1 * (IntKind.u64.wrap (a1)))) + (IntKind.u64.wrap (t320)))), (wrap64 (x11_1 + 1)), (by first | rfl | (simp; done) | (simp [*]; done)), (by first | rfl | (simp; done) | (simp [*]; done)), H', ⟨by have := HK1.out; omega⟩, by repeat (first | exact Drawn0.refl _ | apply Drawn0.step)⟩
     ·rw [if_neg c5] at H
      exact absurd H (by simp)
    ·rw [if_neg c4] at H
     exact absurd H (by simp)
   ·rw [if_neg c3] at H
    have c3b0 : decide (x11_1 < (a0.size : Int)) = false := decide_eq_false c3
    clear c3
    simp only [Option.some.injEq, Prod.mk.injEq] at H
    obtain ⟨rfl, rfl⟩ := H
    go_wp2
    go_ret2
    exact ⟨by first | rfl | (simp; done) | (simp [*]; done), by repeat (first | exact Drawn0.refl _ | apply Drawn0.step)⟩

/-! ### value_explicit: function 45 -/
def value_explicit.j0 : Nat → Bool → Int → Int → ByteArray → Int → Option (Int × Int)
 | 0, _, _, _, _, _ => none
 | k + 1, x18, x322000, x322001, x322002, x322003 => if x18 = true then (if 2 ≤ (x322002.size : Int) then ((value_parse.f k (x322002.extract 2 x322002.size) 16).bind fun bt326 => (some (bt326.1, bt326.2))) else (none)) else ((value_parse.f k x322002 10).bind fun bt328 => (some (bt328.1, bt328.2)))
def value_explicit.f (k : Nat) (a0_0 : Int) (a0_1 : Int) (a0_2 : ByteArray) (a0_3 : Int) : Option (Int × Int) := if a0_0 = 2 then ((strings_HasPrefix.f a0_2 (⟨#[48, 120]⟩ : ByteArray)).bind fun t324 => (if t324 = true then (value_explicit.j0 k true a0_0 a0_1 a0_2 a0_3) else ((strings_HasPrefix.f a0_2 (⟨#[48, 88]⟩ : ByteArray)).bind fun t325 => (value_explicit.j0 k t325 a0_0 a0_1 a0_2 a0_3)))) else ((value_Integer.f k a0_0 a0_1 a0_2 a0_3).bind fun bt322 => (some (bt322.1, bt322.2)))
theorem value_explicit.mono_l : ∀ k, (∀ y0 y1 y2 y3 y4, LeO (value_explicit.j0 k y0 y1 y2 y3 y4) (value_explicit.j0 (k + 1) y0 y1 y2 y3 y4))
 | 0 => fun _ _ _ _ _ r h => by simp [value_explicit.j0] at h
 | k + 1 => by
  have ih0 := value_explicit.mono_l k
  ·intro y0 y1 y2 y3 y4
   unfold value_explicit.j0
   repeat' first
   | (with_reducible exact ih0 _ _ _ _ _)
   | (with_reducible exact value_Integer.mono _ _ _ _ _)
   | (with_reducible exact value_parse.mono _ _ _)
   | (with_reducible exact LeO.refl _)
   | (with_reducible exact LeO.none _)
   | (with_reducible refine LeO.ite ?_ ?_)
   | (with_reducible refine LeO.bind ?_ (fun _ => ?_))
   | exact ih0 _ _ _ _ _
   | exact value_Integer.mono _ _ _ _ _
   | exact value_parse.mono _ _ _
   | exact LeO.none _
   | refine LeO.ite ?_ ?_
   | refine LeO.bind ?_ (fun _ => ?_)
theorem value_explicit.mono : ∀ a0 a1 a2 a3 k, LeO (value_explicit.f k a0 a1 a2 a3) (value_explicit.f (k + 1) a0 a1 a2 a3) := by
 intro a0 a1 a2 a3 k
 have ih0 := value_explicit.mono_l k
 unfold value_explicit.f
 repeat' first
   | (with_reducible exact ih0 _ _ _ _ _)
   | (with_reducible exact value_Integer.mono _ _ _ _ _)
   | (with_reducible exact value_parse.mono _ _ _)
   | (with_reducible exact LeO.refl _)
   | (with_reducible exact LeO.none _)
   | (with_reducible refine LeO.ite ?_ ?_)
   | (with_reducible refine LeO.bind ?_ (fun _ => ?_))
   | exact ih0 _ _ _ _ _
   | exact value_Integer.mono _ _ _ _ _
   | exact value_parse.mono _ _ _
   | exact LeO.none _
   | refine LeO.ite ?_ ?_
   | refine LeO.bind ?_ (fun _ => ?_)
set_option maxHeartbeats 8000000 in
set_option maxRecDepth 100000 in
theorem value_explicit.calls (k : Nat) (a0_0 : Int) (a0_1 : Int) (a0_2 : ByteArray) (a0_3 : Int) (r1 : Int) (r2 : Int) (w : World) (h : value_explicit.f k a0_0 a0_1 a0_2 a0_3 = some (r1, r2)) :
  Calls Tryd.prog 45 #[.agg #[.int .i64 a0_0, .int .u64 a0_1, .string a0_2, .int .i64 a0_3]] w fun e w' => e = .returned (.tuple #[.int .u64 r1, .int .i64 r2]) ∧ Below w.heap.size w w' := by
 have hu24 := Tryd.underlying24
 have HB := Aside0.mk (Below.refl w.heap.size w)
 have H : (if a0_0 = 2 then ((strings_HasPrefix.f a0_2 (⟨#[48, 120]⟩ : ByteArray)).bind fun t324 => (if t324 = true then (value_explicit.j0 k true a0_0 a0_1 a0_2 a0_3) else ((strings_HasPrefix.f a0_2 (⟨#[48, 88]⟩ : ByteArray)).bind fun t325 => (value_explicit.j0 k t325 a0_0 a0_1 a0_2 a0_3)))) else ((value_Integer.f k a0_0 a0_1 a0_2 a0_3).bind fun bt322 => (some (bt322.1, bt322.2)))) = some (r1, r2) := h
 clear h
 by_cases c2 : a0_0 = 2
 ·rw [if_pos c2] at H
  have c2b0 : (a0_0 == 2) = true := beq_iff_eq.mpr c2
  have c2b1 : (a0_0 != 2) = false := bne_eq_false_iff_eq.mpr c2
  clear c2
  have HC3 := Aside0.mk H
  clear H
  go_enter Tryd.func45, Tryd.ntmps45
  go_upto_region 3 with (first | ((with_reducible refine gate_dst (N := 1) rfl ?_); refine box_event ?hg (N := 1) ?hd (cs := #[.int .i64 a0_0, .int .u64 a0_1, .string a0_2, .int .i64 a0_3]) (t := 24) ?hr ?_; (case hd => rfl); (case hg => rfl); (case hr => first | (go_simp; done) | (go_simp; rfl)); intro gb321 hg w4 hbox hb; have n0_ := Aside0.mk (below_step (by repeat (first | (with_reducible first | exact HB.out | apply bA_ | apply bN_ | apply bD_) | exact HB.out)) hb); have n1_ := Aside0.mk (hbox); have n2_ := Aside0.mk ((by rw [hg]; exact (below_size (by repeat (first | (with_reducible first | exact HB.out | apply bA_ | apply bN_ | apply bD_) | exact HB.out))) : w.heap.size ≤ gb321)); have n3_ := Aside0.mk ((by rw [hg]; exact (below_size (by repeat (first | (with_reducible first | exact HB.out | apply bA_ | apply bN_ | apply bD_) | exact HB.out))) : w.heap.size ≤ gb321)); clear HB; have HB := n0_; have BK321 := n1_; have GW321 := n2_; have GE321 := n3_; clear n0_ n1_ n2_ n3_; clear hb hbox hg; obtain ⟨hcz5_0, hcz5_1, hcz5_2, hcz5_3⟩ := cells4_ BK321.out; obtain ⟨hfz5_0, hfz5_1, hfz5_2, hfz5_3⟩ := froz4_ BK321.out))
  (try simp only [Act.put, sA_, sB_, sC_])
  go_cut [18] (fun v18 wc => ∃ (kq : Nat) (x18_2 : Bool), v18 = .bool x18_2 ∧ Aside0 (value_explicit.j0 kq x18_2 a0_0 a0_1 a0_2 a0_3 = some (r1, r2)) ∧ Aside0 (kq ≤ k) ∧ Aside0 (wc.heap[gb321]? = some (.cells #[.int .i64 a0_0, .int .u64 a0_1, .string a0_2, .int .i64 a0_3] 24 (0, 0))) ∧ Aside0 (Below w.heap.size w wc))
  case first =>
   have H := HC3.out
   clear HC3
   replace H := Option.bind_eq_some_iff.mp H
   obtain ⟨t324, A60, H⟩ := H
   replace H : (if t324 = true then (value_explicit.j0 k true a0_0 a0_1 a0_2 a0_3) else ((strings_HasPrefix.f a0_2 (⟨#[48, 88]⟩ : ByteArray)).bind fun t325 => (value_explicit.j0 k t325 a0_0 a0_1 a0_2 a0_3))) = some (r1, r2) := H
   have A6 := Aside0.mk A60
   clear A60
   by_cases c7 : t324 = true
   ·subst c7
    have H1 : (value_explicit.j0 k true a0_0 a0_1 a0_2 a0_3) = some (r1, r2) := by rw [if_pos rfl] at H; exact H
    clear H
    have H := H1
    clear H1
    have H' := Aside0.mk H
    clear H
    obtain ⟨hcz8_0, hcz8_1, hcz8_2, hcz8_3⟩ := cells4_ BK321.out
    obtain ⟨hfz8_0, hfz8_1, hfz8_2, hfz8_3⟩ := froz4_ BK321.out
    go_wp2_with (first | ((with_reducible refine gate_callee (f := 68) rfl ?_); refine goesL_ (some 13) rfl rfl Tryd.func68 (by kernel_rfl) rfl #[.string a0_2, .string (⟨#[48, 120]⟩ : ByteArray)] rfl (by (try simp only [List.map_toArray, List.map_cons, List.map_nil]); first | done | rfl | (simp only [List.length_drop, List.length_take]; rfl)) ?_; (with_reducible refine (strings_HasPrefix.calls a0_2 (⟨#[48, 120]⟩ : ByteArray) true _ A6.out).mono ?_); rintro e w' ⟨rfl, ⟨nd, rfl⟩⟩; refine ⟨_, rfl, ?_⟩))
    go_meet
    case rel => exact ⟨_, (true), (by first | rfl | (simp; done) | (simp [*]; done)), H', ⟨by first | omega | exact Nat.le_refl _⟩, ⟨by (with_reducible repeat (first | apply kN_ | apply kD_ | apply kA_)); exact BK321.out⟩, ⟨by repeat (first | (with_reducible first | exact HB.out | apply bA_ | apply bN_ | apply bD_ | refine bS_ ?_ GE321.out) | exact HB.out)⟩⟩
   ·replace c7 := Bool.eq_false_iff.mpr c7
    subst c7
    have H1 : ((strings_HasPrefix.f a0_2 (⟨#[48, 88]⟩ : ByteArray)).bind fun t325 => (value_explicit.j0 k t325 a0_0 a0_1 a0_2 a0_3)) = some (r1, r2) := by rw [if_neg (show ¬ (false = true) by decide)] at H; exact H
    clear H
    have H := H1
    clear H1
    replace H := Option.bind_eq_some_iff.mp H
    obtain ⟨t325, A90, H⟩ := H
    replace H : (value_explicit.j0 k t325 a0_0 a0_1 a0_2 a0_3) = some (r1, r2) := H
    have A9 := Aside0.mk A90
    clear A90
    have H' := Aside0.mk H
    clear H
    obtain ⟨hcz10_0, hcz10_1, hcz10_2, hcz10_3⟩ := cells4_ BK321.out
    obtain ⟨hfz10_0, hfz10_1, hfz10_2, hfz10_3⟩ := froz4_ BK321.out
    go_wp2_with (first | ((with_reducible refine gate_callee (f := 68) rfl ?_); refine goesL_ (some 13) rfl rfl Tryd.func68 (by kernel_rfl) rfl #[.string a0_2, .string (⟨#[48, 120]⟩ : ByteArray)] rfl (by (try simp only [List.map_toArray, List.map_cons, List.map_nil]); first | done | rfl | (simp only [List.length_drop, List.length_take]; rfl)) ?_; (with_reducible refine (strings_HasPrefix.calls a0_2 (⟨#[48, 120]⟩ : ByteArray) false _ A6.out).mono ?_); rintro e w' ⟨rfl, ⟨nd, rfl⟩⟩; refine ⟨_, rfl, ?_⟩) | (go_at_call 68; (with_reducible refine (strings_HasPrefix.calls a0_2 (⟨#[48, 88]⟩ : ByteArray) t325 _ A9.out).mono ?_); rintro e w' ⟨rfl, ⟨nd, rfl⟩⟩))
    go_meet
    case rel => exact ⟨_, (t325), (by first | rfl | (simp; done) | (simp [*]; done)), H', ⟨by first | omega | exact Nat.le_refl _⟩, ⟨by (with_reducible repeat (first | apply kN_ | apply kD_ | apply kA_)); exact BK321.out⟩, ⟨by repeat (first | (with_reducible first | exact HB.out | apply bA_ | apply bN_ | apply bD_ | refine bS_ ?_ GE321.out) | exact HB.out)⟩⟩
  case rest =>
   clear HC3
   try clear c2
   try clear c2b0
   try clear c2b1
   try clear p2
   try clear c4
   try clear c6
   try clear c7
   try clear hcz10_0 hcz10_1 hcz10_2 hcz10_3
   try clear hcz5_0 hcz5_1 hcz5_2 hcz5_3
   try clear hcz8_0 hcz8_1 hcz8_2 hcz8_3
   try clear hfz10_0 hfz10_1 hfz10_2 hfz10_3
   try clear hfz5_0 hfz5_1 hfz5_2 hfz5_3
   try clear hfz8_0 hfz8_1 hfz8_2 hfz8_3
   obtain ⟨kq, x18_2, rfl, HA, HJ2, BK321, HB⟩ := hcut
   cases kq with
   | zero => exact absurd HA.out (by simp [value_explicit.j0])
   | succ kj2 =>
    have H := HA.out
    clear HA
    simp only [value_explicit.j0] at H
    by_cases c11 : x18_2 = true
    ·subst c11
     have H1 : (if 2 ≤ (a0_2.size : Int) then ((value_parse.f kj2 (a0_2.extract 2 a0_2.size) 16).bind fun bt326 => (some (bt326.1, bt326.2))) else (none)) = some (r1, r2) := by rw [if_pos rfl] at H; exact H
     clear H
     have H := H1
     clear H1
     by_cases c12 : 2 ≤ (a0_2.size : Int)
     ·rw [if_pos c12] at H
      have c12b0 := eq_true c12
      have c12b1 : decide (2 ≤ (a0_2.size : Int)) = true := decide_eq_true c12
      clear c12
      replace H := Option.bind_eq_some_iff.mp H
      obtain ⟨⟨t326, t327⟩, A130, H⟩ := H
      replace H : (some (t326, t327)) = some (r1, r2) := H
      have A13 := Aside0.mk A130
      clear A130
      simp only [Option.some.injEq, Prod.mk.injEq] at H
      obtain ⟨rfl, rfl⟩ := H
      obtain ⟨hcz14_0, hcz14_1, hcz14_2, hcz14_3⟩ := cells4_ BK321.out
      obtain ⟨hfz14_0, hfz14_1, hfz14_2, hfz14_3⟩ := froz4_ BK321.out
      go_wp2_with (first | ((with_reducible refine gate_callee (f := 72) rfl ?_); refine goesL_ (some 22) rfl rfl Tryd.func72 (by kernel_rfl) rfl #[.string (a0_2.extract 2 a0_2.size), .int .i64 16] rfl (by (try simp only [List.map_toArray, List.map_cons, List.map_nil]); first | done | rfl | (simp only [List.length_drop, List.length_take]; rfl)) ?_; (with_reducible refine (value_parse.calls kj2 (a0_2.extract 2 a0_2.size) 16 t326 t327 _ A13.out).mono ?_); rintro e w' ⟨rfl, ⟨nd, rfl⟩⟩; refine ⟨_, rfl, ?_⟩))
      go_ret2
      exact ⟨by first | rfl | (simp [errW_none, errW_some] <;> rfl) | (simp [*, errW_none, errW_some] <;> rfl), by repeat (first | (with_reducible first | exact HB.out | apply bA_ | apply bN_ | apply bD_ | refine bS_ ?_ GE321.out) | exact HB.out)⟩
     ·rw [if_neg c12] at H
      exact absurd H (by simp)
    ·replace c11 := Bool.eq_false_iff.mpr c11
     subst c11
     have H1 : ((value_parse.f kj2 a0_2 10).bind fun bt328 => (some (bt328.1, bt328.2))) = some (r1, r2) := by rw [if_neg (show ¬ (false = true) by decide)] at H; exact H
     clear H
     have H := H1
     clear H1
     replace H := Option.bind_eq_some_iff.mp H
     obtain ⟨⟨t328, t329⟩, A150, H⟩ := H
     replace H : (some (t328, t329)) = some (r1, r2) := H
     have A15 := Aside0.mk A150
     clear A150
     simp only [Option.some.injEq, Prod.mk.injEq] at H
     obtain ⟨rfl, rfl⟩ := H
     obtain ⟨hcz16_0, hcz16_1, hcz16_2, hcz16_3⟩ := cells4_ BK321.out
     obtain ⟨hfz16_0, hfz16_1, hfz16_2, hfz16_3⟩ := froz4_ BK321.out
     go_wp2_with (first | ((with_reducible refine gate_callee (f := 72) rfl ?_); refine goesL_ (some 27) rfl rfl Tryd.func72 (by kernel_rfl) rfl #[.string a0_2, .int .i64 10] rfl (by (try simp only [List.map_toArray, List.map_cons, List.map_nil]); first | done | rfl | (simp only [List.length_drop, List.length_take]; rfl)) ?_; (with_reducible refine (value_parse.calls kj2 a0_2 10 t328 t329 _ A15.out).mono ?_); rintro e w' ⟨rfl, ⟨nd, rfl⟩⟩; refine ⟨_, rfl, ?_⟩))
     go_ret2
     exact ⟨by first | rfl | (simp [errW_none, errW_some] <;> rfl) | (simp [*, errW_none, errW_some] <;> rfl), by repeat (first | (with_reducible first | exact HB.out | apply bA_ | apply bN_ | apply bD_ | refine bS_ ?_ GE321.out) | exact HB.out)⟩
 ·rw [if_neg c2] at H
  have c2b0 : (a0_0 == 2) = false := beq_eq_false_iff_ne.mpr c2
  have c2b1 : (a0_0 != 2) = true := bne_iff_ne.mpr c2
  replace H := Option.bind_eq_some_iff.mp H
  obtain ⟨⟨t322, t323⟩, A170, H⟩ := H
  replace H : (some (t322, t323)) = some (r1, r2) := H
  have A17 := Aside0.mk A170
  clear A170
  simp only [Option.some.injEq, Prod.mk.injEq] at H
  obtain ⟨rfl, rfl⟩ := H
  go_enter Tryd.func45, Tryd.ntmps45
  go_wp2_with (first | ((with_reducible refine gate_dst (N := 1) rfl ?_); refine box_event ?hg (N := 1) ?hd (cs := #[.int .i64 a0_0, .int .u64 a0_1, .string a0_2, .int .i64 a0_3]) (t := 24) ?hr ?_; (case hd => rfl); (case hg => rfl); (case hr => first | (go_simp; done) | (go_simp; rfl)); intro gb321 hg w18 hbox hb; have n0_ := Aside0.mk (below_step (by repeat (first | (with_reducible first | exact HB.out | apply bA_ | apply bN_ | apply bD_) | exact HB.out)) hb); have n1_ := Aside0.mk (hbox); have n2_ := Aside0.mk ((by rw [hg]; exact (below_size (by repeat (first | (with_reducible first | exact HB.out | apply bA_ | apply bN_ | apply bD_) | exact HB.out))) : w.heap.size ≤ gb321)); have n3_ := Aside0.mk ((by rw [hg]; exact (below_size (by repeat (first | (with_reducible first | exact HB.out | apply bA_ | apply bN_ | apply bD_) | exact HB.out))) : w.heap.size ≤ gb321)); clear HB; have HB := n0_; have BK321 := n1_; have GW321 := n2_; have GE321 := n3_; clear n0_ n1_ n2_ n3_; clear hb hbox hg; obtain ⟨hcz19_0, hcz19_1, hcz19_2, hcz19_3⟩ := cells4_ BK321.out; obtain ⟨hfz19_0, hfz19_1, hfz19_2, hfz19_3⟩ := froz4_ BK321.out) | ((with_reducible refine gate_callee (f := 22) rfl ?_); refine goesL_ (some 8) rfl rfl Tryd.func22 (by kernel_rfl) rfl #[.agg #[.int .i64 a0_0, .int .u64 a0_1, .string a0_2, .int .i64 a0_3]] rfl (by (try simp only [List.map_toArray, List.map_cons, List.map_nil]); first | done | rfl | (simp only [List.length_drop, List.length_take]; rfl)) ?_; (with_reducible refine (value_Integer.calls k a0_0 a0_1 a0_2 a0_3 t322 t323 _ A17.out).mono ?_); rintro e w20 ⟨rfl, hb⟩; refine ⟨_, rfl, ?_⟩; have n0_ := Aside0.mk (blk_below (g := gb321) (o := .cells #[.int .i64 a0_0, .int .u64 a0_1, .string a0_2, .int .i64 a0_3] 24 (0, 0)) (by (with_reducible repeat (first | apply kN_ | apply kD_ | apply kA_)); exact BK321.out) hb); have n1_ := Aside0.mk (below_step (by repeat (first | (with_reducible first | exact HB.out | apply bA_ | apply bN_ | apply bD_ | refine bS_ ?_ GE321.out) | exact HB.out)) hb); clear BK321; clear HB; have BK321 := n0_; have HB := n1_; clear n0_ n1_; (try clear hb); (try clear hb2); (try clear hk); (try clear hi)))
  go_ret2
  exact ⟨by first | rfl | (simp [errW_none, errW_some] <;> rfl) | (simp [*, errW_none, errW_some] <;> rfl), by repeat (first | (with_reducible first | exact HB.out | apply bA_ | apply bN_ | apply bD_ | refine bS_ ?_ GE321.out) | exact HB.out)⟩

/-! ### value_Unary: function 23 -/
def value_Unary.f (k : Nat) (a0 : Int) (a1_0 : Int) (a1_1 : Int) (a1_2 : ByteArray) (a1_3 : Int) : Option (Int × Int × ByteArray × Int × Int) := (value_Valid.f a1_0 a1_1 a1_2 a1_3).bind fun t332 => (if t332 = true then (if a0 = 77 then ((value_Integer.f k a1_0 a1_1 a1_2 a1_3).bind fun bt333 => ((value_number.f (Go.bits .xor .u64 18446744073709551615 bt333.1) bt333.2).bind fun bt335 => (some (bt335.1, bt335.2.1, bt335.2.2.1, bt335.2.2.2.1, bt335.2.2.2.2)))) else (if a0 = 78 then ((value_Integer.f k a1_0 a1_1 a1_2 a1_3).bind fun bt340 => (if bt340.2 = 0 then ((value_boolean.f (bt340.1 == 0)).bind fun bt342 => (some (bt342.1, bt342.2.1, bt342.2.2.1, bt342.2.2.2, 0))) else (some (0, 0, (⟨#[]⟩ : ByteArray), 0, bt340.2)))) else (if a0 = 79 then (if a1_0 = 2 then ((value_integer.f (IntKind.u64.wrap ((a1_2.size : Int)))).bind fun bt346 => (some (bt346.1, bt346.2.1, bt346.2.2.1, bt346.2.2.2, 0))) else (if a1_0 = 3 then ((value_integer.f (IntKind.u64.wrap ((a1_2.size : Int)))).bind fun bt350 => (some (bt350.1, bt350.2.1, bt350.2.2.1, bt350.2.2.2, 0))) else (some (0, 0, (⟨#[]⟩ : ByteArray), 0, 10)))) else (if a0 = 80 then ((value_explicit.f k a1_0 a1_1 a1_2 a1_3).bind fun bt354 => ((value_number.f bt354.1 bt354.2).bind fun bt356 => (some (bt356.1, bt356.2.1, bt356.2.2.1, bt356.2.2.2.1, bt356.2.2.2.2)))) else (if a0 = 81 then ((value_Convert.f k a1_0 a1_1 a1_2 a1_3 3).bind fun bt361 => (some (bt361.1, bt361.2.1, bt361.2.2.1, bt361.2.2.2.1, bt361.2.2.2.2))) else (if a0 = 82 then (none) else (if a0 = 83 then (none) else (some (0, 0, (⟨#[]⟩ : ByteArray), 0, 1))))))))) else (some (0, 0, (⟨#[]⟩ : ByteArray), 0, 1)))
theorem value_Unary.mono : ∀ a0 a1 a2 a3 a4 k, LeO (value_Unary.f k a0 a1 a2 a3 a4) (value_Unary.f (k + 1) a0 a1 a2 a3 a4) := by
 intro a0 a1 a2 a3 a4 k
 unfold value_Unary.f
 repeat' first
   | (with_reducible exact value_Convert.mono _ _ _ _ _ _)
   | (with_reducible exact value_Integer.mono _ _ _ _ _)
   | (with_reducible exact value_explicit.mono _ _ _ _ _)
   | (with_reducible exact LeO.refl _)
   | (with_reducible exact LeO.none _)
   | (with_reducible refine LeO.ite ?_ ?_)
   | (with_reducible refine LeO.bind ?_ (fun _ => ?_))
   | exact value_Convert.mono _ _ _ _ _ _
   | exact value_Integer.mono _ _ _ _ _
   | exact value_explicit.mono _ _ _ _ _
   | exact LeO.none _
   | refine LeO.ite ?_ ?_
   | refine LeO.bind ?_ (fun _ => ?_)
set_option maxHeartbeats 8000000 in
set_option maxRecDepth 100000 in
theorem value_Unary.calls (k : Nat) (a0 : Int) (a1_0 : Int) (a1_1 : Int) (a1_2 : ByteArray) (a1_3 : Int) (r1 : Int) (r2 : Int) (r3 : ByteArray) (r4 : Int) (r5 : Int) (w : World) (hT_ : w.cell? ⟨6, 15, none⟩ = some (.int .u8 4)) (h : value_Unary.f k a0 a1_0 a1_1 a1_2 a1_3 = some (r1, r2, r3, r4, r5)) :
  Calls Tryd.prog 23 #[.int .i64 a0, .agg #[.int .i64 a1_0, .int .u64 a1_1, .string a1_2, .int .i64 a1_3]] w fun e w' => e = .returned (.tuple #[.agg #[.int .i64 r1, .int .u64 r2, .string r3, .int .i64 r4], .int .i64 r5]) ∧ Below w.heap.size w w' := by
 have HTT_ := Aside0.mk hT_
 clear hT_
 have hu24 := Tryd.underlying24
 have HB := Aside0.mk (Below.refl w.heap.size w)
 have H : ((value_Valid.f a1_0 a1_1 a1_2 a1_3).bind fun t332 => (if t332 = true then (if a0 = 77 then ((value_Integer.f k a1_0 a1_1 a1_2 a1_3).bind fun bt333 => ((value_number.f (Go.bits .xor .u64 18446744073709551615 bt333.1) bt333.2).bind fun bt335 => (some (bt335.1, bt335.2.1, bt335.2.2.1, bt335.2.2.2.1, bt335.2.2.2.2)))) else (if a0 = 78 then ((value_Integer.f k a1_0 a1_1 a1_2 a1_3).bind fun bt340 => (if bt340.2 = 0 then ((value_boolean.f (bt340.1 == 0)).bind fun bt342 => (some (bt342.1, bt342.2.1, bt342.2.2.1, bt342.2.2.2, 0))) else (some (0, 0, (⟨#[]⟩ : ByteArray), 0, bt340.2)))) else (if a0 = 79 then (if a1_0 = 2 then ((value_integer.f (IntKind.u64.wrap ((a1_2.size : Int)))).bind fun bt346 => (some (bt346.1, bt346.2.1, bt346.2.2.1, bt346.2.2.2, 0))) else (if a1_0 = 3 then ((value_integer.f (IntKind.u64.wrap ((a1_2.size : Int)))).bind fun bt350 => (some (bt350.1, bt350.2.1, bt350.2.2.1, bt350.2.2.2, 0))) else (some (0, 0, (⟨#[]⟩ : ByteArray), 0, 10)))) else (if a0 = 80 then ((value_explicit.f k a1_0 a1_1 a1_2 a1_3).bind fun bt354 => ((value_number.f bt354.1 bt354.2).bind fun bt356 => (some (bt356.1, bt356.2.1, bt356.2.2.1, bt356.2.2.2.1, bt356.2.2.2.2)))) else (if a0 = 81 then ((value_Convert.f k a1_0 a1_1 a1_2 a1_3 3).bind fun bt361 => (some (bt361.1, bt361.2.1, bt361.2.2.1, bt361.2.2.2.1, bt361.2.2.2.2))) else (if a0 = 82 then (none) else (if a0 = 83 then (none) else (some (0, 0, (⟨#[]⟩ : ByteArray), 0, 1))))))))) else (some (0, 0, (⟨#[]⟩ : ByteArray), 0, 1)))) = some (r1, r2, r3, r4, r5) := h
 clear h
 replace H := Option.bind_eq_some_iff.mp H
 obtain ⟨t332, A30, H⟩ := H
 replace H : (if t332 = true then (if a0 = 77 then ((value_Integer.f k a1_0 a1_1 a1_2 a1_3).bind fun bt333 => ((value_number.f (Go.bits .xor .u64 18446744073709551615 bt333.1) bt333.2).bind fun bt335 => (some (bt335.1, bt335.2.1, bt335.2.2.1, bt335.2.2.2.1, bt335.2.2.2.2)))) else (if a0 = 78 then ((value_Integer.f k a1_0 a1_1 a1_2 a1_3).bind fun bt340 => (if bt340.2 = 0 then ((value_boolean.f (bt340.1 == 0)).bind fun bt342 => (some (bt342.1, bt342.2.1, bt342.2.2.1, bt342.2.2.2, 0))) else (some (0, 0, (⟨#[]⟩ : ByteArray), 0, bt340.2)))) else (if a0 = 79 then (if a1_0 = 2 then ((value_integer.f (IntKind.u64.wrap ((a1_2.size : Int)))).bind fun bt346 => (some (bt346.1, bt346.2.1, bt346.2.2.1, bt346.2.2.2, 0))) else (if a1_0 = 3 then ((value_integer.f (IntKind.u64.wrap ((a1_2.size : Int)))).bind fun bt350 => (some (bt350.1, bt350.2.1, bt350.2.2.1, bt350.2.2.2, 0))) else (some (0, 0, (⟨#[]⟩ : ByteArray), 0, 10)))) else (if a0 = 80 then ((value_explicit.f k a1_0 a1_1 a1_2 a1_3).bind fun bt354 => ((value_number.f bt354.1 bt354.2).bind fun bt356 => (some (bt356.1, bt356.2.1, bt356.2.2.1, bt356.2.2.2.1, bt356.2.2.2.2)))) else (if a0 = 81 then ((value_Convert.f k a1_0 a1_1 a1_2 a1_3 3).bind fun bt361 => (some (bt361.1, bt361.2.1, bt361.2.2.1, bt361.2.2.2.1, bt361.2.2.2.2))) else (if a0 = 82 then (none) else (if a0 = 83 then (none) else (some (0, 0, (⟨#[]⟩ : ByteArray), 0, 1))))))))) else (some (0, 0, (⟨#[]⟩ : ByteArray), 0, 1))) = some (r1, r2, r3, r4, r5) := H
 have A3 := Aside0.mk A30
 clear A30
 by_cases c4 : t332 = true
 ·subst c4
  have H1 : (if a0 = 77 then ((value_Integer.f k a1_0 a1_1 a1_2 a1_3).bind fun bt333 => ((value_number.f (Go.bits .xor .u64 18446744073709551615 bt333.1) bt333.2).bind fun bt335 => (some (bt335.1, bt335.2.1, bt335.2.2.1, bt335.2.2.2.1, bt335.2.2.2.2)))) else (if a0 = 78 then ((value_Integer.f k a1_0 a1_1 a1_2 a1_3).bind fun bt340 => (if bt340.2 = 0 then ((value_boolean.f (bt340.1 == 0)).bind fun bt342 => (some (bt342.1, bt342.2.1, bt342.2.2.1, bt342.2.2.2, 0))) else (some (0, 0, (⟨#[]⟩ : ByteArray), 0, bt340.2)))) else (if a0 = 79 then (if a1_0 = 2 then ((value_integer.f (IntKind.u64.wrap ((a1_2.size : Int)))).bind fun bt346 => (some (bt346.1, bt346.2.1, bt346.2.2.1, bt346.2.2.2, 0))) else (if a1_0 = 3 then ((value_integer.f (IntKind.u64.wrap ((a1_2.size : Int)))).bind fun bt350 => (some (bt350.1, bt350.2.1, bt350.2.2.1, bt350.2.2.2, 0))) else (some (0, 0, (⟨#[]⟩ : ByteArray), 0, 10)))) else (if a0 = 80 then ((value_explicit.f k a1_0 a1_1 a1_2 a1_3).bind fun bt354 => ((value_number.f bt354.1 bt354.2).bind fun bt356 => (some (bt356.1, bt356.2.1, bt356.2.2.1, bt356.2.2.2.1, bt356.2.2.2.2)))) else (if a0 = 81 then ((value_Convert.f k a1_0 a1_1 a1_2 a1_3 3).bind fun bt361 => (some (bt361.1, bt361.2.1, bt361.2.2.1, bt361.2.2.2.1, bt361.2.2.2.2))) else (if a0 = 82 then (none) else (if a0 = 83 then (none) else (some (0, 0, (⟨#[]⟩ : ByteArray), 0, 1))))))))) = some (r1, r2, r3, r4, r5) := by rw [if_pos rfl] at H; exact H
  clear H
  have H := H1
  clear H1
  by_cases c5 : a0 = 77
  ·rw [if_pos c5] at H
   have c5b0 : (a0 == 77) = true := beq_iff_eq.mpr c5
   have c5b1 : (a0 != 77) = false := bne_eq_false_iff_eq.mpr c5
   clear c5
   replace H := Option.bind_eq_some_iff.mp H
   obtain ⟨⟨t333, t334⟩, A60, H⟩ := H
   replace H : ((value_number.f (Go.bits .xor .u64 18446744073709551615 t333) t334).bind fun bt335 => (some (bt335.1, bt335.2.1, bt335.2.2.1, bt335.2.2.2.1, bt335.2.2.2.2))) = some (r1, r2, r3, r4, r5) := H
   have A6 := Aside0.mk A60
   clear A60
   replace H := Option.bind_eq_some_iff.mp H
   obtain ⟨⟨t335, t336, t337, t338, t339⟩, A70, H⟩ := H
   replace H : (some (t335, t336, t337, t338, t339)) = some (r1, r2, r3, r4, r5) := H
   have A7 := Aside0.mk A70
   clear A70
   simp only [Option.some.injEq, Prod.mk.injEq] at H
   obtain ⟨rfl, rfl, rfl, rfl, rfl⟩ := H
   go_enter Tryd.func23, Tryd.ntmps23
   go_wp2_with (first | ((with_reducible refine gate_dst (N := 3) rfl ?_); refine box_event ?hg (N := 3) ?hd (cs := #[.int .i64 a1_0, .int .u64 a1_1, .string a1_2, .int .i64 a1_3]) (t := 24) ?hr ?_; (case hd => rfl); (case hg => rfl); (case hr => first | (go_simp; done) | (go_simp; rfl)); intro gb330 hg w8 hbox hb; have n0_ := Aside0.mk (below_step (by repeat (first | (with_reducible first | exact HB.out | apply bA_ | apply bN_ | apply bD_) | exact HB.out)) hb); have n1_ := Aside0.mk (hbox); have n2_ := Aside0.mk ((by rw [hg]; exact (below_size (by repeat (first | (with_reducible first | exact HB.out | apply bA_ | apply bN_ | apply bD_) | exact HB.out))) : w.heap.size ≤ gb330)); have n3_ := Aside0.mk ((by rw [hg]; exact (below_size (by repeat (first | (with_reducible first | exact HB.out | apply bA_ | apply bN_ | apply bD_) | exact HB.out))) : w.heap.size ≤ gb330)); clear HB; have HB := n0_; have BK330 := n1_; have GW330 := n2_; have GE330 := n3_; clear n0_ n1_ n2_ n3_; clear hb hbox hg) | ((with_reducible refine gate_dst (N := 4) rfl ?_); refine box_event ?hg (N := 4) ?hd (cs := #[.int .i64 0, .int .u64 0, .string (⟨#[]⟩ : ByteArray), .int .i64 0]) (t := 24) ?hr ?_; (case hd => rfl); (case hg => rfl); (case hr => first | (go_simp; done) | (go_simp; rfl)); intro gb331 hg w9 hbox hb; have n0_ := Aside0.mk (blk_below (g := gb330) (o := .cells #[.int .i64 a1_0, .int .u64 a1_1, .string a1_2, .int .i64 a1_3] 24 (0, 0)) (by (with_reducible repeat (first | apply kN_ | apply kD_ | apply kA_)); exact BK330.out) hb); have n1_ := Aside0.mk (below_step (by repeat (first | (with_reducible first | exact HB.out | apply bA_ | apply bN_ | apply bD_ | refine bS_ ?_ GE330.out) | exact HB.out)) hb); have n2_ := Aside0.mk (hbox); have n3_ := Aside0.mk ((by rw [hg]; exact (below_size (by repeat (first | (with_reducible first | exact HB.out | apply bA_ | apply bN_ | apply bD_ | refine bS_ ?_ GE330.out) | exact HB.out))) : w.heap.size ≤ gb331)); have n4_ := Aside0.mk ((by rw [hg]; exact (below_size (by repeat (first | (with_reducible first | exact HB.out | apply bA_ | apply bN_ | apply bD_ | refine bS_ ?_ GE330.out) | exact HB.out))) : w.heap.size ≤ gb331)); have n5_ := Aside0.mk ((by rw [hg]; exact Nat.ne_of_lt (blk_lt (g := gb330) (o := .cells #[.int .i64 a1_0, .int .u64 a1_1, .string a1_2, .int .i64 a1_3] 24 (0, 0)) (by (with_reducible repeat (first | apply kN_ | apply kD_ | apply kA_)); exact BK330.out)) : gb330 ≠ gb331)); have n6_ := Aside0.mk ((by rw [hg]; exact Nat.ne_of_gt (blk_lt (g := gb330) (o := .cells #[.int .i64 a1_0, .int .u64 a1_1, .string a1_2, .int .i64 a1_3] 24 (0, 0)) (by (with_reducible repeat (first | apply kN_ | apply kD_ | apply kA_)); exact BK330.out)) : gb331 ≠ gb330)); clear BK330; clear HB; have BK330 := n0_; have HB := n1_; have BK331 := n2_; have GW331 := n3_; have GE331 := n4_; have NB330_331 := n5_; have NB331_330 := n6_; clear n0_ n1_ n2_ n3_ n4_ n5_ n6_; clear hb hbox hg; have hnb10 := NB330_331.out; have hnc10 := NB331_330.out; obtain ⟨hcz11_0, hcz11_1, hcz11_2, hcz11_3⟩ := cells4_ BK330.out; obtain ⟨hfz11_0, hfz11_1, hfz11_2, hfz11_3⟩ := froz4_ BK330.out) | ((with_reducible refine gate_callee (f := 25) rfl ?_); refine goesL_ (some 11) rfl rfl Tryd.func25 (by kernel_rfl) rfl #[.agg #[.int .i64 a1_0, .int .u64 a1_1, .string a1_2, .int .i64 a1_3]] rfl (by (try simp only [List.map_toArray, List.map_cons, List.map_nil]); first | done | rfl | (simp only [List.length_drop, List.length_take]; rfl)) ?_; (with_reducible refine (value_Valid.calls a1_0 a1_1 a1_2 a1_3 true _ A3.out).mono ?_); rintro e w12 ⟨rfl, hb⟩; refine ⟨_, rfl, ?_⟩; have n0_ := Aside0.mk (blk_below (g := gb330) (o := .cells #[.int .i64 a1_0, .int .u64 a1_1, .string a1_2, .int .i64 a1_3] 24 (0, 0)) (by (with_reducible repeat (first | apply kN_ | apply kD_ | apply kA_)); exact BK330.out) hb); have n1_ := Aside0.mk (blk_below (g := gb331) (o := .cells #[.int .i64 0, .int .u64 0, .string (⟨#[]⟩ : ByteArray), .int .i64 0] 24 (0, 0)) (by (with_reducible repeat (first | apply kN_ | apply kD_ | apply kA_)); exact BK331.out) hb); have n2_ := Aside0.mk (below_step (by repeat (first | (with_reducible first | exact HB.out | apply bA_ | apply bN_ | apply bD_ | refine bS_ ?_ GE330.out | refine bS_ ?_ GE331.out) | exact HB.out)) hb); clear BK330; clear BK331; clear HB; have BK330 := n0_; have BK331 := n1_; have HB := n2_; clear n0_ n1_ n2_; (try clear hb); (try clear hb2); (try clear hk); (try clear hi); obtain ⟨hcz13_0, hcz13_1, hcz13_2, hcz13_3⟩ := cells4_ BK330.out; obtain ⟨hfz13_0, hfz13_1, hfz13_2, hfz13_3⟩ := froz4_ BK330.out) | ((with_reducible refine gate_callee (f := 22) rfl ?_); refine goesL_ (some 19) rfl rfl Tryd.func22 (by kernel_rfl) rfl #[.agg #[.int .i64 a1_0, .int .u64 a1_1, .string a1_2, .int .i64 a1_3]] rfl (by (try simp only [List.map_toArray, List.map_cons, List.map_nil]); first | done | rfl | (simp only [List.length_drop, List.length_take]; rfl)) ?_; (with_reducible refine (value_Integer.calls k a1_0 a1_1 a1_2 a1_3 t333 t334 _ A6.out).mono ?_); rintro e w14 ⟨rfl, hb⟩; refine ⟨_, rfl, ?_⟩; have n0_ := Aside0.mk (blk_below (g := gb330) (o := .cells #[.int .i64 a1_0, .int .u64 a1_1, .string a1_2, .int .i64 a1_3] 24 (0, 0)) (by (with_reducible repeat (first | apply kN_ | apply kD_ | apply kA_)); exact BK330.out) hb); have n1_ := Aside0.mk (blk_below (g := gb331) (o := .cells #[.int .i64 0, .int .u64 0, .string (⟨#[]⟩ : ByteArray), .int .i64 0] 24 (0, 0)) (by (with_reducible repeat (first | apply kN_ | apply kD_ | apply kA_)); exact BK331.out) hb); have n2_ := Aside0.mk (below_step (by repeat (first | (with_reducible first | exact HB.out | apply bA_ | apply bN_ | apply bD_ | refine bS_ ?_ GE330.out | refine bS_ ?_ GE331.out) | exact HB.out)) hb); clear BK330; clear BK331; clear HB; have BK330 := n0_; have BK331 := n1_; have HB := n2_; clear n0_ n1_ n2_; (try clear hb); (try clear hb2); (try clear hk); (try clear hi)) | ((with_reducible refine gate_callee (f := 42) rfl ?_); refine goesL_ (some 25) rfl rfl Tryd.func42 (by kernel_rfl) rfl #[.int .u64 (Go.bits .xor .u64 18446744073709551615 t333), .int .i64 t334] rfl (by (try simp only [List.map_toArray, List.map_cons, List.map_nil]); first | done | rfl | (simp only [List.length_drop, List.length_take]; rfl)) ?_; (with_reducible refine (value_number.calls (Go.bits .xor .u64 18446744073709551615 t333) t334 t335 t336 t337 t338 t339 _ A7.out).mono ?_); rintro e w15 ⟨rfl, hb⟩; refine ⟨_, rfl, ?_⟩; have n0_ := Aside0.mk (blk_below (g := gb330) (o := .cells #[.int .i64 a1_0, .int .u64 a1_1, .string a1_2, .int .i64 a1_3] 24 (0, 0)) (by (with_reducible repeat (first | apply kN_ | apply kD_ | apply kA_)); exact BK330.out) hb); have n1_ := Aside0.mk (blk_below (g := gb331) (o := .cells #[.int .i64 0, .int .u64 0, .string (⟨#[]⟩ : ByteArray), .int .i64 0] 24 (0, 0)) (by (with_reducible repeat (first | apply kN_ | apply kD_ | apply kA_)); exact BK331.out) hb); have n2_ := Aside0.mk (below_step (by repeat (first | (with_reducible first | exact HB.out | apply bA_ | apply bN_ | apply bD_ | refine bS_ ?_ GE330.out | refine bS_ ?_ GE331.out) | exact HB.out)) hb); clear BK330; clear BK331; clear HB; have BK330 := n0_; have BK331 := n1_; have HB := n2_; clear n0_ n1_ n2_; (try clear hb); (try clear hb2); (try clear hk); (try clear hi); obtain ⟨hcz16_0, hcz16_1, hcz16_2, hcz16_3⟩ := cells4_ BK331.out; obtain ⟨hfz16_0, hfz16_1, hfz16_2, hfz16_3⟩ := froz4_ BK331.out))
   refine bodyPost_ret (results_ct rfl _ _ gb331 24 #[.int .i64 t335, .int .u64 t336, .string t337, .int .i64 t338] (0, 0) _ rfl (by (with_reducible repeat (first | apply kN_ | apply kD_ | apply kA_)); refine blk_put (cs := #[.int .i64 t335, .int .u64 t336, .string t337, .int .i64 0]) ?_ 3 _ rfl; (with_reducible repeat (first | apply kN_ | apply kD_ | apply kA_)); refine blk_put (cs := #[.int .i64 t335, .int .u64 t336, .string (⟨#[]⟩ : ByteArray), .int .i64 0]) ?_ 2 _ rfl; (with_reducible repeat (first | apply kN_ | apply kD_ | apply kA_)); refine blk_put (cs := #[.int .i64 t335, .int .u64 0, .string (⟨#[]⟩ : ByteArray), .int .i64 0]) ?_ 1 _ rfl; (with_reducible repeat (first | apply kN_ | apply kD_ | apply kA_)); refine blk_put (cs := #[.int .i64 0, .int .u64 0, .string (⟨#[]⟩ : ByteArray), .int .i64 0]) ?_ 0 _ rfl; (with_reducible repeat (first | apply kN_ | apply kD_ | apply kA_)); exact BK331.out) Tryd.underlying24 rfl (by kernel_rfl)) rfl ?_
   exact ⟨by first | rfl | (simp [errW_none, errW_some] <;> rfl) | (simp [*, errW_none, errW_some] <;> rfl), by repeat (first | (with_reducible first | exact HB.out | apply bA_ | apply bN_ | apply bD_ | refine bS_ ?_ GE330.out | refine bS_ ?_ GE331.out) | exact HB.out)⟩
  ·rw [if_neg c5] at H
   have c5b0 : (a0 == 77) = false := beq_eq_false_iff_ne.mpr c5
   have c5b1 : (a0 != 77) = true := bne_iff_ne.mpr c5
   by_cases c17 : a0 = 78
   ·rw [if_pos c17] at H
    have c17b0 : (a0 == 78) = true := beq_iff_eq.mpr c17
    have c17b1 : (a0 != 78) = false := bne_eq_false_iff_eq.mpr c17
    clear c17
    replace H := Option.bind_eq_some_iff.mp H
    obtain ⟨⟨t340, t341⟩, A180, H⟩ := H
    replace H : (if t341 = 0 then ((value_boolean.f (t340 == 0)).bind fun bt342 => (some (bt342.1, bt342.2.1, bt342.2.2.1, bt342.2.2.2, 0))) else (some (0, 0, (⟨#[]⟩ : ByteArray), 0, t341))) = some (r1, r2, r3, r4, r5) := H
    have A18 := Aside0.mk A180
    clear A180
    by_cases c19 : t341 = 0
    ·rw [if_pos c19] at H
     have c19b0 : (t341 == 0) = true := beq_iff_eq.mpr c19
     have c19b1 : (t341 != 0) = false := bne_eq_false_iff_eq.mpr c19
     clear c19
     replace H := Option.bind_eq_some_iff.mp H
     obtain ⟨⟨t342, t343, t344, t345⟩, A200, H⟩ := H
     replace H : (some (t342, t343, t344, t345, 0)) = some (r1, r2, r3, r4, r5) := H
     have A20 := Aside0.mk A200
     clear A200
     simp only [Option.some.injEq, Prod.mk.injEq] at H
     obtain ⟨rfl, rfl, rfl, rfl, rfl⟩ := H
     go_enter Tryd.func23, Tryd.ntmps23
     go_wp2_with (first | ((with_reducible refine gate_dst (N := 3) rfl ?_); refine box_event ?hg (N := 3) ?hd (cs := #[.int .i64 a1_0, .int .u64 a1_1, .string a1_2, .int .i64 a1_3]) (t := 24) ?hr ?_; (case hd => rfl); (case hg => rfl); (case hr => first | (go_simp; done) | (go_simp; rfl)); intro gb330 hg w21 hbox hb; have n0_ := Aside0.mk (below_step (by repeat (first | (with_reducible first | exact HB.out | apply bA_ | apply bN_ | apply bD_) | exact HB.out)) hb); have n1_ := Aside0.mk (hbox); have n2_ := Aside0.mk ((by rw [hg]; exact (below_size (by repeat (first | (with_reducible first | exact HB.out | apply bA_ | apply bN_ | apply bD_) | exact HB.out))) : w.heap.size ≤ gb330)); have n3_ := Aside0.mk ((by rw [hg]; exact (below_size (by repeat (first | (with_reducible first | exact HB.out | apply bA_ | apply bN_ | apply bD_) | exact HB.out))) : w.heap.size ≤ gb330)); clear HB; have HB := n0_; have BK330 := n1_; have GW330 := n2_; have GE330 := n3_; clear n0_ n1_ n2_ n3_; clear hb hbox hg) | ((with_reducible refine gate_dst (N := 4) rfl ?_); refine box_event ?hg (N := 4) ?hd (cs := #[.int .i64 0, .int .u64 0, .string (⟨#[]⟩ : ByteArray), .int .i64 0]) (t := 24) ?hr ?_; (case hd => rfl); (case hg => rfl); (case hr => first | (go_simp; done) | (go_simp; rfl)); intro gb331 hg w22 hbox hb; have n0_ := Aside0.mk (blk_below (g := gb330) (o := .cells #[.int .i64 a1_0, .int .u64 a1_1, .string a1_2, .int .i64 a1_3] 24 (0, 0)) (by (with_reducible repeat (first | apply kN_ | apply kD_ | apply kA_)); exact BK330.out) hb); have n1_ := Aside0.mk (below_step (by repeat (first | (with_reducible first | exact HB.out | apply bA_ | apply bN_ | apply bD_ | refine bS_ ?_ GE330.out) | exact HB.out)) hb); have n2_ := Aside0.mk (hbox); have n3_ := Aside0.mk ((by rw [hg]; exact (below_size (by repeat (first | (with_reducible first | exact HB.out | apply bA_ | apply bN_ | apply bD_ | refine bS_ ?_ GE330.out) | exact HB.out))) : w.heap.size ≤ gb331)); have n4_ := Aside0.mk ((by rw [hg]; exact (below_size (by repeat (first | (with_reducible first | exact HB.out | apply bA_ | apply bN_ | apply bD_ | refine bS_ ?_ GE330.out) | exact HB.out))) : w.heap.size ≤ gb331)); have n5_ := Aside0.mk ((by rw [hg]; exact Nat.ne_of_lt (blk_lt (g := gb330) (o := .cells #[.int .i64 a1_0, .int .u64 a1_1, .string a1_2, .int .i64 a1_3] 24 (0, 0)) (by (with_reducible repeat (first | apply kN_ | apply kD_ | apply kA_)); exact BK330.out)) : gb330 ≠ gb331)); have n6_ := Aside0.mk ((by rw [hg]; exact Nat.ne_of_gt (blk_lt (g := gb330) (o := .cells #[.int .i64 a1_0, .int .u64 a1_1, .string a1_2, .int .i64 a1_3] 24 (0, 0)) (by (with_reducible repeat (first | apply kN_ | apply kD_ | apply kA_)); exact BK330.out)) : gb331 ≠ gb330)); clear BK330; clear HB; have BK330 := n0_; have HB := n1_; have BK331 := n2_; have GW331 := n3_; have GE331 := n4_; have NB330_331 := n5_; have NB331_330 := n6_; clear n0_ n1_ n2_ n3_ n4_ n5_ n6_; clear hb hbox hg; have hnb23 := NB330_331.out; have hnc23 := NB331_330.out; obtain ⟨hcz24_0, hcz24_1, hcz24_2, hcz24_3⟩ := cells4_ BK330.out; obtain ⟨hfz24_0, hfz24_1, hfz24_2, hfz24_3⟩ := froz4_ BK330.out) | ((with_reducible refine gate_callee (f := 25) rfl ?_); refine goesL_ (some 11) rfl rfl Tryd.func25 (by kernel_rfl) rfl #[.agg #[.int .i64 a1_0, .int .u64 a1_1, .string a1_2, .int .i64 a1_3]] rfl (by (try simp only [List.map_toArray, List.map_cons, List.map_nil]); first | done | rfl | (simp only [List.length_drop, List.length_take]; rfl)) ?_; (with_reducible refine (value_Valid.calls a1_0 a1_1 a1_2 a1_3 true _ A3.out).mono ?_); rintro e w25 ⟨rfl, hb⟩; refine ⟨_, rfl, ?_⟩; have n0_ := Aside0.mk (blk_below (g := gb330) (o := .cells #[.int .i64 a1_0, .int .u64 a1_1, .string a1_2, .int .i64 a1_3] 24 (0, 0)) (by (with_reducible repeat (first | apply kN_ | apply kD_ | apply kA_)); exact BK330.out) hb); have n1_ := Aside0.mk (blk_below (g := gb331) (o := .cells #[.int .i64 0, .int .u64 0, .string (⟨#[]⟩ : ByteArray), .int .i64 0] 24 (0, 0)) (by (with_reducible repeat (first | apply kN_ | apply kD_ | apply kA_)); exact BK331.out) hb); have n2_ := Aside0.mk (below_step (by repeat (first | (with_reducible first | exact HB.out | apply bA_ | apply bN_ | apply bD_ | refine bS_ ?_ GE330.out | refine bS_ ?_ GE331.out) | exact HB.out)) hb); clear BK330; clear BK331; clear HB; have BK330 := n0_; have BK331 := n1_; have HB := n2_; clear n0_ n1_ n2_; (try clear hb); (try clear hb2); (try clear hk); (try clear hi); obtain ⟨hcz26_0, hcz26_1, hcz26_2, hcz26_3⟩ := cells4_ BK330.out; obtain ⟨hfz26_0, hfz26_1, hfz26_2, hfz26_3⟩ := froz4_ BK330.out) | ((with_reducible refine gate_callee (f := 22) rfl ?_); refine goesL_ (some 32) rfl rfl Tryd.func22 (by kernel_rfl) rfl #[.agg #[.int .i64 a1_0, .int .u64 a1_1, .string a1_2, .int .i64 a1_3]] rfl (by (try simp only [List.map_toArray, List.map_cons, List.map_nil]); first | done | rfl | (simp only [List.length_drop, List.length_take]; rfl)) ?_; (with_reducible refine (value_Integer.calls k a1_0 a1_1 a1_2 a1_3 t340 t341 _ A18.out).mono ?_); rintro e w27 ⟨rfl, hb⟩; refine ⟨_, rfl, ?_⟩; have n0_ := Aside0.mk (blk_below (g := gb330) (o := .cells #[.int .i64 a1_0, .int .u64 a1_1, .string a1_2, .int .i64 a1_3] 24 (0, 0)) (by (with_reducible repeat (first | apply kN_ | apply kD_ | apply kA_)); exact BK330.out) hb); have n1_ := Aside0.mk (blk_below (g := gb331) (o := .cells #[.int .i64 0, .int .u64 0, .string (⟨#[]⟩ : ByteArray), .int .i64 0] 24 (0, 0)) (by (with_reducible repeat (first | apply kN_ | apply kD_ | apply kA_)); exact BK331.out) hb); have n2_ := Aside0.mk (below_step (by repeat (first | (with_reducible first | exact HB.out | apply bA_ | apply bN_ | apply bD_ | refine bS_ ?_ GE330.out | refine bS_ ?_ GE331.out) | exact HB.out)) hb); clear BK330; clear BK331; clear HB; have BK330 := n0_; have BK331 := n1_; have HB := n2_; clear n0_ n1_ n2_; (try clear hb); (try clear hb2); (try clear hk); (try clear hi)) | ((with_reducible refine gate_callee (f := 43) rfl ?_); refine goesL_ (some 41) rfl rfl Tryd.func43 (by kernel_rfl) rfl #[.bool (t340 == 0)] rfl (by (try simp only [List.map_toArray, List.map_cons, List.map_nil]); first | done | rfl | (simp only [List.length_drop, List.length_take]; rfl)) ?_; (with_reducible refine (value_boolean.calls (t340 == 0) t342 t343 t344 t345 _ A20.out).mono ?_); rintro e w28 ⟨rfl, hb⟩; refine ⟨_, rfl, ?_⟩; have n0_ := Aside0.mk (blk_below (g := gb330) (o := .cells #[.int .i64 a1_0, .int .u64 a1_1, .string a1_2, .int .i64 a1_3] 24 (0, 0)) (by (with_reducible repeat (first | apply kN_ | apply kD_ | apply kA_)); exact BK330.out) hb); have n1_ := Aside0.mk (blk_below (g := gb331) (o := .cells #[.int .i64 0, .int .u64 0, .string (⟨#[]⟩ : ByteArray), .int .i64 0] 24 (0, 0)) (by (with_reducible repeat (first | apply kN_ | apply kD_ | apply kA_)); exact BK331.out) hb); have n2_ := Aside0.mk (below_step (by repeat (first | (with_reducible first | exact HB.out | apply bA_ | apply bN_ | apply bD_ | refine bS_ ?_ GE330.out | refine bS_ ?_ GE331.out) | exact HB.out)) hb); clear BK330; clear BK331; clear HB; have BK330 := n0_; have BK331 := n1_; have HB := n2_; clear n0_ n1_ n2_; (try clear hb); (try clear hb2); (try clear hk); (try clear hi); obtain ⟨hcz29_0, hcz29_1, hcz29_2, hcz29_3⟩ := cells4_ BK331.out; obtain ⟨hfz29_0, hfz29_1, hfz29_2, hfz29_3⟩ := froz4_ BK331.out))
     refine bodyPost_ret (results_ct rfl _ _ gb331 24 #[.int .i64 t342, .int .u64 t343, .string t344, .int .i64 t345] (0, 0) _ rfl (by (with_reducible repeat (first | apply kN_ | apply kD_ | apply kA_)); refine blk_put (cs := #[.int .i64 t342, .int .u64 t343, .string t344, .int .i64 0]) ?_ 3 _ rfl; (with_reducible repeat (first | apply kN_ | apply kD_ | apply kA_)); refine blk_put (cs := #[.int .i64 t342, .int .u64 t343, .string (⟨#[]⟩ : ByteArray), .int .i64 0]) ?_ 2 _ rfl; (with_reducible repeat (first | apply kN_ | apply kD_ | apply kA_)); refine blk_put (cs := #[.int .i64 t342, .int .u64 0, .string (⟨#[]⟩ : ByteArray), .int .i64 0]) ?_ 1 _ rfl; (with_reducible repeat (first | apply kN_ | apply kD_ | apply kA_)); refine blk_put (cs := #[.int .i64 0, .int .u64 0, .string (⟨#[]⟩ : ByteArray), .int .i64 0]) ?_ 0 _ rfl; (with_reducible repeat (first | apply kN_ | apply kD_ | apply kA_)); exact BK331.out) Tryd.underlying24 rfl (by kernel_rfl)) rfl ?_
     exact ⟨by first | rfl | (simp [errW_none, errW_some] <;> rfl) | (simp [*, errW_none, errW_some] <;> rfl), by repeat (first | (with_reducible first | exact HB.out | apply bA_ | apply bN_ | apply bD_ | refine bS_ ?_ GE330.out | refine bS_ ?_ GE331.out) | exact HB.out)⟩
    ·rw [if_neg c19] at H
     have c19b0 : (t341 == 0) = false := beq_eq_false_iff_ne.mpr c19
     have c19b1 : (t341 != 0) = true := bne_iff_ne.mpr c19
     simp only [Option.some.injEq, Prod.mk.injEq] at H
     obtain ⟨rfl, rfl, rfl, rfl, rfl⟩ := H
     go_enter Tryd.func23, Tryd.ntmps23
     go_wp2_with (first | ((with_reducible refine gate_dst (N := 3) rfl ?_); refine box_event ?hg (N := 3) ?hd (cs := #[.int .i64 a1_0, .int .u64 a1_1, .string a1_2, .int .i64 a1_3]) (t := 24) ?hr ?_; (case hd => rfl); (case hg => rfl); (case hr => first | (go_simp; done) | (go_simp; rfl)); intro gb330 hg w30 hbox hb; have n0_ := Aside0.mk (below_step (by repeat (first | (with_reducible first | exact HB.out | apply bA_ | apply bN_ | apply bD_) | exact HB.out)) hb); have n1_ := Aside0.mk (hbox); have n2_ := Aside0.mk ((by rw [hg]; exact (below_size (by repeat (first | (with_reducible first | exact HB.out | apply bA_ | apply bN_ | apply bD_) | exact HB.out))) : w.heap.size ≤ gb330)); have n3_ := Aside0.mk ((by rw [hg]; exact (below_size (by repeat (first | (with_reducible first | exact HB.out | apply bA_ | apply bN_ | apply bD_) | exact HB.out))) : w.heap.size ≤ gb330)); clear HB; have HB := n0_; have BK330 := n1_; have GW330 := n2_; have GE330 := n3_; clear n0_ n1_ n2_ n3_; clear hb hbox hg) | ((with_reducible refine gate_dst (N := 4) rfl ?_); refine box_event ?hg (N := 4) ?hd (cs := #[.int .i64 0, .int .u64 0, .string (⟨#[]⟩ : ByteArray), .int .i64 0]) (t := 24) ?hr ?_; (case hd => rfl); (case hg => rfl); (case hr => first | (go_simp; done) | (go_simp; rfl)); intro gb331 hg w31 hbox hb; have n0_ := Aside0.mk (blk_below (g := gb330) (o := .cells #[.int .i64 a1_0, .int .u64 a1_1, .string a1_2, .int .i64 a1_3] 24 (0, 0)) (by (with_reducible repeat (first | apply kN_ | apply kD_ | apply kA_)); exact BK330.out) hb); have n1_ := Aside0.mk (below_step (by repeat (first | (with_reducible first | exact HB.out | apply bA_ | apply bN_ | apply bD_ | refine bS_ ?_ GE330.out) | exact HB.out)) hb); have n2_ := Aside0.mk (hbox); have n3_ := Aside0.mk ((by rw [hg]; exact (below_size (by repeat (first | (with_reducible first | exact HB.out | apply bA_ | apply bN_ | apply bD_ | refine bS_ ?_ GE330.out) | exact HB.out))) : w.heap.size ≤ gb331)); have n4_ := Aside0.mk ((by rw [hg]; exact (below_size (by repeat (first | (with_reducible first | exact HB.out | apply bA_ | apply bN_ | apply bD_ | refine bS_ ?_ GE330.out) | exact HB.out))) : w.heap.size ≤ gb331)); have n5_ := Aside0.mk ((by rw [hg]; exact Nat.ne_of_lt (blk_lt (g := gb330) (o := .cells #[.int .i64 a1_0, .int .u64 a1_1, .string a1_2, .int .i64 a1_3] 24 (0, 0)) (by (with_reducible repeat (first | apply kN_ | apply kD_ | apply kA_)); exact BK330.out)) : gb330 ≠ gb331)); have n6_ := Aside0.mk ((by rw [hg]; exact Nat.ne_of_gt (blk_lt (g := gb330) (o := .cells #[.int .i64 a1_0, .int .u64 a1_1, .string a1_2, .int .i64 a1_3] 24 (0, 0)) (by (with_reducible repeat (first | apply kN_ | apply kD_ | apply kA_)); exact BK330.out)) : gb331 ≠ gb330)); clear BK330; clear HB; have BK330 := n0_; have HB := n1_; have BK331 := n2_; have GW331 := n3_; have GE331 := n4_; have NB330_331 := n5_; have NB331_330 := n6_; clear n0_ n1_ n2_ n3_ n4_ n5_ n6_; clear hb hbox hg; have hnb32 := NB330_331.out; have hnc32 := NB331_330.out; obtain ⟨hcz33_0, hcz33_1, hcz33_2, hcz33_3⟩ := cells4_ BK330.out; obtain ⟨hfz33_0, hfz33_1, hfz33_2, hfz33_3⟩ := froz4_ BK330.out) | ((with_reducible refine gate_callee (f := 25) rfl ?_); refine goesL_ (some 11) rfl rfl Tryd.func25 (by kernel_rfl) rfl #[.agg #[.int .i64 a1_0, .int .u64 a1_1, .string a1_2, .int .i64 a1_3]] rfl (by (try simp only [List.map_toArray, List.map_cons, List.map_nil]); first | done | rfl | (simp only [List.length_drop, List.length_take]; rfl)) ?_; (with_reducible refine (value_Valid.calls a1_0 a1_1 a1_2 a1_3 true _ A3.out).mono ?_); rintro e w34 ⟨rfl, hb⟩; refine ⟨_, rfl, ?_⟩; have n0_ := Aside0.mk (blk_below (g := gb330) (o := .cells #[.int .i64 a1_0, .int .u64 a1_1, .string a1_2, .int .i64 a1_3] 24 (0, 0)) (by (with_reducible repeat (first | apply kN_ | apply kD_ | apply kA_)); exact BK330.out) hb); have n1_ := Aside0.mk (blk_below (g := gb331) (o := .cells #[.int .i64 0, .int .u64 0, .string (⟨#[]⟩ : ByteArray), .int .i64 0] 24 (0, 0)) (by (with_reducible repeat (first | apply kN_ | apply kD_ | apply kA_)); exact BK331.out) hb); have n2_ := Aside0.mk (below_step (by repeat (first | (with_reducible first | exact HB.out | apply bA_ | apply bN_ | apply bD_ | refine bS_ ?_ GE330.out | refine bS_ ?_ GE331.out) | exact HB.out)) hb); clear BK330; clear BK331; clear HB; have BK330 := n0_; have BK331 := n1_; have HB := n2_; clear n0_ n1_ n2_; (try clear hb); (try clear hb2); (try clear hk); (try clear hi); obtain ⟨hcz35_0, hcz35_1, hcz35_2, hcz35_3⟩ := cells4_ BK330.out; obtain ⟨hfz35_0, hfz35_1, hfz35_2, hfz35_3⟩ := froz4_ BK330.out) | ((with_reducible refine gate_callee (f := 22) rfl ?_); refine goesL_ (some 32) rfl rfl Tryd.func22 (by kernel_rfl) rfl #[.agg #[.int .i64 a1_0, .int .u64 a1_1, .string a1_2, .int .i64 a1_3]] rfl (by (try simp only [List.map_toArray, List.map_cons, List.map_nil]); first | done | rfl | (simp only [List.length_drop, List.length_take]; rfl)) ?_; (with_reducible refine (value_Integer.calls k a1_0 a1_1 a1_2 a1_3 t340 t341 _ A18.out).mono ?_); rintro e w36 ⟨rfl, hb⟩; refine ⟨_, rfl, ?_⟩; have n0_ := Aside0.mk (blk_below (g := gb330) (o := .cells #[.int .i64 a1_0, .int .u64 a1_1, .string a1_2, .int .i64 a1_3] 24 (0, 0)) (by (with_reducible repeat (first | apply kN_ | apply kD_ | apply kA_)); exact BK330.out) hb); have n1_ := Aside0.mk (blk_below (g := gb331) (o := .cells #[.int .i64 0, .int .u64 0, .string (⟨#[]⟩ : ByteArray), .int .i64 0] 24 (0, 0)) (by (with_reducible repeat (first | apply kN_ | apply kD_ | apply kA_)); exact BK331.out) hb); have n2_ := Aside0.mk (below_step (by repeat (first | (with_reducible first | exact HB.out | apply bA_ | apply bN_ | apply bD_ | refine bS_ ?_ GE330.out | refine bS_ ?_ GE331.out) | exact HB.out)) hb); clear BK330; clear BK331; clear HB; have BK330 := n0_; have BK331 := n1_; have HB := n2_; clear n0_ n1_ n2_; (try clear hb); (try clear hb2); (try clear hk); (try clear hi); obtain ⟨hcz37_0, hcz37_1, hcz37_2, hcz37_3⟩ := cells4_ BK331.out; obtain ⟨hfz37_0, hfz37_1, hfz37_2, hfz37_3⟩ := froz4_ BK331.out))
     refine bodyPost_ret (results_ct rfl _ _ gb331 24 #[.int .i64 0, .int .u64 0, .string (⟨#[]⟩ : ByteArray), .int .i64 0] (0, 0) _ rfl (by (with_reducible repeat (first | apply kN_ | apply kD_ | apply kA_)); refine blk_put (cs := #[.int .i64 0, .int .u64 0, .string (⟨#[]⟩ : ByteArray), .int .i64 0]) ?_ 3 _ rfl; (with_reducible repeat (first | apply kN_ | apply kD_ | apply kA_)); refine blk_put (cs := #[.int .i64 0, .int .u64 0, .string (⟨#[]⟩ : ByteArray), .int .i64 0]) ?_ 2 _ rfl; (with_reducible repeat (first | apply kN_ | apply kD_ | apply kA_)); refine blk_put (cs := #[.int .i64 0, .int .u64 0, .string (⟨#[]⟩ : ByteArray), .int .i64 0]) ?_ 1 _ rfl; (with_reducible repeat (first | apply kN_ | apply kD_ | apply kA_)); refine blk_put (cs := #[.int .i64 0, .int .u64 0, .string (⟨#[]⟩ : ByteArray), .int .i64 0]) ?_ 0 _ rfl; (with_reducible repeat (first | apply kN_ | apply kD_ | apply kA_)); exact BK331.out) Tryd.underlying24 rfl (by kernel_rfl)) rfl ?_
     exact ⟨by first | rfl | (simp [errW_none, errW_some] <;> rfl) | (simp [*, errW_none, errW_some] <;> rfl), by repeat (first | (with_reducible first | exact HB.out | apply bA_ | apply bN_ | apply bD_ | refine bS_ ?_ GE330.out | refine bS_ ?_ GE331.out) | exact HB.out)⟩
   ·rw [if_neg c17] at H
    have c17b0 : (a0 == 78) = false := beq_eq_false_iff_ne.mpr c17
    have c17b1 : (a0 != 78) = true := bne_iff_ne.mpr c17
    by_cases c38 : a0 = 79
    ·rw [if_pos c38] at H
     have c38b0 : (a0 == 79) = true := beq_iff_eq.mpr c38
     have c38b1 : (a0 != 79) = false := bne_eq_false_iff_eq.mpr c38
     clear c38
     by_cases c39 : a1_0 = 2
     ·rw [if_pos c39] at H
      have c39b0 : (a1_0 == 2) = true := beq_iff_eq.mpr c39
      have c39b1 : (a1_0 != 2) = false := bne_eq_false_iff_eq.mpr c39
      clear c39
      replace H := Option.bind_eq_some_iff.mp H
      obtain ⟨⟨t346, t347, t348, t349⟩, A400, H⟩ := H
      replace H : (some (t346, t347, t348, t349, 0)) = some (r1, r2, r3, r4, r5) := H
      have A40 := Aside0.mk A400
      clear A400
      simp only [Option.some.injEq, Prod.mk.injEq] at H
      obtain ⟨rfl, rfl, rfl, rfl, rfl⟩ := H
      go_enter Tryd.func23, Tryd.ntmps23
      go_wp2_with (first | ((with_reducible refine gate_dst (N := 3) rfl ?_); refine box_event ?hg (N := 3) ?hd (cs := #[.int .i64 a1_0, .int .u64 a1_1, .string a1_2, .int .i64 a1_3]) (t := 24) ?hr ?_; (case hd => rfl); (case hg => rfl); (case hr => first | (go_simp; done) | (go_simp; rfl)); intro gb330 hg w41 hbox hb; have n0_ := Aside0.mk (below_step (by repeat (first | (with_reducible first | exact HB.out | apply bA_ | apply bN_ | apply bD_) | exact HB.out)) hb); have n1_ := Aside0.mk (hbox); have n2_ := Aside0.mk ((by rw [hg]; exact (below_size (by repeat (first | (with_reducible first | exact HB.out | apply bA_ | apply bN_ | apply bD_) | exact HB.out))) : w.heap.size ≤ gb330)); have n3_ := Aside0.mk ((by rw [hg]; exact (below_size (by repeat (first | (with_reducible first | exact HB.out | apply bA_ | apply bN_ | apply bD_) | exact HB.out))) : w.heap.size ≤ gb330)); clear HB; have HB := n0_; have BK330 := n1_; have GW330 := n2_; have GE330 := n3_; clear n0_ n1_ n2_ n3_; clear hb hbox hg) | ((with_reducible refine gate_dst (N := 4) rfl ?_); refine box_event ?hg (N := 4) ?hd (cs := #[.int .i64 0, .int .u64 0, .string (⟨#[]⟩ : ByteArray), .int .i64 0]) (t := 24) ?hr ?_; (case hd => rfl); (case hg => rfl); (case hr => first | (go_simp; done) | (go_simp; rfl)); intro gb331 hg w42 hbox hb; have n0_ := Aside0.mk (blk_below (g := gb330) (o := .cells #[.int .i64 a1_0, .int .u64 a1_1, .string a1_2, .int .i64 a1_3] 24 (0, 0)) (by (with_reducible repeat (first | apply kN_ | apply kD_ | apply kA_)); exact BK330.out) hb); have n1_ := Aside0.mk (below_step (by repeat (first | (with_reducible first | exact HB.out | apply bA_ | apply bN_ | apply bD_ | refine bS_ ?_ GE330.out) | exact HB.out)) hb); have n2_ := Aside0.mk (hbox); have n3_ := Aside0.mk ((by rw [hg]; exact (below_size (by repeat (first | (with_reducible first | exact HB.out | apply bA_ | apply bN_ | apply bD_ | refine bS_ ?_ GE330.out) | exact HB.out))) : w.heap.size ≤ gb331)); have n4_ := Aside0.mk ((by rw [hg]; exact (below_size (by repeat (first | (with_reducible first | exact HB.out | apply bA_ | apply bN_ | apply bD_ | refine bS_ ?_ GE330.out) | exact HB.out))) : w.heap.size ≤ gb331)); have n5_ := Aside0.mk ((by rw [hg]; exact Nat.ne_of_lt (blk_lt (g := gb330) (o := .cells #[.int .i64 a1_0, .int .u64 a1_1, .string a1_2, .int .i64 a1_3] 24 (0, 0)) (by (with_reducible repeat (first | apply kN_ | apply kD_ | apply kA_)); exact BK330.out)) : gb330 ≠ gb331)); have n6_ := Aside0.mk ((by rw [hg]; exact Nat.ne_of_gt (blk_lt (g := gb330) (o := .cells #[.int .i64 a1_0, .int .u64 a1_1, .string a1_2, .int .i64 a1_3] 24 (0, 0)) (by (with_reducible repeat (first | apply kN_ | apply kD_ | apply kA_)); exact BK330.out)) : gb331 ≠ gb330)); clear BK330; clear HB; have BK330 := n0_; have HB := n1_; have BK331 := n2_; have GW331 := n3_; have GE331 := n4_; have NB330_331 := n5_; have NB331_330 := n6_; clear n0_ n1_ n2_ n3_ n4_ n5_ n6_; clear hb hbox hg; have hnb43 := NB330_331.out; have hnc43 := NB331_330.out; obtain ⟨hcz44_0, hcz44_1, hcz44_2, hcz44_3⟩ := cells4_ BK330.out; obtain ⟨hfz44_0, hfz44_1, hfz44_2, hfz44_3⟩ := froz4_ BK330.out) | ((with_reducible refine gate_callee (f := 25) rfl ?_); refine goesL_ (some 11) rfl rfl Tryd.func25 (by kernel_rfl) rfl #[.agg #[.int .i64 a1_0, .int .u64 a1_1, .string a1_2, .int .i64 a1_3]] rfl (by (try simp only [List.map_toArray, List.map_cons, List.map_nil]); first | done | rfl | (simp only [List.length_drop, List.length_take]; rfl)) ?_; (with_reducible refine (value_Valid.calls a1_0 a1_1 a1_2 a1_3 true _ A3.out).mono ?_); rintro e w45 ⟨rfl, hb⟩; refine ⟨_, rfl, ?_⟩; have n0_ := Aside0.mk (blk_below (g := gb330) (o := .cells #[.int .i64 a1_0, .int .u64 a1_1, .string a1_2, .int .i64 a1_3] 24 (0, 0)) (by (with_reducible repeat (first | apply kN_ | apply kD_ | apply kA_)); exact BK330.out) hb); have n1_ := Aside0.mk (blk_below (g := gb331) (o := .cells #[.int .i64 0, .int .u64 0, .string (⟨#[]⟩ : ByteArray), .int .i64 0] 24 (0, 0)) (by (with_reducible repeat (first | apply kN_ | apply kD_ | apply kA_)); exact BK331.out) hb); have n2_ := Aside0.mk (below_step (by repeat (first | (with_reducible first | exact HB.out | apply bA_ | apply bN_ | apply bD_ | refine bS_ ?_ GE330.out | refine bS_ ?_ GE331.out) | exact HB.out)) hb); clear BK330; clear BK331; clear HB; have BK330 := n0_; have BK331 := n1_; have HB := n2_; clear n0_ n1_ n2_; (try clear hb); (try clear hb2); (try clear hk); (try clear hi); obtain ⟨hcz46_0, hcz46_1, hcz46_2, hcz46_3⟩ := cells4_ BK330.out; obtain ⟨hfz46_0, hfz46_1, hfz46_2, hfz46_3⟩ := froz4_ BK330.out) | ((with_reducible refine gate_callee (f := 44) rfl ?_); refine goesL_ (some 57) rfl rfl Tryd.func44 (by kernel_rfl) rfl #[.int .u64 (IntKind.u64.wrap ((a1_2.size : Int)))] rfl (by (try simp only [List.map_toArray, List.map_cons, List.map_nil]); first | done | rfl | (simp only [List.length_drop, List.length_take]; rfl)) ?_; (with_reducible refine (value_integer.calls (IntKind.u64.wrap ((a1_2.size : Int))) t346 t347 t348 t349 _ A40.out).mono ?_); rintro e w47 ⟨rfl, hb⟩; refine ⟨_, rfl, ?_⟩; have n0_ := Aside0.mk (blk_below (g := gb330) (o := .cells #[.int .i64 a1_0, .int .u64 a1_1, .string a1_2, .int .i64 a1_3] 24 (0, 0)) (by (with_reducible repeat (first | apply kN_ | apply kD_ | apply kA_)); exact BK330.out) hb); have n1_ := Aside0.mk (blk_below (g := gb331) (o := .cells #[.int .i64 0, .int .u64 0, .string (⟨#[]⟩ : ByteArray), .int .i64 0] 24 (0, 0)) (by (with_reducible repeat (first | apply kN_ | apply kD_ | apply kA_)); exact BK331.out) hb); have n2_ := Aside0.mk (below_step (by repeat (first | (with_reducible first | exact HB.out | apply bA_ | apply bN_ | apply bD_ | refine bS_ ?_ GE330.out | refine bS_ ?_ GE331.out) | exact HB.out)) hb); clear BK330; clear BK331; clear HB; have BK330 := n0_; have BK331 := n1_; have HB := n2_; clear n0_ n1_ n2_; (try clear hb); (try clear hb2); (try clear hk); (try clear hi); obtain ⟨hcz48_0, hcz48_1, hcz48_2, hcz48_3⟩ := cells4_ BK331.out; obtain ⟨hfz48_0, hfz48_1, hfz48_2, hfz48_3⟩ := froz4_ BK331.out))
      refine bodyPost_ret (results_ct rfl _ _ gb331 24 #[.int .i64 t346, .int .u64 t347, .string t348, .int .i64 t349] (0, 0) _ rfl (by (with_reducible repeat (first | apply kN_ | apply kD_ | apply kA_)); refine blk_put (cs := #[.int .i64 t346, .int .u64 t347, .string t348, .int .i64 0]) ?_ 3 _ rfl; (with_reducible repeat (first | apply kN_ | apply kD_ | apply kA_)); refine blk_put (cs := #[.int .i64 t346, .int .u64 t347, .string (⟨#[]⟩ : ByteArray), .int .i64 0]) ?_ 2 _ rfl; (with_reducible repeat (first | apply kN_ | apply kD_ | apply kA_)); refine blk_put (cs := #[.int .i64 t346, .int .u64 0, .string (⟨#[]⟩ : ByteArray), .int .i64 0]) ?_ 1 _ rfl; (with_reducible repeat (first | apply kN_ | apply kD_ | apply kA_)); refine blk_put (cs := #[.int .i64 0, .int .u64 0, .string (⟨#[]⟩ : ByteArray), .int .i64 0]) ?_ 0 _ rfl; (with_reducible repeat (first | apply kN_ | apply kD_ | apply kA_)); exact BK331.out) Tryd.underlying24 rfl (by kernel_rfl)) rfl ?_
      exact ⟨by first | rfl | (simp [errW_none, errW_some] <;> rfl) | (simp [*, errW_none, errW_some] <;> rfl), by repeat (first | (with_reducible first | exact HB.out | apply bA_ | apply bN_ | apply bD_ | refine bS_ ?_ GE330.out | refine bS_ ?_ GE331.out) | exact HB.out)⟩
     ·rw [if_neg c39] at H
      have c39b0 : (a1_0 == 2) = false := beq_eq_false_iff_ne.mpr c39
      have c39b1 : (a1_0 != 2) = true := bne_iff_ne.mpr c39
      by_cases c49 : a1_0 = 3
      ·rw [if_pos c49] at H
       have c49b0 : (a1_0 == 3) = true := beq_iff_eq.mpr c49
       have c49b1 : (a1_0 != 3) = false := bne_eq_false_iff_eq.mpr c49
       clear c49
       replace H := Option.bind_eq_some_iff.mp H
       obtain ⟨⟨t350, t351, t352, t353⟩, A500, H⟩ := H
       replace H : (some (t350, t351, t352, t353, 0)) = some (r1, r2, r3, r4, r5) := H
       have A50 := Aside0.mk A500
       clear A500
       simp only [Option.some.injEq, Prod.mk.injEq] at H
       obtain ⟨rfl, rfl, rfl, rfl, rfl⟩ := H
       go_enter Tryd.func23, Tryd.ntmps23
       go_wp2_with (first | ((with_reducible refine gate_dst (N := 3) rfl ?_); refine box_event ?hg (N := 3) ?hd (cs := #[.int .i64 a1_0, .int .u64 a1_1, .string a1_2, .int .i64 a1_3]) (t := 24) ?hr ?_; (case hd => rfl); (case hg => rfl); (case hr => first | (go_simp; done) | (go_simp; rfl)); intro gb330 hg w51 hbox hb; have n0_ := Aside0.mk (below_step (by repeat (first | (with_reducible first | exact HB.out | apply bA_ | apply bN_ | apply bD_) | exact HB.out)) hb); have n1_ := Aside0.mk (hbox); have n2_ := Aside0.mk ((by rw [hg]; exact (below_size (by repeat (first | (with_reducible first | exact HB.out | apply bA_ | apply bN_ | apply bD_) | exact HB.out))) : w.heap.size ≤ gb330)); have n3_ := Aside0.mk ((by rw [hg]; exact (below_size (by repeat (first | (with_reducible first | exact HB.out | apply bA_ | apply bN_ | apply bD_) | exact HB.out))) : w.heap.size ≤ gb330)); clear HB; have HB := n0_; have BK330 := n1_; have GW330 := n2_; have GE330 := n3_; clear n0_ n1_ n2_ n3_; clear hb hbox hg) | ((with_reducible refine gate_dst (N := 4) rfl ?_); refine box_event ?hg (N := 4) ?hd (cs := #[.int .i64 0, .int .u64 0, .string (⟨#[]⟩ : ByteArray), .int .i64 0]) (t := 24) ?hr ?_; (case hd => rfl); (case hg => rfl); (case hr => first | (go_simp; done) | (go_simp; rfl)); intro gb331 hg w52 hbox hb; have n0_ := Aside0.mk (blk_below (g := gb330) (o := .cells #[.int .i64 a1_0, .int .u64 a1_1, .string a1_2, .int .i64 a1_3] 24 (0, 0)) (by (with_reducible repeat (first | apply kN_ | apply kD_ | apply kA_)); exact BK330.out) hb); have n1_ := Aside0.mk (below_step (by repeat (first | (with_reducible first | exact HB.out | apply bA_ | apply bN_ | apply bD_ | refine bS_ ?_ GE330.out) | exact HB.out)) hb); have n2_ := Aside0.mk (hbox); have n3_ := Aside0.mk ((by rw [hg]; exact (below_size (by repeat (first | (with_reducible first | exact HB.out | apply bA_ | apply bN_ | apply bD_ | refine bS_ ?_ GE330.out) | exact HB.out))) : w.heap.size ≤ gb331)); have n4_ := Aside0.mk ((by rw [hg]; exact (below_size (by repeat (first | (with_reducible first | exact HB.out | apply bA_ | apply bN_ | apply bD_ | refine bS_ ?_ GE330.out) | exact HB.out))) : w.heap.size ≤ gb331)); have n5_ := Aside0.mk ((by rw [hg]; exact Nat.ne_of_lt (blk_lt (g := gb330) (o := .cells #[.int .i64 a1_0, .int .u64 a1_1, .string a1_2, .int .i64 a1_3] 24 (0, 0)) (by (with_reducible repeat (first | apply kN_ | apply kD_ | apply kA_)); exact BK330.out)) : gb330 ≠ gb331)); have n6_ := Aside0.mk ((by rw [hg]; exact Nat.ne_of_gt (blk_lt (g := gb330) (o := .cells #[.int .i64 a1_0, .int .u64 a1_1, .string a1_2, .int .i64 a1_3] 24 (0, 0)) (by (with_reducible repeat (first | apply kN_ | apply kD_ | apply kA_)); exact BK330.out)) : gb331 ≠ gb330)); clear BK330; clear HB; have BK330 := n0_; have HB := n1_; have BK331 := n2_; have GW331 := n3_; have GE331 := n4_; have NB330_331 := n5_; have NB331_330 := n6_; clear n0_ n1_ n2_ n3_ n4_ n5_ n6_; clear hb hbox hg; have hnb53 := NB330_331.out; have hnc53 := NB331_330.out; obtain ⟨hcz54_0, hcz54_1, hcz54_2, hcz54_3⟩ := cells4_ BK330.out; obtain ⟨hfz54_0, hfz54_1, hfz54_2, hfz54_3⟩ := froz4_ BK330.out) | ((with_reducible refine gate_callee (f := 25) rfl ?_); refine goesL_ (some 11) rfl rfl Tryd.func25 (by kernel_rfl) rfl #[.agg #[.int .i64 a1_0, .int .u64 a1_1, .string a1_2, .int .i64 a1_3]] rfl (by (try simp only [List.map_toArray, List.map_cons, List.map_nil]); first | done | rfl | (simp only [List.length_drop, List.length_take]; rfl)) ?_; (with_reducible refine (value_Valid.calls a1_0 a1_1 a1_2 a1_3 true _ A3.out).mono ?_); rintro e w55 ⟨rfl, hb⟩; refine ⟨_, rfl, ?_⟩; have n0_ := Aside0.mk (blk_below (g := gb330) (o := .cells #[.int .i64 a1_0, .int .u64 a1_1, .string a1_2, .int .i64 a1_3] 24 (0, 0)) (by (with_reducible repeat (first | apply kN_ | apply kD_ | apply kA_)); exact BK330.out) hb); have n1_ := Aside0.mk (blk_below (g := gb331) (o := .cells #[.int .i64 0, .int .u64 0, .string (⟨#[]⟩ : ByteArray), .int .i64 0] 24 (0, 0)) (by (with_reducible repeat (first | apply kN_ | apply kD_ | apply kA_)); exact BK331.out) hb); have n2_ := Aside0.mk (below_step (by repeat (first | (with_reducible first | exact HB.out | apply bA_ | apply bN_ | apply bD_ | refine bS_ ?_ GE330.out | refine bS_ ?_ GE331.out) | exact HB.out)) hb); clear BK330; clear BK331; clear HB; have BK330 := n0_; have BK331 := n1_; have HB := n2_; clear n0_ n1_ n2_; (try clear hb); (try clear hb2); (try clear hk); (try clear hi); obtain ⟨hcz56_0, hcz56_1, hcz56_2, hcz56_3⟩ := cells4_ BK330.out; obtain ⟨hfz56_0, hfz56_1, hfz56_2, hfz56_3⟩ := froz4_ BK330.out) | ((with_reducible refine gate_callee (f := 44) rfl ?_); refine goesL_ (some 57) rfl rfl Tryd.func44 (by kernel_rfl) rfl #[.int .u64 (IntKind.u64.wrap ((a1_2.size : Int)))] rfl (by (try simp only [List.map_toArray, List.map_cons, List.map_nil]); first | done | rfl | (simp only [List.length_drop, List.length_take]; rfl)) ?_; (with_reducible refine (value_integer.calls (IntKind.u64.wrap ((a1_2.size : Int))) t350 t351 t352 t353 _ A50.out).mono ?_); rintro e w57 ⟨rfl, hb⟩; refine ⟨_, rfl, ?_⟩; have n0_ := Aside0.mk (blk_below (g := gb330) (o := .cells #[.int .i64 a1_0, .int .u64 a1_1, .string a1_2, .int .i64 a1_3] 24 (0, 0)) (by (with_reducible repeat (first | apply kN_ | apply kD_ | apply kA_)); exact BK330.out) hb); have n1_ := Aside0.mk (blk_below (g := gb331) (o := .cells #[.int .i64 0, .int .u64 0, .string (⟨#[]⟩ : ByteArray), .int .i64 0] 24 (0, 0)) (by (with_reducible repeat (first | apply kN_ | apply kD_ | apply kA_)); exact BK331.out) hb); have n2_ := Aside0.mk (below_step (by repeat (first | (with_reducible first | exact HB.out | apply bA_ | apply bN_ | apply bD_ | refine bS_ ?_ GE330.out | refine bS_ ?_ GE331.out) | exact HB.out)) hb); clear BK330; clear BK331; clear HB; have BK330 := n0_; have BK331 := n1_; have HB := n2_; clear n0_ n1_ n2_; (try clear hb); (try clear hb2); (try clear hk); (try clear hi); obtain ⟨hcz58_0, hcz58_1, hcz58_2, hcz58_3⟩ := cells4_ BK331.out; obtain ⟨hfz58_0, hfz58_1, hfz58_2, hfz58_3⟩ := froz4_ BK331.out))
       refine bodyPost_ret (results_ct rfl _ _ gb331 24 #[.int .i64 t350, .int .u64 t351, .string t352, .int .i64 t353] (0, 0) _ rfl (by (with_reducible repeat (first | apply kN_ | apply kD_ | apply kA_)); refine blk_put (cs := #[.int .i64 t350, .int .u64 t351, .string t352, .int .i64 0]) ?_ 3 _ rfl; (with_reducible repeat (first | apply kN_ | apply kD_ | apply kA_)); refine blk_put (cs := #[.int .i64 t350, .int .u64 t351, .string (⟨#[]⟩ : ByteArray), .int .i64 0]) ?_ 2 _ rfl; (with_reducible repeat (first | apply kN_ | apply kD_ | apply kA_)); refine blk_put (cs := #[.int .i64 t350, .int .u64 0, .string (⟨#[]⟩ : ByteArray), .int .i64 0]) ?_ 1 _ rfl; (with_reducible repeat (first | apply kN_ | apply kD_ | apply kA_)); refine blk_put (cs := #[.int .i64 0, .int .u64 0, .string (⟨#[]⟩ : ByteArray), .int .i64 0]) ?_ 0 _ rfl; (with_reducible repeat (first | apply kN_ | apply kD_ | apply kA_)); exact BK331.out) Tryd.underlying24 rfl (by kernel_rfl)) rfl ?_
       exact ⟨by first | rfl | (simp [errW_none, errW_some] <;> rfl) | (simp [*, errW_none, errW_some] <;> rfl), by repeat (first | (with_reducible first | exact HB.out | apply bA_ | apply bN_ | apply bD_ | refine bS_ ?_ GE330.out | refine bS_ ?_ GE331.out) | exact HB.out)⟩
      ·rw [if_neg c49] at H
       have c49b0 : (a1_0 == 3) = false := beq_eq_false_iff_ne.mpr c49
       have c49b1 : (a1_0 != 3) = true := bne_iff_ne.mpr c49
       simp only [Option.some.injEq, Prod.mk.injEq] at H
       obtain ⟨rfl, rfl, rfl, rfl, rfl⟩ := H
       go_enter Tryd.func23, Tryd.ntmps23
       go_wp2_with (first | ((with_reducible refine gate_dst (N := 3) rfl ?_); refine box_event ?hg (N := 3) ?hd (cs := #[.int .i64 a1_0, .int .u64 a1_1, .string a1_2, .int .i64 a1_3]) (t := 24) ?hr ?_; (case hd => rfl); (case hg => rfl); (case hr => first | (go_simp; done) | (go_simp; rfl)); intro gb330 hg w59 hbox hb; have n0_ := Aside0.mk (below_step (by repeat (first | (with_reducible first | exact HB.out | apply bA_ | apply bN_ | apply bD_) | exact HB.out)) hb); have n1_ := Aside0.mk (hbox); have n2_ := Aside0.mk ((by rw [hg]; exact (below_size (by repeat (first | (with_reducible first | exact HB.out | apply bA_ | apply bN_ | apply bD_) | exact HB.out))) : w.heap.size ≤ gb330)); have n3_ := Aside0.mk ((by rw [hg]; exact (below_size (by repeat (first | (with_reducible first | exact HB.out | apply bA_ | apply bN_ | apply bD_) | exact HB.out))) : w.heap.size ≤ gb330)); clear HB; have HB := n0_; have BK330 := n1_; have GW330 := n2_; have GE330 := n3_; clear n0_ n1_ n2_ n3_; clear hb hbox hg) | ((with_reducible refine gate_dst (N := 4) rfl ?_); refine box_event ?hg (N := 4) ?hd (cs := #[.int .i64 0, .int .u64 0, .string (⟨#[]⟩ : ByteArray), .int .i64 0]) (t := 24) ?hr ?_; (case hd => rfl); (case hg => rfl); (case hr => first | (go_simp; done) | (go_simp; rfl)); intro gb331 hg w60 hbox hb; have n0_ := Aside0.mk (blk_below (g := gb330) (o := .cells #[.int .i64 a1_0, .int .u64 a1_1, .string a1_2, .int .i64 a1_3] 24 (0, 0)) (by (with_reducible repeat (first | apply kN_ | apply kD_ | apply kA_)); exact BK330.out) hb); have n1_ := Aside0.mk (below_step (by repeat (first | (with_reducible first | exact HB.out | apply bA_ | apply bN_ | apply bD_ | refine bS_ ?_ GE330.out) | exact HB.out)) hb); have n2_ := Aside0.mk (hbox); have n3_ := Aside0.mk ((by rw [hg]; exact (below_size (by repeat (first | (with_reducible first | exact HB.out | apply bA_ | apply bN_ | apply bD_ | refine bS_ ?_ GE330.out) | exact HB.out))) : w.heap.size ≤ gb331)); have n4_ := Aside0.mk ((by rw [hg]; exact (below_size (by repeat (first | (with_reducible first | exact HB.out | apply bA_ | apply bN_ | apply bD_ | refine bS_ ?_ GE330.out) | exact HB.out))) : w.heap.size ≤ gb331)); have n5_ := Aside0.mk ((by rw [hg]; exact Nat.ne_of_lt (blk_lt (g := gb330) (o := .cells #[.int .i64 a1_0, .int .u64 a1_1, .string a1_2, .int .i64 a1_3] 24 (0, 0)) (by (with_reducible repeat (first | apply kN_ | apply kD_ | apply kA_)); exact BK330.out)) : gb330 ≠ gb331)); have n6_ := Aside0.mk ((by rw [hg]; exact Nat.ne_of_gt (blk_lt (g := gb330) (o := .cells #[.int .i64 a1_0, .int .u64 a1_1, .string a1_2, .int .i64 a1_3] 24 (0, 0)) (by (with_reducible repeat (first | apply kN_ | apply kD_ | apply kA_)); exact BK330.out)) : gb331 ≠ gb330)); clear BK330; clear HB; have BK330 := n0_; have HB := n1_; have BK331 := n2_; have GW331 := n3_; have GE331 := n4_; have NB330_331 := n5_; have NB331_330 := n6_; clear n0_ n1_ n2_ n3_ n4_ n5_ n6_; clear hb hbox hg; have hnb61 := NB330_331.out; have hnc61 := NB331_330.out; obtain ⟨hcz62_0, hcz62_1, hcz62_2, hcz62_3⟩ := cells4_ BK330.out; obtain ⟨hfz62_0, hfz62_1, hfz62_2, hfz62_3⟩ := froz4_ BK330.out) | ((with_reducible refine gate_callee (f := 25) rfl ?_); refine goesL_ (some 11) rfl rfl Tryd.func25 (by kernel_rfl) rfl #[.agg #[.int .i64 a1_0, .int .u64 a1_1, .string a1_2, .int .i64 a1_3]] rfl (by (try simp only [List.map_toArray, List.map_cons, List.map_nil]); first | done | rfl | (simp only [List.length_drop, List.length_take]; rfl)) ?_; (with_reducible refine (value_Valid.calls a1_0 a1_1 a1_2 a1_3 true _ A3.out).mono ?_); rintro e w63 ⟨rfl, hb⟩; refine ⟨_, rfl, ?_⟩; have n0_ := Aside0.mk (blk_below (g := gb330) (o := .cells #[.int .i64 a1_0, .int .u64 a1_1, .string a1_2, .int .i64 a1_3] 24 (0, 0)) (by (with_reducible repeat (first | apply kN_ | apply kD_ | apply kA_)); exact BK330.out) hb); have n1_ := Aside0.mk (blk_below (g := gb331) (o := .cells #[.int .i64 0, .int .u64 0, .string (⟨#[]⟩ : ByteArray), .int .i64 0] 24 (0, 0)) (by (with_reducible repeat (first | apply kN_ | apply kD_ | apply kA_)); exact BK331.out) hb); have n2_ := Aside0.mk (below_step (by repeat (first | (with_reducible first | exact HB.out | apply bA_ | apply bN_ | apply bD_ | refine bS_ ?_ GE330.out | refine bS_ ?_ GE331.out) | exact HB.out)) hb); clear BK330; clear BK331; clear HB; have BK330 := n0_; have BK331 := n1_; have HB := n2_; clear n0_ n1_ n2_; (try clear hb); (try clear hb2); (try clear hk); (try clear hi); obtain ⟨hcz64_0, hcz64_1, hcz64_2, hcz64_3⟩ := cells4_ BK330.out; obtain ⟨hfz64_0, hfz64_1, hfz64_2, hfz64_3⟩ := froz4_ BK330.out; obtain ⟨hcz65_0, hcz65_1, hcz65_2, hcz65_3⟩ := cells4_ BK331.out; obtain ⟨hfz65_0, hfz65_1, hfz65_2, hfz65_3⟩ := froz4_ BK331.out))
       refine bodyPost_ret (results_ct rfl _ _ gb331 24 #[.int .i64 0, .int .u64 0, .string (⟨#[]⟩ : ByteArray), .int .i64 0] (0, 0) _ rfl (by (with_reducible repeat (first | apply kN_ | apply kD_ | apply kA_)); refine blk_put (cs := #[.int .i64 0, .int .u64 0, .string (⟨#[]⟩ : ByteArray), .int .i64 0]) ?_ 3 _ rfl; (with_reducible repeat (first | apply kN_ | apply kD_ | apply kA_)); refine blk_put (cs := #[.int .i64 0, .int .u64 0, .string (⟨#[]⟩ : ByteArray), .int .i64 0]) ?_ 2 _ rfl; (with_reducible repeat (first | apply kN_ | apply kD_ | apply kA_)); refine blk_put (cs := #[.int .i64 0, .int .u64 0, .string (⟨#[]⟩ : ByteArray), .int .i64 0]) ?_ 1 _ rfl; (with_reducible repeat (first | apply kN_ | apply kD_ | apply kA_)); refine blk_put (cs := #[.int .i64 0, .int .u64 0, .string (⟨#[]⟩ : ByteArray), .int .i64 0]) ?_ 0 _ rfl; (with_reducible repeat (first | apply kN_ | apply kD_ | apply kA_)); exact BK331.out) Tryd.underlying24 rfl (by kernel_rfl)) rfl ?_
       exact ⟨by first | rfl | (simp [errW_none, errW_some] <;> rfl) | (simp [*, errW_none, errW_some] <;> rfl), by repeat (first | (with_reducible first | exact HB.out | apply bA_ | apply bN_ | apply bD_ | refine bS_ ?_ GE330.out | refine bS_ ?_ GE331.out) | exact HB.out)⟩
    ·rw [if_neg c38] at H
     have c38b0 : (a0 == 79) = false := beq_eq_false_iff_ne.mpr c38
     have c38b1 : (a0 != 79) = true := bne_iff_ne.mpr c38
     by_cases c66 : a0 = 80
     ·rw [if_pos c66] at H
      have c66b0 : (a0 == 80) = true := beq_iff_eq.mpr c66
      have c66b1 : (a0 != 80) = false := bne_eq_false_iff_eq.mpr c66
      clear c66
      replace H := Option.bind_eq_some_iff.mp H
      obtain ⟨⟨t354, t355⟩, A670, H⟩ := H
      replace H : ((value_number.f t354 t355).bind fun bt356 => (some (bt356.1, bt356.2.1, bt356.2.2.1, bt356.2.2.2.1, bt356.2.2.2.2))) = some (r1, r2, r3, r4, r5) := H
      have A67 := Aside0.mk A670
      clear A670
      replace H := Option.bind_eq_some_iff.mp H
      obtain ⟨⟨t356, t357, t358, t359, t360⟩, A680, H⟩ := H
      replace H : (some (t356, t357, t358, t359, t360)) = some (r1, r2, r3, r4, r5) := H
      have A68 := Aside0.mk A680
      clear A680
      simp only [Option.some.injEq, Prod.mk.injEq] at H
      obtain ⟨rfl, rfl, rfl, rfl, rfl⟩ := H
      go_enter Tryd.func23, Tryd.ntmps23
      go_wp2_with (first | ((with_reducible refine gate_dst (N := 3) rfl ?_); refine box_event ?hg (N := 3) ?hd (cs := #[.int .i64 a1_0, .int .u64 a1_1, .string a1_2, .int .i64 a1_3]) (t := 24) ?hr ?_; (case hd => rfl); (case hg => rfl); (case hr => first | (go_simp; done) | (go_simp; rfl)); intro gb330 hg w69 hbox hb; have n0_ := Aside0.mk (below_step (by repeat (first | (with_reducible first | exact HB.out | apply bA_ | apply bN_ | apply bD_) | exact HB.out)) hb); have n1_ := Aside0.mk (hbox); have n2_ := Aside0.mk ((by rw [hg]; exact (below_size (by repeat (first | (with_reducible first | exact HB.out | apply bA_ | apply bN_ | apply bD_) | exact HB.out))) : w.heap.size ≤ gb330)); have n3_ := Aside0.mk ((by rw [hg]; exact (below_size (by repeat (first | (with_reducible first | exact HB.out | apply bA_ | apply bN_ | apply bD_) | exact HB.out))) : w.heap.size ≤ gb330)); clear HB; have HB := n0_; have BK330 := n1_; have GW330 := n2_; have GE330 := n3_; clear n0_ n1_ n2_ n3_; clear hb hbox hg) | ((with_reducible refine gate_dst (N := 4) rfl ?_); refine box_event ?hg (N := 4) ?hd (cs := #[.int .i64 0, .int .u64 0, .string (⟨#[]⟩ : ByteArray), .int .i64 0]) (t := 24) ?hr ?_; (case hd => rfl); (case hg => rfl); (case hr => first | (go_simp; done) | (go_simp; rfl)); intro gb331 hg w70 hbox hb; have n0_ := Aside0.mk (blk_below (g := gb330) (o := .cells #[.int .i64 a1_0, .int .u64 a1_1, .string a1_2, .int .i64 a1_3] 24 (0, 0)) (by (with_reducible repeat (first | apply kN_ | apply kD_ | apply kA_)); exact BK330.out) hb); have n1_ := Aside0.mk (below_step (by repeat (first | (with_reducible first | exact HB.out | apply bA_ | apply bN_ | apply bD_ | refine bS_ ?_ GE330.out) | exact HB.out)) hb); have n2_ := Aside0.mk (hbox); have n3_ := Aside0.mk ((by rw [hg]; exact (below_size (by repeat (first | (with_reducible first | exact HB.out | apply bA_ | apply bN_ | apply bD_ | refine bS_ ?_ GE330.out) | exact HB.out))) : w.heap.size ≤ gb331)); have n4_ := Aside0.mk ((by rw [hg]; exact (below_size (by repeat (first | (with_reducible first | exact HB.out | apply bA_ | apply bN_ | apply bD_ | refine bS_ ?_ GE330.out) | exact HB.out))) : w.heap.size ≤ gb331)); have n5_ := Aside0.mk ((by rw [hg]; exact Nat.ne_of_lt (blk_lt (g := gb330) (o := .cells #[.int .i64 a1_0, .int .u64 a1_1, .string a1_2, .int .i64 a1_3] 24 (0, 0)) (by (with_reducible repeat (first | apply kN_ | apply kD_ | apply kA_)); exact BK330.out)) : gb330 ≠ gb331)); have n6_ := Aside0.mk ((by rw [hg]; exact Nat.ne_of_gt (blk_lt (g := gb330) (o := .cells #[.int .i64 a1_0, .int .u64 a1_1, .string a1_2, .int .i64 a1_3] 24 (0, 0)) (by (with_reducible repeat (first | apply kN_ | apply kD_ | apply kA_)); exact BK330.out)) : gb331 ≠ gb330)); clear BK330; clear HB; have BK330 := n0_; have HB := n1_; have BK331 := n2_; have GW331 := n3_; have GE331 := n4_; have NB330_331 := n5_; have NB331_330 := n6_; clear n0_ n1_ n2_ n3_ n4_ n5_ n6_; clear hb hbox hg; have hnb71 := NB330_331.out; have hnc71 := NB331_330.out; obtain ⟨hcz72_0, hcz72_1, hcz72_2, hcz72_3⟩ := cells4_ BK330.out; obtain ⟨hfz72_0, hfz72_1, hfz72_2, hfz72_3⟩ := froz4_ BK330.out) | ((with_reducible refine gate_callee (f := 25) rfl ?_); refine goesL_ (some 11) rfl rfl Tryd.func25 (by kernel_rfl) rfl #[.agg #[.int .i64 a1_0, .int .u64 a1_1, .string a1_2, .int .i64 a1_3]] rfl (by (try simp only [List.map_toArray, List.map_cons, List.map_nil]); first | done | rfl | (simp only [List.length_drop, List.length_take]; rfl)) ?_; (with_reducible refine (value_Valid.calls a1_0 a1_1 a1_2 a1_3 true _ A3.out).mono ?_); rintro e w73 ⟨rfl, hb⟩; refine ⟨_, rfl, ?_⟩; have n0_ := Aside0.mk (blk_below (g := gb330) (o := .cells #[.int .i64 a1_0, .int .u64 a1_1, .string a1_2, .int .i64 a1_3] 24 (0, 0)) (by (with_reducible repeat (first | apply kN_ | apply kD_ | apply kA_)); exact BK330.out) hb); have n1_ := Aside0.mk (blk_below (g := gb331) (o := .cells #[.int .i64 0, .int .u64 0, .string (⟨#[]⟩ : ByteArray), .int .i64 0] 24 (0, 0)) (by (with_reducible repeat (first | apply kN_ | apply kD_ | apply kA_)); exact BK331.out) hb); have n2_ := Aside0.mk (below_step (by repeat (first | (with_reducible first | exact HB.out | apply bA_ | apply bN_ | apply bD_ | refine bS_ ?_ GE330.out | refine bS_ ?_ GE331.out) | exact HB.out)) hb); clear BK330; clear BK331; clear HB; have BK330 := n0_; have BK331 := n1_; have HB := n2_; clear n0_ n1_ n2_; (try clear hb); (try clear hb2); (try clear hk); (try clear hi); obtain ⟨hcz74_0, hcz74_1, hcz74_2, hcz74_3⟩ := cells4_ BK330.out; obtain ⟨hfz74_0, hfz74_1, hfz74_2, hfz74_3⟩ := froz4_ BK330.out) | ((with_reducible refine gate_callee (f := 45) rfl ?_); refine goesL_ (some 61) rfl rfl Tryd.func45 (by kernel_rfl) rfl #[.agg #[.int .i64 a1_0, .int .u64 a1_1, .string a1_2, .int .i64 a1_3]] rfl (by (try simp only [List.map_toArray, List.map_cons, List.map_nil]); first | done | rfl | (simp only [List.length_drop, List.length_take]; rfl)) ?_; (with_reducible refine (value_explicit.calls k a1_0 a1_1 a1_2 a1_3 t354 t355 _ A67.out).mono ?_); rintro e w75 ⟨rfl, hb⟩; refine ⟨_, rfl, ?_⟩; have n0_ := Aside0.mk (blk_below (g := gb330) (o := .cells #[.int .i64 a1_0, .int .u64 a1_1, .string a1_2, .int .i64 a1_3] 24 (0, 0)) (by (with_reducible repeat (first | apply kN_ | apply kD_ | apply kA_)); exact BK330.out) hb); have n1_ := Aside0.mk (blk_below (g := gb331) (o := .cells #[.int .i64 0, .int .u64 0, .string (⟨#[]⟩ : ByteArray), .int .i64 0] 24 (0, 0)) (by (with_reducible repeat (first | apply kN_ | apply kD_ | apply kA_)); exact BK331.out) hb); have n2_ := Aside0.mk (below_step (by repeat (first | (with_reducible first | exact HB.out | apply bA_ | apply bN_ | apply bD_ | refine bS_ ?_ GE330.out | refine bS_ ?_ GE331.out) | exact HB.out)) hb); clear BK330; clear BK331; clear HB; have BK330 := n0_; have BK331 := n1_; have HB := n2_; clear n0_ n1_ n2_; (try clear hb); (try clear hb2); (try clear hk); (try clear hi)) | ((with_reducible refine gate_callee (f := 42) rfl ?_); refine goesL_ (some 64) rfl rfl Tryd.func42 (by kernel_rfl) rfl #[.int .u64 t354, .int .i64 t355] rfl (by (try simp only [List.map_toArray, List.map_cons, List.map_nil]); first | done | rfl | (simp only [List.length_drop, List.length_take]; rfl)) ?_; (with_reducible refine (value_number.calls t354 t355 t356 t357 t358 t359 t360 _ A68.out).mono ?_); rintro e w76 ⟨rfl, hb⟩; refine ⟨_, rfl, ?_⟩; have n0_ := Aside0.mk (blk_below (g := gb330) (o := .cells #[.int .i64 a1_0, .int .u64 a1_1, .string a1_2, .int .i64 a1_3] 24 (0, 0)) (by (with_reducible repeat (first | apply kN_ | apply kD_ | apply kA_)); exact BK330.out) hb); have n1_ := Aside0.mk (blk_below (g := gb331) (o := .cells #[.int .i64 0, .int .u64 0, .string (⟨#[]⟩ : ByteArray), .int .i64 0] 24 (0, 0)) (by (with_reducible repeat (first | apply kN_ | apply kD_ | apply kA_)); exact BK331.out) hb); have n2_ := Aside0.mk (below_step (by repeat (first | (with_reducible first | exact HB.out | apply bA_ | apply bN_ | apply bD_ | refine bS_ ?_ GE330.out | refine bS_ ?_ GE331.out) | exact HB.out)) hb); clear BK330; clear BK331; clear HB; have BK330 := n0_; have BK331 := n1_; have HB := n2_; clear n0_ n1_ n2_; (try clear hb); (try clear hb2); (try clear hk); (try clear hi); obtain ⟨hcz77_0, hcz77_1, hcz77_2, hcz77_3⟩ := cells4_ BK331.out; obtain ⟨hfz77_0, hfz77_1, hfz77_2, hfz77_3⟩ := froz4_ BK331.out))
      refine bodyPost_ret (results_ct rfl _ _ gb331 24 #[.int .i64 t356, .int .u64 t357, .string t358, .int .i64 t359] (0, 0) _ rfl (by (with_reducible repeat (first | apply kN_ | apply kD_ | apply kA_)); refine blk_put (cs := #[.int .i64 t356, .int .u64 t357, .string t358, .int .i64 0]) ?_ 3 _ rfl; (with_reducible repeat (first | apply kN_ | apply kD_ | apply kA_)); refine blk_put (cs := #[.int .i64 t356, .int .u64 t357, .string (⟨#[]⟩ : ByteArray), .int .i64 0]) ?_ 2 _ rfl; (with_reducible repeat (first | apply kN_ | apply kD_ | apply kA_)); refine blk_put (cs := #[.int .i64 t356, .int .u64 0, .string (⟨#[]⟩ : ByteArray), .int .i64 0]) ?_ 1 _ rfl; (with_reducible repeat (first | apply kN_ | apply kD_ | apply kA_)); refine blk_put (cs := #[.int .i64 0, .int .u64 0, .string (⟨#[]⟩ : ByteArray), .int .i64 0]) ?_ 0 _ rfl; (with_reducible repeat (first | apply kN_ | apply kD_ | apply kA_)); exact BK331.out) Tryd.underlying24 rfl (by kernel_rfl)) rfl ?_
      exact ⟨by first | rfl | (simp [errW_none, errW_some] <;> rfl) | (simp [*, errW_none, errW_some] <;> rfl), by repeat (first | (with_reducible first | exact HB.out | apply bA_ | apply bN_ | apply bD_ | refine bS_ ?_ GE330.out | refine bS_ ?_ GE331.out) | exact HB.out)⟩
     ·rw [if_neg c66] at H
      have c66b0 : (a0 == 80) = false := beq_eq_false_iff_ne.mpr c66
      have c66b1 : (a0 != 80) = true := bne_iff_ne.mpr c66
      by_cases c78 : a0 = 81
      ·rw [if_pos c78] at H
       have c78b0 : (a0 == 81) = true := beq_iff_eq.mpr c78
       have c78b1 : (a0 != 81) = false := bne_eq_false_iff_eq.mpr c78
       clear c78
       replace H := Option.bind_eq_some_iff.mp H
       obtain ⟨⟨t361, t362, t363, t364, t365⟩, A790, H⟩ := H
       replace H : (some (t361, t362, t363, t364, t365)) = some (r1, r2, r3, r4, r5) := H
       have A79 := Aside0.mk A790
       clear A790
       simp only [Option.some.injEq, Prod.mk.injEq] at H
       obtain ⟨rfl, rfl, rfl, rfl, rfl⟩ := H
       go_enter Tryd.func23, Tryd.ntmps23
       go_wp2_with (first | ((with_reducible refine gate_dst (N := 3) rfl ?_); refine box_event ?hg (N := 3) ?hd (cs := #[.int .i64 a1_0, .int .u64 a1_1, .string a1_2, .int .i64 a1_3]) (t := 24) ?hr ?_; (case hd => rfl); (case hg => rfl); (case hr => first | (go_simp; done) | (go_simp; rfl)); intro gb330 hg w80 hbox hb; have n0_ := Aside0.mk (below_step (by repeat (first | (with_reducible first | exact HB.out | apply bA_ | apply bN_ | apply bD_) | exact HB.out)) hb); have n1_ := Aside0.mk (hbox); have n2_ := Aside0.mk ((by rw [hg]; exact (below_size (by repeat (first | (with_reducible first | exact HB.out | apply bA_ | apply bN_ | apply bD_) | exact HB.out))) : w.heap.size ≤ gb330)); have n3_ := Aside0.mk ((by rw [hg]; exact (below_size (by repeat (first | (with_reducible first | exact HB.out | apply bA_ | apply bN_ | apply bD_) | exact HB.out))) : w.heap.size ≤ gb330)); clear HB; have HB := n0_; have BK330 := n1_; have GW330 := n2_; have GE330 := n3_; clear n0_ n1_ n2_ n3_; clear hb hbox hg) | ((with_reducible refine gate_dst (N := 4) rfl ?_); refine box_event ?hg (N := 4) ?hd (cs := #[.int .i64 0, .int .u64 0, .string (⟨#[]⟩ : ByteArray), .int .i64 0]) (t := 24) ?hr ?_; (case hd => rfl); (case hg => rfl); (case hr => first | (go_simp; done) | (go_simp; rfl)); intro gb331 hg w81 hbox hb; have n0_ := Aside0.mk (blk_below (g := gb330) (o := .cells #[.int .i64 a1_0, .int .u64 a1_1, .string a1_2, .int .i64 a1_3] 24 (0, 0)) (by (with_reducible repeat (first | apply kN_ | apply kD_ | apply kA_)); exact BK330.out) hb); have n1_ := Aside0.mk (below_step (by repeat (first | (with_reducible first | exact HB.out | apply bA_ | apply bN_ | apply bD_ | refine bS_ ?_ GE330.out) | exact HB.out)) hb); have n2_ := Aside0.mk (hbox); have n3_ := Aside0.mk ((by rw [hg]; exact (below_size (by repeat (first | (with_reducible first | exact HB.out | apply bA_ | apply bN_ | apply bD_ | refine bS_ ?_ GE330.out) | exact HB.out))) : w.heap.size ≤ gb331)); have n4_ := Aside0.mk ((by rw [hg]; exact (below_size (by repeat (first | (with_reducible first | exact HB.out | apply bA_ | apply bN_ | apply bD_ | refine bS_ ?_ GE330.out) | exact HB.out))) : w.heap.size ≤ gb331)); have n5_ := Aside0.mk ((by rw [hg]; exact Nat.ne_of_lt (blk_lt (g := gb330) (o := .cells #[.int .i64 a1_0, .int .u64 a1_1, .string a1_2, .int .i64 a1_3] 24 (0, 0)) (by (with_reducible repeat (first | apply kN_ | apply kD_ | apply kA_)); exact BK330.out)) : gb330 ≠ gb331)); have n6_ := Aside0.mk ((by rw [hg]; exact Nat.ne_of_gt (blk_lt (g := gb330) (o := .cells #[.int .i64 a1_0, .int .u64 a1_1, .string a1_2, .int .i64 a1_3] 24 (0, 0)) (by (with_reducible repeat (first | apply kN_ | apply kD_ | apply kA_)); exact BK330.out)) : gb331 ≠ gb330)); clear BK330; clear HB; have BK330 := n0_; have HB := n1_; have BK331 := n2_; have GW331 := n3_; have GE331 := n4_; have NB330_331 := n5_; have NB331_330 := n6_; clear n0_ n1_ n2_ n3_ n4_ n5_ n6_; clear hb hbox hg; have hnb82 := NB330_331.out; have hnc82 := NB331_330.out; obtain ⟨hcz83_0, hcz83_1, hcz83_2, hcz83_3⟩ := cells4_ BK330.out; obtain ⟨hfz83_0, hfz83_1, hfz83_2, hfz83_3⟩ := froz4_ BK330.out) | ((with_reducible refine gate_callee (f := 25) rfl ?_); refine goesL_ (some 11) rfl rfl Tryd.func25 (by kernel_rfl) rfl #[.agg #[.int .i64 a1_0, .int .u64 a1_1, .string a1_2, .int .i64 a1_3]] rfl (by (try simp only [List.map_toArray, List.map_cons, List.map_nil]); first | done | rfl | (simp only [List.length_drop, List.length_take]; rfl)) ?_; (with_reducible refine (value_Valid.calls a1_0 a1_1 a1_2 a1_3 true _ A3.out).mono ?_); rintro e w84 ⟨rfl, hb⟩; refine ⟨_, rfl, ?_⟩; have n0_ := Aside0.mk (blk_below (g := gb330) (o := .cells #[.int .i64 a1_0, .int .u64 a1_1, .string a1_2, .int .i64 a1_3] 24 (0, 0)) (by (with_reducible repeat (first | apply kN_ | apply kD_ | apply kA_)); exact BK330.out) hb); have n1_ := Aside0.mk (blk_below (g := gb331) (o := .cells #[.int .i64 0, .int .u64 0, .string (⟨#[]⟩ : ByteArray), .int .i64 0] 24 (0, 0)) (by (with_reducible repeat (first | apply kN_ | apply kD_ | apply kA_)); exact BK331.out) hb); have n2_ := Aside0.mk (below_step (by repeat (first | (with_reducible first | exact HB.out | apply bA_ | apply bN_ | apply bD_ | refine bS_ ?_ GE330.out | refine bS_ ?_ GE331.out) | exact HB.out)) hb); clear BK330; clear BK331; clear HB; have BK330 := n0_; have BK331 := n1_; have HB := n2_; clear n0_ n1_ n2_; (try clear hb); (try clear hb2); (try clear hk); (try clear hi); obtain ⟨hcz85_0, hcz85_1, hcz85_2, hcz85_3⟩ := cells4_ BK330.out; obtain ⟨hfz85_0, hfz85_1, hfz85_2, hfz85_3⟩ := froz4_ BK330.out) | ((with_reducible refine gate_callee (f := 46) rfl ?_); refine goesL_ (some 70) rfl rfl Tryd.func46 (by kernel_rfl) rfl #[.agg #[.int .i64 a1_0, .int .u64 a1_1, .string a1_2, .int .i64 a1_3], .int .i64 3] rfl (by (try simp only [List.map_toArray, List.map_cons, List.map_nil]); first | done | rfl | (simp only [List.length_drop, List.length_take]; rfl)) ?_; (with_reducible refine (value_Convert.calls k a1_0 a1_1 a1_2 a1_3 3 t361 t362 t363 t364 t365 _ ?hTT_ A79.out).mono ?_); (case hTT_ => exact tb_below HTT_.out (by repeat (first | (with_reducible first | exact HB.out | apply bA_ | apply bN_ | apply bD_ | refine bS_ ?_ GE330.out | refine bS_ ?_ GE331.out) | exact HB.out))); rintro e w86 ⟨rfl, hb⟩; refine ⟨_, rfl, ?_⟩; have n0_ := Aside0.mk (blk_below (g := gb330) (o := .cells #[.int .i64 a1_0, .int .u64 a1_1, .string a1_2, .int .i64 a1_3] 24 (0, 0)) (by (with_reducible repeat (first | apply kN_ | apply kD_ | apply kA_)); exact BK330.out) hb); have n1_ := Aside0.mk (blk_below (g := gb331) (o := .cells #[.int .i64 0, .int .u64 0, .string (⟨#[]⟩ : ByteArray), .int .i64 0] 24 (0, 0)) (by (with_reducible repeat (first | apply kN_ | apply kD_ | apply kA_)); exact BK331.out) hb); have n2_ := Aside0.mk (below_step (by repeat (first | (with_reducible first | exact HB.out | apply bA_ | apply bN_ | apply bD_ | refine bS_ ?_ GE330.out | refine bS_ ?_ GE331.out) | exact HB.out)) hb); clear BK330; clear BK331; clear HB; have BK330 := n0_; have BK331 := n1_; have HB := n2_; clear n0_ n1_ n2_; (try clear hb); (try clear hb2); (try clear hk); (try clear hi); obtain ⟨hcz87_0, hcz87_1, hcz87_2, hcz87_3⟩ := cells4_ BK331.out; obtain ⟨hfz87_0, hfz87_1, hfz87_2, hfz87_3⟩ := froz4_ BK331.out))
       refine bodyPost_ret (results_ct rfl _ _ gb331 24 #[.int .i64 t361, .int .u64 t362, .string t363, .int .i64 t364] (0, 0) _ rfl (by (with_reducible repeat (first | apply kN_ | apply kD_ | apply kA_)); refine blk_put (cs := #[.int .i64 t361, .int .u64 t362, .string t363, .int .i64 0]) ?_ 3 _ rfl; (with_reducible repeat (first | apply kN_ | apply kD_ | apply kA_)); refine blk_put (cs := #[.int .i64 t361, .int .u64 t362, .string (⟨#[]⟩ : ByteArray), .int .i64 0]) ?_ 2 _ rfl; (with_reducible repeat (first | apply kN_ | apply kD_ | apply kA_)); refine blk_put (cs := #[.int .i64 t361, .int .u64 0, .string (⟨#[]⟩ : ByteArray), .int .i64 0]) ?_ 1 _ rfl; (with_reducible repeat (first | apply kN_ | apply kD_ | apply kA_)); refine blk_put (cs := #[.int .i64 0, .int .u64 0, .string (⟨#[]⟩ : ByteArray), .int .i64 0]) ?_ 0 _ rfl; (with_reducible repeat (first | apply kN_ | apply kD_ | apply kA_)); exact BK331.out) Tryd.underlying24 rfl (by kernel_rfl)) rfl ?_
       exact ⟨by first | rfl | (simp [errW_none, errW_some] <;> rfl) | (simp [*, errW_none, errW_some] <;> rfl), by repeat (first | (with_reducible first | exact HB.out | apply bA_ | apply bN_ | apply bD_ | refine bS_ ?_ GE330.out | refine bS_ ?_ GE331.out) | exact HB.out)⟩
      ·rw [if_neg c78] at H
       have c78b0 : (a0 == 81) = false := beq_eq_false_iff_ne.mpr c78
       have c78b1 : (a0 != 81) = true := bne_iff_ne.mpr c78
       by_cases c88 : a0 = 82
       ·rw [if_pos c88] at H
        have c88b0 : (a0 == 82) = true := beq_iff_eq.mpr c88
        have c88b1 : (a0 != 82) = false := bne_eq_false_iff_eq.mpr c88
        clear c88
        exact absurd H (by simp)
       ·rw [if_neg c88] at H
        have c88b0 : (a0 == 82) = false := beq_eq_false_iff_ne.mpr c88
        have c88b1 : (a0 != 82) = true := bne_iff_ne.mpr c88
        by_cases c89 : a0 = 83
        ·rw [if_pos c89] at H
         have c89b0 : (a0 == 83) = true := beq_iff_eq.mpr c89
         have c89b1 : (a0 != 83) = false := bne_eq_false_iff_eq.mpr c89
         clear c89
         exact absurd H (by simp)
        ·rw [if_neg c89] at H
         have c89b0 : (a0 == 83) = false := beq_eq_false_iff_ne.mpr c89
         have c89b1 : (a0 != 83) = true := bne_iff_ne.mpr c89
         simp only [Option.some.injEq, Prod.mk.injEq] at H
         obtain ⟨rfl, rfl, rfl, rfl, rfl⟩ := H
         go_enter Tryd.func23, Tryd.ntmps23
         go_wp2_with (first | ((with_reducible refine gate_dst (N := 3) rfl ?_); refine box_event ?hg (N := 3) ?hd (cs := #[.int .i64 a1_0, .int .u64 a1_1, .string a1_2, .int .i64 a1_3]) (t := 24) ?hr ?_; (case hd => rfl); (case hg => rfl); (case hr => first | (go_simp; done) | (go_simp; rfl)); intro gb330 hg w90 hbox hb; have n0_ := Aside0.mk (below_step (by repeat (first | (with_reducible first | exact HB.out | apply bA_ | apply bN_ | apply bD_) | exact HB.out)) hb); have n1_ := Aside0.mk (hbox); have n2_ := Aside0.mk ((by rw [hg]; exact (below_size (by repeat (first | (with_reducible first | exact HB.out | apply bA_ | apply bN_ | apply bD_) | exact HB.out))) : w.heap.size ≤ gb330)); have n3_ := Aside0.mk ((by rw [hg]; exact (below_size (by repeat (first | (with_reducible first | exact HB.out | apply bA_ | apply bN_ | apply bD_) | exact HB.out))) : w.heap.size ≤ gb330)); clear HB; have HB := n0_; have BK330 := n1_; have GW330 := n2_; have GE330 := n3_; clear n0_ n1_ n2_ n3_; clear hb hbox hg) | ((with_reducible refine gate_dst (N := 4) rfl ?_); refine box_event ?hg (N := 4) ?hd (cs := #[.int .i64 0, .int .u64 0, .string (⟨#[]⟩ : ByteArray), .int .i64 0]) (t := 24) ?hr ?_; (case hd => rfl); (case hg => rfl); (case hr => first | (go_simp; done) | (go_simp; rfl)); intro gb331 hg w91 hbox hb; have n0_ := Aside0.mk (blk_below (g := gb330) (o := .cells #[.int .i64 a1_0, .int .u64 a1_1, .string a1_2, .int .i64 a1_3] 24 (0, 0)) (by (with_reducible repeat (first | apply kN_ | apply kD_ | apply kA_)); exact BK330.out) hb); have n1_ := Aside0.mk (below_step (by repeat (first | (with_reducible first | exact HB.out | apply bA_ | apply bN_ | apply bD_ | refine bS_ ?_ GE330.out) | exact HB.out)) hb); have n2_ := Aside0.mk (hbox); have n3_ := Aside0.mk ((by rw [hg]; exact (below_size (by repeat (first | (with_reducible first | exact HB.out | apply bA_ | apply bN_ | apply bD_ | refine bS_ ?_ GE330.out) | exact HB.out))) : w.heap.size ≤ gb331)); have n4_ := Aside0.mk ((by rw [hg]; exact (below_size (by repeat (first | (with_reducible first | exact HB.out | apply bA_ | apply bN_ | apply bD_ | refine bS_ ?_ GE330.out) | exact HB.out))) : w.heap.size ≤ gb331)); have n5_ := Aside0.mk ((by rw [hg]; exact Nat.ne_of_lt (blk_lt (g := gb330) (o := .cells #[.int .i64 a1_0, .int .u64 a1_1, .string a1_2, .int .i64 a1_3] 24 (0, 0)) (by (with_reducible repeat (first | apply kN_ | apply kD_ | apply kA_)); exact BK330.out)) : gb330 ≠ gb331)); have n6_ := Aside0.mk ((by rw [hg]; exact Nat.ne_of_gt (blk_lt (g := gb330) (o := .cells #[.int .i64 a1_0, .int .u64 a1_1, .string a1_2, .int .i64 a1_3] 24 (0, 0)) (by (with_reducible repeat (first | apply kN_ | apply kD_ | apply kA_)); exact BK330.out)) : gb331 ≠ gb330)); clear BK330; clear HB; have BK330 := n0_; have HB := n1_; have BK331 := n2_; have GW331 := n3_; have GE331 := n4_; have NB330_331 := n5_; have NB331_330 := n6_; clear n0_ n1_ n2_ n3_ n4_ n5_ n6_; clear hb hbox hg; have hnb92 := NB330_331.out; have hnc92 := NB331_330.out; obtain ⟨hcz93_0, hcz93_1, hcz93_2, hcz93_3⟩ := cells4_ BK330.out; obtain ⟨hfz93_0, hfz93_1, hfz93_2, hfz93_3⟩ := froz4_ BK330.out) | ((with_reducible refine gate_callee (f := 25) rfl ?_); refine goesL_ (some 11) rfl rfl Tryd.func25 (by kernel_rfl) rfl #[.agg #[.int .i64 a1_0, .int .u64 a1_1, .string a1_2, .int .i64 a1_3]] rfl (by (try simp only [List.map_toArray, List.map_cons, List.map_nil]); first | done | rfl | (simp only [List.length_drop, List.length_take]; rfl)) ?_; (with_reducible refine (value_Valid.calls a1_0 a1_1 a1_2 a1_3 true _ A3.out).mono ?_); rintro e w94 ⟨rfl, hb⟩; refine ⟨_, rfl, ?_⟩; have n0_ := Aside0.mk (blk_below (g := gb330) (o := .cells #[.int .i64 a1_0, .int .u64 a1_1, .string a1_2, .int .i64 a1_3] 24 (0, 0)) (by (with_reducible repeat (first | apply kN_ | apply kD_ | apply kA_)); exact BK330.out) hb); have n1_ := Aside0.mk (blk_below (g := gb331) (o := .cells #[.int .i64 0, .int .u64 0, .string (⟨#[]⟩ : ByteArray), .int .i64 0] 24 (0, 0)) (by (with_reducible repeat (first | apply kN_ | apply kD_ | apply kA_)); exact BK331.out) hb); have n2_ := Aside0.mk (below_step (by repeat (first | (with_reducible first | exact HB.out | apply bA_ | apply bN_ | apply bD_ | refine bS_ ?_ GE330.out | refine bS_ ?_ GE331.out) | exact HB.out)) hb); clear BK330; clear BK331; clear HB; have BK330 := n0_; have BK331 := n1_; have HB := n2_; clear n0_ n1_ n2_; (try clear hb); (try clear hb2); (try clear hk); (try clear hi); obtain ⟨hcz95_0, hcz95_1, hcz95_2, hcz95_3⟩ := cells4_ BK331.out; obtain ⟨hfz95_0, hfz95_1, hfz95_2, hfz95_3⟩ := froz4_ BK331.out))
         refine bodyPost_ret (results_ct rfl _ _ gb331 24 #[.int .i64 0, .int .u64 0, .string (⟨#[]⟩ : ByteArray), .int .i64 0] (0, 0) _ rfl (by (with_reducible repeat (first | apply kN_ | apply kD_ | apply kA_)); refine blk_put (cs := #[.int .i64 0, .int .u64 0, .string (⟨#[]⟩ : ByteArray), .int .i64 0]) ?_ 3 _ rfl; (with_reducible repeat (first | apply kN_ | apply kD_ | apply kA_)); refine blk_put (cs := #[.int .i64 0, .int .u64 0, .string (⟨#[]⟩ : ByteArray), .int .i64 0]) ?_ 2 _ rfl; (with_reducible repeat (first | apply kN_ | apply kD_ | apply kA_)); refine blk_put (cs := #[.int .i64 0, .int .u64 0, .string (⟨#[]⟩ : ByteArray), .int .i64 0]) ?_ 1 _ rfl; (with_reducible repeat (first | apply kN_ | apply kD_ | apply kA_)); refine blk_put (cs := #[.int .i64 0, .int .u64 0, .string (⟨#[]⟩ : ByteArray), .int .i64 0]) ?_ 0 _ rfl; (with_reducible repeat (first | apply kN_ | apply kD_ | apply kA_)); exact BK331.out) Tryd.underlying24 rfl (by kernel_rfl)) rfl ?_
         exact ⟨by first | rfl | (simp [errW_none, errW_some] <;> rfl) | (simp [*, errW_none, errW_some] <;> rfl), by repeat (first | (with_reducible first | exact HB.out | apply bA_ | apply bN_ | apply bD_ | refine bS_ ?_ GE330.out | refine bS_ ?_ GE331.out) | exact HB.out)⟩
 ·replace c4 := Bool.eq_false_iff.mpr c4
  subst c4
  have H1 : (some (0, 0, (⟨#[]⟩ : ByteArray), 0, 1)) = some (r1, r2, r3, r4, r5) := by rw [if_neg (show ¬ (false = true) by decide)] at H; exact H
  clear H
  have H := H1
  clear H1
  simp only [Option.some.injEq, Prod.mk.injEq] at H
  obtain ⟨rfl, rfl, rfl, rfl, rfl⟩ := H
  go_enter Tryd.func23, Tryd.ntmps23
  go_wp2_with (first | ((with_reducible refine gate_dst (N := 3) rfl ?_); refine box_event ?hg (N := 3) ?hd (cs := #[.int .i64 a1_0, .int .u64 a1_1, .string a1_2, .int .i64 a1_3]) (t := 24) ?hr ?_; (case hd => rfl); (case hg => rfl); (case hr => first | (go_simp; done) | (go_simp; rfl)); intro gb330 hg w96 hbox hb; have n0_ := Aside0.mk (below_step (by repeat (first | (with_reducible first | exact HB.out | apply bA_ | apply bN_ | apply bD_) | exact HB.out)) hb); have n1_ := Aside0.mk (hbox); have n2_ := Aside0.mk ((by rw [hg]; exact (below_size (by repeat (first | (with_reducible first | exact HB.out | apply bA_ | apply bN_ | apply bD_) | exact HB.out))) : w.heap.size ≤ gb330)); have n3_ := Aside0.mk ((by rw [hg]; exact (below_size (by repeat (first | (with_reducible first | exact HB.out | apply bA_ | apply bN_ | apply bD_) | exact HB.out))) : w.heap.size ≤ gb330)); clear HB; have HB := n0_; have BK330 := n1_; have GW330 := n2_; have GE330 := n3_; clear n0_ n1_ n2_ n3_; clear hb hbox hg) | ((with_reducible refine gate_dst (N := 4) rfl ?_); refine box_event ?hg (N := 4) ?hd (cs := #[.int .i64 0, .int .u64 0, .string (⟨#[]⟩ : ByteArray), .int .i64 0]) (t := 24) ?hr ?_; (case hd => rfl); (case hg => rfl); (case hr => first | (go_simp; done) | (go_simp; rfl)); intro gb331 hg w97 hbox hb; have n0_ := Aside0.mk (blk_below (g := gb330) (o := .cells #[.int .i64 a1_0, .int .u64 a1_1, .string a1_2, .int .i64 a1_3] 24 (0, 0)) (by (with_reducible repeat (first | apply kN_ | apply kD_ | apply kA_)); exact BK330.out) hb); have n1_ := Aside0.mk (below_step (by repeat (first | (with_reducible first | exact HB.out | apply bA_ | apply bN_ | apply bD_ | refine bS_ ?_ GE330.out) | exact HB.out)) hb); have n2_ := Aside0.mk (hbox); have n3_ := Aside0.mk ((by rw [hg]; exact (below_size (by repeat (first | (with_reducible first | exact HB.out | apply bA_ | apply bN_ | apply bD_ | refine bS_ ?_ GE330.out) | exact HB.out))) : w.heap.size ≤ gb331)); have n4_ := Aside0.mk ((by rw [hg]; exact (below_size (by repeat (first | (with_reducible first | exact HB.out | apply bA_ | apply bN_ | apply bD_ | refine bS_ ?_ GE330.out) | exact HB.out))) : w.heap.size ≤ gb331)); have n5_ := Aside0.mk ((by rw [hg]; exact Nat.ne_of_lt (blk_lt (g := gb330) (o := .cells #[.int .i64 a1_0, .int .u64 a1_1, .string a1_2, .int .i64 a1_3] 24 (0, 0)) (by (with_reducible repeat (first | apply kN_ | apply kD_ | apply kA_)); exact BK330.out)) : gb330 ≠ gb331)); have n6_ := Aside0.mk ((by rw [hg]; exact Nat.ne_of_gt (blk_lt (g := gb330) (o := .cells #[.int .i64 a1_0, .int .u64 a1_1, .string a1_2, .int .i64 a1_3] 24 (0, 0)) (by (with_reducible repeat (first | apply kN_ | apply kD_ | apply kA_)); exact BK330.out)) : gb331 ≠ gb330)); clear BK330; clear HB; have BK330 := n0_; have HB := n1_; have BK331 := n2_; have GW331 := n3_; have GE331 := n4_; have NB330_331 := n5_; have NB331_330 := n6_; clear n0_ n1_ n2_ n3_ n4_ n5_ n6_; clear hb hbox hg; have hnb98 := NB330_331.out; have hnc98 := NB331_330.out; obtain ⟨hcz99_0, hcz99_1, hcz99_2, hcz99_3⟩ := cells4_ BK330.out; obtain ⟨hfz99_0, hfz99_1, hfz99_2, hfz99_3⟩ := froz4_ BK330.out) | ((with_reducible refine gate_callee (f := 25) rfl ?_); refine goesL_ (some 11) rfl rfl Tryd.func25 (by kernel_rfl) rfl #[.agg #[.int .i64 a1_0, .int .u64 a1_1, .string a1_2, .int .i64 a1_3]] rfl (by (try simp only [List.map_toArray, List.map_cons, List.map_nil]); first | done | rfl | (simp only [List.length_drop, List.length_take]; rfl)) ?_; (with_reducible refine (value_Valid.calls a1_0 a1_1 a1_2 a1_3 false _ A3.out).mono ?_); rintro e w100 ⟨rfl, hb⟩; refine ⟨_, rfl, ?_⟩; have n0_ := Aside0.mk (blk_below (g := gb330) (o := .cells #[.int .i64 a1_0, .int .u64 a1_1, .string a1_2, .int .i64 a1_3] 24 (0, 0)) (by (with_reducible repeat (first | apply kN_ | apply kD_ | apply kA_)); exact BK330.out) hb); have n1_ := Aside0.mk (blk_below (g := gb331) (o := .cells #[.int .i64 0, .int .u64 0, .string (⟨#[]⟩ : ByteArray), .int .i64 0] 24 (0, 0)) (by (with_reducible repeat (first | apply kN_ | apply kD_ | apply kA_)); exact BK331.out) hb); have n2_ := Aside0.mk (below_step (by repeat (first | (with_reducible first | exact HB.out | apply bA_ | apply bN_ | apply bD_ | refine bS_ ?_ GE330.out | refine bS_ ?_ GE331.out) | exact HB.out)) hb); clear BK330; clear BK331; clear HB; have BK330 := n0_; have BK331 := n1_; have HB := n2_; clear n0_ n1_ n2_; (try clear hb); (try clear hb2); (try clear hk); (try clear hi); obtain ⟨hcz101_0, hcz101_1, hcz101_2, hcz101_3⟩ := cells4_ BK331.out; obtain ⟨hfz101_0, hfz101_1, hfz101_2, hfz101_3⟩ := froz4_ BK331.out))
  refine bodyPost_ret (results_ct rfl _ _ gb331 24 #[.int .i64 0, .int .u64 0, .string (⟨#[]⟩ : ByteArray), .int .i64 0] (0, 0) _ rfl (by (with_reducible repeat (first | apply kN_ | apply kD_ | apply kA_)); refine blk_put (cs := #[.int .i64 0, .int .u64 0, .string (⟨#[]⟩ : ByteArray), .int .i64 0]) ?_ 3 _ rfl; (with_reducible repeat (first | apply kN_ | apply kD_ | apply kA_)); refine blk_put (cs := #[.int .i64 0, .int .u64 0, .string (⟨#[]⟩ : ByteArray), .int .i64 0]) ?_ 2 _ rfl; (with_reducible repeat (first | apply kN_ | apply kD_ | apply kA_)); refine blk_put (cs := #[.int .i64 0, .int .u64 0, .string (⟨#[]⟩ : ByteArray), .int .i64 0]) ?_ 1 _ rfl; (with_reducible repeat (first | apply kN_ | apply kD_ | apply kA_)); refine blk_put (cs := #[.int .i64 0, .int .u64 0, .string (⟨#[]⟩ : ByteArray), .int .i64 0]) ?_ 0 _ rfl; (with_reducible repeat (first | apply kN_ | apply kD_ | apply kA_)); exact BK331.out) Tryd.underlying24 rfl (by kernel_rfl)) rfl ?_
  exact ⟨by first | rfl | (simp [errW_none, errW_some] <;> rfl) | (simp [*, errW_none, errW_some] <;> rfl), by repeat (first | (with_reducible first | exact HB.out | apply bA_ | apply bN_ | apply bD_ | refine bS_ ?_ GE330.out | refine bS_ ?_ GE331.out) | exact HB.out)⟩

/-! ### platformfwlaw08_number: function 24 -/
def platformfwlaw08_number.f (k : Nat) (a0 : Int) (a1 : Int) (a2 : Int) : Option (Int) := (platformfwref08_Number.f a1).bind fun bt366 => ((platformfwref08_Number.f a2).bind fun bt370 => ((value_Binary.f k a0 bt366.1 bt366.2.1 bt366.2.2.1 bt366.2.2.2 bt370.1 bt370.2.1 bt370.2.2.1 bt370.2.2.2).bind fun bt374 => (some bt374.2.1)))
theorem platformfwlaw08_number.mono : ∀ a0 a1 a2 k, LeO (platformfwlaw08_number.f k a0 a1 a2) (platformfwlaw08_number.f (k + 1) a0 a1 a2) := by
 intro a0 a1 a2 k
 unfold platformfwlaw08_number.f
 repeat' first
   | (with_reducible exact value_Binary.mono _ _ _ _ _ _ _ _ _ _)
   | (with_reducible exact LeO.refl _)
   | (with_reducible exact LeO.none _)
   | (with_reducible refine LeO.ite ?_ ?_)
   | (with_reducible refine LeO.bind ?_ (fun _ => ?_))
   | exact value_Binary.mono _ _ _ _ _ _ _ _ _ _
   | exact LeO.none _
   | refine LeO.ite ?_ ?_
   | refine LeO.bind ?_ (fun _ => ?_)
set_option maxHeartbeats 8000000 in
set_option maxRecDepth 100000 in
theorem platformfwlaw08_number.calls (k : Nat) (a0 : Int) (a1 : Int) (a2 : Int) (r : Int) (w : World) (hT_ : w.cell? ⟨6, 15, none⟩ = some (.int .u8 4)) (h : platformfwlaw08_number.f k a0 a1 a2 = some r) :
  Calls Tryd.prog 24 #[.int .i64 a0, .int .u64 a1, .int .u64 a2] w fun e w' => e = .returned (.int .u64 r) ∧ Below w.heap.size w w' := by
 have HTT_ := Aside0.mk hT_
 clear hT_
 have hu24 := Tryd.underlying24
 have HB := Aside0.mk (Below.refl w.heap.size w)
 have H : ((platformfwref08_Number.f a1).bind fun bt366 => ((platformfwref08_Number.f a2).bind fun bt370 => ((value_Binary.f k a0 bt366.1 bt366.2.1 bt366.2.2.1 bt366.2.2.2 bt370.1 bt370.2.1 bt370.2.2.1 bt370.2.2.2).bind fun bt374 => (some bt374.2.1)))) = some r := h
 clear h
 replace H := Option.bind_eq_some_iff.mp H
 obtain ⟨⟨t366, t367, t368, t369⟩, A40, H⟩ := H
 replace H : ((platformfwref08_Number.f a2).bind fun bt370 => ((value_Binary.f k a0 t366 t367 t368 t369 bt370.1 bt370.2.1 bt370.2.2.1 bt370.2.2.2).bind fun bt374 => (some bt374.2.1))) = some r := H
 have A4 := Aside0.mk A40
 clear A40
 replace H := Option.bind_eq_some_iff.mp H
 obtain ⟨⟨t370, t371, t372, t373⟩, A50, H⟩ := H
 replace H : ((value_Binary.f k a0 t366 t367 t368 t369 t370 t371 t372 t373).bind fun bt374 => (some bt374.2.1)) = some r := H
 have A5 := Aside0.mk A50
 clear A50
 replace H := Option.bind_eq_some_iff.mp H
 obtain ⟨⟨t374, t375, t376, t377, t378⟩, A60, H⟩ := H
 replace H : (some t375) = some r := H
 have A6 := Aside0.mk A60
 clear A60
 obtain rfl := Option.some.inj H
 go_enter Tryd.func24, Tryd.ntmps24
 go_wp2_with (first | ((with_reducible refine gate_callee (f := 19) rfl ?_); refine goesL_ (some 12) rfl rfl Tryd.func19 (by kernel_rfl) rfl #[.int .u64 a1] rfl (by (try simp only [List.map_toArray, List.map_cons, List.map_nil]); first | done | rfl | (simp only [List.length_drop, List.length_take]; rfl)) ?_; (with_reducible refine (platformfwref08_Number.calls a1 t366 t367 t368 t369 _ A4.out).mono ?_); rintro e w7 ⟨rfl, hb⟩; refine ⟨_, rfl, ?_⟩; have n0_ := Aside0.mk (below_step (by repeat (first | (with_reducible first | exact HB.out | apply bA_ | apply bN_ | apply bD_) | exact HB.out)) hb); clear HB; have HB := n0_; clear n0_; (try clear hb); (try clear hb2); (try clear hk); (try clear hi)) | ((with_reducible refine gate_callee (f := 19) rfl ?_); refine goesL_ (some 14) rfl rfl Tryd.func19 (by kernel_rfl) rfl #[.int .u64 a2] rfl (by (try simp only [List.map_toArray, List.map_cons, List.map_nil]); first | done | rfl | (simp only [List.length_drop, List.length_take]; rfl)) ?_; (with_reducible refine (platformfwref08_Number.calls a2 t370 t371 t372 t373 _ A5.out).mono ?_); rintro e w8 ⟨rfl, hb⟩; refine ⟨_, rfl, ?_⟩; have n0_ := Aside0.mk (below_step (by repeat (first | (with_reducible first | exact HB.out | apply bA_ | apply bN_ | apply bD_) | exact HB.out)) hb); clear HB; have HB := n0_; clear n0_; (try clear hb); (try clear hb2); (try clear hk); (try clear hi)) | ((with_reducible refine gate_callee (f := 8) rfl ?_); refine goesL_ (some 15) rfl rfl Tryd.func8 (by kernel_rfl) rfl #[.int .i64 a0, .agg #[.int .i64 t366, .int .u64 t367, .string t368, .int .i64 t369], .agg #[.int .i64 t370, .int .u64 t371, .string t372, .int .i64 t373]] rfl (by (try simp only [List.map_toArray, List.map_cons, List.map_nil]); first | done | rfl | (simp only [List.length_drop, List.length_take]; rfl)) ?_; (with_reducible refine (value_Binary.calls k a0 t366 t367 t368 t369 t370 t371 t372 t373 t374 t375 t376 t377 t378 _ ?hTT_ A6.out).mono ?_); (case hTT_ => exact tb_below HTT_.out (by repeat (first | (with_reducible first | exact HB.out | apply bA_ | apply bN_ | apply bD_) | exact HB.out))); rintro e w9 ⟨rfl, hb⟩; refine ⟨_, rfl, ?_⟩; have n0_ := Aside0.mk (below_step (by repeat (first | (with_reducible first | exact HB.out | apply bA_ | apply bN_ | apply bD_) | exact HB.out)) hb); clear HB; have HB := n0_; clear n0_; (try clear hb); (try clear hb2); (try clear hk); (try clear hi)) | ((with_reducible refine gate_dst (N := 7) rfl ?_); refine box_event ?hg (N := 7) ?hd (cs := #[.int .i64 0, .int .u64 0, .string (⟨#[]⟩ : ByteArray), .int .i64 0]) (t := 24) ?hr ?_; (case hd => rfl); (case hg => rfl); (case hr => first | (go_simp; done) | (go_simp; rfl)); intro gb379 hg w10 hbox hb; have n0_ := Aside0.mk (below_step (by repeat (first | (with_reducible first | exact HB.out | apply bA_ | apply bN_ | apply bD_) | exact HB.out)) hb); have n1_ := Aside0.mk (hbox); have n2_ := Aside0.mk ((by rw [hg]; exact (below_size (by repeat (first | (with_reducible first | exact HB.out | apply bA_ | apply bN_ | apply bD_) | exact HB.out))) : w.heap.size ≤ gb379)); have n3_ := Aside0.mk ((by rw [hg]; exact (below_size (by repeat (first | (with_reducible first | exact HB.out | apply bA_ | apply bN_ | apply bD_) | exact HB.out))) : w.heap.size ≤ gb379)); clear HB; have HB := n0_; have BK379 := n1_; have GW379 := n2_; have GE379 := n3_; clear n0_ n1_ n2_ n3_; clear hb hbox hg; obtain ⟨hcz11_0, hcz11_1, hcz11_2, hcz11_3⟩ := cells4_ BK379.out; obtain ⟨hfz11_0, hfz11_1, hfz11_2, hfz11_3⟩ := froz4_ BK379.out))
 go_ret
 exact ⟨by first | rfl | (simp [errW_none, errW_some] <;> rfl) | (simp [*, errW_none, errW_some] <;> rfl), by repeat (first | (with_reducible first | exact HB.out | apply bA_ | apply bN_ | apply bD_ | refine bS_ ?_ GE379.out) | exact HB.out)⟩

end Go.Proofs.YtdmeglmmihaonaaDoor.PValueArithmetic
