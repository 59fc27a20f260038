-- Written by a program of this session's (wip/print_patch.py over the kit's print) out of the translation; Lean checks it.
import Derived.Test.YtdmeglmmihaonaaDoorPValueMidx0
import Derived.Test.YtdmeglmmihaonaaDoorPValueMidx7
import Derived.Test.YtdmeglmmihaonaaDoorPValueMidx9
import Derived.Test.YtdmeglmmihaonaaDoorVValueMidExtP
namespace Go.Proofs.YtdmeglmmihaonaaDoor.PValueMid
open Go.RowKit Go.Proofs.YtdmeglmmihaonaaDoor.Ext Go.Proofs.YtdmeglmmihaonaaDoorW.PrintWords Go.Proofs.YtdmeglmmihaonaaDoorW.PrintLast Go.Proofs.YtdmeglmmihaonaaDoorW.PrintMore
attribute [local go_sem] max2_int min2_int max_two min_two max_three min_three max_four min_four   -- for this text's walks alone
set_option linter.unusedVariables false
set_option linter.unusedSimpArgs false

/-! ### platformfwref08_Integer: function 29 -/
mutual
def platformfwref08_Integer.l0 : Nat → Int → Int → Int → Int → ByteArray → Int → Option (Int × Int)
 | 0, _, _, _, _, _, _ => none
 | k + 1, x4, x5, x344000, x344001, x344002, x344003 => if x5 < (x344002.size : Int) then (if x5 < 16 then (if 0 ≤ x5 then ((platformfwref08_hex.f k (bt x344002 x5)).bind fun t345 => (if t345 ≥ 0 then ((platformfwref08_hex.f k (bt x344002 x5)).bind fun t346 => (platformfwref08_Integer.l0 k (Go.bits .or .u64 (IntKind.u64.wrap (x4 * 16)) (IntKind.u64.wrap (t345))) (wrap64 (x5 + 1)) x344000 x344001 x344002 x344003)) else (some (x4, 0)))) else (none)) else (some (x4, 0))) else (some (x4, 0))
def platformfwref08_Integer.l1 : Nat → Int → Int → Int → Int → ByteArray → Int → Option (Int × Int)
 | 0, _, _, _, _, _, _ => none
 | k + 1, x4, x6, x344000, x344001, x344002, x344003 => if x6 < (x344002.size : Int) then (if x6 < 8 then (if 0 ≤ x6 then (if 0 ≤ (IntKind.u64.wrap (wrap64 (8 * x6))) then (platformfwref08_Integer.l1 k (Go.bits .or .u64 x4 (shl .u64 (IntKind.u64.wrap (bt x344002 x6)) (IntKind.u64.wrap (wrap64 (8 * x6))))) (wrap64 (x6 + 1)) x344000 x344001 x344002 x344003) else (none)) else (none)) else (some (x4, 0))) else (some (x4, 0))
end
def platformfwref08_Integer.f (k : Nat) (a0_0 : Int) (a0_1 : Int) (a0_2 : ByteArray) (a0_3 : Int) : Option (Int × Int) := (platformfwref08_Valid.f a0_0 a0_1 a0_2 a0_3).bind fun t344 => (if t344 = true then (if a0_0 = 1 then (some (a0_1, 0)) else (if a0_0 = 2 then (platformfwref08_Integer.l0 k 0 0 a0_0 a0_1 a0_2 a0_3) else (if a0_0 = 3 then (platformfwref08_Integer.l1 k 0 0 a0_0 a0_1 a0_2 a0_3) else (some (0, 10))))) else (some (0, 1)))
theorem platformfwref08_Integer.mono_l : ∀ k, (∀ y0 y1 y2 y3 y4 y5, LeO (platformfwref08_Integer.l0 k y0 y1 y2 y3 y4 y5) (platformfwref08_Integer.l0 (k + 1) y0 y1 y2 y3 y4 y5)) ∧ (∀ y0 y1 y2 y3 y4 y5, LeO (platformfwref08_Integer.l1 k y0 y1 y2 y3 y4 y5) (platformfwref08_Integer.l1 (k + 1) y0 y1 y2 y3 y4 y5))
 | 0 => ⟨fun _ _ _ _ _ _ r h => by simp [platformfwref08_Integer.l0] at h, fun _ _ _ _ _ _ r h => by simp [platformfwref08_Integer.l1] at h⟩
 | k + 1 => by
  obtain ⟨ih0, ih1⟩ := platformfwref08_Integer.mono_l k
  refine ⟨?_, ?_⟩
  ·intro y0 y1 y2 y3 y4 y5
   unfold platformfwref08_Integer.l0
   repeat' first
   | (with_reducible exact ih0 _ _ _ _ _ _)
   | (with_reducible exact ih1 _ _ _ _ _ _)
   | (with_reducible exact platformfwref08_hex.mono _ _)
   | (with_reducible exact LeO.refl _)
   | (with_reducible exact LeO.none _)
   | (with_reducible refine LeO.ite ?_ ?_)
   | (with_reducible refine LeO.bind ?_ (fun _ => ?_))
   | exact ih0 _ _ _ _ _ _
   | exact ih1 _ _ _ _ _ _
   | exact platformfwref08_hex.mono _ _
   | exact LeO.none _
   | refine LeO.ite ?_ ?_
   | refine LeO.bind ?_ (fun _ => ?_)
  ·intro y0 y1 y2 y3 y4 y5
   unfold platformfwref08_Integer.l1
   repeat' first
   | (with_reducible exact ih0 _ _ _ _ _ _)
   | (with_reducible exact ih1 _ _ _ _ _ _)
   | (with_reducible exact platformfwref08_hex.mono _ _)
   | (with_reducible exact LeO.refl _)
   | (with_reducible exact LeO.none _)
   | (with_reducible refine LeO.ite ?_ ?_)
   | (with_reducible refine LeO.bind ?_ (fun _ => ?_))
   | exact ih0 _ _ _ _ _ _
   | exact ih1 _ _ _ _ _ _
   | exact platformfwref08_hex.mono _ _
   | exact LeO.none _
   | refine LeO.ite ?_ ?_
   | refine LeO.bind ?_ (fun _ => ?_)
theorem platformfwref08_Integer.mono : ∀ a0 a1 a2 a3 k, LeO (platformfwref08_Integer.f k a0 a1 a2 a3) (platformfwref08_Integer.f (k + 1) a0 a1 a2 a3) := by
 intro a0 a1 a2 a3 k
 obtain ⟨ih0, ih1⟩ := platformfwref08_Integer.mono_l k
 unfold platformfwref08_Integer.f
 repeat' first
   | (with_reducible exact ih0 _ _ _ _ _ _)
   | (with_reducible exact ih1 _ _ _ _ _ _)
   | (with_reducible exact platformfwref08_hex.mono _ _)
   | (with_reducible exact LeO.refl _)
   | (with_reducible exact LeO.none _)
   | (with_reducible refine LeO.ite ?_ ?_)
   | (with_reducible refine LeO.bind ?_ (fun _ => ?_))
   | exact ih0 _ _ _ _ _ _
   | exact ih1 _ _ _ _ _ _
   | exact platformfwref08_hex.mono _ _
   | exact LeO.none _
   | refine LeO.ite ?_ ?_
   | refine LeO.bind ?_ (fun _ => ?_)
set_option maxHeartbeats 8000000 in
set_option maxRecDepth 100000 in
theorem platformfwref08_Integer.calls (k : Nat) (a0_0 : Int) (a0_1 : Int) (a0_2 : ByteArray) (a0_3 : Int) (r1 : Int) (r2 : Int) (w : World) (h : platformfwref08_Integer.f k a0_0 a0_1 a0_2 a0_3 = some (r1, r2)) :
  Calls Tryd.prog 29 #[.agg #[.int .i64 a0_0, .int .u64 a0_1, .string a0_2, .int .i64 a0_3]] w fun e w' => e = .returned (.tuple #[.int .u64 r1, .int .i64 r2]) ∧ Below w.heap.size w w' := by
 have hu24 := Tryd.underlying24
 have HB := Aside0.mk (Below.refl w.heap.size w)
 have H : ((platformfwref08_Valid.f a0_0 a0_1 a0_2 a0_3).bind fun t344 => (if t344 = true then (if a0_0 = 1 then (some (a0_1, 0)) else (if a0_0 = 2 then (platformfwref08_Integer.l0 k 0 0 a0_0 a0_1 a0_2 a0_3) else (if a0_0 = 3 then (platformfwref08_Integer.l1 k 0 0 a0_0 a0_1 a0_2 a0_3) else (some (0, 10))))) else (some (0, 1)))) = some (r1, r2) := h
 clear h
 replace H := Option.bind_eq_some_iff.mp H
 obtain ⟨t344, A20, H⟩ := H
 replace H : (if t344 = true then (if a0_0 = 1 then (some (a0_1, 0)) else (if a0_0 = 2 then (platformfwref08_Integer.l0 k 0 0 a0_0 a0_1 a0_2 a0_3) else (if a0_0 = 3 then (platformfwref08_Integer.l1 k 0 0 a0_0 a0_1 a0_2 a0_3) else (some (0, 10))))) else (some (0, 1))) = some (r1, r2) := H
 have A2 := Aside0.mk A20
 clear A20
 by_cases c3 : t344 = true
 ·subst c3
  have H1 : (if a0_0 = 1 then (some (a0_1, 0)) else (if a0_0 = 2 then (platformfwref08_Integer.l0 k 0 0 a0_0 a0_1 a0_2 a0_3) else (if a0_0 = 3 then (platformfwref08_Integer.l1 k 0 0 a0_0 a0_1 a0_2 a0_3) else (some (0, 10))))) = some (r1, r2) := by rw [if_pos rfl] at H; exact H
  clear H
  have H := H1
  clear H1
  by_cases c4 : a0_0 = 1
  ·rw [if_pos c4] at H
   have c4b0 : (a0_0 == 1) = true := beq_iff_eq.mpr c4
   have c4b1 : (a0_0 != 1) = false := bne_eq_false_iff_eq.mpr c4
   clear c4
   simp only [Option.some.injEq, Prod.mk.injEq] at H
   obtain ⟨rfl, rfl⟩ := H
   go_enter Tryd.func29, Tryd.ntmps29
   go_wp2_with (first | ((with_reducible refine gate_dst (N := 1) rfl ?_); refine box_event ?hg (N := 1) ?hd (cs := #[.int .i64 a0_0, .int .u64 a0_1, .string a0_2, .int .i64 a0_3]) (t := 24) ?hr ?_; (case hd => rfl); (case hg => rfl); (case hr => first | (go_simp; done) | (go_simp; rfl)); intro gb343 hg w5 hbox hb; replace HB := sqN_ (by repeat (first | (with_reducible first | exact HB.out | apply bA_ | apply bN_ | apply bD_) | exact HB.out)) hg hb; obtain ⟨HB, GE343⟩ := HB; have BK343 := Aside0.mk hbox; clear hb hbox hg; obtain ⟨hcz6_0, hcz6_1, hcz6_2, hcz6_3⟩ := cells4_ BK343.out; obtain ⟨hfz6_0, hfz6_1, hfz6_2, hfz6_3⟩ := froz4_ BK343.out) | ((with_reducible refine gate_callee (f := 13) rfl ?_); refine goesL_ (some 9) rfl rfl Tryd.func13 (by kernel_rfl) rfl #[.agg #[.int .i64 a0_0, .int .u64 a0_1, .string a0_2, .int .i64 a0_3]] rfl (by (try simp only [List.map_toArray, List.map_cons, List.map_nil]); first | done | rfl) ?_; (with_reducible refine (platformfwref08_Valid.calls a0_0 a0_1 a0_2 a0_3 true _ A2.out).mono ?_); rintro e w7 ⟨rfl, hb⟩; refine ⟨_, rfl, ?_⟩; replace BK343 := sqB_ BK343 (by (with_reducible repeat (first | apply kN_ | apply kD_ | apply kA_)); exact BK343.out) hb; replace HB := sqS_ (by repeat (first | (with_reducible first | exact HB.out | apply bA_ | apply bN_ | apply bD_ | refine bS_ ?_ GE343.out) | exact HB.out)) hb; (try clear hb); (try clear hb2); (try clear hk); (try clear hi); obtain ⟨hcz8_0, hcz8_1, hcz8_2, hcz8_3⟩ := cells4_ BK343.out; obtain ⟨hfz8_0, hfz8_1, hfz8_2, hfz8_3⟩ := froz4_ BK343.out))
   go_ret2
   exact ⟨by first | rfl | (simp [errW_none, errW_some] <;> rfl) | (simp [*, errW_none, errW_some] <;> rfl), by repeat (first | (with_reducible first | exact HB.out | apply bA_ | apply bN_ | apply bD_ | refine bS_ ?_ GE343.out) | exact HB.out)⟩
  ·rw [if_neg c4] at H
   have c4b0 : (a0_0 == 1) = false := beq_eq_false_iff_ne.mpr c4
   have c4b1 : (a0_0 != 1) = true := bne_iff_ne.mpr c4
   by_cases c9 : a0_0 = 2
   ·rw [if_pos c9] at H
    have c9b0 : (a0_0 == 2) = true := beq_iff_eq.mpr c9
    have c9b1 : (a0_0 != 2) = false := bne_eq_false_iff_eq.mpr c9
    clear c9
    have H' := Aside0.mk H
    clear H
    go_enter Tryd.func29, Tryd.ntmps29
    go_wp2_with (first | ((with_reducible refine gate_dst (N := 1) rfl ?_); refine box_event ?hg (N := 1) ?hd (cs := #[.int .i64 a0_0, .int .u64 a0_1, .string a0_2, .int .i64 a0_3]) (t := 24) ?hr ?_; (case hd => rfl); (case hg => rfl); (case hr => first | (go_simp; done) | (go_simp; rfl)); intro gb343 hg w10 hbox hb; replace HB := sqN_ (by repeat (first | (with_reducible first | exact HB.out | apply bA_ | apply bN_ | apply bD_) | exact HB.out)) hg hb; obtain ⟨HB, GE343⟩ := HB; have BK343 := Aside0.mk hbox; clear hb hbox hg; obtain ⟨hcz11_0, hcz11_1, hcz11_2, hcz11_3⟩ := cells4_ BK343.out; obtain ⟨hfz11_0, hfz11_1, hfz11_2, hfz11_3⟩ := froz4_ BK343.out) | ((with_reducible refine gate_callee (f := 13) rfl ?_); refine goesL_ (some 9) rfl rfl Tryd.func13 (by kernel_rfl) rfl #[.agg #[.int .i64 a0_0, .int .u64 a0_1, .string a0_2, .int .i64 a0_3]] rfl (by (try simp only [List.map_toArray, List.map_cons, List.map_nil]); first | done | rfl) ?_; (with_reducible refine (platformfwref08_Valid.calls a0_0 a0_1 a0_2 a0_3 true _ A2.out).mono ?_); rintro e w12 ⟨rfl, hb⟩; refine ⟨_, rfl, ?_⟩; replace BK343 := sqB_ BK343 (by (with_reducible repeat (first | apply kN_ | apply kD_ | apply kA_)); exact BK343.out) hb; replace HB := sqS_ (by repeat (first | (with_reducible first | exact HB.out | apply bA_ | apply bN_ | apply bD_ | refine bS_ ?_ GE343.out) | exact HB.out)) hb; (try clear hb); (try clear hb2); (try clear hk); (try clear hi); obtain ⟨hcz13_0, hcz13_1, hcz13_2, hcz13_3⟩ := cells4_ BK343.out; obtain ⟨hfz13_0, hfz13_1, hfz13_2, hfz13_3⟩ := froz4_ BK343.out))
    go_loopg [4, 5] k (fun kq v4 v5 w' => ∃ (x4_1 : Int) (x5_1 : Int), v4 = .int .u64 x4_1 ∧ v5 = .int .i64 x5_1 ∧ Aside0 (platformfwref08_Integer.l0 kq x4_1 x5_1 a0_0 a0_1 a0_2 a0_3 = some (r1, r2)) ∧ Aside0 (kq ≤ k) ∧ Aside0 (w'.heap[gb343]? = some (.cells #[.int .i64 a0_0, .int .u64 a0_1, .string a0_2, .int .i64 a0_3] 24 (0, 0))) ∧ Aside0 (Below w.heap.size w w'))
    case atStart => exact ⟨(0), (0), (by first | rfl | (simp; done) | (simp [*]; done)), (by first | rfl | (simp; done) | (simp [*]; done)), H', ⟨Nat.le_refl _⟩, ⟨by (with_reducible repeat (first | apply kN_ | apply kD_ | apply kA_)); exact BK343.out⟩, ⟨by repeat (first | (with_reducible first | exact HB.out | apply bA_ | apply bN_ | apply bD_ | refine bS_ ?_ GE343.out) | exact HB.out)⟩⟩
    case round =>
     clear H'
     try clear c1
     try clear c2
     try clear p2
     try clear c3
     try clear c4
     try clear c4b0
     try clear c4b1
     try clear c9
     try clear c9b0
     try clear c9b1
     try clear c13
     try clear hcz11_0 hcz11_1 hcz11_2 hcz11_3
     try clear hcz13_0 hcz13_1 hcz13_2 hcz13_3
     try clear hcz6_0 hcz6_1 hcz6_2 hcz6_3
     try clear hcz8_0 hcz8_1 hcz8_2 hcz8_3
     try clear hfz11_0 hfz11_1 hfz11_2 hfz11_3
     try clear hfz13_0 hfz13_1 hfz13_2 hfz13_3
     try clear hfz6_0 hfz6_1 hfz6_2 hfz6_3
     try clear hfz8_0 hfz8_1 hfz8_2 hfz8_3
     obtain ⟨x4_1, x5_1, rfl, rfl, HA, HK1, BK343, HB⟩ := hrel
     cases gk with
     | zero => exact absurd HA.out (by simp [platformfwref08_Integer.l0])
     | succ k1 =>
      have H := HA.out
      clear HA
      simp only [platformfwref08_Integer.l0] at H
      by_cases c14 : x5_1 < (a0_2.size : Int)
      ·rw [if_pos c14] at H
       have c14b0 : decide (x5_1 < (a0_2.size : Int)) = true := decide_eq_true c14
       clear c14
       by_cases c15 : x5_1 < 16
       ·rw [if_pos c15] at H
        have c15b0 : decide (x5_1 < 16) = true := decide_eq_true c15
        clear c15
        by_cases c16 : 0 ≤ x5_1
        ·rw [if_pos c16] at H
         have c16b0 : decide (0 ≤ x5_1) = true := decide_eq_true c16
         clear c16
         replace H := Option.bind_eq_some_iff.mp H
         obtain ⟨t345, A180, H⟩ := H
         replace H : (if t345 ≥ 0 then ((platformfwref08_hex.f k1 (bt a0_2 x5_1)).bind fun t346 => (platformfwref08_Integer.l0 k1 (Go.bits .or .u64 (IntKind.u64.wrap (x4_1 * 16)) (IntKind.u64.wrap (t345))) (wrap64 (x5_1 + 1)) a0_0 a0_1 a0_2 a0_3)) else (some (x4_1, 0))) = some (r1, r2) := H
         have A18 := Aside0.mk A180
         clear A180
         by_cases c19 : t345 ≥ 0
         ·rw [if_pos c19] at H
          have c19b0 : decide (0 ≤ t345) = true := decide_eq_true c19
          clear c19
          replace H := Option.bind_eq_some_iff.mp H
          obtain ⟨t346, A210, H⟩ := H
          replace H : (platformfwref08_Integer.l0 k1 (Go.bits .or .u64 (IntKind.u64.wrap (x4_1 * 16)) (IntKind.u64.wrap (t345))) (wrap64 (x5_1 + 1)) a0_0 a0_1 a0_2 a0_3) = some (r1, r2) := H
          have DA21 := Option.some.inj (A18.out.symm.trans A210)
          obtain rfl := DA21
          have A21 := Aside0.mk A210
          clear A210
          have H' := Aside0.mk H
          clear H
          obtain ⟨hcz22_0, hcz22_1, hcz22_2, hcz22_3⟩ := cells4_ BK343.out
          obtain ⟨hfz22_0, hfz22_1, hfz22_2, hfz22_3⟩ := froz4_ BK343.out
          have p17 : 0 ≤ (x5_1 : Int) := of_decide_eq_true (by first | (with_reducible assumption) | assumption)
          have q17 : x5_1 < (a0_2.size : Int) := of_decide_eq_true (by first | (with_reducible assumption) | assumption)
          have hx17 := bt_at a0_2 x5_1
          replace p17 := eq_true p17
          replace q17 := eq_true q17
          go_wp2_with (first | (go_at_call 57; (with_reducible refine (platformfwref08_hex.calls k1 (bt a0_2 x5_1) t345 _ A18.out).mono ?_); rintro e w' ⟨rfl, ⟨nd, rfl⟩⟩; have p20 : 0 ≤ (x5_1 : Int) := of_decide_eq_true (by first | (with_reducible assumption) | assumption); have q20 : x5_1 < (a0_2.size : Int) := of_decide_eq_true (by first | (with_reducible assumption) | assumption); have hx20 := bt_at a0_2 x5_1; replace p20 := eq_true p20; replace q20 := eq_true q20) | ((with_reducible refine gate_callee (f := 57) rfl ?_); refine goesL_ (some 46) rfl rfl Tryd.func57 (by kernel_rfl) rfl #[.int .u8 (bt a0_2 x5_1)] rfl (by (try simp only [List.map_toArray, List.map_cons, List.map_nil]); first | done | rfl) ?_; (with_reducible refine (platformfwref08_hex.calls k1 (bt a0_2 x5_1) t345 _ A21.out).mono ?_); rintro e w' ⟨rfl, ⟨nd, rfl⟩⟩; refine ⟨_, rfl, ?_⟩))
          go_roundg k1
          case measure => have := HK1.out; omega
          case rel => exact ⟨(Go.bits .or .u64 (IntKind.u64.wrap (x4_1 * 16)) (IntKind.u64.wrap (t345))), (wrap64 (x5_1 + 1)), (by first | rfl | (simp; done) | (simp [*]; done)), (by first | rfl | (simp; done) | (simp [*]; done)), H', ⟨by have := HK1.out; omega⟩, ⟨by (with_reducible repeat (first | apply kN_ | apply kD_ | apply kA_)); exact BK343.out⟩, ⟨by repeat (first | (with_reducible first | exact HB.out | apply bA_ | apply bN_ | apply bD_ | refine bS_ ?_ GE343.out) | exact HB.out)⟩⟩
         ·rw [if_neg c19] at H
          have c19b0 : decide (0 ≤ t345) = false := decide_eq_false c19
          clear c19
          simp only [Option.some.injEq, Prod.mk.injEq] at H
          obtain ⟨rfl, rfl⟩ := H
          obtain ⟨hcz23_0, hcz23_1, hcz23_2, hcz23_3⟩ := cells4_ BK343.out
          obtain ⟨hfz23_0, hfz23_1, hfz23_2, hfz23_3⟩ := froz4_ BK343.out
          have p17 : 0 ≤ (x5_1 : Int) := of_decide_eq_true (by first | (with_reducible assumption) | assumption)
          have q17 : x5_1 < (a0_2.size : Int) := of_decide_eq_true (by first | (with_reducible assumption) | assumption)
          have hx17 := bt_at a0_2 x5_1
          replace p17 := eq_true p17
          replace q17 := eq_true q17
          go_wp2_with (first | (go_at_call 57; (with_reducible refine (platformfwref08_hex.calls k1 (bt a0_2 x5_1) t345 _ A18.out).mono ?_); rintro e w' ⟨rfl, ⟨nd, rfl⟩⟩))
          go_ret2
          exact ⟨by first | rfl | (simp [errW_none, errW_some] <;> rfl) | (simp [*, errW_none, errW_some] <;> rfl), by repeat (first | (with_reducible first | exact HB.out | apply bA_ | apply bN_ | apply bD_ | refine bS_ ?_ GE343.out) | exact HB.out)⟩
        ·rw [if_neg c16] at H
         exact absurd H (by simp)
       ·rw [if_neg c15] at H
        have c15b0 : decide (x5_1 < 16) = false := decide_eq_false c15
        clear c15
        simp only [Option.some.injEq, Prod.mk.injEq] at H
        obtain ⟨rfl, rfl⟩ := H
        obtain ⟨hcz24_0, hcz24_1, hcz24_2, hcz24_3⟩ := cells4_ BK343.out
        obtain ⟨hfz24_0, hfz24_1, hfz24_2, hfz24_3⟩ := froz4_ BK343.out
        go_wp2
        go_ret2
        exact ⟨by first | rfl | (simp [errW_none, errW_some] <;> rfl) | (simp [*, errW_none, errW_some] <;> rfl), by repeat (first | (with_reducible first | exact HB.out | apply bA_ | apply bN_ | apply bD_ | refine bS_ ?_ GE343.out) | exact HB.out)⟩
      ·rw [if_neg c14] at H
       have c14b0 : decide (x5_1 < (a0_2.size : Int)) = false := decide_eq_false c14
       clear c14
       simp only [Option.some.injEq, Prod.mk.injEq] at H
       obtain ⟨rfl, rfl⟩ := H
       obtain ⟨hcz25_0, hcz25_1, hcz25_2, hcz25_3⟩ := cells4_ BK343.out
       obtain ⟨hfz25_0, hfz25_1, hfz25_2, hfz25_3⟩ := froz4_ BK343.out
       go_wp2
       go_ret2
       exact ⟨by first | rfl | (simp [errW_none, errW_some] <;> rfl) | (simp [*, errW_none, errW_some] <;> rfl), by repeat (first | (with_reducible first | exact HB.out | apply bA_ | apply bN_ | apply bD_ | refine bS_ ?_ GE343.out) | exact HB.out)⟩
   ·rw [if_neg c9] at H
    have c9b0 : (a0_0 == 2) = false := beq_eq_false_iff_ne.mpr c9
    have c9b1 : (a0_0 != 2) = true := bne_iff_ne.mpr c9
    by_cases c26 : a0_0 = 3
    ·rw [if_pos c26] at H
     have c26b0 : (a0_0 == 3) = true := beq_iff_eq.mpr c26
     have c26b1 : (a0_0 != 3) = false := bne_eq_false_iff_eq.mpr c26
     clear c26
     have H' := Aside0.mk H
     clear H
     go_enter Tryd.func29, Tryd.ntmps29
     go_wp2_with (first | ((with_reducible refine gate_dst (N := 1) rfl ?_); refine box_event ?hg (N := 1) ?hd (cs := #[.int .i64 a0_0, .int .u64 a0_1, .string a0_2, .int .i64 a0_3]) (t := 24) ?hr ?_; (case hd => rfl); (case hg => rfl); (case hr => first | (go_simp; done) | (go_simp; rfl)); intro gb343 hg w27 hbox hb; replace HB := sqN_ (by repeat (first | (with_reducible first | exact HB.out | apply bA_ | apply bN_ | apply bD_) | exact HB.out)) hg hb; obtain ⟨HB, GE343⟩ := HB; have BK343 := Aside0.mk hbox; clear hb hbox hg; obtain ⟨hcz28_0, hcz28_1, hcz28_2, hcz28_3⟩ := cells4_ BK343.out; obtain ⟨hfz28_0, hfz28_1, hfz28_2, hfz28_3⟩ := froz4_ BK343.out) | ((with_reducible refine gate_callee (f := 13) rfl ?_); refine goesL_ (some 9) rfl rfl Tryd.func13 (by kernel_rfl) rfl #[.agg #[.int .i64 a0_0, .int .u64 a0_1, .string a0_2, .int .i64 a0_3]] rfl (by (try simp only [List.map_toArray, List.map_cons, List.map_nil]); first | done | rfl) ?_; (with_reducible refine (platformfwref08_Valid.calls a0_0 a0_1 a0_2 a0_3 true _ A2.out).mono ?_); rintro e w29 ⟨rfl, hb⟩; refine ⟨_, rfl, ?_⟩; replace BK343 := sqB_ BK343 (by (with_reducible repeat (first | apply kN_ | apply kD_ | apply kA_)); exact BK343.out) hb; replace HB := sqS_ (by repeat (first | (with_reducible first | exact HB.out | apply bA_ | apply bN_ | apply bD_ | refine bS_ ?_ GE343.out) | exact HB.out)) hb; (try clear hb); (try clear hb2); (try clear hk); (try clear hi); obtain ⟨hcz30_0, hcz30_1, hcz30_2, hcz30_3⟩ := cells4_ BK343.out; obtain ⟨hfz30_0, hfz30_1, hfz30_2, hfz30_3⟩ := froz4_ BK343.out))
     go_loopg [4, 6] k (fun kq v4 v6 w' => ∃ (x4_1 : Int) (x6_1 : Int), v4 = .int .u64 x4_1 ∧ v6 = .int .i64 x6_1 ∧ Aside0 (platformfwref08_Integer.l1 kq x4_1 x6_1 a0_0 a0_1 a0_2 a0_3 = some (r1, r2)) ∧ Aside0 (kq ≤ k) ∧ Aside0 (w'.heap[gb343]? = some (.cells #[.int .i64 a0_0, .int .u64 a0_1, .string a0_2, .int .i64 a0_3] 24 (0, 0))) ∧ Aside0 (Below w.heap.size w w'))
     case atStart => exact ⟨(0), (0), (by first | rfl | (simp; done) | (simp [*]; done)), (by first | rfl | (simp; done) | (simp [*]; done)), H', ⟨Nat.le_refl _⟩, ⟨by (with_reducible repeat (first | apply kN_ | apply kD_ | apply kA_)); exact BK343.out⟩, ⟨by repeat (first | (with_reducible first | exact HB.out | apply bA_ | apply bN_ | apply bD_ | refine bS_ ?_ GE343.out) | exact HB.out)⟩⟩
     case round =>
      clear H'
      try clear c1
      try clear p1
      try clear q1
      try clear hx1
      try clear c2
      try clear p2
      try clear q2
      try clear hx2
      try clear c3
      try clear c4
      try clear c4b0
      try clear c4b1
      try clear c5
      try clear p6
      try clear c9
      try clear c9b0
      try clear c9b1
      try clear c13
      try clear c14
      try clear c14b0
      try clear c15
      try clear c15b0
      try clear c16
      try clear c16b0
      try clear p17
      try clear q17
      try clear hx17
      try clear c19
      try clear c19b0
      try clear p20
      try clear q20
      try clear hx20
      try clear c26
      try clear c26b0
      try clear c26b1
      try clear c29
      try clear hcz11_0 hcz11_1 hcz11_2 hcz11_3
      try clear hcz13_0 hcz13_1 hcz13_2 hcz13_3
      try clear hcz22_0 hcz22_1 hcz22_2 hcz22_3
      try clear hcz23_0 hcz23_1 hcz23_2 hcz23_3
      try clear hcz24_0 hcz24_1 hcz24_2 hcz24_3
      try clear hcz25_0 hcz25_1 hcz25_2 hcz25_3
      try clear hcz28_0 hcz28_1 hcz28_2 hcz28_3
      try clear hcz30_0 hcz30_1 hcz30_2 hcz30_3
      try clear hcz6_0 hcz6_1 hcz6_2 hcz6_3
      try clear hcz8_0 hcz8_1 hcz8_2 hcz8_3
      try clear hfz11_0 hfz11_1 hfz11_2 hfz11_3
      try clear hfz13_0 hfz13_1 hfz13_2 hfz13_3
      try clear hfz22_0 hfz22_1 hfz22_2 hfz22_3
      try clear hfz23_0 hfz23_1 hfz23_2 hfz23_3
      try clear hfz24_0 hfz24_1 hfz24_2 hfz24_3
      try clear hfz25_0 hfz25_1 hfz25_2 hfz25_3
      try clear hfz28_0 hfz28_1 hfz28_2 hfz28_3
      try clear hfz30_0 hfz30_1 hfz30_2 hfz30_3
      try clear hfz6_0 hfz6_1 hfz6_2 hfz6_3
      try clear hfz8_0 hfz8_1 hfz8_2 hfz8_3
      try clear p17
      try clear p2
      try clear p20
      try clear q17
      try clear q20
      obtain ⟨x4_1, x6_1, rfl, rfl, HA, HK1, BK343, HB⟩ := hrel
      cases gk with
      | zero => exact absurd HA.out (by simp [platformfwref08_Integer.l1])
      | succ k1 =>
       have H := HA.out
       clear HA
       simp only [platformfwref08_Integer.l1] at H
       by_cases c31 : x6_1 < (a0_2.size : Int)
       ·rw [if_pos c31] at H
        have c31b0 : decide (x6_1 < (a0_2.size : Int)) = true := decide_eq_true c31
        clear c31
        by_cases c32 : x6_1 < 8
        ·rw [if_pos c32] at H
         have c32b0 : decide (x6_1 < 8) = true := decide_eq_true c32
         clear c32
         by_cases c33 : 0 ≤ x6_1
         ·rw [if_pos c33] at H
          have c33b0 : decide (0 ≤ x6_1) = true := decide_eq_true c33
          clear c33
          obtain ⟨ji35, hji35⟩ : ∃ j_ : Int, (IntKind.u64.wrap (wrap64 (8 * x6_1))) = j_ := ⟨_, rfl⟩
          replace H : (if 0 ≤ (ji35) then (platformfwref08_Integer.l1 k1 (Go.bits .or .u64 x4_1 (shl .u64 (IntKind.u64.wrap (bt a0_2 x6_1)) (ji35))) (wrap64 (x6_1 + 1)) a0_0 a0_1 a0_2 a0_3) else (none)) = some (r1, r2) := by first | (rw [hji35] at H; exact H) | (simp only [hji35] at H ⊢; exact H)
          by_cases c36 : 0 ≤ (ji35)
          ·rw [if_pos c36] at H
           have c36b0 := eq_true c36
           have c36b1 : decide (0 ≤ (ji35)) = true := decide_eq_true c36
           clear c36
           obtain ⟨ji37, hji37⟩ : ∃ j_ : Int, (shl .u64 (IntKind.u64.wrap (bt a0_2 x6_1)) (ji35)) = j_ := ⟨_, rfl⟩
           replace H : (platformfwref08_Integer.l1 k1 (Go.bits .or .u64 x4_1 (ji37)) (wrap64 (x6_1 + 1)) a0_0 a0_1 a0_2 a0_3) = some (r1, r2) := by first | (rw [hji37] at H; exact H) | (simp only [hji37] at H ⊢; exact H)
           have hji37_ : (IntKind.u64.wrap ((IntKind.u64.wrap (bt a0_2 x6_1)) * 2 ^ min (ji35).toNat 64)) = ji37 := hji37
           have hji37z : (ji35) ≤ 64 → (IntKind.u64.wrap ((IntKind.u64.wrap (bt a0_2 x6_1)) * 2 ^ (ji35).toNat)) = ji37 := shl_small hji37
           have H' := Aside0.mk H
           clear H
           obtain ⟨hcz38_0, hcz38_1, hcz38_2, hcz38_3⟩ := cells4_ BK343.out
           obtain ⟨hfz38_0, hfz38_1, hfz38_2, hfz38_3⟩ := froz4_ BK343.out
           have p34 : 0 ≤ (x6_1 : Int) := of_decide_eq_true (by first | (with_reducible assumption) | assumption)
           have q34 : x6_1 < (a0_2.size : Int) := of_decide_eq_true (by first | (with_reducible assumption) | assumption)
           have hx34 := bt_at a0_2 x6_1
           replace p34 := eq_true p34
           replace q34 := eq_true q34
           go_wp2
           go_roundg k1
           case measure => have := HK1.out; omega
           case rel => exact ⟨(Go.bits .or .u64 x4_1 (ji37)), (wrap64 (x6_1 + 1)), (by first | rfl | (simp; done) | (simp only [← hji37] <;> (first | rfl | simp)) | (simp [*]; done)), (by first | rfl | (simp; done) | (simp [*]; done)), H', ⟨by have := HK1.out; omega⟩, ⟨by (with_reducible repeat (first | apply kN_ | apply kD_ | apply kA_)); exact BK343.out⟩, ⟨by repeat (first | (with_reducible first | exact HB.out | apply bA_ | apply bN_ | apply bD_ | refine bS_ ?_ GE343.out) | exact HB.out)⟩⟩
          ·rw [if_neg c36] at H
           exact absurd H (by simp)
         ·rw [if_neg c33] at H
          exact absurd H (by simp)
        ·rw [if_neg c32] at H
         have c32b0 : decide (x6_1 < 8) = false := decide_eq_false c32
         clear c32
         simp only [Option.some.injEq, Prod.mk.injEq] at H
         obtain ⟨rfl, rfl⟩ := H
         obtain ⟨hcz39_0, hcz39_1, hcz39_2, hcz39_3⟩ := cells4_ BK343.out
         obtain ⟨hfz39_0, hfz39_1, hfz39_2, hfz39_3⟩ := froz4_ BK343.out
         go_wp2
         go_ret2
         exact ⟨by first | rfl | (simp [errW_none, errW_some] <;> rfl) | (simp [*, errW_none, errW_some] <;> rfl), by repeat (first | (with_reducible first | exact HB.out | apply bA_ | apply bN_ | apply bD_ | refine bS_ ?_ GE343.out) | exact HB.out)⟩
       ·rw [if_neg c31] at H
        have c31b0 : decide (x6_1 < (a0_2.size : Int)) = false := decide_eq_false c31
        clear c31
        simp only [Option.some.injEq, Prod.mk.injEq] at H
        obtain ⟨rfl, rfl⟩ := H
        obtain ⟨hcz40_0, hcz40_1, hcz40_2, hcz40_3⟩ := cells4_ BK343.out
        obtain ⟨hfz40_0, hfz40_1, hfz40_2, hfz40_3⟩ := froz4_ BK343.out
        go_wp2
        go_ret2
        exact ⟨by first | rfl | (simp [errW_none, errW_some] <;> rfl) | (simp [*, errW_none, errW_some] <;> rfl), by repeat (first | (with_reducible first | exact HB.out | apply bA_ | apply bN_ | apply bD_ | refine bS_ ?_ GE343.out) | exact HB.out)⟩
    ·rw [if_neg c26] at H
     have c26b0 : (a0_0 == 3) = false := beq_eq_false_iff_ne.mpr c26
     have c26b1 : (a0_0 != 3) = true := bne_iff_ne.mpr c26
     simp only [Option.some.injEq, Prod.mk.injEq] at H
     obtain ⟨rfl, rfl⟩ := H
     go_enter Tryd.func29, Tryd.ntmps29
     go_wp2_with (first | ((with_reducible refine gate_dst (N := 1) rfl ?_); refine box_event ?hg (N := 1) ?hd (cs := #[.int .i64 a0_0, .int .u64 a0_1, .string a0_2, .int .i64 a0_3]) (t := 24) ?hr ?_; (case hd => rfl); (case hg => rfl); (case hr => first | (go_simp; done) | (go_simp; rfl)); intro gb343 hg w41 hbox hb; replace HB := sqN_ (by repeat (first | (with_reducible first | exact HB.out | apply bA_ | apply bN_ | apply bD_) | exact HB.out)) hg hb; obtain ⟨HB, GE343⟩ := HB; have BK343 := Aside0.mk hbox; clear hb hbox hg; obtain ⟨hcz42_0, hcz42_1, hcz42_2, hcz42_3⟩ := cells4_ BK343.out; obtain ⟨hfz42_0, hfz42_1, hfz42_2, hfz42_3⟩ := froz4_ BK343.out) | ((with_reducible refine gate_callee (f := 13) rfl ?_); refine goesL_ (some 9) rfl rfl Tryd.func13 (by kernel_rfl) rfl #[.agg #[.int .i64 a0_0, .int .u64 a0_1, .string a0_2, .int .i64 a0_3]] rfl (by (try simp only [List.map_toArray, List.map_cons, List.map_nil]); first | done | rfl) ?_; (with_reducible refine (platformfwref08_Valid.calls a0_0 a0_1 a0_2 a0_3 true _ A2.out).mono ?_); rintro e w43 ⟨rfl, hb⟩; refine ⟨_, rfl, ?_⟩; replace BK343 := sqB_ BK343 (by (with_reducible repeat (first | apply kN_ | apply kD_ | apply kA_)); exact BK343.out) hb; replace HB := sqS_ (by repeat (first | (with_reducible first | exact HB.out | apply bA_ | apply bN_ | apply bD_ | refine bS_ ?_ GE343.out) | exact HB.out)) hb; (try clear hb); (try clear hb2); (try clear hk); (try clear hi); obtain ⟨hcz44_0, hcz44_1, hcz44_2, hcz44_3⟩ := cells4_ BK343.out; obtain ⟨hfz44_0, hfz44_1, hfz44_2, hfz44_3⟩ := froz4_ BK343.out))
     go_ret2
     exact ⟨by first | rfl | (simp [errW_none, errW_some] <;> rfl) | (simp [*, errW_none, errW_some] <;> rfl), by repeat (first | (with_reducible first | exact HB.out | apply bA_ | apply bN_ | apply bD_ | refine bS_ ?_ GE343.out) | exact HB.out)⟩
 ·replace c3 := Bool.eq_false_iff.mpr c3
  subst c3
  have H1 : (some (0, 1)) = some (r1, r2) := by rw [if_neg (show ¬ (false = true) by decide)] at H; exact H
  clear H
  have H := H1
  clear H1
  simp only [Option.some.injEq, Prod.mk.injEq] at H
  obtain ⟨rfl, rfl⟩ := H
  go_enter Tryd.func29, Tryd.ntmps29
  go_wp2_with (first | ((with_reducible refine gate_dst (N := 1) rfl ?_); refine box_event ?hg (N := 1) ?hd (cs := #[.int .i64 a0_0, .int .u64 a0_1, .string a0_2, .int .i64 a0_3]) (t := 24) ?hr ?_; (case hd => rfl); (case hg => rfl); (case hr => first | (go_simp; done) | (go_simp; rfl)); intro gb343 hg w45 hbox hb; replace HB := sqN_ (by repeat (first | (with_reducible first | exact HB.out | apply bA_ | apply bN_ | apply bD_) | exact HB.out)) hg hb; obtain ⟨HB, GE343⟩ := HB; have BK343 := Aside0.mk hbox; clear hb hbox hg; obtain ⟨hcz46_0, hcz46_1, hcz46_2, hcz46_3⟩ := cells4_ BK343.out; obtain ⟨hfz46_0, hfz46_1, hfz46_2, hfz46_3⟩ := froz4_ BK343.out) | ((with_reducible refine gate_callee (f := 13) rfl ?_); refine goesL_ (some 9) rfl rfl Tryd.func13 (by kernel_rfl) rfl #[.agg #[.int .i64 a0_0, .int .u64 a0_1, .string a0_2, .int .i64 a0_3]] rfl (by (try simp only [List.map_toArray, List.map_cons, List.map_nil]); first | done | rfl) ?_; (with_reducible refine (platformfwref08_Valid.calls a0_0 a0_1 a0_2 a0_3 false _ A2.out).mono ?_); rintro e w47 ⟨rfl, hb⟩; refine ⟨_, rfl, ?_⟩; replace BK343 := sqB_ BK343 (by (with_reducible repeat (first | apply kN_ | apply kD_ | apply kA_)); exact BK343.out) hb; replace HB := sqS_ (by repeat (first | (with_reducible first | exact HB.out | apply bA_ | apply bN_ | apply bD_ | refine bS_ ?_ GE343.out) | exact HB.out)) hb; (try clear hb); (try clear hb2); (try clear hk); (try clear hi)))
  go_ret2
  exact ⟨by first | rfl | (simp [errW_none, errW_some] <;> rfl) | (simp [*, errW_none, errW_some] <;> rfl), by repeat (first | (with_reducible first | exact HB.out | apply bA_ | apply bN_ | apply bD_ | refine bS_ ?_ GE343.out) | exact HB.out)⟩

/-! ### platformfwref08_bounded: function 56 -/
def platformfwref08_bounded.f (a0 : ByteArray) : Option (ByteArray × Int) := if (a0.size : Int) > 255 then (some ((⟨#[]⟩ : ByteArray), 11)) else (some (a0, 0))
set_option maxHeartbeats 8000000 in
set_option maxRecDepth 100000 in
theorem platformfwref08_bounded.calls (a0 : ByteArray) (r1 : ByteArray) (r2 : Int) (w : World) (h : platformfwref08_bounded.f a0 = some (r1, r2)) :
  Calls Tryd.prog 56 #[.string a0] w fun e w' => e = .returned (.tuple #[.string r1, .int .i64 r2]) ∧ Drawn0 w w' := by
 have H : (if (a0.size : Int) > 255 then (some ((⟨#[]⟩ : ByteArray), 11)) else (some (a0, 0))) = some (r1, r2) := h
 clear h
 by_cases c2 : (a0.size : Int) > 255
 ·rw [if_pos c2] at H
  have c2b0 : decide (255 < (a0.size : Int)) = true := decide_eq_true c2
  have c2b1 : decide (255 < a0.size) = true := decide_eq_true (by omega)
  clear c2
  simp only [Option.some.injEq, Prod.mk.injEq] at H
  obtain ⟨rfl, rfl⟩ := H
  go_enter Tryd.func56, Tryd.ntmps56
  go_wp2
  go_ret2
  exact ⟨by first | rfl | (simp; done) | (simp [*]; done), by repeat (first | exact Drawn0.refl _ | apply Drawn0.step)⟩
 ·rw [if_neg c2] at H
  have c2b0 : decide (255 < (a0.size : Int)) = false := decide_eq_false c2
  have c2b1 : decide (255 < a0.size) = false := decide_eq_false (by omega)
  clear c2
  simp only [Option.some.injEq, Prod.mk.injEq] at H
  obtain ⟨rfl, rfl⟩ := H
  go_enter Tryd.func56, Tryd.ntmps56
  go_wp2
  go_ret2
  exact ⟨by first | rfl | (simp; done) | (simp [*]; done), by repeat (first | exact Drawn0.refl _ | apply Drawn0.step)⟩

/-! ### platformfwref08_digits: function 58 -/
def platformfwref08_digits.l0 : Nat → Int → Int → Int → ByteArray → Option (ByteArray)
 | 0, _, _, _, _ => none
 | k + 1, x0, x1, x2, x7 => if x0 > 0 then (if x1 = 0 then (none) else (if 0 ≤ (Int.tmod x0 x1) then (if (Int.tmod x0 x1) ≤ (IntKind.u64.wrap ((Int.tmod x0 x1) + 1)) then (if (IntKind.u64.wrap ((Int.tmod x0 x1) + 1)) ≤ 16 then (if ((⟨#[48, 49, 50, 51, 52, 53, 54, 55, 56, 57, 65, 66, 67, 68, 69, 70]⟩ : ByteArray).extract ((Int.tmod x0 x1) : Int).toNat ((IntKind.u64.wrap ((Int.tmod x0 x1) + 1)) : Int).toNat).size + x7.size ≤ 9223372036854775807 then (platformfwref08_digits.l0 k (IntKind.u64.wrap (Int.tdiv x0 x1)) x1 x2 (((⟨#[48, 49, 50, 51, 52, 53, 54, 55, 56, 57, 65, 66, 67, 68, 69, 70]⟩ : ByteArray).extract ((Int.tmod x0 x1) : Int).toNat ((IntKind.u64.wrap ((Int.tmod x0 x1) + 1)) : Int).toNat) ++ x7)) else (none)) else (none)) else (none)) else (none))) else (if (x7.size : Int) < x2 then (if x1 = 0 then (none) else (if 0 ≤ (Int.tmod x0 x1) then (if (Int.tmod x0 x1) ≤ (IntKind.u64.wrap ((Int.tmod x0 x1) + 1)) then (if (IntKind.u64.wrap ((Int.tmod x0 x1) + 1)) ≤ 16 then (if ((⟨#[48, 49, 50, 51, 52, 53, 54, 55, 56, 57, 65, 66, 67, 68, 69, 70]⟩ : ByteArray).extract ((Int.tmod x0 x1) : Int).toNat ((IntKind.u64.wrap ((Int.tmod x0 x1) + 1)) : Int).toNat).size + x7.size ≤ 9223372036854775807 then (platformfwref08_digits.l0 k (IntKind.u64.wrap (Int.tdiv x0 x1)) x1 x2 (((⟨#[48, 49, 50, 51, 52, 53, 54, 55, 56, 57, 65, 66, 67, 68, 69, 70]⟩ : ByteArray).extract ((Int.tmod x0 x1) : Int).toNat ((IntKind.u64.wrap ((Int.tmod x0 x1) + 1)) : Int).toNat) ++ x7)) else (none)) else (none)) else (none)) else (none))) else (some x7))
def platformfwref08_digits.f (k : Nat) (a0 : Int) (a1 : Int) (a2 : Int) : Option (ByteArray) := platformfwref08_digits.l0 k a0 a1 a2 (⟨#[]⟩ : ByteArray)
theorem platformfwref08_digits.mono_l : ∀ k, (∀ y0 y1 y2 y3, LeO (platformfwref08_digits.l0 k y0 y1 y2 y3) (platformfwref08_digits.l0 (k + 1) y0 y1 y2 y3))
 | 0 => fun _ _ _ _ r h => by simp [platformfwref08_digits.l0] at h
 | k + 1 => by
  have ih0 := platformfwref08_digits.mono_l k
  ·intro y0 y1 y2 y3
   unfold platformfwref08_digits.l0
   repeat' first
   | (with_reducible exact ih0 _ _ _ _)
   | (with_reducible exact LeO.refl _)
   | (with_reducible exact LeO.none _)
   | (with_reducible refine LeO.ite ?_ ?_)
   | (with_reducible refine LeO.bind ?_ (fun _ => ?_))
   | exact ih0 _ _ _ _
   | exact LeO.none _
   | refine LeO.ite ?_ ?_
   | refine LeO.bind ?_ (fun _ => ?_)
theorem platformfwref08_digits.mono : ∀ a0 a1 a2 k, LeO (platformfwref08_digits.f k a0 a1 a2) (platformfwref08_digits.f (k + 1) a0 a1 a2) := by
 intro a0 a1 a2 k
 have ih0 := platformfwref08_digits.mono_l k
 unfold platformfwref08_digits.f
 repeat' first
   | (with_reducible exact ih0 _ _ _ _)
   | (with_reducible exact LeO.refl _)
   | (with_reducible exact LeO.none _)
   | (with_reducible refine LeO.ite ?_ ?_)
   | (with_reducible refine LeO.bind ?_ (fun _ => ?_))
   | exact ih0 _ _ _ _
   | exact LeO.none _
   | refine LeO.ite ?_ ?_
   | refine LeO.bind ?_ (fun _ => ?_)
set_option maxHeartbeats 8000000 in
set_option maxRecDepth 100000 in
theorem platformfwref08_digits.calls (k : Nat) (a0 : Int) (a1 : Int) (a2 : Int) (r : ByteArray) (w : World) (h : platformfwref08_digits.f k a0 a1 a2 = some r) :
  Calls Tryd.prog 58 #[.int .u64 a0, .int .u64 a1, .int .i64 a2] w fun e w' => e = .returned (.string r) ∧ Drawn0 w w' := by
 have H : (platformfwref08_digits.l0 k a0 a1 a2 (⟨#[]⟩ : ByteArray)) = some r := h
 clear h
 have H' := Aside0.mk H
 clear H
 go_enter Tryd.func58, Tryd.ntmps58
 go_wp2
 go_loopg [0, 7] k (fun kq v0 v7 w' => ∃ (x0_1 : Int) (x7_1 : ByteArray), v0 = .int .u64 x0_1 ∧ v7 = .string x7_1 ∧ Aside0 (platformfwref08_digits.l0 kq x0_1 a1 a2 x7_1 = some r) ∧ Aside0 (kq ≤ k) ∧ Drawn0 w w')
 case atStart => exact ⟨(a0), ((⟨#[]⟩ : ByteArray)), (by first | rfl | (simp; done) | (simp [*]; done)), (by first | rfl | (simp; done) | (simp [*]; done)), H', ⟨Nat.le_refl _⟩, by repeat (first | exact Drawn0.refl _ | apply Drawn0.step)⟩
 case round =>
  clear H'
  try clear p2
  obtain ⟨x0_1, x7_1, rfl, rfl, HA, HK1, ⟨m1, rfl⟩⟩ := hrel
  cases gk with
  | zero => exact absurd HA.out (by simp [platformfwref08_digits.l0])
  | succ k1 =>
   have H := HA.out
   clear HA
   simp only [platformfwref08_digits.l0] at H
   by_cases c4 : x0_1 > 0
   ·rw [if_pos c4] at H
    have c4b0 : decide (0 < x0_1) = true := decide_eq_true c4
    clear c4
    by_cases c5 : a1 = 0
    ·rw [if_pos c5] at H
     exact absurd H (by simp)
    ·rw [if_neg c5] at H
     have c5b0 : (a1 == 0) = false := beq_eq_false_iff_ne.mpr c5
     have c5b1 : (a1 != 0) = true := bne_iff_ne.mpr c5
     obtain ⟨ji6, hji6⟩ : ∃ j_ : Int, (Int.tmod x0_1 a1) = j_ := ⟨_, rfl⟩
     replace H : (if 0 ≤ (ji6) then (if (ji6) ≤ (IntKind.u64.wrap ((ji6) + 1)) then (if (IntKind.u64.wrap ((ji6) + 1)) ≤ 16 then (if ((⟨#[48, 49, 50, 51, 52, 53, 54, 55, 56, 57, 65, 66, 67, 68, 69, 70]⟩ : ByteArray).extract ((ji6) : Int).toNat ((IntKind.u64.wrap ((ji6) + 1)) : Int).toNat).size + x7_1.size ≤ 9223372036854775807 then (platformfwref08_digits.l0 k1 (IntKind.u64.wrap (Int.tdiv x0_1 a1)) a1 a2 (((⟨#[48, 49, 50, 51, 52, 53, 54, 55, 56, 57, 65, 66, 67, 68, 69, 70]⟩ : ByteArray).extract ((ji6) : Int).toNat ((IntKind.u64.wrap ((ji6) + 1)) : Int).toNat) ++ x7_1)) else (none)) else (none)) else (none)) else (none)) = some r := by first | (rw [hji6] at H; exact H) | (simp only [hji6] at H ⊢; exact H)
     by_cases c7 : 0 ≤ (ji6)
     ·rw [if_pos c7] at H
      have c7b0 := eq_true c7
      have c7b1 : decide (0 ≤ (ji6)) = true := decide_eq_true c7
      clear c7
      by_cases c8 : (ji6) ≤ (IntKind.u64.wrap ((ji6) + 1))
      ·rw [if_pos c8] at H
       have c8b0 := eq_true c8
       have c8b1 : decide ((ji6) ≤ (IntKind.u64.wrap ((ji6) + 1))) = true := decide_eq_true c8
       clear c8
       by_cases c9 : (IntKind.u64.wrap ((ji6) + 1)) ≤ 16
       ·rw [if_pos c9] at H
        have c9b0 := eq_true c9
        have c9b1 : decide ((IntKind.u64.wrap ((ji6) + 1)) ≤ 16) = true := decide_eq_true c9
        clear c9
        by_cases c10 : ((⟨#[48, 49, 50, 51, 52, 53, 54, 55, 56, 57, 65, 66, 67, 68, 69, 70]⟩ : ByteArray).extract ((ji6) : Int).toNat ((IntKind.u64.wrap ((ji6) + 1)) : Int).toNat).size + x7_1.size ≤ 9223372036854775807
        ·rw [if_pos c10] at H
         have c10b0 := eq_true c10
         have c10b1 : decide (((⟨#[48, 49, 50, 51, 52, 53, 54, 55, 56, 57, 65, 66, 67, 68, 69, 70]⟩ : ByteArray).extract ((ji6) : Int).toNat ((IntKind.u64.wrap ((ji6) + 1)) : Int).toNat).size + x7_1.size ≤ 9223372036854775807) = true := decide_eq_true c10
         try have c10b2 : (9223372036854775807 < ((⟨#[48, 49, 50, 51, 52, 53, 54, 55, 56, 57, 65, 66, 67, 68, 69, 70]⟩ : ByteArray).extract ((ji6) : Int).toNat ((IntKind.u64.wrap ((ji6) + 1)) : Int).toNat).size + x7_1.size) = False := eq_false (Nat.not_lt.2 c10)
         try have c10b3 : (9223372036854775807 < (((IntKind.u64.wrap ((ji6) + 1)) : Int).toNat - ((ji6) : Int).toNat) + x7_1.size) = False := eq_false (fun h_ => Nat.not_lt.2 c10 (Nat.lt_of_lt_of_eq h_ (by have q0_ : (IntKind.u64.wrap ((ji6) + 1)) ≤ 16 := of_decide_eq_true (by first | (with_reducible assumption) | assumption); simp only [ByteArray.size_extract, show (⟨#[48, 49, 50, 51, 52, 53, 54, 55, 56, 57, 65, 66, 67, 68, 69, 70]⟩ : ByteArray).size = 16 from rfl]; omega)))
         clear c10
         have H' := Aside0.mk H
         clear H
         go_wp2
         go_roundg k1
         case measure => have := HK1.out; omega
         case rel => exact ⟨(IntKind.u64.wrap (Int.tdiv x0_1 a1)), (((⟨#[48, 49, 50, 51, 52, 53, 54, 55, 56, 57, 65, 66, 67, 68, 69, 70]⟩ : ByteArray).extract ((ji6) : Int).toNat ((IntKind.u64.wrap ((ji6) + 1)) : Int).toNat) ++ x7_1), (by first | rfl | (simp; done) | (simp [*]; done)), (by first | rfl | (simp; done) | (simp only [← hji6] <;> (first | rfl | simp)) | (simp [*]; done)), H', ⟨by have := HK1.out; omega⟩, by repeat (first | exact Drawn0.refl _ | apply Drawn0.step)⟩
        ·rw [if_neg c10] at H
         exact absurd H (by simp)
       ·rw [if_neg c9] at H
        exact absurd H (by simp)
      ·rw [if_neg c8] at H
       exact absurd H (by simp)
     ·rw [if_neg c7] at H
      exact absurd H (by simp)
   ·rw [if_neg c4] at H
    have c4b0 : decide (0 < x0_1) = false := decide_eq_false c4
    clear c4
    by_cases c11 : (x7_1.size : Int) < a2
    ·rw [if_pos c11] at H
     have c11b0 : decide ((x7_1.size : Int) < a2) = true := decide_eq_true c11
     clear c11
     by_cases c12 : a1 = 0
     ·rw [if_pos c12] at H
      exact absurd H (by simp)
     ·rw [if_neg c12] at H
      have c12b0 : (a1 == 0) = false := beq_eq_false_iff_ne.mpr c12
      have c12b1 : (a1 != 0) = true := bne_iff_ne.mpr c12
      obtain ⟨ji13, hji13⟩ : ∃ j_ : Int, (Int.tmod x0_1 a1) = j_ := ⟨_, rfl⟩
      replace H : (if 0 ≤ (ji13) then (if (ji13) ≤ (IntKind.u64.wrap ((ji13) + 1)) then (if (IntKind.u64.wrap ((ji13) + 1)) ≤ 16 then (if ((⟨#[48, 49, 50, 51, 52, 53, 54, 55, 56, 57, 65, 66, 67, 68, 69, 70]⟩ : ByteArray).extract ((ji13) : Int).toNat ((IntKind.u64.wrap ((ji13) + 1)) : Int).toNat).size + x7_1.size ≤ 9223372036854775807 then (platformfwref08_digits.l0 k1 (IntKind.u64.wrap (Int.tdiv x0_1 a1)) a1 a2 (((⟨#[48, 49, 50, 51, 52, 53, 54, 55, 56, 57, 65, 66, 67, 68, 69, 70]⟩ : ByteArray).extract ((ji13) : Int).toNat ((IntKind.u64.wrap ((ji13) + 1)) : Int).toNat) ++ x7_1)) else (none)) else (none)) else (none)) else (none)) = some r := by first | (rw [hji13] at H; exact H) | (simp only [hji13] at H ⊢; exact H)
      by_cases c14 : 0 ≤ (ji13)
      ·rw [if_pos c14] at H
       have c14b0 := eq_true c14
       have c14b1 : decide (0 ≤ (ji13)) = true := decide_eq_true c14
       clear c14
       by_cases c15 : (ji13) ≤ (IntKind.u64.wrap ((ji13) + 1))
       ·rw [if_pos c15] at H
        have c15b0 := eq_true c15
        have c15b1 : decide ((ji13) ≤ (IntKind.u64.wrap ((ji13) + 1))) = true := decide_eq_true c15
        clear c15
        by_cases c16 : (IntKind.u64.wrap ((ji13) + 1)) ≤ 16
        ·rw [if_pos c16] at H
         have c16b0 := eq_true c16
         have c16b1 : decide ((IntKind.u64.wrap ((ji13) + 1)) ≤ 16) = true := decide_eq_true c16
         clear c16
         by_cases c17 : ((⟨#[48, 49, 50, 51, 52, 53, 54, 55, 56, 57, 65, 66, 67, 68, 69, 70]⟩ : ByteArray).extract ((ji13) : Int).toNat ((IntKind.u64.wrap ((ji13) + 1)) : Int).toNat).size + x7_1.size ≤ 9223372036854775807
         ·rw [if_pos c17] at H
          have c17b0 := eq_true c17
          have c17b1 : decide (((⟨#[48, 49, 50, 51, 52, 53, 54, 55, 56, 57, 65, 66, 67, 68, 69, 70]⟩ : ByteArray).extract ((ji13) : Int).toNat ((IntKind.u64.wrap ((ji13) + 1)) : Int).toNat).size + x7_1.size ≤ 9223372036854775807) = true := decide_eq_true c17
          try have c17b2 : (9223372036854775807 < ((⟨#[48, 49, 50, 51, 52, 53, 54, 55, 56, 57, 65, 66, 67, 68, 69, 70]⟩ : ByteArray).extract ((ji13) : Int).toNat ((IntKind.u64.wrap ((ji13) + 1)) : Int).toNat).size + x7_1.size) = False := eq_false (Nat.not_lt.2 c17)
          try have c17b3 : (9223372036854775807 < (((IntKind.u64.wrap ((ji13) + 1)) : Int).toNat - ((ji13) : Int).toNat) + x7_1.size) = False := eq_false (fun h_ => Nat.not_lt.2 c17 (Nat.lt_of_lt_of_eq h_ (by have q0_ : (IntKind.u64.wrap ((ji13) + 1)) ≤ 16 := of_decide_eq_true (by first | (with_reducible assumption) | assumption); simp only [ByteArray.size_extract, show (⟨#[48, 49, 50, 51, 52, 53, 54, 55, 56, 57, 65, 66, 67, 68, 69, 70]⟩ : ByteArray).size = 16 from rfl]; omega)))
          clear c17
          have H' := Aside0.mk H
          clear H
          go_wp2
          go_roundg k1
          case measure => have := HK1.out; omega
          case rel => exact ⟨(IntKind.u64.wrap (Int.tdiv x0_1 a1)), (((⟨#[48, 49, 50, 51, 52, 53, 54, 55, 56, 57, 65, 66, 67, 68, 69, 70]⟩ : ByteArray).extract ((ji13) : Int).toNat ((IntKind.u64.wrap ((ji13) + 1)) : Int).toNat) ++ x7_1), (by first | rfl | (simp; done) | (simp [*]; done)), (by first | rfl | (simp; done) | (simp only [← hji13] <;> (first | rfl | simp)) | (simp [*]; done)), H', ⟨by have := HK1.out; omega⟩, by repeat (first | exact Drawn0.refl _ | apply Drawn0.step)⟩
         ·rw [if_neg c17] at H
          exact absurd H (by simp)
        ·rw [if_neg c16] at H
         exact absurd H (by simp)
       ·rw [if_neg c15] at H
        exact absurd H (by simp)
      ·rw [if_neg c14] at H
       exact absurd H (by simp)
    ·rw [if_neg c11] at H
     have c11b0 : decide ((x7_1.size : Int) < a2) = false := decide_eq_false c11
     clear c11
     obtain rfl := Option.some.inj H
     go_wp2
     go_ret
     exact ⟨by first | rfl | (simp; done) | (simp [*]; done), by repeat (first | exact Drawn0.refl _ | apply Drawn0.step)⟩

/-! ### platformfwref08_list: function 59 -/
def platformfwref08_list.l0 : Nat → ByteArray → ByteArray → ByteArray → Int → Int → ByteArray → Int → Option (ByteArray)
 | 0, _, _, _, _, _, _, _ => none
 | k + 1, x0, x1, x2, x3, x4, x11, x12 => if x12 < (x0.size : Int) then (if x12 > 0 then (if x11.size + x2.size ≤ 9223372036854775807 then (if 0 ≤ x12 then ((platformfwref08_digits.f k (IntKind.u64.wrap (bt x0 x12)) x3 x4).bind fun t347 => (if x1.size + t347.size ≤ 9223372036854775807 then (if x11.size + x2.size + (x1.size + t347.size) ≤ 9223372036854775807 then (platformfwref08_list.l0 k x0 x1 x2 x3 x4 ((x11 ++ x2) ++ (x1 ++ t347)) (wrap64 (x12 + 1))) else (none)) else (none))) else (none)) else (none)) else (if 0 ≤ x12 then ((platformfwref08_digits.f k (IntKind.u64.wrap (bt x0 x12)) x3 x4).bind fun t348 => (if x1.size + t348.size ≤ 9223372036854775807 then (if x11.size + (x1.size + t348.size) ≤ 9223372036854775807 then (platformfwref08_list.l0 k x0 x1 x2 x3 x4 (x11 ++ (x1 ++ t348)) (wrap64 (x12 + 1))) else (none)) else (none))) else (none))) else (some x11)
def platformfwref08_list.f (k : Nat) (a0 : ByteArray) (a1 : ByteArray) (a2 : ByteArray) (a3 : Int) (a4 : Int) : Option (ByteArray) := platformfwref08_list.l0 k a0 a1 a2 a3 a4 (⟨#[]⟩ : ByteArray) 0
theorem platformfwref08_list.mono_l : ∀ k, (∀ y0 y1 y2 y3 y4 y5 y6, LeO (platformfwref08_list.l0 k y0 y1 y2 y3 y4 y5 y6) (platformfwref08_list.l0 (k + 1) y0 y1 y2 y3 y4 y5 y6))
 | 0 => fun _ _ _ _ _ _ _ r h => by simp [platformfwref08_list.l0] at h
 | k + 1 => by
  have ih0 := platformfwref08_list.mono_l k
  ·intro y0 y1 y2 y3 y4 y5 y6
   unfold platformfwref08_list.l0
   repeat' first
   | (with_reducible exact ih0 _ _ _ _ _ _ _)
   | (with_reducible exact platformfwref08_digits.mono _ _ _ _)
   | (with_reducible exact LeO.refl _)
   | (with_reducible exact LeO.none _)
   | (with_reducible refine LeO.ite ?_ ?_)
   | (with_reducible refine LeO.bind ?_ (fun _ => ?_))
   | exact ih0 _ _ _ _ _ _ _
   | exact platformfwref08_digits.mono _ _ _ _
   | exact LeO.none _
   | refine LeO.ite ?_ ?_
   | refine LeO.bind ?_ (fun _ => ?_)
theorem platformfwref08_list.mono : ∀ a0 a1 a2 a3 a4 k, LeO (platformfwref08_list.f k a0 a1 a2 a3 a4) (platformfwref08_list.f (k + 1) a0 a1 a2 a3 a4) := by
 intro a0 a1 a2 a3 a4 k
 have ih0 := platformfwref08_list.mono_l k
 unfold platformfwref08_list.f
 repeat' first
   | (with_reducible exact ih0 _ _ _ _ _ _ _)
   | (with_reducible exact platformfwref08_digits.mono _ _ _ _)
   | (with_reducible exact LeO.refl _)
   | (with_reducible exact LeO.none _)
   | (with_reducible refine LeO.ite ?_ ?_)
   | (with_reducible refine LeO.bind ?_ (fun _ => ?_))
   | exact ih0 _ _ _ _ _ _ _
   | exact platformfwref08_digits.mono _ _ _ _
   | exact LeO.none _
   | refine LeO.ite ?_ ?_
   | refine LeO.bind ?_ (fun _ => ?_)
set_option maxHeartbeats 8000000 in
set_option maxRecDepth 100000 in
theorem platformfwref08_list.calls (k : Nat) (a0 : ByteArray) (a1 : ByteArray) (a2 : ByteArray) (a3 : Int) (a4 : Int) (r : ByteArray) (w : World) (h : platformfwref08_list.f k a0 a1 a2 a3 a4 = some r) :
  Calls Tryd.prog 59 #[.string a0, .string a1, .string a2, .int .u64 a3, .int .i64 a4] w fun e w' => e = .returned (.string r) ∧ Drawn0 w w' := by
 have H : (platformfwref08_list.l0 k a0 a1 a2 a3 a4 (⟨#[]⟩ : ByteArray) 0) = some r := h
 clear h
 have H' := Aside0.mk H
 clear H
 go_enter Tryd.func59, Tryd.ntmps59
 go_wp2
 go_loopg [11, 12] k (fun kq v11 v12 w' => ∃ (x11_1 : ByteArray) (x12_1 : Int), v11 = .string x11_1 ∧ v12 = .int .i64 x12_1 ∧ Aside0 (platformfwref08_list.l0 kq a0 a1 a2 a3 a4 x11_1 x12_1 = some r) ∧ Aside0 (kq ≤ k) ∧ Drawn0 w w')
 case atStart => exact ⟨((⟨#[]⟩ : ByteArray)), (0), (by first | rfl | (simp; done) | (simp [*]; done)), (by first | rfl | (simp; done) | (simp [*]; done)), H', ⟨Nat.le_refl _⟩, by repeat (first | exact Drawn0.refl _ | apply Drawn0.step)⟩
 case round =>
  clear H'
  try clear p2
  try clear c5
  obtain ⟨x11_1, x12_1, rfl, rfl, HA, HK1, ⟨m1, rfl⟩⟩ := hrel
  cases gk with
  | zero => exact absurd HA.out (by simp [platformfwref08_list.l0])
  | succ k1 =>
   have H := HA.out
   clear HA
   simp only [platformfwref08_list.l0] at H
   by_cases c6 : x12_1 < (a0.size : Int)
   ·rw [if_pos c6] at H
    have c6b0 : decide (x12_1 < (a0.size : Int)) = true := decide_eq_true c6
    clear c6
    by_cases c7 : x12_1 > 0
    ·rw [if_pos c7] at H
     have c7b0 : decide (0 < x12_1) = true := decide_eq_true c7
     clear c7
     by_cases c8 : x11_1.size + a2.size ≤ 9223372036854775807
     ·rw [if_pos c8] at H
      have c8b0 := eq_true c8
      have c8b1 : decide (x11_1.size + a2.size ≤ 9223372036854775807) = true := decide_eq_true c8
      try have c8b2 : (9223372036854775807 < x11_1.size + a2.size) = False := eq_false (Nat.not_lt.2 c8)
      clear c8
      by_cases c9 : 0 ≤ x12_1
      ·rw [if_pos c9] at H
       have c9b0 : decide (0 ≤ x12_1) = true := decide_eq_true c9
       clear c9
       replace H := Option.bind_eq_some_iff.mp H
       obtain ⟨t347, A110, H⟩ := H
       replace H : (if a1.size + t347.size ≤ 9223372036854775807 then (if x11_1.size + a2.size + (a1.size + t347.size) ≤ 9223372036854775807 then (platformfwref08_list.l0 k1 a0 a1 a2 a3 a4 ((x11_1 ++ a2) ++ (a1 ++ t347)) (wrap64 (x12_1 + 1))) else (none)) else (none)) = some r := H
       have A11 := Aside0.mk A110
       clear A110
       by_cases c12 : a1.size + t347.size ≤ 9223372036854775807
       ·rw [if_pos c12] at H
        have c12b0 := eq_true c12
        have c12b1 : decide (a1.size + t347.size ≤ 9223372036854775807) = true := decide_eq_true c12
        try have c12b2 : (9223372036854775807 < a1.size + t347.size) = False := eq_false (Nat.not_lt.2 c12)
        clear c12
        by_cases c13 : x11_1.size + a2.size + (a1.size + t347.size) ≤ 9223372036854775807
        ·rw [if_pos c13] at H
         have c13b0 := eq_true c13
         have c13b1 : decide (x11_1.size + a2.size + (a1.size + t347.size) ≤ 9223372036854775807) = true := decide_eq_true c13
         try have c13b2 : (9223372036854775807 < x11_1.size + a2.size + (a1.size + t347.size)) = False := eq_false (Nat.not_lt.2 c13)
         clear c13
         have H' := Aside0.mk H
         clear H
         have p10 : 0 ≤ (x12_1 : Int) := of_decide_eq_true (by first | (with_reducible assumption) | assumption)
         have q10 : x12_1 < (a0.size : Int) := of_decide_eq_true (by first | (with_reducible assumption) | assumption)
         have hx10 := bt_at a0 x12_1
         replace p10 := eq_true p10
         replace q10 := eq_true q10
         go_wp2_with (first | ((with_reducible refine gate_callee (f := 58) rfl ?_); refine goesL_ (some 32) rfl rfl Tryd.func58 (by kernel_rfl) rfl #[.int .u64 (IntKind.u64.wrap (bt a0 x12_1)), .int .u64 a3, .int .i64 a4] rfl (by (try simp only [List.map_toArray, List.map_cons, List.map_nil]); first | done | rfl) ?_; (with_reducible refine (platformfwref08_digits.calls k1 (IntKind.u64.wrap (bt a0 x12_1)) a3 a4 t347 _ A11.out).mono ?_); rintro e w' ⟨rfl, ⟨nd, rfl⟩⟩; refine ⟨_, rfl, ?_⟩))
         go_roundg k1
         case measure => have := HK1.out; omega
         case rel => exact ⟨((x11_1 ++ a2) ++ (a1 ++ t347)), (wrap64 (x12_1 + 1)), (by first | rfl | (simp; done) | (simp [*]; done)), (by first | rfl | (simp; done) | (simp [*]; done)), H', ⟨by have := HK1.out; omega⟩, by repeat (first | exact Drawn0.refl _ | apply Drawn0.step)⟩
        ·rw [if_neg c13] at H
         exact absurd H (by simp)
       ·rw [if_neg c12] at H
        exact absurd H (by simp)
      ·rw [if_neg c9] at H
       exact absurd H (by simp)
     ·rw [if_neg c8] at H
      exact absurd H (by simp)
    ·rw [if_neg c7] at H
     have c7b0 : decide (0 < x12_1) = false := decide_eq_false c7
     clear c7
     by_cases c14 : 0 ≤ x12_1
     ·rw [if_pos c14] at H
      have c14b0 : decide (0 ≤ x12_1) = true := decide_eq_true c14
      clear c14
      replace H := Option.bind_eq_some_iff.mp H
      obtain ⟨t348, A160, H⟩ := H
      replace H : (if a1.size + t348.size ≤ 9223372036854775807 then (if x11_1.size + (a1.size + t348.size) ≤ 9223372036854775807 then (platformfwref08_list.l0 k1 a0 a1 a2 a3 a4 (x11_1 ++ (a1 ++ t348)) (wrap64 (x12_1 + 1))) else (none)) else (none)) = some r := H
      have A16 := Aside0.mk A160
      clear A160
      by_cases c17 : a1.size + t348.size ≤ 9223372036854775807
      ·rw [if_pos c17] at H
       have c17b0 := eq_true c17
       have c17b1 : decide (a1.size + t348.size ≤ 9223372036854775807) = true := decide_eq_true c17
       try have c17b2 : (9223372036854775807 < a1.size + t348.size) = False := eq_false (Nat.not_lt.2 c17)
       clear c17
       by_cases c18 : x11_1.size + (a1.size + t348.size) ≤ 9223372036854775807
       ·rw [if_pos c18] at H
        have c18b0 := eq_true c18
        have c18b1 : decide (x11_1.size + (a1.size + t348.size) ≤ 9223372036854775807) = true := decide_eq_true c18
        try have c18b2 : (9223372036854775807 < x11_1.size + (a1.size + t348.size)) = False := eq_false (Nat.not_lt.2 c18)
        clear c18
        have H' := Aside0.mk H
        clear H
        have p15 : 0 ≤ (x12_1 : Int) := of_decide_eq_true (by first | (with_reducible assumption) | assumption)
        have q15 : x12_1 < (a0.size : Int) := of_decide_eq_true (by first | (with_reducible assumption) | assumption)
        have hx15 := bt_at a0 x12_1
        replace p15 := eq_true p15
        replace q15 := eq_true q15
        go_wp2_with (first | ((with_reducible refine gate_callee (f := 58) rfl ?_); refine goesL_ (some 32) rfl rfl Tryd.func58 (by kernel_rfl) rfl #[.int .u64 (IntKind.u64.wrap (bt a0 x12_1)), .int .u64 a3, .int .i64 a4] rfl (by (try simp only [List.map_toArray, List.map_cons, List.map_nil]); first | done | rfl) ?_; (with_reducible refine (platformfwref08_digits.calls k1 (IntKind.u64.wrap (bt a0 x12_1)) a3 a4 t348 _ A16.out).mono ?_); rintro e w' ⟨rfl, ⟨nd, rfl⟩⟩; refine ⟨_, rfl, ?_⟩))
        go_roundg k1
        case measure => have := HK1.out; omega
        case rel => exact ⟨(x11_1 ++ (a1 ++ t348)), (wrap64 (x12_1 + 1)), (by first | rfl | (simp; done) | (simp [*]; done)), (by first | rfl | (simp; done) | (simp [*]; done)), H', ⟨by have := HK1.out; omega⟩, by repeat (first | exact Drawn0.refl _ | apply Drawn0.step)⟩
       ·rw [if_neg c18] at H
        exact absurd H (by simp)
      ·rw [if_neg c17] at H
       exact absurd H (by simp)
     ·rw [if_neg c14] at H
      exact absurd H (by simp)
   ·rw [if_neg c6] at H
    have c6b0 : decide (x12_1 < (a0.size : Int)) = false := decide_eq_false c6
    clear c6
    obtain rfl := Option.some.inj H
    go_wp2
    go_ret
    exact ⟨by first | rfl | (simp; done) | (simp [*]; done), by repeat (first | exact Drawn0.refl _ | apply Drawn0.step)⟩

end Go.Proofs.YtdmeglmmihaonaaDoor.PValueMid
