-- Written by a program of this session's (wip/print_patch.py over the kit's print) out of the translation; Lean checks it.
import Derived.Test.YtmnmidclaaiffaaPFieldConvertsx0
import Derived.Test.YtmnmidclaaiffaaPFieldConvertsx9
import Derived.Test.YtmnmidclaaiffaaPFieldConvertsx10
import Derived.Test.YtmnmidclaaiffaaPFieldConvertsx13
import Derived.Test.YtmnmidclaaiffaaVFieldConvertsExt
namespace Go.Proofs.Ytmnmidclaaiffaa.PFieldConverts
open Go.RowKit Go.Proofs.Ytmnmidclaaiffaa.Ext Go.Proofs.YtmnmidclaaiffaaW.PrintWords Go.Proofs.YtmnmidclaaiffaaW.PrintLast Go.Proofs.YtmnmidclaaiffaaW.PrintMore
attribute [local go_sem] max2_int min2_int max_two min_two max_three min_three max_four min_four   -- for this text's walks alone
set_option linter.unusedVariables false
set_option linter.unusedSimpArgs false

/-! ### platformfwref08_Integer: function 81 -/
mutual
def platformfwref08_Integer.l0 : Nat → Int → Int → Int → Int → ByteArray → Int → Option (Int × Int)
 | 0, _, _, _, _, _, _ => none
 | k + 1, x4, x5, x256000, x256001, x256002, x256003 => if x5 < (x256002.size : Int) then (if x5 < 16 then (if 0 ≤ x5 then ((platformfwref08_hex.f k (bt x256002 x5)).bind fun t257 => (if t257 ≥ 0 then ((platformfwref08_hex.f k (bt x256002 x5)).bind fun t258 => (platformfwref08_Integer.l0 k (Go.bits .or .u64 (IntKind.u64.wrap (x4 * 16)) (IntKind.u64.wrap (t257))) (wrap64 (x5 + 1)) x256000 x256001 x256002 x256003)) else (some (x4, 0)))) else (none)) else (some (x4, 0))) else (some (x4, 0))
def platformfwref08_Integer.l1 : Nat → Int → Int → Int → Int → ByteArray → Int → Option (Int × Int)
 | 0, _, _, _, _, _, _ => none
 | k + 1, x4, x6, x256000, x256001, x256002, x256003 => if x6 < (x256002.size : Int) then (if x6 < 8 then (if 0 ≤ x6 then (if 0 ≤ (IntKind.u64.wrap (wrap64 (8 * x6))) then (platformfwref08_Integer.l1 k (Go.bits .or .u64 x4 (shl .u64 (IntKind.u64.wrap (bt x256002 x6)) (IntKind.u64.wrap (wrap64 (8 * x6))))) (wrap64 (x6 + 1)) x256000 x256001 x256002 x256003) else (none)) else (none)) else (some (x4, 0))) else (some (x4, 0))
end
def platformfwref08_Integer.f (k : Nat) (a0_0 : Int) (a0_1 : Int) (a0_2 : ByteArray) (a0_3 : Int) : Option (Int × Int) := (platformfwref08_Valid.f a0_0 a0_1 a0_2 a0_3).bind fun t256 => (if t256 = true then (if a0_0 = 1 then (some (a0_1, 0)) else (if a0_0 = 2 then (platformfwref08_Integer.l0 k 0 0 a0_0 a0_1 a0_2 a0_3) else (if a0_0 = 3 then (platformfwref08_Integer.l1 k 0 0 a0_0 a0_1 a0_2 a0_3) else (some (0, 10))))) else (some (0, 1)))
theorem platformfwref08_Integer.mono_l : ∀ k, (∀ y0 y1 y2 y3 y4 y5, LeO (platformfwref08_Integer.l0 k y0 y1 y2 y3 y4 y5) (platformfwref08_Integer.l0 (k + 1) y0 y1 y2 y3 y4 y5)) ∧ (∀ y0 y1 y2 y3 y4 y5, LeO (platformfwref08_Integer.l1 k y0 y1 y2 y3 y4 y5) (platformfwref08_Integer.l1 (k + 1) y0 y1 y2 y3 y4 y5))
 | 0 => ⟨fun _ _ _ _ _ _ r h => by simp [platformfwref08_Integer.l0] at h, fun _ _ _ _ _ _ r h => by simp [platformfwref08_Integer.l1] at h⟩
 | k + 1 => by
  obtain ⟨ih0, ih1⟩ := platformfwref08_Integer.mono_l k
  refine ⟨?_, ?_⟩
  ·intro y0 y1 y2 y3 y4 y5
   unfold platformfwref08_Integer.l0
   repeat' first
   | (with_reducible exact ih0 _ _ _ _ _ _)
   | (with_reducible exact ih1 _ _ _ _ _ _)
   | (with_reducible exact platformfwref08_hex.mono _ _)
   | (with_reducible exact LeO.refl _)
   | (with_reducible exact LeO.none _)
   | (with_reducible refine LeO.ite ?_ ?_)
   | (with_reducible refine LeO.bind ?_ (fun _ => ?_))
   | exact ih0 _ _ _ _ _ _
   | exact ih1 _ _ _ _ _ _
   | exact platformfwref08_hex.mono _ _
   | exact LeO.none _
   | refine LeO.ite ?_ ?_
   | refine LeO.bind ?_ (fun _ => ?_)
  ·intro y0 y1 y2 y3 y4 y5
   unfold platformfwref08_Integer.l1
   repeat' first
   | (with_reducible exact ih0 _ _ _ _ _ _)
   | (with_reducible exact ih1 _ _ _ _ _ _)
   | (with_reducible exact platformfwref08_hex.mono _ _)
   | (with_reducible exact LeO.refl _)
   | (with_reducible exact LeO.none _)
   | (with_reducible refine LeO.ite ?_ ?_)
   | (with_reducible refine LeO.bind ?_ (fun _ => ?_))
   | exact ih0 _ _ _ _ _ _
   | exact ih1 _ _ _ _ _ _
   | exact platformfwref08_hex.mono _ _
   | exact LeO.none _
   | refine LeO.ite ?_ ?_
   | refine LeO.bind ?_ (fun _ => ?_)
theorem platformfwref08_Integer.mono : ∀ a0 a1 a2 a3 k, LeO (platformfwref08_Integer.f k a0 a1 a2 a3) (platformfwref08_Integer.f (k + 1) a0 a1 a2 a3) := by
 intro a0 a1 a2 a3 k
 obtain ⟨ih0, ih1⟩ := platformfwref08_Integer.mono_l k
 unfold platformfwref08_Integer.f
 repeat' first
   | (with_reducible exact ih0 _ _ _ _ _ _)
   | (with_reducible exact ih1 _ _ _ _ _ _)
   | (with_reducible exact platformfwref08_hex.mono _ _)
   | (with_reducible exact LeO.refl _)
   | (with_reducible exact LeO.none _)
   | (with_reducible refine LeO.ite ?_ ?_)
   | (with_reducible refine LeO.bind ?_ (fun _ => ?_))
   | exact ih0 _ _ _ _ _ _
   | exact ih1 _ _ _ _ _ _
   | exact platformfwref08_hex.mono _ _
   | exact LeO.none _
   | refine LeO.ite ?_ ?_
   | refine LeO.bind ?_ (fun _ => ?_)
set_option maxHeartbeats 8000000 in
set_option maxRecDepth 100000 in
theorem platformfwref08_Integer.calls (k : Nat) (a0_0 : Int) (a0_1 : Int) (a0_2 : ByteArray) (a0_3 : Int) (r1 : Int) (r2 : Int) (w : World) (h : platformfwref08_Integer.f k a0_0 a0_1 a0_2 a0_3 = some (r1, r2)) :
  Calls Try.prog 81 #[.agg #[.int .i64 a0_0, .int .u64 a0_1, .string a0_2, .int .i64 a0_3]] w fun e w' => e = .returned (.tuple #[.int .u64 r1, .int .i64 r2]) ∧ Below w.heap.size w w' := by
 have hu38 := Try.underlying38
 have HB := Aside0.mk (Below.refl w.heap.size w)
 have H : ((platformfwref08_Valid.f a0_0 a0_1 a0_2 a0_3).bind fun t256 => (if t256 = true then (if a0_0 = 1 then (some (a0_1, 0)) else (if a0_0 = 2 then (platformfwref08_Integer.l0 k 0 0 a0_0 a0_1 a0_2 a0_3) else (if a0_0 = 3 then (platformfwref08_Integer.l1 k 0 0 a0_0 a0_1 a0_2 a0_3) else (some (0, 10))))) else (some (0, 1)))) = some (r1, r2) := h
 clear h
 replace H := Option.bind_eq_some_iff.mp H
 obtain ⟨t256, A20, H⟩ := H
 replace H : (if t256 = true then (if a0_0 = 1 then (some (a0_1, 0)) else (if a0_0 = 2 then (platformfwref08_Integer.l0 k 0 0 a0_0 a0_1 a0_2 a0_3) else (if a0_0 = 3 then (platformfwref08_Integer.l1 k 0 0 a0_0 a0_1 a0_2 a0_3) else (some (0, 10))))) else (some (0, 1))) = some (r1, r2) := H
 have A2 := Aside0.mk A20
 clear A20
 by_cases c3 : t256 = true
 ·subst c3
  have H1 : (if a0_0 = 1 then (some (a0_1, 0)) else (if a0_0 = 2 then (platformfwref08_Integer.l0 k 0 0 a0_0 a0_1 a0_2 a0_3) else (if a0_0 = 3 then (platformfwref08_Integer.l1 k 0 0 a0_0 a0_1 a0_2 a0_3) else (some (0, 10))))) = some (r1, r2) := by rw [if_pos rfl] at H; exact H
  clear H
  have H := H1
  clear H1
  by_cases c4 : a0_0 = 1
  ·rw [if_pos c4] at H
   have c4b0 : (a0_0 == 1) = true := beq_iff_eq.mpr c4
   have c4b1 : (a0_0 != 1) = false := bne_eq_false_iff_eq.mpr c4
   clear c4
   simp only [Option.some.injEq, Prod.mk.injEq] at H
   obtain ⟨rfl, rfl⟩ := H
   go_enter Try.func81, Try.ntmps81
   go_wp2_with (first | ((with_reducible refine gate_dst (N := 1) rfl ?_); refine box_event ?hg (N := 1) ?hd (cs := #[.int .i64 a0_0, .int .u64 a0_1, .string a0_2, .int .i64 a0_3]) (t := 38) ?hr ?_; (case hd => rfl); (case hg => rfl); (case hr => first | (go_simp; done) | (go_simp; rfl)); intro gb255 hg w5 hbox hb; have n0_ := Aside0.mk (below_step (by repeat (first | (with_reducible first | exact HB.out | apply bA_ | apply bN_ | apply bD_) | exact HB.out)) hb); have n1_ := Aside0.mk (hbox); have n2_ := Aside0.mk ((by rw [hg]; exact (below_size (by repeat (first | (with_reducible first | exact HB.out | apply bA_ | apply bN_ | apply bD_) | exact HB.out))) : w.heap.size ≤ gb255)); have n3_ := Aside0.mk ((by rw [hg]; exact (below_size (by repeat (first | (with_reducible first | exact HB.out | apply bA_ | apply bN_ | apply bD_) | exact HB.out))) : w.heap.size ≤ gb255)); clear HB; have HB := n0_; have BK255 := n1_; have GW255 := n2_; have GE255 := n3_; clear n0_ n1_ n2_ n3_; clear hb hbox hg; obtain ⟨hcz6_0, hcz6_1, hcz6_2, hcz6_3⟩ := cells4_ BK255.out; obtain ⟨hfz6_0, hfz6_1, hfz6_2, hfz6_3⟩ := froz4_ BK255.out) | ((with_reducible refine gate_callee (f := 61) rfl ?_); refine goesL_ (some 9) rfl rfl Try.func61 (by kernel_rfl) rfl #[.agg #[.int .i64 a0_0, .int .u64 a0_1, .string a0_2, .int .i64 a0_3]] rfl (by (try simp only [List.map_toArray, List.map_cons, List.map_nil]); first | done | rfl | (simp only [List.length_drop, List.length_take]; rfl)) ?_; (with_reducible refine (platformfwref08_Valid.calls a0_0 a0_1 a0_2 a0_3 true _ A2.out).mono ?_); rintro e w7 ⟨rfl, hb⟩; refine ⟨_, rfl, ?_⟩; have n0_ := Aside0.mk (blk_below (g := gb255) (o := .cells #[.int .i64 a0_0, .int .u64 a0_1, .string a0_2, .int .i64 a0_3] 38 (0, 0)) (by (with_reducible repeat (first | refine kN_ ?_ _ | refine kD_ ?_ | refine kA_ ?_ _)); exact BK255.out) hb); have n1_ := Aside0.mk (below_step (by repeat (first | (with_reducible first | exact HB.out | apply bA_ | apply bN_ | apply bD_ | refine bS_ ?_ GE255.out) | exact HB.out)) hb); clear BK255; clear HB; have BK255 := n0_; have HB := n1_; clear n0_ n1_; (try clear hb); (try clear hb2); (try clear hk); (try clear hi); obtain ⟨hcz8_0, hcz8_1, hcz8_2, hcz8_3⟩ := cells4_ BK255.out; obtain ⟨hfz8_0, hfz8_1, hfz8_2, hfz8_3⟩ := froz4_ BK255.out))
   go_ret2
   exact ⟨by first | rfl | (simp [errW_none, errW_some] <;> rfl) | (simp [*, errW_none, errW_some] <;> rfl), by repeat (first | (with_reducible first | exact HB.out | apply bA_ | apply bN_ | apply bD_ | refine bS_ ?_ GE255.out) | exact HB.out)⟩
  ·rw [if_neg c4] at H
   have c4b0 : (a0_0 == 1) = false := beq_eq_false_iff_ne.mpr c4
   have c4b1 : (a0_0 != 1) = true := bne_iff_ne.mpr c4
   by_cases c9 : a0_0 = 2
   ·rw [if_pos c9] at H
    have c9b0 : (a0_0 == 2) = true := beq_iff_eq.mpr c9
    have c9b1 : (a0_0 != 2) = false := bne_eq_false_iff_eq.mpr c9
    clear c9
    have H' := Aside0.mk H
    clear H
    go_enter Try.func81, Try.ntmps81
    go_wp2_with (first | ((with_reducible refine gate_dst (N := 1) rfl ?_); refine box_event ?hg (N := 1) ?hd (cs := #[.int .i64 a0_0, .int .u64 a0_1, .string a0_2, .int .i64 a0_3]) (t := 38) ?hr ?_; (case hd => rfl); (case hg => rfl); (case hr => first | (go_simp; done) | (go_simp; rfl)); intro gb255 hg w10 hbox hb; have n0_ := Aside0.mk (below_step (by repeat (first | (with_reducible first | exact HB.out | apply bA_ | apply bN_ | apply bD_) | exact HB.out)) hb); have n1_ := Aside0.mk (hbox); have n2_ := Aside0.mk ((by rw [hg]; exact (below_size (by repeat (first | (with_reducible first | exact HB.out | apply bA_ | apply bN_ | apply bD_) | exact HB.out))) : w.heap.size ≤ gb255)); have n3_ := Aside0.mk ((by rw [hg]; exact (below_size (by repeat (first | (with_reducible first | exact HB.out | apply bA_ | apply bN_ | apply bD_) | exact HB.out))) : w.heap.size ≤ gb255)); clear HB; have HB := n0_; have BK255 := n1_; have GW255 := n2_; have GE255 := n3_; clear n0_ n1_ n2_ n3_; clear hb hbox hg; obtain ⟨hcz11_0, hcz11_1, hcz11_2, hcz11_3⟩ := cells4_ BK255.out; obtain ⟨hfz11_0, hfz11_1, hfz11_2, hfz11_3⟩ := froz4_ BK255.out) | ((with_reducible refine gate_callee (f := 61) rfl ?_); refine goesL_ (some 9) rfl rfl Try.func61 (by kernel_rfl) rfl #[.agg #[.int .i64 a0_0, .int .u64 a0_1, .string a0_2, .int .i64 a0_3]] rfl (by (try simp only [List.map_toArray, List.map_cons, List.map_nil]); first | done | rfl | (simp only [List.length_drop, List.length_take]; rfl)) ?_; (with_reducible refine (platformfwref08_Valid.calls a0_0 a0_1 a0_2 a0_3 true _ A2.out).mono ?_); rintro e w12 ⟨rfl, hb⟩; refine ⟨_, rfl, ?_⟩; have n0_ := Aside0.mk (blk_below (g := gb255) (o := .cells #[.int .i64 a0_0, .int .u64 a0_1, .string a0_2, .int .i64 a0_3] 38 (0, 0)) (by (with_reducible repeat (first | refine kN_ ?_ _ | refine kD_ ?_ | refine kA_ ?_ _)); exact BK255.out) hb); have n1_ := Aside0.mk (below_step (by repeat (first | (with_reducible first | exact HB.out | apply bA_ | apply bN_ | apply bD_ | refine bS_ ?_ GE255.out) | exact HB.out)) hb); clear BK255; clear HB; have BK255 := n0_; have HB := n1_; clear n0_ n1_; (try clear hb); (try clear hb2); (try clear hk); (try clear hi); obtain ⟨hcz13_0, hcz13_1, hcz13_2, hcz13_3⟩ := cells4_ BK255.out; obtain ⟨hfz13_0, hfz13_1, hfz13_2, hfz13_3⟩ := froz4_ BK255.out))
    go_loopg [4, 5] k (fun kq v4 v5 w' => ∃ (x4_1 : Int) (x5_1 : Int), v4 = .int .u64 x4_1 ∧ v5 = .int .i64 x5_1 ∧ Aside0 (platformfwref08_Integer.l0 kq x4_1 x5_1 a0_0 a0_1 a0_2 a0_3 = some (r1, r2)) ∧ Aside0 (kq ≤ k) ∧ Aside0 (w'.heap[gb255]? = some (.cells #[.int .i64 a0_0, .int .u64 a0_1, .string a0_2, .int .i64 a0_3] 38 (0, 0))) ∧ Aside0 (Below w.heap.size w w'))
    case atStart => exact ⟨(0), (0), (by first | rfl | (simp; done) | (simp [*]; done)), (by first | rfl | (simp; done) | (simp [*]; done)), H', ⟨Nat.le_refl _⟩, ⟨by (with_reducible repeat (first | refine kN_ ?_ _ | refine kD_ ?_ | refine kA_ ?_ _)); exact BK255.out⟩, ⟨by repeat (first | (with_reducible first | exact HB.out | apply bA_ | apply bN_ | apply bD_ | refine bS_ ?_ GE255.out) | exact HB.out)⟩⟩
    case round =>
     clear H'
     try clear p2
     try clear c3
     try clear c4
     try clear c4b0
     try clear c4b1
     try clear c6
     try clear c8
     try clear c9
     try clear c9b0
     try clear c9b1
     try clear hcz11_0 hcz11_1 hcz11_2 hcz11_3
     try clear hcz13_0 hcz13_1 hcz13_2 hcz13_3
     try clear hcz6_0 hcz6_1 hcz6_2 hcz6_3
     try clear hcz8_0 hcz8_1 hcz8_2 hcz8_3
     try clear hfz11_0 hfz11_1 hfz11_2 hfz11_3
     try clear hfz13_0 hfz13_1 hfz13_2 hfz13_3
     try clear hfz6_0 hfz6_1 hfz6_2 hfz6_3
     try clear hfz8_0 hfz8_1 hfz8_2 hfz8_3
     obtain ⟨x4_1, x5_1, rfl, rfl, HA, HK1, BK255, HB⟩ := hrel
     cases gk with
     | zero => exact absurd HA.out (by simp [platformfwref08_Integer.l0])
     | succ k1 =>
      have H := HA.out
      clear HA
      simp only [platformfwref08_Integer.l0] at H
      by_cases c14 : x5_1 < (a0_2.size : Int)
      ·rw [if_pos c14] at H
       have c14b0 : decide (x5_1 < (a0_2.size : Int)) = true := decide_eq_true c14
       clear c14
       by_cases c15 : x5_1 < 16
       ·rw [if_pos c15] at H
        have c15b0 : decide (x5_1 < 16) = true := decide_eq_true c15
        clear c15
        by_cases c16 : 0 ≤ x5_1
        ·rw [if_pos c16] at H
         have c16b0 : decide (0 ≤ x5_1) = true := decide_eq_true c16
         clear c16
         replace H := Option.bind_eq_some_iff.mp H
         obtain ⟨t257, A180, H⟩ := H
         replace H : (if t257 ≥ 0 then ((platformfwref08_hex.f k1 (bt a0_2 x5_1)).bind fun t258 => (platformfwref08_Integer.l0 k1 (Go.bits .or .u64 (IntKind.u64.wrap (x4_1 * 16)) (IntKind.u64.wrap (t257))) (wrap64 (x5_1 + 1)) a0_0 a0_1 a0_2 a0_3)) else (some (x4_1, 0))) = some (r1, r2) := H
         have A18 := Aside0.mk A180
         clear A180
         by_cases c19 : t257 ≥ 0
         ·rw [if_pos c19] at H
          have c19b0 : decide (0 ≤ t257) = true := decide_eq_true c19
          clear c19
          replace H := Option.bind_eq_some_iff.mp H
          obtain ⟨t258, A210, H⟩ := H
          replace H : (platformfwref08_Integer.l0 k1 (Go.bits .or .u64 (IntKind.u64.wrap (x4_1 * 16)) (IntKind.u64.wrap (t257))) (wrap64 (x5_1 + 1)) a0_0 a0_1 a0_2 a0_3) = some (r1, r2) := H
          have DA21 := Option.some.inj (A18.out.symm.trans A210)
          obtain rfl := DA21
          have A21 := Aside0.mk A210
          clear A210
          have H' := Aside0.mk H
          clear H
          obtain ⟨hcz22_0, hcz22_1, hcz22_2, hcz22_3⟩ := cells4_ BK255.out
          obtain ⟨hfz22_0, hfz22_1, hfz22_2, hfz22_3⟩ := froz4_ BK255.out
          have p17 : 0 ≤ (x5_1 : Int) := of_decide_eq_true (by first | (with_reducible assumption) | assumption)
          have q17 : x5_1 < (a0_2.size : Int) := of_decide_eq_true (by first | (with_reducible assumption) | assumption)
          have hx17 := bt_at a0_2 x5_1
          replace p17 := eq_true p17
          replace q17 := eq_true q17
          go_wp2_with (first | (go_at_call 91; (with_reducible refine (platformfwref08_hex.calls k1 (bt a0_2 x5_1) t257 _ A18.out).mono ?_); rintro e w' ⟨rfl, ⟨nd, rfl⟩⟩; have p20 : 0 ≤ (x5_1 : Int) := of_decide_eq_true (by first | (with_reducible assumption) | assumption); have q20 : x5_1 < (a0_2.size : Int) := of_decide_eq_true (by first | (with_reducible assumption) | assumption); have hx20 := bt_at a0_2 x5_1; replace p20 := eq_true p20; replace q20 := eq_true q20) | ((with_reducible refine gate_callee (f := 91) rfl ?_); refine goesL_ (some 46) rfl rfl Try.func91 (by kernel_rfl) rfl #[.int .u8 (bt a0_2 x5_1)] rfl (by (try simp only [List.map_toArray, List.map_cons, List.map_nil]); first | done | rfl | (simp only [List.length_drop, List.length_take]; rfl)) ?_; (with_reducible refine (platformfwref08_hex.calls k1 (bt a0_2 x5_1) t257 _ A21.out).mono ?_); rintro e w' ⟨rfl, ⟨nd, rfl⟩⟩; refine ⟨_, rfl, ?_⟩))
          go_roundg k1
          case measure => have := HK1.out; omega
          case rel => exact ⟨(Go.bits .or .u64 (IntKind.u64.wrap (x4_1 * 16)) (IntKind.u64.wrap (t257))), (wrap64 (x5_1 + 1)), (by first | rfl | (simp; done) | (simp [*]; done)), (by first | rfl | (simp; done) | (simp [*]; done)), H', ⟨by have := HK1.out; omega⟩, ⟨by (with_reducible repeat (first | refine kN_ ?_ _ | refine kD_ ?_ | refine kA_ ?_ _)); exact BK255.out⟩, ⟨by repeat (first | (with_reducible first | exact HB.out | apply bA_ | apply bN_ | apply bD_ | refine bS_ ?_ GE255.out) | exact HB.out)⟩⟩
         ·rw [if_neg c19] at H
          have c19b0 : decide (0 ≤ t257) = false := decide_eq_false c19
          clear c19
          simp only [Option.some.injEq, Prod.mk.injEq] at H
          obtain ⟨rfl, rfl⟩ := H
          obtain ⟨hcz23_0, hcz23_1, hcz23_2, hcz23_3⟩ := cells4_ BK255.out
          obtain ⟨hfz23_0, hfz23_1, hfz23_2, hfz23_3⟩ := froz4_ BK255.out
          have p17 : 0 ≤ (x5_1 : Int) := of_decide_eq_true (by first | (with_reducible assumption) | assumption)
          have q17 : x5_1 < (a0_2.size : Int) := of_decide_eq_true (by first | (with_reducible assumption) | assumption)
          have hx17 := bt_at a0_2 x5_1
          replace p17 := eq_true p17
          replace q17 := eq_true q17
          go_wp2_with (first | (go_at_call 91; (with_reducible refine (platformfwref08_hex.calls k1 (bt a0_2 x5_1) t257 _ A18.out).mono ?_); rintro e w' ⟨rfl, ⟨nd, rfl⟩⟩))
          go_ret2
          exact ⟨by first | rfl | (simp [errW_none, errW_some] <;> rfl) | (simp [*, errW_none, errW_some] <;> rfl), by repeat (first | (with_reducible first | exact HB.out | apply bA_ | apply bN_ | apply bD_ | refine bS_ ?_ GE255.out) | exact HB.out)⟩
        ·rw [if_neg c16] at H
         exact absurd H (by simp)
       ·rw [if_neg c15] at H
        have c15b0 : decide (x5_1 < 16) = false := decide_eq_false c15
        clear c15
        simp only [Option.some.injEq, Prod.mk.injEq] at H
        obtain ⟨rfl, rfl⟩ := H
        obtain ⟨hcz24_0, hcz24_1, hcz24_2, hcz24_3⟩ := cells4_ BK255.out
        obtain ⟨hfz24_0, hfz24_1, hfz24_2, hfz24_3⟩ := froz4_ BK255.out
        go_wp2
        go_ret2
        exact ⟨by first | rfl | (simp [errW_none, errW_some] <;> rfl) | (simp [*, errW_none, errW_some] <;> rfl), by repeat (first | (with_reducible first | exact HB.out | apply bA_ | apply bN_ | apply bD_ | refine bS_ ?_ GE255.out) | exact HB.out)⟩
      ·rw [if_neg c14] at H
       have c14b0 : decide (x5_1 < (a0_2.size : Int)) = false := decide_eq_false c14
       clear c14
       simp only [Option.some.injEq, Prod.mk.injEq] at H
       obtain ⟨rfl, rfl⟩ := H
       obtain ⟨hcz25_0, hcz25_1, hcz25_2, hcz25_3⟩ := cells4_ BK255.out
       obtain ⟨hfz25_0, hfz25_1, hfz25_2, hfz25_3⟩ := froz4_ BK255.out
       go_wp2
       go_ret2
       exact ⟨by first | rfl | (simp [errW_none, errW_some] <;> rfl) | (simp [*, errW_none, errW_some] <;> rfl), by repeat (first | (with_reducible first | exact HB.out | apply bA_ | apply bN_ | apply bD_ | refine bS_ ?_ GE255.out) | exact HB.out)⟩
   ·rw [if_neg c9] at H
    have c9b0 : (a0_0 == 2) = false := beq_eq_false_iff_ne.mpr c9
    have c9b1 : (a0_0 != 2) = true := bne_iff_ne.mpr c9
    by_cases c26 : a0_0 = 3
    ·rw [if_pos c26] at H
     have c26b0 : (a0_0 == 3) = true := beq_iff_eq.mpr c26
     have c26b1 : (a0_0 != 3) = false := bne_eq_false_iff_eq.mpr c26
     clear c26
     have H' := Aside0.mk H
     clear H
     go_enter Try.func81, Try.ntmps81
     go_wp2_with (first | ((with_reducible refine gate_dst (N := 1) rfl ?_); refine box_event ?hg (N := 1) ?hd (cs := #[.int .i64 a0_0, .int .u64 a0_1, .string a0_2, .int .i64 a0_3]) (t := 38) ?hr ?_; (case hd => rfl); (case hg => rfl); (case hr => first | (go_simp; done) | (go_simp; rfl)); intro gb255 hg w27 hbox hb; have n0_ := Aside0.mk (below_step (by repeat (first | (with_reducible first | exact HB.out | apply bA_ | apply bN_ | apply bD_) | exact HB.out)) hb); have n1_ := Aside0.mk (hbox); have n2_ := Aside0.mk ((by rw [hg]; exact (below_size (by repeat (first | (with_reducible first | exact HB.out | apply bA_ | apply bN_ | apply bD_) | exact HB.out))) : w.heap.size ≤ gb255)); have n3_ := Aside0.mk ((by rw [hg]; exact (below_size (by repeat (first | (with_reducible first | exact HB.out | apply bA_ | apply bN_ | apply bD_) | exact HB.out))) : w.heap.size ≤ gb255)); clear HB; have HB := n0_; have BK255 := n1_; have GW255 := n2_; have GE255 := n3_; clear n0_ n1_ n2_ n3_; clear hb hbox hg; obtain ⟨hcz28_0, hcz28_1, hcz28_2, hcz28_3⟩ := cells4_ BK255.out; obtain ⟨hfz28_0, hfz28_1, hfz28_2, hfz28_3⟩ := froz4_ BK255.out) | ((with_reducible refine gate_callee (f := 61) rfl ?_); refine goesL_ (some 9) rfl rfl Try.func61 (by kernel_rfl) rfl #[.agg #[.int .i64 a0_0, .int .u64 a0_1, .string a0_2, .int .i64 a0_3]] rfl (by (try simp only [List.map_toArray, List.map_cons, List.map_nil]); first | done | rfl | (simp only [List.length_drop, List.length_take]; rfl)) ?_; (with_reducible refine (platformfwref08_Valid.calls a0_0 a0_1 a0_2 a0_3 true _ A2.out).mono ?_); rintro e w29 ⟨rfl, hb⟩; refine ⟨_, rfl, ?_⟩; have n0_ := Aside0.mk (blk_below (g := gb255) (o := .cells #[.int .i64 a0_0, .int .u64 a0_1, .string a0_2, .int .i64 a0_3] 38 (0, 0)) (by (with_reducible repeat (first | refine kN_ ?_ _ | refine kD_ ?_ | refine kA_ ?_ _)); exact BK255.out) hb); have n1_ := Aside0.mk (below_step (by repeat (first | (with_reducible first | exact HB.out | apply bA_ | apply bN_ | apply bD_ | refine bS_ ?_ GE255.out) | exact HB.out)) hb); clear BK255; clear HB; have BK255 := n0_; have HB := n1_; clear n0_ n1_; (try clear hb); (try clear hb2); (try clear hk); (try clear hi); obtain ⟨hcz30_0, hcz30_1, hcz30_2, hcz30_3⟩ := cells4_ BK255.out; obtain ⟨hfz30_0, hfz30_1, hfz30_2, hfz30_3⟩ := froz4_ BK255.out))
     go_loopg [4, 6] k (fun kq v4 v6 w' => ∃ (x4_1 : Int) (x6_1 : Int), v4 = .int .u64 x4_1 ∧ v6 = .int .i64 x6_1 ∧ Aside0 (platformfwref08_Integer.l1 kq x4_1 x6_1 a0_0 a0_1 a0_2 a0_3 = some (r1, r2)) ∧ Aside0 (kq ≤ k) ∧ Aside0 (w'.heap[gb255]? = some (.cells #[.int .i64 a0_0, .int .u64 a0_1, .string a0_2, .int .i64 a0_3] 38 (0, 0))) ∧ Aside0 (Below w.heap.size w w'))
     case atStart => exact ⟨(0), (0), (by first | rfl | (simp; done) | (simp [*]; done)), (by first | rfl | (simp; done) | (simp [*]; done)), H', ⟨Nat.le_refl _⟩, ⟨by (with_reducible repeat (first | refine kN_ ?_ _ | refine kD_ ?_ | refine kA_ ?_ _)); exact BK255.out⟩, ⟨by repeat (first | (with_reducible first | exact HB.out | apply bA_ | apply bN_ | apply bD_ | refine bS_ ?_ GE255.out) | exact HB.out)⟩⟩
     case round =>
      clear H'
      try clear c1
      try clear p1
      try clear q1
      try clear hx1
      try clear c2
      try clear p2
      try clear q2
      try clear hx2
      try clear c3
      try clear c4
      try clear c4b0
      try clear c4b1
      try clear c6
      try clear p6
      try clear c8
      try clear c9
      try clear c9b0
      try clear c9b1
      try clear c14
      try clear c14b0
      try clear c15
      try clear c15b0
      try clear c16
      try clear c16b0
      try clear p17
      try clear q17
      try clear hx17
      try clear c19
      try clear c19b0
      try clear p20
      try clear q20
      try clear hx20
      try clear c26
      try clear c26b0
      try clear c26b1
      try clear hcz11_0 hcz11_1 hcz11_2 hcz11_3
      try clear hcz13_0 hcz13_1 hcz13_2 hcz13_3
      try clear hcz22_0 hcz22_1 hcz22_2 hcz22_3
      try clear hcz23_0 hcz23_1 hcz23_2 hcz23_3
      try clear hcz24_0 hcz24_1 hcz24_2 hcz24_3
      try clear hcz25_0 hcz25_1 hcz25_2 hcz25_3
      try clear hcz28_0 hcz28_1 hcz28_2 hcz28_3
      try clear hcz30_0 hcz30_1 hcz30_2 hcz30_3
      try clear hcz6_0 hcz6_1 hcz6_2 hcz6_3
      try clear hcz8_0 hcz8_1 hcz8_2 hcz8_3
      try clear hfz11_0 hfz11_1 hfz11_2 hfz11_3
      try clear hfz13_0 hfz13_1 hfz13_2 hfz13_3
      try clear hfz22_0 hfz22_1 hfz22_2 hfz22_3
      try clear hfz23_0 hfz23_1 hfz23_2 hfz23_3
      try clear hfz24_0 hfz24_1 hfz24_2 hfz24_3
      try clear hfz25_0 hfz25_1 hfz25_2 hfz25_3
      try clear hfz28_0 hfz28_1 hfz28_2 hfz28_3
      try clear hfz30_0 hfz30_1 hfz30_2 hfz30_3
      try clear hfz6_0 hfz6_1 hfz6_2 hfz6_3
      try clear hfz8_0 hfz8_1 hfz8_2 hfz8_3
      try clear p17
      try clear p2
      try clear p20
      try clear q17
      try clear q20
      obtain ⟨x4_1, x6_1, rfl, rfl, HA, HK1, BK255, HB⟩ := hrel
      cases gk with
      | zero => exact absurd HA.out (by simp [platformfwref08_Integer.l1])
      | succ k1 =>
       have H := HA.out
       clear HA
       simp only [platformfwref08_Integer.l1] at H
       by_cases c31 : x6_1 < (a0_2.size : Int)
       ·rw [if_pos c31] at H
        have c31b0 : decide (x6_1 < (a0_2.size : Int)) = true := decide_eq_true c31
        clear c31
        by_cases c32 : x6_1 < 8
        ·rw [if_pos c32] at H
         have c32b0 : decide (x6_1 < 8) = true := decide_eq_true c32
         clear c32
         by_cases c33 : 0 ≤ x6_1
         ·rw [if_pos c33] at H
          have c33b0 : decide (0 ≤ x6_1) = true := decide_eq_true c33
          clear c33
          obtain ⟨ji35, hji35⟩ : ∃ j_ : Int, (IntKind.u64.wrap (wrap64 (8 * x6_1))) = j_ := ⟨_, rfl⟩
          replace H : (if 0 ≤ (ji35) then (platformfwref08_Integer.l1 k1 (Go.bits .or .u64 x4_1 (shl .u64 (IntKind.u64.wrap (bt a0_2 x6_1)) (ji35))) (wrap64 (x6_1 + 1)) a0_0 a0_1 a0_2 a0_3) else (none)) = some (r1, r2) := by first | (rw [hji35] at H; exact H) | (simp only [hji35] at H ⊢; exact H)
          by_cases c36 : 0 ≤ (ji35)
          ·rw [if_pos c36] at H
           have c36b0 := eq_true c36
           have c36b1 : decide (0 ≤ (ji35)) = true := decide_eq_true c36
           clear c36
           obtain ⟨ji37, hji37⟩ : ∃ j_ : Int, (shl .u64 (IntKind.u64.wrap (bt a0_2 x6_1)) (ji35)) = j_ := ⟨_, rfl⟩
           replace H : (platformfwref08_Integer.l1 k1 (Go.bits .or .u64 x4_1 (ji37)) (wrap64 (x6_1 + 1)) a0_0 a0_1 a0_2 a0_3) = some (r1, r2) := by first | (rw [hji37] at H; exact H) | (simp only [hji37] at H ⊢; exact H)
           have hji37_ : (IntKind.u64.wrap ((IntKind.u64.wrap (bt a0_2 x6_1)) * 2 ^ min (ji35).toNat 64)) = ji37 := hji37
           have hji37z : (ji35) ≤ 64 → (IntKind.u64.wrap ((IntKind.u64.wrap (bt a0_2 x6_1)) * 2 ^ (ji35).toNat)) = ji37 := shl_small hji37
           have H' := Aside0.mk H
           clear H
           obtain ⟨hcz38_0, hcz38_1, hcz38_2, hcz38_3⟩ := cells4_ BK255.out
           obtain ⟨hfz38_0, hfz38_1, hfz38_2, hfz38_3⟩ := froz4_ BK255.out
           have p34 : 0 ≤ (x6_1 : Int) := of_decide_eq_true (by first | (with_reducible assumption) | assumption)
           have q34 : x6_1 < (a0_2.size : Int) := of_decide_eq_true (by first | (with_reducible assumption) | assumption)
           have hx34 := bt_at a0_2 x6_1
           replace p34 := eq_true p34
           replace q34 := eq_true q34
           go_wp2
           go_roundg k1
           case measure => have := HK1.out; omega
           case rel => exact ⟨(Go.bits .or .u64 x4_1 (ji37)), (wrap64 (x6_1 + 1)), (by first | rfl | (simp; done) | (simp only [← hji37] <;> (first | rfl | simp)) | (simp [*]; done)), (by first | rfl | (simp; done) | (simp [*]; done)), H', ⟨by have := HK1.out; omega⟩, ⟨by (with_reducible repeat (first | refine kN_ ?_ _ | refine kD_ ?_ | refine kA_ ?_ _)); exact BK255.out⟩, ⟨by repeat (first | (with_reducible first | exact HB.out | apply bA_ | apply bN_ | apply bD_ | refine bS_ ?_ GE255.out) | exact HB.out)⟩⟩
          ·rw [if_neg c36] at H
           exact absurd H (by simp)
         ·rw [if_neg c33] at H
          exact absurd H (by simp)
        ·rw [if_neg c32] at H
         have c32b0 : decide (x6_1 < 8) = false := decide_eq_false c32
         clear c32
         simp only [Option.some.injEq, Prod.mk.injEq] at H
         obtain ⟨rfl, rfl⟩ := H
         obtain ⟨hcz39_0, hcz39_1, hcz39_2, hcz39_3⟩ := cells4_ BK255.out
         obtain ⟨hfz39_0, hfz39_1, hfz39_2, hfz39_3⟩ := froz4_ BK255.out
         go_wp2
         go_ret2
         exact ⟨by first | rfl | (simp [errW_none, errW_some] <;> rfl) | (simp [*, errW_none, errW_some] <;> rfl), by repeat (first | (with_reducible first | exact HB.out | apply bA_ | apply bN_ | apply bD_ | refine bS_ ?_ GE255.out) | exact HB.out)⟩
       ·rw [if_neg c31] at H
        have c31b0 : decide (x6_1 < (a0_2.size : Int)) = false := decide_eq_false c31
        clear c31
        simp only [Option.some.injEq, Prod.mk.injEq] at H
        obtain ⟨rfl, rfl⟩ := H
        obtain ⟨hcz40_0, hcz40_1, hcz40_2, hcz40_3⟩ := cells4_ BK255.out
        obtain ⟨hfz40_0, hfz40_1, hfz40_2, hfz40_3⟩ := froz4_ BK255.out
        go_wp2
        go_ret2
        exact ⟨by first | rfl | (simp [errW_none, errW_some] <;> rfl) | (simp [*, errW_none, errW_some] <;> rfl), by repeat (first | (with_reducible first | exact HB.out | apply bA_ | apply bN_ | apply bD_ | refine bS_ ?_ GE255.out) | exact HB.out)⟩
    ·rw [if_neg c26] at H
     have c26b0 : (a0_0 == 3) = false := beq_eq_false_iff_ne.mpr c26
     have c26b1 : (a0_0 != 3) = true := bne_iff_ne.mpr c26
     simp only [Option.some.injEq, Prod.mk.injEq] at H
     obtain ⟨rfl, rfl⟩ := H
     go_enter Try.func81, Try.ntmps81
     go_wp2_with (first | ((with_reducible refine gate_dst (N := 1) rfl ?_); refine box_event ?hg (N := 1) ?hd (cs := #[.int .i64 a0_0, .int .u64 a0_1, .string a0_2, .int .i64 a0_3]) (t := 38) ?hr ?_; (case hd => rfl); (case hg => rfl); (case hr => first | (go_simp; done) | (go_simp; rfl)); intro gb255 hg w41 hbox hb; have n0_ := Aside0.mk (below_step (by repeat (first | (with_reducible first | exact HB.out | apply bA_ | apply bN_ | apply bD_) | exact HB.out)) hb); have n1_ := Aside0.mk (hbox); have n2_ := Aside0.mk ((by rw [hg]; exact (below_size (by repeat (first | (with_reducible first | exact HB.out | apply bA_ | apply bN_ | apply bD_) | exact HB.out))) : w.heap.size ≤ gb255)); have n3_ := Aside0.mk ((by rw [hg]; exact (below_size (by repeat (first | (with_reducible first | exact HB.out | apply bA_ | apply bN_ | apply bD_) | exact HB.out))) : w.heap.size ≤ gb255)); clear HB; have HB := n0_; have BK255 := n1_; have GW255 := n2_; have GE255 := n3_; clear n0_ n1_ n2_ n3_; clear hb hbox hg; obtain ⟨hcz42_0, hcz42_1, hcz42_2, hcz42_3⟩ := cells4_ BK255.out; obtain ⟨hfz42_0, hfz42_1, hfz42_2, hfz42_3⟩ := froz4_ BK255.out) | ((with_reducible refine gate_callee (f := 61) rfl ?_); refine goesL_ (some 9) rfl rfl Try.func61 (by kernel_rfl) rfl #[.agg #[.int .i64 a0_0, .int .u64 a0_1, .string a0_2, .int .i64 a0_3]] rfl (by (try simp only [List.map_toArray, List.map_cons, List.map_nil]); first | done | rfl | (simp only [List.length_drop, List.length_take]; rfl)) ?_; (with_reducible refine (platformfwref08_Valid.calls a0_0 a0_1 a0_2 a0_3 true _ A2.out).mono ?_); rintro e w43 ⟨rfl, hb⟩; refine ⟨_, rfl, ?_⟩; have n0_ := Aside0.mk (blk_below (g := gb255) (o := .cells #[.int .i64 a0_0, .int .u64 a0_1, .string a0_2, .int .i64 a0_3] 38 (0, 0)) (by (with_reducible repeat (first | refine kN_ ?_ _ | refine kD_ ?_ | refine kA_ ?_ _)); exact BK255.out) hb); have n1_ := Aside0.mk (below_step (by repeat (first | (with_reducible first | exact HB.out | apply bA_ | apply bN_ | apply bD_ | refine bS_ ?_ GE255.out) | exact HB.out)) hb); clear BK255; clear HB; have BK255 := n0_; have HB := n1_; clear n0_ n1_; (try clear hb); (try clear hb2); (try clear hk); (try clear hi); obtain ⟨hcz44_0, hcz44_1, hcz44_2, hcz44_3⟩ := cells4_ BK255.out; obtain ⟨hfz44_0, hfz44_1, hfz44_2, hfz44_3⟩ := froz4_ BK255.out))
     go_ret2
     exact ⟨by first | rfl | (simp [errW_none, errW_some] <;> rfl) | (simp [*, errW_none, errW_some] <;> rfl), by repeat (first | (with_reducible first | exact HB.out | apply bA_ | apply bN_ | apply bD_ | refine bS_ ?_ GE255.out) | exact HB.out)⟩
 ·replace c3 := Bool.eq_false_iff.mpr c3
  subst c3
  have H1 : (some (0, 1)) = some (r1, r2) := by rw [if_neg (show ¬ (false = true) by decide)] at H; exact H
  clear H
  have H := H1
  clear H1
  simp only [Option.some.injEq, Prod.mk.injEq] at H
  obtain ⟨rfl, rfl⟩ := H
  go_enter Try.func81, Try.ntmps81
  go_wp2_with (first | ((with_reducible refine gate_dst (N := 1) rfl ?_); refine box_event ?hg (N := 1) ?hd (cs := #[.int .i64 a0_0, .int .u64 a0_1, .string a0_2, .int .i64 a0_3]) (t := 38) ?hr ?_; (case hd => rfl); (case hg => rfl); (case hr => first | (go_simp; done) | (go_simp; rfl)); intro gb255 hg w45 hbox hb; have n0_ := Aside0.mk (below_step (by repeat (first | (with_reducible first | exact HB.out | apply bA_ | apply bN_ | apply bD_) | exact HB.out)) hb); have n1_ := Aside0.mk (hbox); have n2_ := Aside0.mk ((by rw [hg]; exact (below_size (by repeat (first | (with_reducible first | exact HB.out | apply bA_ | apply bN_ | apply bD_) | exact HB.out))) : w.heap.size ≤ gb255)); have n3_ := Aside0.mk ((by rw [hg]; exact (below_size (by repeat (first | (with_reducible first | exact HB.out | apply bA_ | apply bN_ | apply bD_) | exact HB.out))) : w.heap.size ≤ gb255)); clear HB; have HB := n0_; have BK255 := n1_; have GW255 := n2_; have GE255 := n3_; clear n0_ n1_ n2_ n3_; clear hb hbox hg; obtain ⟨hcz46_0, hcz46_1, hcz46_2, hcz46_3⟩ := cells4_ BK255.out; obtain ⟨hfz46_0, hfz46_1, hfz46_2, hfz46_3⟩ := froz4_ BK255.out) | ((with_reducible refine gate_callee (f := 61) rfl ?_); refine goesL_ (some 9) rfl rfl Try.func61 (by kernel_rfl) rfl #[.agg #[.int .i64 a0_0, .int .u64 a0_1, .string a0_2, .int .i64 a0_3]] rfl (by (try simp only [List.map_toArray, List.map_cons, List.map_nil]); first | done | rfl | (simp only [List.length_drop, List.length_take]; rfl)) ?_; (with_reducible refine (platformfwref08_Valid.calls a0_0 a0_1 a0_2 a0_3 false _ A2.out).mono ?_); rintro e w47 ⟨rfl, hb⟩; refine ⟨_, rfl, ?_⟩; have n0_ := Aside0.mk (blk_below (g := gb255) (o := .cells #[.int .i64 a0_0, .int .u64 a0_1, .string a0_2, .int .i64 a0_3] 38 (0, 0)) (by (with_reducible repeat (first | refine kN_ ?_ _ | refine kD_ ?_ | refine kA_ ?_ _)); exact BK255.out) hb); have n1_ := Aside0.mk (below_step (by repeat (first | (with_reducible first | exact HB.out | apply bA_ | apply bN_ | apply bD_ | refine bS_ ?_ GE255.out) | exact HB.out)) hb); clear BK255; clear HB; have BK255 := n0_; have HB := n1_; clear n0_ n1_; (try clear hb); (try clear hb2); (try clear hk); (try clear hi)))
  go_ret2
  exact ⟨by first | rfl | (simp [errW_none, errW_some] <;> rfl) | (simp [*, errW_none, errW_some] <;> rfl), by repeat (first | (with_reducible first | exact HB.out | apply bA_ | apply bN_ | apply bD_ | refine bS_ ?_ GE255.out) | exact HB.out)⟩

/-! ### platformfwref09_ToValue: function 53 -/
def platformfwref09_ToValue.l0 : Nat → ByteArray → List Int → Int → Int → Int → Int → Int → Int → Int → Int → Int → Int → Option (Int × Int × ByteArray × Int)
 | 0, _, _, _, _, _, _, _, _, _, _, _, _ => none
 | k + 1, x1, x5, x6, x260000, x260001, x260002, x260003, x260004, x260005, x260006, x260007, x260008 => if x6 < x260004 then (if 0 ≤ (wrap64 (Int.tdiv x6 8)) then (if (wrap64 (Int.tdiv x6 8)) < (x5.length : Int) then ((platformfwref09_bit.f x1 x6).bind fun t266 => (if 0 ≤ (IntKind.u64.wrap (Int.tmod x6 8)) then (platformfwref09_ToValue.l0 k x1 (x5.set ((wrap64 (Int.tdiv x6 8)) : Int).toNat (Go.bits .or .u8 (rd x5 (wrap64 (Int.tdiv x6 8))) ((shl .u64 t266 (IntKind.u64.wrap (Int.tmod x6 8))) % 256))) (wrap64 (x6 + 1)) x260000 x260001 x260002 x260003 x260004 x260005 x260006 x260007 x260008) else (none))) else (none)) else (none)) else (if x260004 > 64 then (some (3, 0, strOfNums x5, 0)) else ((platformfwref08_Integer.f k 3 0 (strOfNums x5) 0).bind fun bt268 => ((platformfwref08_Number.f bt268.1).bind fun bt270 => (some (bt270.1, bt270.2.1, bt270.2.2.1, bt270.2.2.2)))))
def platformfwref09_ToValue.f (k : Nat) (a0_0 : Int) (a0_1 : Int) (a0_2 : Int) (a0_3 : Int) (a0_4 : Int) (a0_5 : Int) (a0_6 : Int) (a0_7 : Int) (a0_8 : Int) (a1 : ByteArray) : Option (Int × Int × ByteArray × Int) := (platformfwref09_ValidField.f k a0_0 a0_1 a0_2 a0_3 a0_4 a0_5 a0_6 a0_7 a0_8).bind fun t261 => (if t261 = true then (if 0 ≤ (wrap64 (Int.tdiv (wrap64 (a0_4 + 7)) 8)) then (if (wrap64 (Int.tdiv (wrap64 (a0_4 + 7)) 8) : Int).toNat ≤ 281474976710656 then (platformfwref09_ToValue.l0 k a1 (List.replicate (wrap64 (Int.tdiv (wrap64 (a0_4 + 7)) 8) : Int).toNat 0) 0 a0_0 a0_1 a0_2 a0_3 a0_4 a0_5 a0_6 a0_7 a0_8) else (none)) else (none)) else (some (0, 0, (⟨#[]⟩ : ByteArray), 0)))
theorem platformfwref09_ToValue.mono_l : ∀ k, (∀ y0 y1 y2 y3 y4 y5 y6 y7 y8 y9 y10 y11, LeO (platformfwref09_ToValue.l0 k y0 y1 y2 y3 y4 y5 y6 y7 y8 y9 y10 y11) (platformfwref09_ToValue.l0 (k + 1) y0 y1 y2 y3 y4 y5 y6 y7 y8 y9 y10 y11))
 | 0 => fun _ _ _ _ _ _ _ _ _ _ _ _ r h => by simp [platformfwref09_ToValue.l0] at h
 | k + 1 => by
  have ih0 := platformfwref09_ToValue.mono_l k
  ·intro y0 y1 y2 y3 y4 y5 y6 y7 y8 y9 y10 y11
   unfold platformfwref09_ToValue.l0
   repeat' first
   | (with_reducible exact ih0 _ _ _ _ _ _ _ _ _ _ _ _)
   | (with_reducible exact platformfwref08_Integer.mono _ _ _ _ _)
   | (with_reducible exact platformfwref09_ValidField.mono _ _ _ _ _ _ _ _ _ _)
   | (with_reducible exact LeO.refl _)
   | (with_reducible exact LeO.none _)
   | (with_reducible refine LeO.ite ?_ ?_)
   | (with_reducible refine LeO.bind ?_ (fun _ => ?_))
   | exact ih0 _ _ _ _ _ _ _ _ _ _ _ _
   | exact platformfwref08_Integer.mono _ _ _ _ _
   | exact platformfwref09_ValidField.mono _ _ _ _ _ _ _ _ _ _
   | exact LeO.none _
   | refine LeO.ite ?_ ?_
   | refine LeO.bind ?_ (fun _ => ?_)
theorem platformfwref09_ToValue.mono : ∀ a0 a1 a2 a3 a4 a5 a6 a7 a8 a9 k, LeO (platformfwref09_ToValue.f k a0 a1 a2 a3 a4 a5 a6 a7 a8 a9) (platformfwref09_ToValue.f (k + 1) a0 a1 a2 a3 a4 a5 a6 a7 a8 a9) := by
 intro a0 a1 a2 a3 a4 a5 a6 a7 a8 a9 k
 have ih0 := platformfwref09_ToValue.mono_l k
 unfold platformfwref09_ToValue.f
 repeat' first
   | (with_reducible exact ih0 _ _ _ _ _ _ _ _ _ _ _ _)
   | (with_reducible exact platformfwref08_Integer.mono _ _ _ _ _)
   | (with_reducible exact platformfwref09_ValidField.mono _ _ _ _ _ _ _ _ _ _)
   | (with_reducible exact LeO.refl _)
   | (with_reducible exact LeO.none _)
   | (with_reducible refine LeO.ite ?_ ?_)
   | (with_reducible refine LeO.bind ?_ (fun _ => ?_))
   | exact ih0 _ _ _ _ _ _ _ _ _ _ _ _
   | exact platformfwref08_Integer.mono _ _ _ _ _
   | exact platformfwref09_ValidField.mono _ _ _ _ _ _ _ _ _ _
   | exact LeO.none _
   | refine LeO.ite ?_ ?_
   | refine LeO.bind ?_ (fun _ => ?_)
def platformfwref09_ToValue.T7 : Bool × List (List Nat × List Nat) := (true, [([], []), ([], []), ([1], [1]), ([0, 2], [0, 2]), ([3], [3]), ([], []), ([], []), ([5, 6], [5, 6]), ([], []), ([8], [8]), ([9], [9]), ([7, 10], [7, 10]), ([11], [11]), ([4, 12], [4, 12]), ([0, 2, 0, 1, 2, 3, 4, 5, 6, 7, 8, 9, 10, 11, 12, 13], [0, 2]), ([14, 13, 7, 0, 1, 2, 3, 4, 5, 6, 7, 8, 9, 10, 11, 12, 13], [13, 14])])
def platformfwref09_ToValue.B7 : List Nat := [0, 0, 2, 7, 15, 0, 0, 96, 0, 256, 768, 2016, 4064, 8191, 16383, 32767]
theorem platformfwref09_ToValue.tab7 : rtab .any (opsOf Try.f53 7) = platformfwref09_ToValue.T7 := by kernel_rfl
theorem platformfwref09_ToValue.bits7 : waitsOk platformfwref09_ToValue.T7.2 platformfwref09_ToValue.B7 = true := by kernel_rfl
set_option maxHeartbeats 8000000 in
set_option maxRecDepth 100000 in
theorem platformfwref09_ToValue.calls (k : Nat) (a0_0 : Int) (a0_1 : Int) (a0_2 : Int) (a0_3 : Int) (a0_4 : Int) (a0_5 : Int) (a0_6 : Int) (a0_7 : Int) (a0_8 : Int) (a1 : ByteArray) (r1 : Int) (r2 : Int) (r3 : ByteArray) (r4 : Int) (w : World) (h : platformfwref09_ToValue.f k a0_0 a0_1 a0_2 a0_3 a0_4 a0_5 a0_6 a0_7 a0_8 a1 = some (r1, r2, r3, r4)) :
  Calls Try.prog 53 #[.agg #[.int .i64 a0_0, .int .u64 a0_1, .int .u64 a0_2, .int .i64 a0_3, .int .i64 a0_4, .int .i64 a0_5, .int .i64 a0_6, .int .i64 a0_7, .int .i64 a0_8], .string a1] w fun e w' => e = .returned (.agg #[.int .i64 r1, .int .u64 r2, .string r3, .int .i64 r4]) ∧ Below w.heap.size w w' := by
 have hu26 := Try.underlying26
 have hu38 := Try.underlying38
 have HB := Aside0.mk (Below.refl w.heap.size w)
 have H : ((platformfwref09_ValidField.f k a0_0 a0_1 a0_2 a0_3 a0_4 a0_5 a0_6 a0_7 a0_8).bind fun t261 => (if t261 = true then (if 0 ≤ (wrap64 (Int.tdiv (wrap64 (a0_4 + 7)) 8)) then (if (wrap64 (Int.tdiv (wrap64 (a0_4 + 7)) 8) : Int).toNat ≤ 281474976710656 then (platformfwref09_ToValue.l0 k a1 (List.replicate (wrap64 (Int.tdiv (wrap64 (a0_4 + 7)) 8) : Int).toNat 0) 0 a0_0 a0_1 a0_2 a0_3 a0_4 a0_5 a0_6 a0_7 a0_8) else (none)) else (none)) else (some (0, 0, (⟨#[]⟩ : ByteArray), 0)))) = some (r1, r2, r3, r4) := h
 clear h
 replace H := Option.bind_eq_some_iff.mp H
 obtain ⟨t261, A30, H⟩ := H
 replace H : (if t261 = true then (if 0 ≤ (wrap64 (Int.tdiv (wrap64 (a0_4 + 7)) 8)) then (if (wrap64 (Int.tdiv (wrap64 (a0_4 + 7)) 8) : Int).toNat ≤ 281474976710656 then (platformfwref09_ToValue.l0 k a1 (List.replicate (wrap64 (Int.tdiv (wrap64 (a0_4 + 7)) 8) : Int).toNat 0) 0 a0_0 a0_1 a0_2 a0_3 a0_4 a0_5 a0_6 a0_7 a0_8) else (none)) else (none)) else (some (0, 0, (⟨#[]⟩ : ByteArray), 0))) = some (r1, r2, r3, r4) := H
 have A3 := Aside0.mk A30
 clear A30
 by_cases c4 : t261 = true
 ·subst c4
  have H1 : (if 0 ≤ (wrap64 (Int.tdiv (wrap64 (a0_4 + 7)) 8)) then (if (wrap64 (Int.tdiv (wrap64 (a0_4 + 7)) 8) : Int).toNat ≤ 281474976710656 then (platformfwref09_ToValue.l0 k a1 (List.replicate (wrap64 (Int.tdiv (wrap64 (a0_4 + 7)) 8) : Int).toNat 0) 0 a0_0 a0_1 a0_2 a0_3 a0_4 a0_5 a0_6 a0_7 a0_8) else (none)) else (none)) = some (r1, r2, r3, r4) := by rw [if_pos rfl] at H; exact H
  clear H
  have H := H1
  clear H1
  obtain ⟨ji5, hji5⟩ : ∃ j_ : Int, (wrap64 (Int.tdiv (wrap64 (a0_4 + 7)) 8)) = j_ := ⟨_, rfl⟩
  replace H : (if 0 ≤ (ji5) then (if (ji5 : Int).toNat ≤ 281474976710656 then (platformfwref09_ToValue.l0 k a1 (List.replicate (ji5 : Int).toNat 0) 0 a0_0 a0_1 a0_2 a0_3 a0_4 a0_5 a0_6 a0_7 a0_8) else (none)) else (none)) = some (r1, r2, r3, r4) := by first | (rw [hji5] at H; exact H) | (simp only [hji5] at H ⊢; exact H)
  (try rw [hji5] at A3)
  have hji5w : (IntKind.i64.wrap (Int.tdiv (wrap64 (a0_4 + 7)) 8)) = ji5 := (i64_w _).trans hji5
  by_cases c6 : 0 ≤ (ji5)
  ·rw [if_pos c6] at H
   have c6b0 := eq_true c6
   have c6b1 : decide (0 ≤ (ji5)) = true := decide_eq_true c6
   clear c6
   by_cases c7 : (ji5 : Int).toNat ≤ 281474976710656
   ·rw [if_pos c7] at H
    have c7b0 := eq_true c7
    have c7b1 : decide ((ji5 : Int).toNat ≤ 281474976710656) = true := decide_eq_true c7
    clear c7
    obtain ⟨y262, hy262⟩ : ∃ y_ : List Int, y_ = (List.replicate (ji5 : Int).toNat 0) := ⟨_, rfl⟩
    replace H : (platformfwref09_ToValue.l0 k a1 y262 0 a0_0 a0_1 a0_2 a0_3 a0_4 a0_5 a0_6 a0_7 a0_8) = some (r1, r2, r3, r4) := by first | (rw [hy262]; with_reducible exact H) | (have H2_ := (Option.bind_some _ _).symm.trans H; rw [hy262]; with_reducible exact H2_) | (have H2_ := (Option.bind_some _ _).symm.trans H; with_reducible exact H2_) | with_reducible exact H | (rw [hy262]; exact H) | exact H
    have Ny262 := Aside0.mk hy262
    clear hy262
    have H' := Aside0.mk H
    clear H
    go_enter Try.func53, Try.ntmps53
    go_wp2_with (first | ((with_reducible refine gate_dst (N := 2) rfl ?_); refine box_event ?hg (N := 2) ?hd (cs := #[.int .i64 a0_0, .int .u64 a0_1, .int .u64 a0_2, .int .i64 a0_3, .int .i64 a0_4, .int .i64 a0_5, .int .i64 a0_6, .int .i64 a0_7, .int .i64 a0_8]) (t := 26) ?hr ?_; (case hd => rfl); (case hg => rfl); (case hr => first | (go_simp; done) | (go_simp; rfl)); intro gb259 hg w8 hbox hb; have n0_ := Aside0.mk (below_step (by repeat (first | (with_reducible first | exact HB.out | apply bA_ | apply bN_ | apply bD_) | exact HB.out)) hb); have n1_ := Aside0.mk (hbox); have n2_ := Aside0.mk ((by rw [hg]; exact (below_size (by repeat (first | (with_reducible first | exact HB.out | apply bA_ | apply bN_ | apply bD_) | exact HB.out))) : w.heap.size ≤ gb259)); have n3_ := Aside0.mk ((by rw [hg]; exact (below_size (by repeat (first | (with_reducible first | exact HB.out | apply bA_ | apply bN_ | apply bD_) | exact HB.out))) : w.heap.size ≤ gb259)); clear HB; have HB := n0_; have BK259 := n1_; have GW259 := n2_; have GE259 := n3_; clear n0_ n1_ n2_ n3_; clear hb hbox hg) | ((with_reducible refine gate_dst (N := 4) rfl ?_); refine box_event ?hg (N := 4) ?hd (cs := #[.int .i64 0, .int .u64 0, .string (⟨#[]⟩ : ByteArray), .int .i64 0]) (t := 38) ?hr ?_; (case hd => rfl); (case hg => rfl); (case hr => first | (go_simp; done) | (go_simp; rfl)); intro gb260 hg w9 hbox hb; have n0_ := Aside0.mk (blk_below (g := gb259) (o := .cells #[.int .i64 a0_0, .int .u64 a0_1, .int .u64 a0_2, .int .i64 a0_3, .int .i64 a0_4, .int .i64 a0_5, .int .i64 a0_6, .int .i64 a0_7, .int .i64 a0_8] 26 (0, 0)) (by (with_reducible repeat (first | refine kN_ ?_ _ | refine kD_ ?_ | refine kA_ ?_ _)); exact BK259.out) hb); have n1_ := Aside0.mk (below_step (by repeat (first | (with_reducible first | exact HB.out | apply bA_ | apply bN_ | apply bD_ | refine bS_ ?_ GE259.out) | exact HB.out)) hb); have n2_ := Aside0.mk (hbox); have n3_ := Aside0.mk ((by rw [hg]; exact (below_size (by repeat (first | (with_reducible first | exact HB.out | apply bA_ | apply bN_ | apply bD_ | refine bS_ ?_ GE259.out) | exact HB.out))) : w.heap.size ≤ gb260)); have n4_ := Aside0.mk ((by rw [hg]; exact (below_size (by repeat (first | (with_reducible first | exact HB.out | apply bA_ | apply bN_ | apply bD_ | refine bS_ ?_ GE259.out) | exact HB.out))) : w.heap.size ≤ gb260)); have n5_ := Aside0.mk ((by rw [hg]; exact Nat.ne_of_lt (blk_lt (g := gb259) (o := .cells #[.int .i64 a0_0, .int .u64 a0_1, .int .u64 a0_2, .int .i64 a0_3, .int .i64 a0_4, .int .i64 a0_5, .int .i64 a0_6, .int .i64 a0_7, .int .i64 a0_8] 26 (0, 0)) (by (with_reducible repeat (first | refine kN_ ?_ _ | refine kD_ ?_ | refine kA_ ?_ _)); exact BK259.out)) : gb259 ≠ gb260)); have n6_ := Aside0.mk ((by rw [hg]; exact Nat.ne_of_gt (blk_lt (g := gb259) (o := .cells #[.int .i64 a0_0, .int .u64 a0_1, .int .u64 a0_2, .int .i64 a0_3, .int .i64 a0_4, .int .i64 a0_5, .int .i64 a0_6, .int .i64 a0_7, .int .i64 a0_8] 26 (0, 0)) (by (with_reducible repeat (first | refine kN_ ?_ _ | refine kD_ ?_ | refine kA_ ?_ _)); exact BK259.out)) : gb260 ≠ gb259)); clear BK259; clear HB; have BK259 := n0_; have HB := n1_; have BK260 := n2_; have GW260 := n3_; have GE260 := n4_; have NB259_260 := n5_; have NB260_259 := n6_; clear n0_ n1_ n2_ n3_ n4_ n5_ n6_; clear hb hbox hg; have hnb10 := NB259_260.out; have hnc10 := NB260_259.out; obtain ⟨hcz11_0, hcz11_1, hcz11_2, hcz11_3, hcz11_4, hcz11_5, hcz11_6, hcz11_7, hcz11_8⟩ := cells9_ BK259.out; obtain ⟨hfz11_0, hfz11_1, hfz11_2, hfz11_3, hfz11_4, hfz11_5, hfz11_6, hfz11_7, hfz11_8⟩ := froz9_ BK259.out) | ((with_reducible refine gate_callee (f := 29) rfl ?_); refine goesL_ (some 10) rfl rfl Try.func29 (by kernel_rfl) rfl #[.agg #[.int .i64 a0_0, .int .u64 a0_1, .int .u64 a0_2, .int .i64 a0_3, .int .i64 a0_4, .int .i64 a0_5, .int .i64 a0_6, .int .i64 a0_7, .int .i64 a0_8]] rfl (by (try simp only [List.map_toArray, List.map_cons, List.map_nil]); first | done | rfl | (simp only [List.length_drop, List.length_take]; rfl)) ?_; (with_reducible refine (platformfwref09_ValidField.calls k a0_0 a0_1 a0_2 a0_3 a0_4 a0_5 a0_6 a0_7 a0_8 true _ A3.out).mono ?_); rintro e w12 ⟨rfl, hb⟩; refine ⟨_, rfl, ?_⟩; have n0_ := Aside0.mk (blk_below (g := gb259) (o := .cells #[.int .i64 a0_0, .int .u64 a0_1, .int .u64 a0_2, .int .i64 a0_3, .int .i64 a0_4, .int .i64 a0_5, .int .i64 a0_6, .int .i64 a0_7, .int .i64 a0_8] 26 (0, 0)) (by (with_reducible repeat (first | refine kN_ ?_ _ | refine kD_ ?_ | refine kA_ ?_ _)); exact BK259.out) hb); have n1_ := Aside0.mk (blk_below (g := gb260) (o := .cells #[.int .i64 0, .int .u64 0, .string (⟨#[]⟩ : ByteArray), .int .i64 0] 38 (0, 0)) (by (with_reducible repeat (first | refine kN_ ?_ _ | refine kD_ ?_ | refine kA_ ?_ _)); exact BK260.out) hb); have n2_ := Aside0.mk (below_step (by repeat (first | (with_reducible first | exact HB.out | apply bA_ | apply bN_ | apply bD_ | refine bS_ ?_ GE259.out | refine bS_ ?_ GE260.out) | exact HB.out)) hb); clear BK259; clear BK260; clear HB; have BK259 := n0_; have BK260 := n1_; have HB := n2_; clear n0_ n1_ n2_; (try clear hb); (try clear hb2); (try clear hk); (try clear hi); obtain ⟨hcz13_0, hcz13_1, hcz13_2, hcz13_3, hcz13_4, hcz13_5, hcz13_6, hcz13_7, hcz13_8⟩ := cells9_ BK259.out; obtain ⟨hfz13_0, hfz13_1, hfz13_2, hfz13_3, hfz13_4, hfz13_5, hfz13_6, hfz13_7, hfz13_8⟩ := froz9_ BK259.out) | ((with_reducible refine gate_dst (N := 17) rfl ?_); refine Kd.R_make (Kd.int .u8) _ 5 rfl (N := 17) rfl 63 _ _ rfl ji5 rfl rfl Try.underlying63 (.int .u8 0) 1 info5 rfl (by decide) (by omega) 0 (ok := fun _ => True) (okp := fun _ => True) rfl (fun _ hk => hk) trivial (of_decide_eq_true (by first | (with_reducible assumption) | assumption)) (Nat.le_trans (Nat.mul_le_mul_right _ (of_decide_eq_true (by first | (with_reducible assumption) | assumption) : ji5.toNat ≤ 281474976710656)) (by omega)) (Below.refl _ _) (Nat.le_refl _) ?_; intro v263 w14 ho15 hb hg_ hnew_; clear hg_ hnew_; (first | rw [← Ny262.out] at ho15 | (simp only [Int.reduceToNat] at ho15; rw [← Ny262.out] at ho15)); have n0_ := Aside0.mk (Kd.R_lower ho15 (below_size (by repeat (first | (with_reducible first | exact HB.out | apply bA_ | apply bN_ | apply bD_ | refine bS_ ?_ GE259.out | refine bS_ ?_ GE260.out) | exact HB.out)))); have n1_ := Aside0.mk (blk_below (g := gb259) (o := .cells #[.int .i64 a0_0, .int .u64 a0_1, .int .u64 a0_2, .int .i64 a0_3, .int .i64 a0_4, .int .i64 a0_5, .int .i64 a0_6, .int .i64 a0_7, .int .i64 a0_8] 26 (0, 0)) (by (with_reducible repeat (first | refine kN_ ?_ _ | refine kD_ ?_ | refine kA_ ?_ _)); exact BK259.out) hb); have n2_ := Aside0.mk (blk_below (g := gb260) (o := .cells #[.int .i64 0, .int .u64 0, .string (⟨#[]⟩ : ByteArray), .int .i64 0] 38 (0, 0)) (by (with_reducible repeat (first | refine kN_ ?_ _ | refine kD_ ?_ | refine kA_ ?_ _)); exact BK260.out) hb); have n3_ := Aside0.mk (below_step (by repeat (first | (with_reducible first | exact HB.out | apply bA_ | apply bN_ | apply bD_ | refine bS_ ?_ GE259.out | refine bS_ ?_ GE260.out) | exact HB.out)) hb); clear BK259; clear BK260; clear HB; have HO264 := n0_; have BK259 := n1_; have BK260 := n2_; have HB := n3_; clear n0_ n1_ n2_ n3_; clear hb ho15))
    go_loopg [6] k (fun kq v6 w' => ∃ (x5_1 : List Int) (x6_1 : Int), v6 = .int .i64 x6_1 ∧ Aside0 (platformfwref09_ToValue.l0 kq a1 x5_1 x6_1 a0_0 a0_1 a0_2 a0_3 a0_4 a0_5 a0_6 a0_7 a0_8 = some (r1, r2, r3, r4)) ∧ Aside0 (kq ≤ k) ∧ Aside0 (Kd.R (Kd.int .u8) 5 w' w.heap.size (fun _ => True) v263 x5_1) ∧ Aside0 (w'.heap[gb259]? = some (.cells #[.int .i64 a0_0, .int .u64 a0_1, .int .u64 a0_2, .int .i64 a0_3, .int .i64 a0_4, .int .i64 a0_5, .int .i64 a0_6, .int .i64 a0_7, .int .i64 a0_8] 26 (0, 0))) ∧ Aside0 (w'.heap[gb260]? = some (.cells #[.int .i64 0, .int .u64 0, .string (⟨#[]⟩ : ByteArray), .int .i64 0] 38 (0, 0))) ∧ Aside0 (Below w.heap.size w w'))
    case atStart => exact ⟨(y262), (0), (by first | rfl | (simp; done) | (simp [*]; done)), H', ⟨Nat.le_refl _⟩, ⟨by (with_reducible repeat (first | apply Kd.R_alloc | apply Kd.R_drewN | apply Kd.R_drew)); exact HO264.out⟩, ⟨by (with_reducible repeat (first | refine kN_ ?_ _ | refine kD_ ?_ | refine kA_ ?_ _)); exact BK259.out⟩, ⟨by (with_reducible repeat (first | refine kN_ ?_ _ | refine kD_ ?_ | refine kA_ ?_ _)); exact BK260.out⟩, ⟨by repeat (first | (with_reducible first | exact HB.out | apply bA_ | apply bN_ | apply bD_ | refine bS_ ?_ GE259.out | refine bS_ ?_ GE260.out) | exact HB.out)⟩⟩
    case round =>
     clear H'
     try clear c1
     try clear c2
     try clear p2
     try clear c4
     try clear c5
     try clear c6
     try clear c6b0
     try clear c6b1
     try clear p6
     try clear c7
     try clear c7b0
     try clear c7b1
     try clear c10
     try clear hcz11_0 hcz11_1 hcz11_2 hcz11_3 hcz11_4 hcz11_5 hcz11_6 hcz11_7 hcz11_8
     try clear hcz13_0 hcz13_1 hcz13_2 hcz13_3 hcz13_4 hcz13_5 hcz13_6 hcz13_7 hcz13_8
     try clear hfz11_0 hfz11_1 hfz11_2 hfz11_3 hfz11_4 hfz11_5 hfz11_6 hfz11_7 hfz11_8
     try clear hfz13_0 hfz13_1 hfz13_2 hfz13_3 hfz13_4 hfz13_5 hfz13_6 hfz13_7 hfz13_8
     obtain ⟨x5_1, x6_1, rfl, HA, HK1, HO_5, BK259, BK260, HB⟩ := hrel
     cases gk with
     | zero => exact absurd HA.out (by simp [platformfwref09_ToValue.l0])
     | succ k1 =>
      have H := HA.out
      clear HA
      simp only [platformfwref09_ToValue.l0] at H
      by_cases c16 : x6_1 < a0_4
      ·rw [if_pos c16] at H
       have c16b0 : decide (x6_1 < a0_4) = true := decide_eq_true c16
       clear c16
       obtain ⟨ji17, hji17⟩ : ∃ j_ : Int, (wrap64 (Int.tdiv x6_1 8)) = j_ := ⟨_, rfl⟩
       replace H : (if 0 ≤ (ji17) then (if (ji17) < (x5_1.length : Int) then ((platformfwref09_bit.f a1 x6_1).bind fun t266 => (if 0 ≤ (IntKind.u64.wrap (Int.tmod x6_1 8)) then (platformfwref09_ToValue.l0 k1 a1 (x5_1.set ((ji17) : Int).toNat (Go.bits .or .u8 (rd x5_1 (ji17)) ((shl .u64 t266 (IntKind.u64.wrap (Int.tmod x6_1 8))) % 256))) (wrap64 (x6_1 + 1)) a0_0 a0_1 a0_2 a0_3 a0_4 a0_5 a0_6 a0_7 a0_8) else (none))) else (none)) else (none)) = some (r1, r2, r3, r4) := by first | (rw [hji17] at H; exact H) | (simp only [hji17] at H ⊢; exact H)
       have hji17w : (IntKind.i64.wrap (Int.tdiv x6_1 8)) = ji17 := (i64_w _).trans hji17
       by_cases c18 : 0 ≤ (ji17)
       ·rw [if_pos c18] at H
        have c18b0 : decide (0 ≤ (ji17)) = true := decide_eq_true c18
        clear c18
        by_cases c19 : (ji17) < (x5_1.length : Int)
        ·rw [if_pos c19] at H
         have c19b0 : decide ((ji17) < (x5_1.length : Int)) = true := decide_eq_true c19
         clear c19
         replace H := Option.bind_eq_some_iff.mp H
         obtain ⟨t266, A200, H⟩ := H
         replace H : (if 0 ≤ (IntKind.u64.wrap (Int.tmod x6_1 8)) then (platformfwref09_ToValue.l0 k1 a1 (x5_1.set ((ji17) : Int).toNat (Go.bits .or .u8 (rd x5_1 (ji17)) ((shl .u64 t266 (IntKind.u64.wrap (Int.tmod x6_1 8))) % 256))) (wrap64 (x6_1 + 1)) a0_0 a0_1 a0_2 a0_3 a0_4 a0_5 a0_6 a0_7 a0_8) else (none)) = some (r1, r2, r3, r4) := H
         have A20 := Aside0.mk A200
         clear A200
         obtain ⟨ji21, hji21⟩ : ∃ j_ : Int, (IntKind.u64.wrap (Int.tmod x6_1 8)) = j_ := ⟨_, rfl⟩
         replace H : (if 0 ≤ (ji21) then (platformfwref09_ToValue.l0 k1 a1 (x5_1.set ((ji17) : Int).toNat (Go.bits .or .u8 (rd x5_1 (ji17)) ((shl .u64 t266 (ji21)) % 256))) (wrap64 (x6_1 + 1)) a0_0 a0_1 a0_2 a0_3 a0_4 a0_5 a0_6 a0_7 a0_8) else (none)) = some (r1, r2, r3, r4) := by first | (rw [hji21] at H; exact H) | (simp only [hji21] at H ⊢; exact H)
         (try rw [hji21] at A20)
         by_cases c22 : 0 ≤ (ji21)
         ·rw [if_pos c22] at H
          have c22b0 := eq_true c22
          have c22b1 : decide (0 ≤ (ji21)) = true := decide_eq_true c22
          clear c22
          obtain ⟨ji23, hji23⟩ : ∃ j_ : Int, (shl .u64 t266 (ji21)) = j_ := ⟨_, rfl⟩
          replace H : (platformfwref09_ToValue.l0 k1 a1 (x5_1.set ((ji17) : Int).toNat (Go.bits .or .u8 (rd x5_1 (ji17)) ((ji23) % 256))) (wrap64 (x6_1 + 1)) a0_0 a0_1 a0_2 a0_3 a0_4 a0_5 a0_6 a0_7 a0_8) = some (r1, r2, r3, r4) := by first | (rw [hji23] at H; exact H) | (simp only [hji23] at H ⊢; exact H)
          (try rw [hji23] at A20)
          have hji23_ : (IntKind.u64.wrap (t266 * 2 ^ min (ji21).toNat 64)) = ji23 := hji23
          have hji23z : (ji21) ≤ 64 → (IntKind.u64.wrap (t266 * 2 ^ (ji21).toNat)) = ji23 := shl_small hji23
          obtain ⟨y267, hy267⟩ : ∃ y_ : List Int, y_ = (x5_1.set ((ji17) : Int).toNat (Go.bits .or .u8 (rd x5_1 (ji17)) ((ji23) % 256))) := ⟨_, rfl⟩
          replace H : (platformfwref09_ToValue.l0 k1 a1 y267 (wrap64 (x6_1 + 1)) a0_0 a0_1 a0_2 a0_3 a0_4 a0_5 a0_6 a0_7 a0_8) = some (r1, r2, r3, r4) := by first | (rw [hy267]; with_reducible exact H) | (have H2_ := (Option.bind_some _ _).symm.trans H; rw [hy267]; with_reducible exact H2_) | (have H2_ := (Option.bind_some _ _).symm.trans H; with_reducible exact H2_) | with_reducible exact H | (rw [hy267]; exact H) | exact H
          have Ny267 := Aside0.mk hy267
          clear hy267
          have H' := Aside0.mk H
          clear H
          have hnb25 := NB259_260.out
          have hnc25 := NB260_259.out
          obtain ⟨hcz26_0, hcz26_1, hcz26_2, hcz26_3, hcz26_4, hcz26_5, hcz26_6, hcz26_7, hcz26_8⟩ := cells9_ BK259.out
          obtain ⟨hfz26_0, hfz26_1, hfz26_2, hfz26_3, hfz26_4, hfz26_5, hfz26_6, hfz26_7, hfz26_8⟩ := froz9_ BK259.out
          try go_wp2
          have n0_ := Aside0.mk (Kd.R_drew HO_5.out)
          have n1_ := Aside0.mk (kD_ BK259.out)
          have n2_ := Aside0.mk (kD_ BK260.out)
          have n3_ := Aside0.mk (bD_ HB.out)
          clear HO_5
          clear BK259
          clear BK260
          clear HB
          have HO_5 := n0_
          have BK259 := n1_
          have BK260 := n2_
          have HB := n3_
          clear n0_ n1_ n2_ n3_
          obtain ⟨Ao28, co28, eo28⟩ := Kd.R_slice HO_5.out
          (first | subst eo28 | (injection eo28 with f1_ f2_ f3_; have f4_ := f1_.symm; have f5_ := f3_.symm; clear f1_ f2_ f3_; subst f4_; subst f5_))
          have p265 : 0 ≤ ((ji17) : Int) := of_decide_eq_true (by first | (with_reducible assumption) | assumption)
          have q265 : (ji17) < (x5_1.length : Int) := of_decide_eq_true (by first | (with_reducible assumption) | assumption)
          obtain ⟨ad265, e265, hx265_0⟩ := Kd.at_int (Kd.R_reads' HO_5.out).2.2 (ji17) p265 q265
          cases e265
          replace p265 := eq_true p265
          replace q265 := eq_true q265
          refine start_ (n := 16) (S := fun w' => w'.cell? (ad265.add ((ji17)).toNat) = some (.int .u8 (rd x5_1 (ji17)))) (ds := [15]) #[false, false, false, false, false, false, false, false, false, false, false, false, false, false, false, false] (by kernel_rfl) rfl rfl (hx265_0) (fun hHeld => ?_); refine with_tabW platformfwref09_ToValue.tab7 platformfwref09_ToValue.bits7 (fun HT_ HW_ => ?_)
          generalize wr.drew = w27 at HO_5 BK259 BK260 HB hx265_0 hHeld ⊢
          refine pure_ (i := 0) (N := some 24) (v := ?_) (a' := ?_) (tf 16 1) rfl rfl (any_of HT_.out (by kernel_rfl)) (fun _ _ _ h => h) (Or.inl ⟨by rfl, ?_⟩) ?_ ?_
          rotate_left
          ·intro w'
           go_simp
           with_reducible rfl
          rotate_left
          ·simp only [Act.put, sA_, sB_, sC_, i64_w, i32_w]
           rfl
          refine pure_ (i := 1) (N := some 25) (v := ?_) (a' := ?_) (tf 16 3) rfl rfl (any_of HT_.out (by kernel_rfl)) (fun _ _ _ h => h) (Or.inl ⟨by rfl, ?_⟩) ?_ ?_
          rotate_left
          ·intro w'
           go_simp
           with_reducible rfl
          rotate_left
          ·simp only [Act.put, sA_, sB_, sC_, i64_w, i32_w]
           rfl
          refine pure_ (i := 2) (N := some 26) (v := ?_) (a' := ?_) (tf 16 7) rfl rfl (any_of HT_.out (by kernel_rfl)) (fun _ _ _ h => h) (Or.inl ⟨by rfl, ?_⟩) ?_ ?_
          rotate_left
          ·intro w'
           go_simp
           with_reducible rfl
          rotate_left
          ·simp only [Act.put, sA_, sB_, sC_, i64_w, i32_w]
           rfl
          refine pure_ (i := 3) (N := some 27) (v := ?_) (a' := ?_) (tf 16 15) rfl rfl (any_of HT_.out (by kernel_rfl)) (fun _ _ _ h => h) (Or.inl ⟨by rfl, ?_⟩) ?_ ?_
          rotate_left
          ·intro w'
           go_simp
           with_reducible rfl
          rotate_left
          ·simp only [Act.put, sA_, sB_, sC_, i64_w, i32_w]
           rfl
          refine pure_ (i := 5) (N := some 29) (v := ?_) (a' := ?_) (tf 16 47) rfl rfl (any_of HT_.out (by kernel_rfl)) (fun _ _ _ h => h) (Or.inl ⟨by rfl, ?_⟩) ?_ ?_
          rotate_left
          ·intro w'
           go_simp
           with_reducible rfl
          rotate_left
          ·simp only [Act.put, sA_, sB_, sC_, i64_w, i32_w]
           rfl
          refine pure_ (i := 6) (N := some 30) (v := ?_) (a' := ?_) (tf 16 111) rfl rfl (any_of HT_.out (by kernel_rfl)) (fun _ _ _ h => h) (Or.inl ⟨by rfl, ?_⟩) ?_ ?_
          rotate_left
          ·intro w'
           go_simp
           with_reducible rfl
          rotate_left
          ·simp only [Act.put, sA_, sB_, sC_, i64_w, i32_w]
           rfl
          refine pure_ (i := 8) (N := some 32) (v := ?_) (a' := ?_) (tf 16 367) rfl rfl (any_of HT_.out (by kernel_rfl)) (fun _ _ _ h => h) (Or.inl ⟨by rfl, ?_⟩) ?_ ?_
          rotate_left
          ·intro w'
           go_simp
           with_reducible rfl
          rotate_left
          ·simp only [Act.put, sA_, sB_, sC_, i64_w, i32_w]
           rfl
          refine pure_ (i := 9) (N := some 33) (v := ?_) (a' := ?_) (tf 16 879) rfl rfl (any_of HT_.out (by kernel_rfl)) (fun _ _ _ h => h) (Or.inl ⟨by rfl, ?_⟩) ?_ ?_
          rotate_left
          ·intro w'
           go_simp
           with_reducible rfl
          rotate_left
          ·simp only [Act.put, sA_, sB_, sC_, i64_w, i32_w]
           rfl
          refine pure_ (i := 10) (N := some 34) (v := ?_) (a' := ?_) (tf 16 1903) rfl rfl (any_of HT_.out (by kernel_rfl)) (fun _ _ _ h => h) (Or.inl ⟨by rfl, ?_⟩) ?_ ?_
          rotate_left
          ·intro w'
           go_simp
           with_reducible rfl
          rotate_left
          ·simp only [Act.put, sA_, sB_, sC_, i64_w, i32_w]
           rfl
          refine take_ (i := 4) (N := some 28) (v := ?_) (a' := ?_) (tf 16 1919) rfl rfl (take_ofW HT_.out HW_.out (by kernel_rfl)) (fun _ _ _ h => h) (Or.inl ⟨by rfl, ?_⟩) hHeld ?_ ?_
          rotate_left
          ·intro w' s0
           go_simp
           with_reducible rfl
          rotate_left
          ·simp only [Act.put, sA_, sB_, sC_, i64_w, i32_w]
           rfl
          refine one_ (i := 7) (N := some 31) (tf 16 2047) rfl rfl (one_of HT_.out (by kernel_rfl)) (by decide) (fun K hK => ?_)
          refine goes_ Try.func60 (by kernel_rfl) rfl #[.string a1, .int .i64 x6_1] (by rfl) rfl rfl (by (try simp only [List.map_toArray, List.map_cons, List.map_nil]); first | done | rfl | (simp only [List.length_drop, List.length_take]; rfl)) ?_
          with_reducible refine (platformfwref09_bit.calls a1 x6_1 t266 _ A20.out).mono ?_
          rintro e w' ⟨rfl, ⟨nd, rfl⟩⟩
          refine ⟨_, rfl, ?_⟩
          have p24 : 0 ≤ ((ji17) : Int) := of_decide_eq_true (by first | (with_reducible assumption) | assumption)
          have q24 : ((ji17) : Int) < ((x5_1.length : Int) : Int) := of_decide_eq_true (by first | (with_reducible assumption) | assumption)
          obtain ⟨go24, co24, eo24, gb24, gl24, cl24, HG24⟩ := Kd.R_form HO_5.out (by omega)
          (first | cases eo24 | (injection eo24 with ea_ en_ ec_; (first | subst ea_ | (injection ea_ with ea_; subst ea_)); subst ec_; clear en_))
          have GB24 := Aside0.mk gb24
          have GG24 := Aside0.mk HG24
          clear gb24 gl24 HG24
          (first | simp only [add_plain] at hx265_0 | skip)
          obtain ⟨hx24_0, hf24_0⟩ := Kd.R_celln 0 HO_5.out ((ji17) : Int) p24 q24
          replace p24 := eq_true p24
          replace q24 := eq_true q24
          have HP29 := Kd.R_putn HO_5.out ((ji17) : Int) (Go.bits .or .u8 (rd x5_1 (ji17)) ((ji23) % 256))
          rw [← Ny267.out] at HP29
          have HQ29 := Aside0.mk HP29
          clear HP29
          refine hK.out _ _ (hHeld) (fun hHeld => ?_)
          clear hK K
          refine norm_ (a' := ?_) ?_ ?_
          rotate_left
          ·show Act.put _ (some 31) _ = _
           simp only [Act.put, sA_, sB_, sC_, i64_w, i32_w]
           rfl
          refine pure_ (i := 11) (N := some 35) (v := ?_) (a' := ?_) (tf 16 4095) rfl rfl (any_of HT_.out (by kernel_rfl)) (fun _ _ _ h => h) (Or.inl ⟨by rfl, ?_⟩) ?_ ?_
          rotate_left
          ·intro w'
           go_simp
           with_reducible rfl
          rotate_left
          ·simp only [Act.put, sA_, sB_, sC_, i64_w, i32_w]
           rfl
          refine pure_ (i := 12) (N := some 36) (v := ?_) (a' := ?_) (tf 16 8191) rfl rfl (any_of HT_.out (by kernel_rfl)) (fun _ _ _ h => h) (Or.inl ⟨by rfl, ?_⟩) ?_ ?_
          rotate_left
          ·intro w'
           go_simp
           with_reducible rfl
          rotate_left
          ·simp only [Act.put, sA_, sB_, sC_, i64_w, i32_w]
           rfl
          refine pure_ (i := 13) (N := some 37) (v := ?_) (a' := ?_) (tf 16 16383) rfl rfl (any_of HT_.out (by kernel_rfl)) (fun _ _ _ h => h) (Or.inl ⟨by rfl, ?_⟩) ?_ ?_
          rotate_left
          ·intro w'
           go_simp
           with_reducible rfl
          rotate_left
          ·simp only [Act.put, sA_, sB_, sC_, i64_w, i32_w]
           rfl
          refine pure_ (i := 14) (N := some 38) (v := ?_) (a' := ?_) (tf 16 32767) rfl rfl (any_of HT_.out (by kernel_rfl)) (fun _ _ _ h => h) (Or.inl ⟨by rfl, ?_⟩) ?_ ?_
          rotate_left
          ·intro w'
           go_simp
           with_reducible rfl
          rotate_left
          ·simp only [Act.put, sA_, sB_, sC_, i64_w, i32_w]
           rfl
          refine last_ (i := 15) (N := none) (tf 16 65535) rfl rfl (one_of HT_.out (by kernel_rfl)) (by decide) (fun K hK => ?_)
          refine skip_ (w1 := ?_) (by rfl) rfl ?_ ?_
          rotate_left
          ·go_simp
           rfl
          refine hK.out _ _ ?_
          clear hK K
          refine done_ (done_of HT_.out (by kernel_rfl)) ?_
          try go_wp2
          go_roundg k1
          case measure => have := HK1.out; omega
          case rel => exact ⟨(y267), (wrap64 (x6_1 + 1)), (by first | rfl | (simp; done) | (simp [*]; done)), H', ⟨by have := HK1.out; omega⟩, ⟨by (with_reducible repeat (first | apply Kd.R_alloc | apply Kd.R_drewN | apply Kd.R_drew)); exact HQ29.out⟩, ⟨by (with_reducible repeat (first | refine kN_ ?_ _ | refine kD_ ?_ | refine kA_ ?_ _)); refine blk_far ?_ (by have h_ := Kd.R_ne HO_5.out BK259.out (by decide); intro e_; exact h_ (by rw [e_]; rfl)) _; (with_reducible repeat (first | refine kN_ ?_ _ | refine kD_ ?_ | refine kA_ ?_ _)); exact BK259.out⟩, ⟨by (with_reducible repeat (first | refine kN_ ?_ _ | refine kD_ ?_ | refine kA_ ?_ _)); refine blk_far ?_ (by have h_ := Kd.R_ne HO_5.out BK260.out (by decide); intro e_; exact h_ (by rw [e_]; rfl)) _; (with_reducible repeat (first | refine kN_ ?_ _ | refine kD_ ?_ | refine kA_ ?_ _)); exact BK260.out⟩, ⟨by repeat (first | (with_reducible first | exact HB.out | apply bA_ | apply bN_ | apply bD_ | refine bS_ ?_ GB24.out | refine bS_ ?_ GE259.out | refine bS_ ?_ GE260.out) | exact HB.out)⟩⟩
         ·rw [if_neg c22] at H
          exact absurd H (by simp)
        ·rw [if_neg c19] at H
         exact absurd H (by simp)
       ·rw [if_neg c18] at H
        exact absurd H (by simp)
      ·rw [if_neg c16] at H
       have c16b0 : decide (x6_1 < a0_4) = false := decide_eq_false c16
       clear c16
       by_cases c30 : a0_4 > 64
       ·rw [if_pos c30] at H
        have c30b0 : decide (64 < a0_4) = true := decide_eq_true c30
        clear c30
        simp only [Option.some.injEq, Prod.mk.injEq] at H
        obtain ⟨rfl, rfl, rfl, rfl⟩ := H
        have hnb31 := NB259_260.out
        have hnc31 := NB260_259.out
        obtain ⟨hcz32_0, hcz32_1, hcz32_2, hcz32_3, hcz32_4, hcz32_5, hcz32_6, hcz32_7, hcz32_8⟩ := cells9_ BK259.out
        obtain ⟨hfz32_0, hfz32_1, hfz32_2, hfz32_3, hfz32_4, hfz32_5, hfz32_6, hfz32_7, hfz32_8⟩ := froz9_ BK259.out
        have hcv33 := own_string (P := Try.prog) Try.underlying63 Try.underlying5 Try.underlying9 (Kd.own_of_R HO_5.out)
        obtain ⟨hcz34_0, hcz34_1, hcz34_2, hcz34_3⟩ := cells4_ BK260.out
        obtain ⟨hfz34_0, hfz34_1, hfz34_2, hfz34_3⟩ := froz4_ BK260.out
        go_wp2
        refine bodyPost_ret (results_cell_row rfl _ _ gb260 38 #[.int .i64 3, .int .u64 0, .string (strOfNums x5_1), .int .i64 0] (0, 0) _ rfl (by (with_reducible repeat (first | refine kN_ ?_ _ | refine kD_ ?_ | refine kA_ ?_ _)); refine blk_put (cs := #[.int .i64 3, .int .u64 0, .string (strOfNums x5_1), .int .i64 0]) ?_ 3 _ rfl; (with_reducible repeat (first | refine kN_ ?_ _ | refine kD_ ?_ | refine kA_ ?_ _)); refine blk_put (cs := #[.int .i64 3, .int .u64 0, .string (⟨#[]⟩ : ByteArray), .int .i64 0]) ?_ 2 _ rfl; (with_reducible repeat (first | refine kN_ ?_ _ | refine kD_ ?_ | refine kA_ ?_ _)); refine blk_put (cs := #[.int .i64 3, .int .u64 0, .string (⟨#[]⟩ : ByteArray), .int .i64 0]) ?_ 1 _ rfl; (with_reducible repeat (first | refine kN_ ?_ _ | refine kD_ ?_ | refine kA_ ?_ _)); refine blk_put (cs := #[.int .i64 0, .int .u64 0, .string (⟨#[]⟩ : ByteArray), .int .i64 0]) ?_ 0 _ rfl; (with_reducible repeat (first | refine kN_ ?_ _ | refine kD_ ?_ | refine kA_ ?_ _)); exact BK260.out) Try.underlying38 rfl (by kernel_rfl)) rfl ?_
        exact ⟨by first | rfl | (simp [errW_none, errW_some] <;> rfl) | (simp only [← hji5]; first | rfl | (simp [errW_none, errW_some] <;> rfl)) | (simp [*, errW_none, errW_some] <;> rfl), by repeat (first | (with_reducible first | exact HB.out | apply bA_ | apply bN_ | apply bD_ | refine bS_ ?_ GE259.out | refine bS_ ?_ GE260.out) | exact HB.out)⟩
       ·rw [if_neg c30] at H
        have c30b0 : decide (64 < a0_4) = false := decide_eq_false c30
        clear c30
        replace H := Option.bind_eq_some_iff.mp H
        obtain ⟨⟨t268, t269⟩, A350, H⟩ := H
        replace H : ((platformfwref08_Number.f t268).bind fun bt270 => (some (bt270.1, bt270.2.1, bt270.2.2.1, bt270.2.2.2))) = some (r1, r2, r3, r4) := H
        have A35 := Aside0.mk A350
        clear A350
        replace H := Option.bind_eq_some_iff.mp H
        obtain ⟨⟨t270, t271, t272, t273⟩, A360, H⟩ := H
        replace H : (some (t270, t271, t272, t273)) = some (r1, r2, r3, r4) := H
        have A36 := Aside0.mk A360
        clear A360
        simp only [Option.some.injEq, Prod.mk.injEq] at H
        obtain ⟨rfl, rfl, rfl, rfl⟩ := H
        have hnb37 := NB259_260.out
        have hnc37 := NB260_259.out
        obtain ⟨hcz38_0, hcz38_1, hcz38_2, hcz38_3, hcz38_4, hcz38_5, hcz38_6, hcz38_7, hcz38_8⟩ := cells9_ BK259.out
        obtain ⟨hfz38_0, hfz38_1, hfz38_2, hfz38_3, hfz38_4, hfz38_5, hfz38_6, hfz38_7, hfz38_8⟩ := froz9_ BK259.out
        have hcv39 := own_string (P := Try.prog) Try.underlying63 Try.underlying5 Try.underlying9 (Kd.own_of_R HO_5.out)
        go_wp2_with (first | ((with_reducible refine gate_callee (f := 81) rfl ?_); refine goesL_ (some 49) rfl rfl Try.func81 (by kernel_rfl) rfl #[.agg #[.int .i64 3, .int .u64 0, .string (strOfNums x5_1), .int .i64 0]] rfl (by (try simp only [List.map_toArray, List.map_cons, List.map_nil]); first | done | rfl | (simp only [List.length_drop, List.length_take]; rfl)) ?_; (with_reducible refine (platformfwref08_Integer.calls k1 3 0 (strOfNums x5_1) 0 t268 t269 _ A35.out).mono ?_); rintro e w40 ⟨rfl, hb⟩; refine ⟨_, rfl, ?_⟩; have n0_ := Aside0.mk (Kd.R_below (by (with_reducible repeat (first | apply Kd.R_alloc | apply Kd.R_drewN | apply Kd.R_drew)); exact HO_5.out) hb); have n1_ := Aside0.mk (blk_below (g := gb259) (o := .cells #[.int .i64 a0_0, .int .u64 a0_1, .int .u64 a0_2, .int .i64 a0_3, .int .i64 a0_4, .int .i64 a0_5, .int .i64 a0_6, .int .i64 a0_7, .int .i64 a0_8] 26 (0, 0)) (by (with_reducible repeat (first | refine kN_ ?_ _ | refine kD_ ?_ | refine kA_ ?_ _)); exact BK259.out) hb); have n2_ := Aside0.mk (blk_below (g := gb260) (o := .cells #[.int .i64 0, .int .u64 0, .string (⟨#[]⟩ : ByteArray), .int .i64 0] 38 (0, 0)) (by (with_reducible repeat (first | refine kN_ ?_ _ | refine kD_ ?_ | refine kA_ ?_ _)); exact BK260.out) hb); have n3_ := Aside0.mk (below_step (by repeat (first | (with_reducible first | exact HB.out | apply bA_ | apply bN_ | apply bD_ | refine bS_ ?_ GE259.out | refine bS_ ?_ GE260.out) | exact HB.out)) hb); clear HO_5; clear BK259; clear BK260; clear HB; have HO_5 := n0_; have BK259 := n1_; have BK260 := n2_; have HB := n3_; clear n0_ n1_ n2_ n3_; (try clear hb); (try clear hb2); (try clear hk); (try clear hi)) | ((with_reducible refine gate_callee (f := 25) rfl ?_); refine goesL_ (some 53) rfl rfl Try.func25 (by kernel_rfl) rfl #[.int .u64 t268] rfl (by (try simp only [List.map_toArray, List.map_cons, List.map_nil]); first | done | rfl | (simp only [List.length_drop, List.length_take]; rfl)) ?_; (with_reducible refine (platformfwref08_Number.calls t268 t270 t271 t272 t273 _ A36.out).mono ?_); rintro e w41 ⟨rfl, hb⟩; refine ⟨_, rfl, ?_⟩; have n0_ := Aside0.mk (Kd.R_below (by (with_reducible repeat (first | apply Kd.R_alloc | apply Kd.R_drewN | apply Kd.R_drew)); exact HO_5.out) hb); have n1_ := Aside0.mk (blk_below (g := gb259) (o := .cells #[.int .i64 a0_0, .int .u64 a0_1, .int .u64 a0_2, .int .i64 a0_3, .int .i64 a0_4, .int .i64 a0_5, .int .i64 a0_6, .int .i64 a0_7, .int .i64 a0_8] 26 (0, 0)) (by (with_reducible repeat (first | refine kN_ ?_ _ | refine kD_ ?_ | refine kA_ ?_ _)); exact BK259.out) hb); have n2_ := Aside0.mk (blk_below (g := gb260) (o := .cells #[.int .i64 0, .int .u64 0, .string (⟨#[]⟩ : ByteArray), .int .i64 0] 38 (0, 0)) (by (with_reducible repeat (first | refine kN_ ?_ _ | refine kD_ ?_ | refine kA_ ?_ _)); exact BK260.out) hb); have n3_ := Aside0.mk (below_step (by repeat (first | (with_reducible first | exact HB.out | apply bA_ | apply bN_ | apply bD_ | refine bS_ ?_ GE259.out | refine bS_ ?_ GE260.out) | exact HB.out)) hb); clear HO_5; clear BK259; clear BK260; clear HB; have HO_5 := n0_; have BK259 := n1_; have BK260 := n2_; have HB := n3_; clear n0_ n1_ n2_ n3_; (try clear hb); (try clear hb2); (try clear hk); (try clear hi); obtain ⟨hcz42_0, hcz42_1, hcz42_2, hcz42_3⟩ := cells4_ BK260.out; obtain ⟨hfz42_0, hfz42_1, hfz42_2, hfz42_3⟩ := froz4_ BK260.out))
        refine bodyPost_ret (results_cell_row rfl _ _ gb260 38 #[.int .i64 t270, .int .u64 t271, .string t272, .int .i64 t273] (0, 0) _ rfl (by (with_reducible repeat (first | refine kN_ ?_ _ | refine kD_ ?_ | refine kA_ ?_ _)); refine blk_put (cs := #[.int .i64 t270, .int .u64 t271, .string t272, .int .i64 0]) ?_ 3 _ rfl; (with_reducible repeat (first | refine kN_ ?_ _ | refine kD_ ?_ | refine kA_ ?_ _)); refine blk_put (cs := #[.int .i64 t270, .int .u64 t271, .string (⟨#[]⟩ : ByteArray), .int .i64 0]) ?_ 2 _ rfl; (with_reducible repeat (first | refine kN_ ?_ _ | refine kD_ ?_ | refine kA_ ?_ _)); refine blk_put (cs := #[.int .i64 t270, .int .u64 0, .string (⟨#[]⟩ : ByteArray), .int .i64 0]) ?_ 1 _ rfl; (with_reducible repeat (first | refine kN_ ?_ _ | refine kD_ ?_ | refine kA_ ?_ _)); refine blk_put (cs := #[.int .i64 0, .int .u64 0, .string (⟨#[]⟩ : ByteArray), .int .i64 0]) ?_ 0 _ rfl; (with_reducible repeat (first | refine kN_ ?_ _ | refine kD_ ?_ | refine kA_ ?_ _)); exact BK260.out) Try.underlying38 rfl (by kernel_rfl)) rfl ?_
        exact ⟨by first | rfl | (simp [errW_none, errW_some] <;> rfl) | (simp only [← hji5]; first | rfl | (simp [errW_none, errW_some] <;> rfl)) | (simp [*, errW_none, errW_some] <;> rfl), by repeat (first | (with_reducible first | exact HB.out | apply bA_ | apply bN_ | apply bD_ | refine bS_ ?_ GE259.out | refine bS_ ?_ GE260.out) | exact HB.out)⟩
   ·rw [if_neg c7] at H
    exact absurd H (by simp)
  ·rw [if_neg c6] at H
   exact absurd H (by simp)
 ·replace c4 := Bool.eq_false_iff.mpr c4
  subst c4
  have H1 : (some (0, 0, (⟨#[]⟩ : ByteArray), 0)) = some (r1, r2, r3, r4) := by rw [if_neg (show ¬ (false = true) by decide)] at H; exact H
  clear H
  have H := H1
  clear H1
  simp only [Option.some.injEq, Prod.mk.injEq] at H
  obtain ⟨rfl, rfl, rfl, rfl⟩ := H
  go_enter Try.func53, Try.ntmps53
  go_wp2_with (first | ((with_reducible refine gate_dst (N := 2) rfl ?_); refine box_event ?hg (N := 2) ?hd (cs := #[.int .i64 a0_0, .int .u64 a0_1, .int .u64 a0_2, .int .i64 a0_3, .int .i64 a0_4, .int .i64 a0_5, .int .i64 a0_6, .int .i64 a0_7, .int .i64 a0_8]) (t := 26) ?hr ?_; (case hd => rfl); (case hg => rfl); (case hr => first | (go_simp; done) | (go_simp; rfl)); intro gb259 hg w43 hbox hb; have n0_ := Aside0.mk (below_step (by repeat (first | (with_reducible first | exact HB.out | apply bA_ | apply bN_ | apply bD_) | exact HB.out)) hb); have n1_ := Aside0.mk (hbox); have n2_ := Aside0.mk ((by rw [hg]; exact (below_size (by repeat (first | (with_reducible first | exact HB.out | apply bA_ | apply bN_ | apply bD_) | exact HB.out))) : w.heap.size ≤ gb259)); have n3_ := Aside0.mk ((by rw [hg]; exact (below_size (by repeat (first | (with_reducible first | exact HB.out | apply bA_ | apply bN_ | apply bD_) | exact HB.out))) : w.heap.size ≤ gb259)); clear HB; have HB := n0_; have BK259 := n1_; have GW259 := n2_; have GE259 := n3_; clear n0_ n1_ n2_ n3_; clear hb hbox hg) | ((with_reducible refine gate_dst (N := 4) rfl ?_); refine box_event ?hg (N := 4) ?hd (cs := #[.int .i64 0, .int .u64 0, .string (⟨#[]⟩ : ByteArray), .int .i64 0]) (t := 38) ?hr ?_; (case hd => rfl); (case hg => rfl); (case hr => first | (go_simp; done) | (go_simp; rfl)); intro gb260 hg w44 hbox hb; have n0_ := Aside0.mk (blk_below (g := gb259) (o := .cells #[.int .i64 a0_0, .int .u64 a0_1, .int .u64 a0_2, .int .i64 a0_3, .int .i64 a0_4, .int .i64 a0_5, .int .i64 a0_6, .int .i64 a0_7, .int .i64 a0_8] 26 (0, 0)) (by (with_reducible repeat (first | refine kN_ ?_ _ | refine kD_ ?_ | refine kA_ ?_ _)); exact BK259.out) hb); have n1_ := Aside0.mk (below_step (by repeat (first | (with_reducible first | exact HB.out | apply bA_ | apply bN_ | apply bD_ | refine bS_ ?_ GE259.out) | exact HB.out)) hb); have n2_ := Aside0.mk (hbox); have n3_ := Aside0.mk ((by rw [hg]; exact (below_size (by repeat (first | (with_reducible first | exact HB.out | apply bA_ | apply bN_ | apply bD_ | refine bS_ ?_ GE259.out) | exact HB.out))) : w.heap.size ≤ gb260)); have n4_ := Aside0.mk ((by rw [hg]; exact (below_size (by repeat (first | (with_reducible first | exact HB.out | apply bA_ | apply bN_ | apply bD_ | refine bS_ ?_ GE259.out) | exact HB.out))) : w.heap.size ≤ gb260)); have n5_ := Aside0.mk ((by rw [hg]; exact Nat.ne_of_lt (blk_lt (g := gb259) (o := .cells #[.int .i64 a0_0, .int .u64 a0_1, .int .u64 a0_2, .int .i64 a0_3, .int .i64 a0_4, .int .i64 a0_5, .int .i64 a0_6, .int .i64 a0_7, .int .i64 a0_8] 26 (0, 0)) (by (with_reducible repeat (first | refine kN_ ?_ _ | refine kD_ ?_ | refine kA_ ?_ _)); exact BK259.out)) : gb259 ≠ gb260)); have n6_ := Aside0.mk ((by rw [hg]; exact Nat.ne_of_gt (blk_lt (g := gb259) (o := .cells #[.int .i64 a0_0, .int .u64 a0_1, .int .u64 a0_2, .int .i64 a0_3, .int .i64 a0_4, .int .i64 a0_5, .int .i64 a0_6, .int .i64 a0_7, .int .i64 a0_8] 26 (0, 0)) (by (with_reducible repeat (first | refine kN_ ?_ _ | refine kD_ ?_ | refine kA_ ?_ _)); exact BK259.out)) : gb260 ≠ gb259)); clear BK259; clear HB; have BK259 := n0_; have HB := n1_; have BK260 := n2_; have GW260 := n3_; have GE260 := n4_; have NB259_260 := n5_; have NB260_259 := n6_; clear n0_ n1_ n2_ n3_ n4_ n5_ n6_; clear hb hbox hg; have hnb45 := NB259_260.out; have hnc45 := NB260_259.out; obtain ⟨hcz46_0, hcz46_1, hcz46_2, hcz46_3, hcz46_4, hcz46_5, hcz46_6, hcz46_7, hcz46_8⟩ := cells9_ BK259.out; obtain ⟨hfz46_0, hfz46_1, hfz46_2, hfz46_3, hfz46_4, hfz46_5, hfz46_6, hfz46_7, hfz46_8⟩ := froz9_ BK259.out) | ((with_reducible refine gate_callee (f := 29) rfl ?_); refine goesL_ (some 10) rfl rfl Try.func29 (by kernel_rfl) rfl #[.agg #[.int .i64 a0_0, .int .u64 a0_1, .int .u64 a0_2, .int .i64 a0_3, .int .i64 a0_4, .int .i64 a0_5, .int .i64 a0_6, .int .i64 a0_7, .int .i64 a0_8]] rfl (by (try simp only [List.map_toArray, List.map_cons, List.map_nil]); first | done | rfl | (simp only [List.length_drop, List.length_take]; rfl)) ?_; (with_reducible refine (platformfwref09_ValidField.calls k a0_0 a0_1 a0_2 a0_3 a0_4 a0_5 a0_6 a0_7 a0_8 false _ A3.out).mono ?_); rintro e w47 ⟨rfl, hb⟩; refine ⟨_, rfl, ?_⟩; have n0_ := Aside0.mk (blk_below (g := gb259) (o := .cells #[.int .i64 a0_0, .int .u64 a0_1, .int .u64 a0_2, .int .i64 a0_3, .int .i64 a0_4, .int .i64 a0_5, .int .i64 a0_6, .int .i64 a0_7, .int .i64 a0_8] 26 (0, 0)) (by (with_reducible repeat (first | refine kN_ ?_ _ | refine kD_ ?_ | refine kA_ ?_ _)); exact BK259.out) hb); have n1_ := Aside0.mk (blk_below (g := gb260) (o := .cells #[.int .i64 0, .int .u64 0, .string (⟨#[]⟩ : ByteArray), .int .i64 0] 38 (0, 0)) (by (with_reducible repeat (first | refine kN_ ?_ _ | refine kD_ ?_ | refine kA_ ?_ _)); exact BK260.out) hb); have n2_ := Aside0.mk (below_step (by repeat (first | (with_reducible first | exact HB.out | apply bA_ | apply bN_ | apply bD_ | refine bS_ ?_ GE259.out | refine bS_ ?_ GE260.out) | exact HB.out)) hb); clear BK259; clear BK260; clear HB; have BK259 := n0_; have BK260 := n1_; have HB := n2_; clear n0_ n1_ n2_; (try clear hb); (try clear hb2); (try clear hk); (try clear hi); obtain ⟨hcz48_0, hcz48_1, hcz48_2, hcz48_3⟩ := cells4_ BK260.out; obtain ⟨hfz48_0, hfz48_1, hfz48_2, hfz48_3⟩ := froz4_ BK260.out))
  refine bodyPost_ret (results_cell_row rfl _ _ gb260 38 #[.int .i64 0, .int .u64 0, .string (⟨#[]⟩ : ByteArray), .int .i64 0] (0, 0) _ rfl (by (with_reducible repeat (first | refine kN_ ?_ _ | refine kD_ ?_ | refine kA_ ?_ _)); refine blk_put (cs := #[.int .i64 0, .int .u64 0, .string (⟨#[]⟩ : ByteArray), .int .i64 0]) ?_ 3 _ rfl; (with_reducible repeat (first | refine kN_ ?_ _ | refine kD_ ?_ | refine kA_ ?_ _)); refine blk_put (cs := #[.int .i64 0, .int .u64 0, .string (⟨#[]⟩ : ByteArray), .int .i64 0]) ?_ 2 _ rfl; (with_reducible repeat (first | refine kN_ ?_ _ | refine kD_ ?_ | refine kA_ ?_ _)); refine blk_put (cs := #[.int .i64 0, .int .u64 0, .string (⟨#[]⟩ : ByteArray), .int .i64 0]) ?_ 1 _ rfl; (with_reducible repeat (first | refine kN_ ?_ _ | refine kD_ ?_ | refine kA_ ?_ _)); refine blk_put (cs := #[.int .i64 0, .int .u64 0, .string (⟨#[]⟩ : ByteArray), .int .i64 0]) ?_ 0 _ rfl; (with_reducible repeat (first | refine kN_ ?_ _ | refine kD_ ?_ | refine kA_ ?_ _)); exact BK260.out) Try.underlying38 rfl (by kernel_rfl)) rfl ?_
  exact ⟨by first | rfl | (simp [errW_none, errW_some] <;> rfl) | (simp [*, errW_none, errW_some] <;> rfl), by repeat (first | (with_reducible first | exact HB.out | apply bA_ | apply bN_ | apply bD_ | refine bS_ ?_ GE259.out | refine bS_ ?_ GE260.out) | exact HB.out)⟩

end Go.Proofs.Ytmnmidclaaiffaa.PFieldConverts
