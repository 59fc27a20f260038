-- Written by a program of this session's (wip/print_patch.py over the kit's print) out of the translation; Lean checks it.
import Derived.Test.YtdmeglmmihaonaaDoorPValueMidx0
import Derived.Test.YtdmeglmmihaonaaDoorPValueMidx2
import Derived.Test.YtdmeglmmihaonaaDoorPValueMidx3
import Derived.Test.YtdmeglmmihaonaaDoorVValueMidExtP
namespace Go.Proofs.YtdmeglmmihaonaaDoor.PValueMid
open Go.RowKit Go.Proofs.YtdmeglmmihaonaaDoor.Ext Go.Proofs.YtdmeglmmihaonaaDoorW.PrintWords Go.Proofs.YtdmeglmmihaonaaDoorW.PrintLast Go.Proofs.YtdmeglmmihaonaaDoorW.PrintMore
attribute [local go_sem] max2_int min2_int max_two min_two max_three min_three max_four min_four   -- for this text's walks alone
set_option linter.unusedVariables false
set_option linter.unusedSimpArgs false

/-! ### value_matched: function 26 -/
def value_matched.j0 : Nat → Int → Bool → Int → Int → ByteArray → Int → Int → Int → ByteArray → Int → Option (Int × Int × ByteArray × Int × Int)
 | 0, _, _, _, _, _, _, _, _, _, _ => none
 | k + 1, x0, x21, x175000, x175001, x175002, x175003, x176000, x176001, x176002, x176003 => if x21 = true then (some (0, 0, (⟨#[]⟩ : ByteArray), 0, 10)) else ((value_Convert.f k x176000 x176001 x176002 x176003 x175000).bind fun bt177 => (if bt177.2.2.2.2 = 0 then (if x0 = 72 then ((value_order.f x175000 x175001 x175002 x175003 bt177.1 bt177.2.1 bt177.2.2.1 bt177.2.2.2.1).bind fun t182 => ((value_boolean.f (t182 == 0)).bind fun bt183 => (some (bt183.1, bt183.2.1, bt183.2.2.1, bt183.2.2.2, 0)))) else (if x0 = 73 then ((value_order.f x175000 x175001 x175002 x175003 bt177.1 bt177.2.1 bt177.2.2.1 bt177.2.2.2.1).bind fun t187 => ((value_boolean.f (decide (t187 < 0))).bind fun bt188 => (some (bt188.1, bt188.2.1, bt188.2.2.1, bt188.2.2.2, 0)))) else (if x0 = 74 then ((value_order.f x175000 x175001 x175002 x175003 bt177.1 bt177.2.1 bt177.2.2.1 bt177.2.2.2.1).bind fun t192 => ((value_boolean.f (decide (t192 > 0))).bind fun bt193 => (some (bt193.1, bt193.2.1, bt193.2.2.1, bt193.2.2.2, 0)))) else ((value_concatenate.f k x175000 x175001 x175002 x175003 bt177.1 bt177.2.1 bt177.2.2.1 bt177.2.2.2.1).bind fun bt197 => (some (bt197.1, bt197.2.1, bt197.2.2.1, bt197.2.2.2.1, bt197.2.2.2.2)))))) else (some (0, 0, (⟨#[]⟩ : ByteArray), 0, bt177.2.2.2.2))))
def value_matched.f (k : Nat) (a0 : Int) (a1_0 : Int) (a1_1 : Int) (a1_2 : ByteArray) (a1_3 : Int) (a2_0 : Int) (a2_1 : Int) (a2_2 : ByteArray) (a2_3 : Int) : Option (Int × Int × ByteArray × Int × Int) := if a1_0 = 1 then (value_matched.j0 k a0 false a1_0 a1_1 a1_2 a1_3 a2_0 a2_1 a2_2 a2_3) else (if a1_0 = 2 then (value_matched.j0 k a0 false a1_0 a1_1 a1_2 a1_3 a2_0 a2_1 a2_2 a2_3) else (value_matched.j0 k a0 (a1_0 != 3) a1_0 a1_1 a1_2 a1_3 a2_0 a2_1 a2_2 a2_3))
theorem value_matched.mono_l : ∀ k, (∀ y0 y1 y2 y3 y4 y5 y6 y7 y8 y9, LeO (value_matched.j0 k y0 y1 y2 y3 y4 y5 y6 y7 y8 y9) (value_matched.j0 (k + 1) y0 y1 y2 y3 y4 y5 y6 y7 y8 y9))
 | 0 => fun _ _ _ _ _ _ _ _ _ _ r h => by simp [value_matched.j0] at h
 | k + 1 => by
  have ih0 := value_matched.mono_l k
  ·intro y0 y1 y2 y3 y4 y5 y6 y7 y8 y9
   unfold value_matched.j0
   repeat' first
   | (with_reducible exact ih0 _ _ _ _ _ _ _ _ _ _)
   | (with_reducible exact value_Convert.mono _ _ _ _ _ _)
   | (with_reducible exact value_concatenate.mono _ _ _ _ _ _ _ _ _)
   | (with_reducible exact LeO.refl _)
   | (with_reducible exact LeO.none _)
   | (with_reducible refine LeO.ite ?_ ?_)
   | (with_reducible refine LeO.bind ?_ (fun _ => ?_))
   | exact ih0 _ _ _ _ _ _ _ _ _ _
   | exact value_Convert.mono _ _ _ _ _ _
   | exact value_concatenate.mono _ _ _ _ _ _ _ _ _
   | exact LeO.none _
   | refine LeO.ite ?_ ?_
   | refine LeO.bind ?_ (fun _ => ?_)
theorem value_matched.mono : ∀ a0 a1 a2 a3 a4 a5 a6 a7 a8 k, LeO (value_matched.f k a0 a1 a2 a3 a4 a5 a6 a7 a8) (value_matched.f (k + 1) a0 a1 a2 a3 a4 a5 a6 a7 a8) := by
 intro a0 a1 a2 a3 a4 a5 a6 a7 a8 k
 have ih0 := value_matched.mono_l k
 unfold value_matched.f
 repeat' first
   | (with_reducible exact ih0 _ _ _ _ _ _ _ _ _ _)
   | (with_reducible exact value_Convert.mono _ _ _ _ _ _)
   | (with_reducible exact value_concatenate.mono _ _ _ _ _ _ _ _ _)
   | (with_reducible exact LeO.refl _)
   | (with_reducible exact LeO.none _)
   | (with_reducible refine LeO.ite ?_ ?_)
   | (with_reducible refine LeO.bind ?_ (fun _ => ?_))
   | exact ih0 _ _ _ _ _ _ _ _ _ _
   | exact value_Convert.mono _ _ _ _ _ _
   | exact value_concatenate.mono _ _ _ _ _ _ _ _ _
   | exact LeO.none _
   | refine LeO.ite ?_ ?_
   | refine LeO.bind ?_ (fun _ => ?_)
set_option maxHeartbeats 8000000 in
set_option maxRecDepth 100000 in
theorem value_matched.calls (k : Nat) (a0 : Int) (a1_0 : Int) (a1_1 : Int) (a1_2 : ByteArray) (a1_3 : Int) (a2_0 : Int) (a2_1 : Int) (a2_2 : ByteArray) (a2_3 : Int) (r1 : Int) (r2 : Int) (r3 : ByteArray) (r4 : Int) (r5 : Int) (w : World) (hT_ : w.cell? ⟨6, 15, none⟩ = some (.int .u8 4)) (h : value_matched.f k a0 a1_0 a1_1 a1_2 a1_3 a2_0 a2_1 a2_2 a2_3 = some (r1, r2, r3, r4, r5)) :
  Calls Tryd.prog 26 #[.int .i64 a0, .agg #[.int .i64 a1_0, .int .u64 a1_1, .string a1_2, .int .i64 a1_3], .agg #[.int .i64 a2_0, .int .u64 a2_1, .string a2_2, .int .i64 a2_3]] w fun e w' => e = .returned (.tuple #[.agg #[.int .i64 r1, .int .u64 r2, .string r3, .int .i64 r4], .int .i64 r5]) ∧ Below w.heap.size w w' := by
 have HTT_ := Aside0.mk hT_
 clear hT_
 have hu24 := Tryd.underlying24
 have HB := Aside0.mk (Below.refl w.heap.size w)
 have H : (if a1_0 = 1 then (value_matched.j0 k a0 false a1_0 a1_1 a1_2 a1_3 a2_0 a2_1 a2_2 a2_3) else (if a1_0 = 2 then (value_matched.j0 k a0 false a1_0 a1_1 a1_2 a1_3 a2_0 a2_1 a2_2 a2_3) else (value_matched.j0 k a0 (a1_0 != 3) a1_0 a1_1 a1_2 a1_3 a2_0 a2_1 a2_2 a2_3))) = some (r1, r2, r3, r4, r5) := h
 clear h
 have HC4 := Aside0.mk H
 clear H
 go_enter Tryd.func26, Tryd.ntmps26
 go_upto_region 1 with (first | ((with_reducible refine gate_dst (N := 4) rfl ?_); refine box_event ?hg (N := 4) ?hd (cs := #[.int .i64 a1_0, .int .u64 a1_1, .string a1_2, .int .i64 a1_3]) (t := 24) ?hr ?_; (case hd => rfl); (case hg => rfl); (case hr => first | (go_simp; done) | (go_simp; rfl)); intro gb174 hg w5 hbox hb; replace HB := sqN_ (by repeat (first | (with_reducible first | exact HB.out | apply bA_ | apply bN_ | apply bD_) | exact HB.out)) hg hb; obtain ⟨HB, GE174⟩ := HB; have BK174 := Aside0.mk hbox; clear hb hbox hg) | ((with_reducible refine gate_dst (N := 5) rfl ?_); refine box_event ?hg (N := 5) ?hd (cs := #[.int .i64 a2_0, .int .u64 a2_1, .string a2_2, .int .i64 a2_3]) (t := 24) ?hr ?_; (case hd => rfl); (case hg => rfl); (case hr => first | (go_simp; done) | (go_simp; rfl)); intro gb175 hg w6 hbox hb; replace BK174 := sqO_ BK174 (by (with_reducible repeat (first | apply kN_ | apply kD_ | apply kA_)); exact BK174.out) hg hb; obtain ⟨BK174, NB174_175, NB175_174⟩ := BK174; replace HB := sqN_ (by repeat (first | (with_reducible first | exact HB.out | apply bA_ | apply bN_ | apply bD_ | refine bS_ ?_ GE174.out) | exact HB.out)) hg hb; obtain ⟨HB, GE175⟩ := HB; have BK175 := Aside0.mk hbox; clear hb hbox hg) | ((with_reducible refine gate_dst (N := 6) rfl ?_); refine box_event ?hg (N := 6) ?hd (cs := #[.int .i64 0, .int .u64 0, .string ⟨#[]⟩, .int .i64 0]) (t := 24) ?hr ?_; (case hd => rfl); (case hg => rfl); (case hr => first | (go_simp; done) | (go_simp; rfl)); intro gb176 hg w7 hbox hb; replace BK174 := sqO_ BK174 (by (with_reducible repeat (first | apply kN_ | apply kD_ | apply kA_)); exact BK174.out) hg hb; obtain ⟨BK174, NB174_176, NB176_174⟩ := BK174; replace BK175 := sqO_ BK175 (by (with_reducible repeat (first | apply kN_ | apply kD_ | apply kA_)); exact BK175.out) hg hb; obtain ⟨BK175, NB175_176, NB176_175⟩ := BK175; replace HB := sqN_ (by repeat (first | (with_reducible first | exact HB.out | apply bA_ | apply bN_ | apply bD_ | refine bS_ ?_ GE174.out | refine bS_ ?_ GE175.out) | exact HB.out)) hg hb; obtain ⟨HB, GE176⟩ := HB; have BK176 := Aside0.mk hbox; clear hb hbox hg))
 (try simp only [Act.put, sA_, sB_, sC_])
 go_cut [21] (fun v21 wc => ∃ (kq : Nat) (x21_3 : Bool), v21 = .bool x21_3 ∧ Aside0 (value_matched.j0 kq a0 x21_3 a1_0 a1_1 a1_2 a1_3 a2_0 a2_1 a2_2 a2_3 = some (r1, r2, r3, r4, r5)) ∧ Aside0 (kq ≤ k) ∧ Aside0 (wc.heap[gb174]? = some (.cells #[.int .i64 a1_0, .int .u64 a1_1, .string a1_2, .int .i64 a1_3] 24 (0, 0))) ∧ Aside0 (wc.heap[gb175]? = some (.cells #[.int .i64 a2_0, .int .u64 a2_1, .string a2_2, .int .i64 a2_3] 24 (0, 0))) ∧ Aside0 (wc.heap[gb176]? = some (.cells #[.int .i64 0, .int .u64 0, .string ⟨#[]⟩, .int .i64 0] 24 (0, 0))) ∧ Aside0 (Below w.heap.size w wc))
 case first =>
  have H := HC4.out
  clear HC4
  by_cases c8 : a1_0 = 1
  ·rw [if_pos c8] at H
   have c8b0 : (a1_0 == 1) = true := beq_iff_eq.mpr c8
   have c8b1 : (a1_0 != 1) = false := bne_eq_false_iff_eq.mpr c8
   clear c8
   (first | rw [c8b0] | (simp only [i64_w, i32_w]; rw [c8b0]) | skip)
   have H' := Aside0.mk H
   clear H
   have hnb9 := NB174_175.out
   have hnc9 := NB175_174.out
   have hnb10 := NB174_176.out
   have hnc10 := NB176_174.out
   obtain ⟨hcz11_0, hcz11_1, hcz11_2, hcz11_3⟩ := cells4_ BK174.out
   obtain ⟨hfz11_0, hfz11_1, hfz11_2, hfz11_3⟩ := froz4_ BK174.out
   go_wp2
   go_meet
   case rel => exact ⟨_, (false), (by first | rfl | (simp; done) | (simp [*]; done)), H', ⟨by first | omega | exact Nat.le_refl _⟩, ⟨by (with_reducible repeat (first | apply kN_ | apply kD_ | apply kA_)); exact BK174.out⟩, ⟨by (with_reducible repeat (first | apply kN_ | apply kD_ | apply kA_)); exact BK175.out⟩, ⟨by (with_reducible repeat (first | apply kN_ | apply kD_ | apply kA_)); exact BK176.out⟩, ⟨by repeat (first | (with_reducible first | exact HB.out | apply bA_ | apply bN_ | apply bD_ | refine bS_ ?_ GE174.out | refine bS_ ?_ GE175.out | refine bS_ ?_ GE176.out) | exact HB.out)⟩⟩
  ·rw [if_neg c8] at H
   have c8b0 : (a1_0 == 1) = false := beq_eq_false_iff_ne.mpr c8
   have c8b1 : (a1_0 != 1) = true := bne_iff_ne.mpr c8
   (first | rw [c8b0] | (simp only [i64_w, i32_w]; rw [c8b0]) | skip)
   by_cases c12 : a1_0 = 2
   ·rw [if_pos c12] at H
    have c12b0 : (a1_0 == 2) = true := beq_iff_eq.mpr c12
    have c12b1 : (a1_0 != 2) = false := bne_eq_false_iff_eq.mpr c12
    clear c12
    have H' := Aside0.mk H
    clear H
    have hnb13 := NB174_175.out
    have hnc13 := NB175_174.out
    have hnb14 := NB174_176.out
    have hnc14 := NB176_174.out
    obtain ⟨hcz15_0, hcz15_1, hcz15_2, hcz15_3⟩ := cells4_ BK174.out
    obtain ⟨hfz15_0, hfz15_1, hfz15_2, hfz15_3⟩ := froz4_ BK174.out
    go_wp2
    go_meet
    case rel => exact ⟨_, (false), (by first | rfl | (simp; done) | (simp [*]; done)), H', ⟨by first | omega | exact Nat.le_refl _⟩, ⟨by (with_reducible repeat (first | apply kN_ | apply kD_ | apply kA_)); exact BK174.out⟩, ⟨by (with_reducible repeat (first | apply kN_ | apply kD_ | apply kA_)); exact BK175.out⟩, ⟨by (with_reducible repeat (first | apply kN_ | apply kD_ | apply kA_)); exact BK176.out⟩, ⟨by repeat (first | (with_reducible first | exact HB.out | apply bA_ | apply bN_ | apply bD_ | refine bS_ ?_ GE174.out | refine bS_ ?_ GE175.out | refine bS_ ?_ GE176.out) | exact HB.out)⟩⟩
   ·rw [if_neg c12] at H
    have c12b0 : (a1_0 == 2) = false := beq_eq_false_iff_ne.mpr c12
    have c12b1 : (a1_0 != 2) = true := bne_iff_ne.mpr c12
    have H' := Aside0.mk H
    clear H
    have hnb16 := NB174_175.out
    have hnc16 := NB175_174.out
    have hnb17 := NB174_176.out
    have hnc17 := NB176_174.out
    obtain ⟨hcz18_0, hcz18_1, hcz18_2, hcz18_3⟩ := cells4_ BK174.out
    obtain ⟨hfz18_0, hfz18_1, hfz18_2, hfz18_3⟩ := froz4_ BK174.out
    go_wp2
    go_meet
    case rel => exact ⟨_, ((a1_0 != 3)), (by first | rfl | (simp; done) | (simp [*]; done)), H', ⟨by first | omega | exact Nat.le_refl _⟩, ⟨by (with_reducible repeat (first | apply kN_ | apply kD_ | apply kA_)); exact BK174.out⟩, ⟨by (with_reducible repeat (first | apply kN_ | apply kD_ | apply kA_)); exact BK175.out⟩, ⟨by (with_reducible repeat (first | apply kN_ | apply kD_ | apply kA_)); exact BK176.out⟩, ⟨by repeat (first | (with_reducible first | exact HB.out | apply bA_ | apply bN_ | apply bD_ | refine bS_ ?_ GE174.out | refine bS_ ?_ GE175.out | refine bS_ ?_ GE176.out) | exact HB.out)⟩⟩
 case rest =>
  clear HC4
  try clear c1
  try clear c2
  try clear p2
  try clear c8
  try clear c8b0
  try clear c8b1
  try clear c9
  try clear c10
  try clear c12
  try clear c12b0
  try clear c12b1
  try clear c13
  try clear c14
  try clear c16
  try clear c17
  try clear hcz11_0 hcz11_1 hcz11_2 hcz11_3
  try clear hcz15_0 hcz15_1 hcz15_2 hcz15_3
  try clear hcz18_0 hcz18_1 hcz18_2 hcz18_3
  try clear hfz11_0 hfz11_1 hfz11_2 hfz11_3
  try clear hfz15_0 hfz15_1 hfz15_2 hfz15_3
  try clear hfz18_0 hfz18_1 hfz18_2 hfz18_3
  obtain ⟨kq, x21_3, rfl, HA, HJ3, BK174, BK175, BK176, HB⟩ := hcut
  cases kq with
  | zero => exact absurd HA.out (by simp [value_matched.j0])
  | succ kj3 =>
   have H := HA.out
   clear HA
   simp only [value_matched.j0] at H
   by_cases c19 : x21_3 = true
   ·subst c19
    have H1 : (some (0, 0, (⟨#[]⟩ : ByteArray), 0, 10)) = some (r1, r2, r3, r4, r5) := by rw [if_pos rfl] at H; exact H
    clear H
    have H := H1
    clear H1
    simp only [Option.some.injEq, Prod.mk.injEq] at H
    obtain ⟨rfl, rfl, rfl, rfl, rfl⟩ := H
    have hnb20 := NB176_174.out
    have hnc20 := NB174_176.out
    have hnb21 := NB176_175.out
    have hnc21 := NB175_176.out
    obtain ⟨hcz22_0, hcz22_1, hcz22_2, hcz22_3⟩ := cells4_ BK176.out
    obtain ⟨hfz22_0, hfz22_1, hfz22_2, hfz22_3⟩ := froz4_ BK176.out
    go_wp2
    refine bodyPost_ret (results_ct rfl _ _ gb176 24 #[.int .i64 0, .int .u64 0, .string ⟨#[]⟩, .int .i64 0] (0, 0) _ rfl (by (with_reducible repeat (first | apply kN_ | apply kD_ | apply kA_)); refine blk_put (cs := #[.int .i64 0, .int .u64 0, .string ⟨#[]⟩, .int .i64 0]) ?_ 3 _ rfl; (with_reducible repeat (first | apply kN_ | apply kD_ | apply kA_)); refine blk_put (cs := #[.int .i64 0, .int .u64 0, .string ⟨#[]⟩, .int .i64 0]) ?_ 2 _ rfl; (with_reducible repeat (first | apply kN_ | apply kD_ | apply kA_)); refine blk_put (cs := #[.int .i64 0, .int .u64 0, .string ⟨#[]⟩, .int .i64 0]) ?_ 1 _ rfl; (with_reducible repeat (first | apply kN_ | apply kD_ | apply kA_)); refine blk_put (cs := #[.int .i64 0, .int .u64 0, .string ⟨#[]⟩, .int .i64 0]) ?_ 0 _ rfl; (with_reducible repeat (first | apply kN_ | apply kD_ | apply kA_)); exact BK176.out) Tryd.underlying24 rfl (by kernel_rfl)) rfl ?_
    exact ⟨by first | rfl | (simp [errW_none, errW_some] <;> rfl) | (simp [*, errW_none, errW_some] <;> rfl), by repeat (first | (with_reducible first | exact HB.out | apply bA_ | apply bN_ | apply bD_ | refine bS_ ?_ GE174.out | refine bS_ ?_ GE175.out | refine bS_ ?_ GE176.out) | exact HB.out)⟩
   ·replace c19 := Bool.eq_false_iff.mpr c19
    subst c19
    have H1 : ((value_Convert.f kj3 a2_0 a2_1 a2_2 a2_3 a1_0).bind fun bt177 => (if bt177.2.2.2.2 = 0 then (if a0 = 72 then ((value_order.f a1_0 a1_1 a1_2 a1_3 bt177.1 bt177.2.1 bt177.2.2.1 bt177.2.2.2.1).bind fun t182 => ((value_boolean.f (t182 == 0)).bind fun bt183 => (some (bt183.1, bt183.2.1, bt183.2.2.1, bt183.2.2.2, 0)))) else (if a0 = 73 then ((value_order.f a1_0 a1_1 a1_2 a1_3 bt177.1 bt177.2.1 bt177.2.2.1 bt177.2.2.2.1).bind fun t187 => ((value_boolean.f (decide (t187 < 0))).bind fun bt188 => (some (bt188.1, bt188.2.1, bt188.2.2.1, bt188.2.2.2, 0)))) else (if a0 = 74 then ((value_order.f a1_0 a1_1 a1_2 a1_3 bt177.1 bt177.2.1 bt177.2.2.1 bt177.2.2.2.1).bind fun t192 => ((value_boolean.f (decide (t192 > 0))).bind fun bt193 => (some (bt193.1, bt193.2.1, bt193.2.2.1, bt193.2.2.2, 0)))) else ((value_concatenate.f kj3 a1_0 a1_1 a1_2 a1_3 bt177.1 bt177.2.1 bt177.2.2.1 bt177.2.2.2.1).bind fun bt197 => (some (bt197.1, bt197.2.1, bt197.2.2.1, bt197.2.2.2.1, bt197.2.2.2.2)))))) else (some (0, 0, (⟨#[]⟩ : ByteArray), 0, bt177.2.2.2.2)))) = some (r1, r2, r3, r4, r5) := by rw [if_neg (show ¬ (false = true) by decide)] at H; exact H
    clear H
    have H := H1
    clear H1
    replace H := Option.bind_eq_some_iff.mp H
    obtain ⟨⟨t177, t178, t179, t180, t181⟩, A230, H⟩ := H
    replace H : (if t181 = 0 then (if a0 = 72 then ((value_order.f a1_0 a1_1 a1_2 a1_3 t177 t178 t179 t180).bind fun t182 => ((value_boolean.f (t182 == 0)).bind fun bt183 => (some (bt183.1, bt183.2.1, bt183.2.2.1, bt183.2.2.2, 0)))) else (if a0 = 73 then ((value_order.f a1_0 a1_1 a1_2 a1_3 t177 t178 t179 t180).bind fun t187 => ((value_boolean.f (decide (t187 < 0))).bind fun bt188 => (some (bt188.1, bt188.2.1, bt188.2.2.1, bt188.2.2.2, 0)))) else (if a0 = 74 then ((value_order.f a1_0 a1_1 a1_2 a1_3 t177 t178 t179 t180).bind fun t192 => ((value_boolean.f (decide (t192 > 0))).bind fun bt193 => (some (bt193.1, bt193.2.1, bt193.2.2.1, bt193.2.2.2, 0)))) else ((value_concatenate.f kj3 a1_0 a1_1 a1_2 a1_3 t177 t178 t179 t180).bind fun bt197 => (some (bt197.1, bt197.2.1, bt197.2.2.1, bt197.2.2.2.1, bt197.2.2.2.2)))))) else (some (0, 0, (⟨#[]⟩ : ByteArray), 0, t181))) = some (r1, r2, r3, r4, r5) := H
    have A23 := Aside0.mk A230
    clear A230
    by_cases c24 : t181 = 0
    ·rw [if_pos c24] at H
     have c24b0 : (t181 == 0) = true := beq_iff_eq.mpr c24
     have c24b1 : (t181 != 0) = false := bne_eq_false_iff_eq.mpr c24
     clear c24
     by_cases c25 : a0 = 72
     ·rw [if_pos c25] at H
      have c25b0 : (a0 == 72) = true := beq_iff_eq.mpr c25
      have c25b1 : (a0 != 72) = false := bne_eq_false_iff_eq.mpr c25
      clear c25
      replace H := Option.bind_eq_some_iff.mp H
      obtain ⟨t182, A260, H⟩ := H
      replace H : ((value_boolean.f (t182 == 0)).bind fun bt183 => (some (bt183.1, bt183.2.1, bt183.2.2.1, bt183.2.2.2, 0))) = some (r1, r2, r3, r4, r5) := H
      have A26 := Aside0.mk A260
      clear A260
      replace H := Option.bind_eq_some_iff.mp H
      obtain ⟨⟨t183, t184, t185, t186⟩, A270, H⟩ := H
      replace H : (some (t183, t184, t185, t186, 0)) = some (r1, r2, r3, r4, r5) := H
      have A27 := Aside0.mk A270
      clear A270
      simp only [Option.some.injEq, Prod.mk.injEq] at H
      obtain ⟨rfl, rfl, rfl, rfl, rfl⟩ := H
      have hnb28 := NB175_174.out
      have hnc28 := NB174_175.out
      have hnb29 := NB175_176.out
      have hnc29 := NB176_175.out
      obtain ⟨hcz30_0, hcz30_1, hcz30_2, hcz30_3⟩ := cells4_ BK175.out
      obtain ⟨hfz30_0, hfz30_1, hfz30_2, hfz30_3⟩ := froz4_ BK175.out
      have hnb31 := NB174_176.out
      have hnc31 := NB176_174.out
      obtain ⟨hcz32_0, hcz32_1, hcz32_2, hcz32_3⟩ := cells4_ BK174.out
      obtain ⟨hfz32_0, hfz32_1, hfz32_2, hfz32_3⟩ := froz4_ BK174.out
      go_wp2_with (first | ((with_reducible refine gate_callee (f := 46) rfl ?_); refine goesL_ (some 27) rfl rfl Tryd.func46 (by kernel_rfl) rfl #[.agg #[.int .i64 a2_0, .int .u64 a2_1, .string a2_2, .int .i64 a2_3], .int .i64 a1_0] rfl (by (try simp only [List.map_toArray, List.map_cons, List.map_nil]); first | done | rfl) ?_; (with_reducible refine (value_Convert.calls kj3 a2_0 a2_1 a2_2 a2_3 a1_0 t177 t178 t179 t180 t181 _ ?hTT_ A23.out).mono ?_); (case hTT_ => exact tb_below HTT_.out (by repeat (first | (with_reducible first | exact HB.out | apply bA_ | apply bN_ | apply bD_ | refine bS_ ?_ GE174.out | refine bS_ ?_ GE175.out | refine bS_ ?_ GE176.out) | exact HB.out))); rintro e w33 ⟨rfl, hb⟩; refine ⟨_, rfl, ?_⟩; replace BK174 := sqB_ BK174 (by (with_reducible repeat (first | apply kN_ | apply kD_ | apply kA_)); exact BK174.out) hb; replace BK175 := sqB_ BK175 (by (with_reducible repeat (first | apply kN_ | apply kD_ | apply kA_)); exact BK175.out) hb; replace BK176 := sqB_ BK176 (by (with_reducible repeat (first | apply kN_ | apply kD_ | apply kA_)); exact BK176.out) hb; replace HB := sqS_ (by repeat (first | (with_reducible first | exact HB.out | apply bA_ | apply bN_ | apply bD_ | refine bS_ ?_ GE174.out | refine bS_ ?_ GE175.out | refine bS_ ?_ GE176.out) | exact HB.out)) hb; (try clear hb); (try clear hb2); (try clear hk); (try clear hi); obtain ⟨hcz34_0, hcz34_1, hcz34_2, hcz34_3⟩ := cells4_ BK175.out; obtain ⟨hfz34_0, hfz34_1, hfz34_2, hfz34_3⟩ := froz4_ BK175.out; obtain ⟨hcz35_0, hcz35_1, hcz35_2, hcz35_3⟩ := cells4_ BK174.out; obtain ⟨hfz35_0, hfz35_1, hfz35_2, hfz35_3⟩ := froz4_ BK174.out) | ((with_reducible refine gate_callee (f := 53) rfl ?_); refine goesL_ (some 39) rfl rfl Tryd.func53 (by kernel_rfl) rfl #[.agg #[.int .i64 a1_0, .int .u64 a1_1, .string a1_2, .int .i64 a1_3], .agg #[.int .i64 t177, .int .u64 t178, .string t179, .int .i64 t180]] rfl (by (try simp only [List.map_toArray, List.map_cons, List.map_nil]); first | done | rfl) ?_; (with_reducible refine (value_order.calls a1_0 a1_1 a1_2 a1_3 t177 t178 t179 t180 t182 _ A26.out).mono ?_); rintro e w36 ⟨rfl, hb⟩; refine ⟨_, rfl, ?_⟩; replace BK174 := sqB_ BK174 (by (with_reducible repeat (first | apply kN_ | apply kD_ | apply kA_)); refine blk_far ?_ NB174_175.out _; (with_reducible repeat (first | apply kN_ | apply kD_ | apply kA_)); refine blk_far ?_ NB174_175.out _; (with_reducible repeat (first | apply kN_ | apply kD_ | apply kA_)); refine blk_far ?_ NB174_175.out _; (with_reducible repeat (first | apply kN_ | apply kD_ | apply kA_)); refine blk_far ?_ NB174_175.out _; (with_reducible repeat (first | apply kN_ | apply kD_ | apply kA_)); exact BK174.out) hb; replace BK175 := sqQ_ (g := gb175) (o := .cells #[.int .i64 t177, .int .u64 t178, .string t179, .int .i64 t180] 24 (0, 0)) (by (with_reducible repeat (first | apply kN_ | apply kD_ | apply kA_)); refine blk_put (cs := #[.int .i64 t177, .int .u64 t178, .string t179, .int .i64 a2_3]) ?_ 3 _ rfl; (with_reducible repeat (first | apply kN_ | apply kD_ | apply kA_)); refine blk_put (cs := #[.int .i64 t177, .int .u64 t178, .string a2_2, .int .i64 a2_3]) ?_ 2 _ rfl; (with_reducible repeat (first | apply kN_ | apply kD_ | apply kA_)); refine blk_put (cs := #[.int .i64 t177, .int .u64 a2_1, .string a2_2, .int .i64 a2_3]) ?_ 1 _ rfl; (with_reducible repeat (first | apply kN_ | apply kD_ | apply kA_)); refine blk_put (cs := #[.int .i64 a2_0, .int .u64 a2_1, .string a2_2, .int .i64 a2_3]) ?_ 0 _ rfl; (with_reducible repeat (first | apply kN_ | apply kD_ | apply kA_)); exact BK175.out) hb; replace BK176 := sqB_ BK176 (by (with_reducible repeat (first | apply kN_ | apply kD_ | apply kA_)); refine blk_far ?_ NB176_175.out _; (with_reducible repeat (first | apply kN_ | apply kD_ | apply kA_)); refine blk_far ?_ NB176_175.out _; (with_reducible repeat (first | apply kN_ | apply kD_ | apply kA_)); refine blk_far ?_ NB176_175.out _; (with_reducible repeat (first | apply kN_ | apply kD_ | apply kA_)); refine blk_far ?_ NB176_175.out _; (with_reducible repeat (first | apply kN_ | apply kD_ | apply kA_)); exact BK176.out) hb; replace HB := sqS_ (by repeat (first | (with_reducible first | exact HB.out | apply bA_ | apply bN_ | apply bD_ | refine bS_ ?_ GE174.out | refine bS_ ?_ GE175.out | refine bS_ ?_ GE176.out) | exact HB.out)) hb; (try clear hb); (try clear hb2); (try clear hk); (try clear hi)) | ((with_reducible refine gate_callee (f := 43) rfl ?_); refine goesL_ (some 41) rfl rfl Tryd.func43 (by kernel_rfl) rfl #[.bool (t182 == 0)] rfl (by (try simp only [List.map_toArray, List.map_cons, List.map_nil]); first | done | rfl) ?_; (with_reducible refine (value_boolean.calls (t182 == 0) t183 t184 t185 t186 _ A27.out).mono ?_); rintro e w37 ⟨rfl, hb⟩; refine ⟨_, rfl, ?_⟩; replace BK174 := sqB_ BK174 (by (with_reducible repeat (first | apply kN_ | apply kD_ | apply kA_)); exact BK174.out) hb; replace BK175 := sqB_ BK175 (by (with_reducible repeat (first | apply kN_ | apply kD_ | apply kA_)); exact BK175.out) hb; replace BK176 := sqB_ BK176 (by (with_reducible repeat (first | apply kN_ | apply kD_ | apply kA_)); exact BK176.out) hb; replace HB := sqS_ (by repeat (first | (with_reducible first | exact HB.out | apply bA_ | apply bN_ | apply bD_ | refine bS_ ?_ GE174.out | refine bS_ ?_ GE175.out | refine bS_ ?_ GE176.out) | exact HB.out)) hb; (try clear hb); (try clear hb2); (try clear hk); (try clear hi); obtain ⟨hcz38_0, hcz38_1, hcz38_2, hcz38_3⟩ := cells4_ BK176.out; obtain ⟨hfz38_0, hfz38_1, hfz38_2, hfz38_3⟩ := froz4_ BK176.out))
      refine bodyPost_ret (results_ct rfl _ _ gb176 24 #[.int .i64 t183, .int .u64 t184, .string t185, .int .i64 t186] (0, 0) _ rfl (by (with_reducible repeat (first | apply kN_ | apply kD_ | apply kA_)); refine blk_put (cs := #[.int .i64 t183, .int .u64 t184, .string t185, .int .i64 0]) ?_ 3 _ rfl; (with_reducible repeat (first | apply kN_ | apply kD_ | apply kA_)); refine blk_put (cs := #[.int .i64 t183, .int .u64 t184, .string ⟨#[]⟩, .int .i64 0]) ?_ 2 _ rfl; (with_reducible repeat (first | apply kN_ | apply kD_ | apply kA_)); refine blk_put (cs := #[.int .i64 t183, .int .u64 0, .string ⟨#[]⟩, .int .i64 0]) ?_ 1 _ rfl; (with_reducible repeat (first | apply kN_ | apply kD_ | apply kA_)); refine blk_put (cs := #[.int .i64 0, .int .u64 0, .string ⟨#[]⟩, .int .i64 0]) ?_ 0 _ rfl; (with_reducible repeat (first | apply kN_ | apply kD_ | apply kA_)); exact BK176.out) Tryd.underlying24 rfl (by kernel_rfl)) rfl ?_
      exact ⟨by first | rfl | (simp [errW_none, errW_some] <;> rfl) | (simp [*, errW_none, errW_some] <;> rfl), by repeat (first | (with_reducible first | exact HB.out | apply bA_ | apply bN_ | apply bD_ | refine bS_ ?_ GE174.out | refine bS_ ?_ GE175.out | refine bS_ ?_ GE176.out) | exact HB.out)⟩
     ·rw [if_neg c25] at H
      have c25b0 : (a0 == 72) = false := beq_eq_false_iff_ne.mpr c25
      have c25b1 : (a0 != 72) = true := bne_iff_ne.mpr c25
      by_cases c39 : a0 = 73
      ·rw [if_pos c39] at H
       have c39b0 : (a0 == 73) = true := beq_iff_eq.mpr c39
       have c39b1 : (a0 != 73) = false := bne_eq_false_iff_eq.mpr c39
       clear c39
       replace H := Option.bind_eq_some_iff.mp H
       obtain ⟨t187, A400, H⟩ := H
       replace H : ((value_boolean.f (decide (t187 < 0))).bind fun bt188 => (some (bt188.1, bt188.2.1, bt188.2.2.1, bt188.2.2.2, 0))) = some (r1, r2, r3, r4, r5) := H
       have A40 := Aside0.mk A400
       clear A400
       replace H := Option.bind_eq_some_iff.mp H
       obtain ⟨⟨t188, t189, t190, t191⟩, A410, H⟩ := H
       replace H : (some (t188, t189, t190, t191, 0)) = some (r1, r2, r3, r4, r5) := H
       have A41 := Aside0.mk A410
       clear A410
       simp only [Option.some.injEq, Prod.mk.injEq] at H
       obtain ⟨rfl, rfl, rfl, rfl, rfl⟩ := H
       have hnb42 := NB175_174.out
       have hnc42 := NB174_175.out
       have hnb43 := NB175_176.out
       have hnc43 := NB176_175.out
       obtain ⟨hcz44_0, hcz44_1, hcz44_2, hcz44_3⟩ := cells4_ BK175.out
       obtain ⟨hfz44_0, hfz44_1, hfz44_2, hfz44_3⟩ := froz4_ BK175.out
       have hnb45 := NB174_176.out
       have hnc45 := NB176_174.out
       obtain ⟨hcz46_0, hcz46_1, hcz46_2, hcz46_3⟩ := cells4_ BK174.out
       obtain ⟨hfz46_0, hfz46_1, hfz46_2, hfz46_3⟩ := froz4_ BK174.out
       go_wp2_with (first | ((with_reducible refine gate_callee (f := 46) rfl ?_); refine goesL_ (some 27) rfl rfl Tryd.func46 (by kernel_rfl) rfl #[.agg #[.int .i64 a2_0, .int .u64 a2_1, .string a2_2, .int .i64 a2_3], .int .i64 a1_0] rfl (by (try simp only [List.map_toArray, List.map_cons, List.map_nil]); first | done | rfl) ?_; (with_reducible refine (value_Convert.calls kj3 a2_0 a2_1 a2_2 a2_3 a1_0 t177 t178 t179 t180 t181 _ ?hTT_ A23.out).mono ?_); (case hTT_ => exact tb_below HTT_.out (by repeat (first | (with_reducible first | exact HB.out | apply bA_ | apply bN_ | apply bD_ | refine bS_ ?_ GE174.out | refine bS_ ?_ GE175.out | refine bS_ ?_ GE176.out) | exact HB.out))); rintro e w47 ⟨rfl, hb⟩; refine ⟨_, rfl, ?_⟩; replace BK174 := sqB_ BK174 (by (with_reducible repeat (first | apply kN_ | apply kD_ | apply kA_)); exact BK174.out) hb; replace BK175 := sqB_ BK175 (by (with_reducible repeat (first | apply kN_ | apply kD_ | apply kA_)); exact BK175.out) hb; replace BK176 := sqB_ BK176 (by (with_reducible repeat (first | apply kN_ | apply kD_ | apply kA_)); exact BK176.out) hb; replace HB := sqS_ (by repeat (first | (with_reducible first | exact HB.out | apply bA_ | apply bN_ | apply bD_ | refine bS_ ?_ GE174.out | refine bS_ ?_ GE175.out | refine bS_ ?_ GE176.out) | exact HB.out)) hb; (try clear hb); (try clear hb2); (try clear hk); (try clear hi); obtain ⟨hcz48_0, hcz48_1, hcz48_2, hcz48_3⟩ := cells4_ BK175.out; obtain ⟨hfz48_0, hfz48_1, hfz48_2, hfz48_3⟩ := froz4_ BK175.out; obtain ⟨hcz49_0, hcz49_1, hcz49_2, hcz49_3⟩ := cells4_ BK174.out; obtain ⟨hfz49_0, hfz49_1, hfz49_2, hfz49_3⟩ := froz4_ BK174.out) | ((with_reducible refine gate_callee (f := 53) rfl ?_); refine goesL_ (some 46) rfl rfl Tryd.func53 (by kernel_rfl) rfl #[.agg #[.int .i64 a1_0, .int .u64 a1_1, .string a1_2, .int .i64 a1_3], .agg #[.int .i64 t177, .int .u64 t178, .string t179, .int .i64 t180]] rfl (by (try simp only [List.map_toArray, List.map_cons, List.map_nil]); first | done | rfl) ?_; (with_reducible refine (value_order.calls a1_0 a1_1 a1_2 a1_3 t177 t178 t179 t180 t187 _ A40.out).mono ?_); rintro e w50 ⟨rfl, hb⟩; refine ⟨_, rfl, ?_⟩; replace BK174 := sqB_ BK174 (by (with_reducible repeat (first | apply kN_ | apply kD_ | apply kA_)); refine blk_far ?_ NB174_175.out _; (with_reducible repeat (first | apply kN_ | apply kD_ | apply kA_)); refine blk_far ?_ NB174_175.out _; (with_reducible repeat (first | apply kN_ | apply kD_ | apply kA_)); refine blk_far ?_ NB174_175.out _; (with_reducible repeat (first | apply kN_ | apply kD_ | apply kA_)); refine blk_far ?_ NB174_175.out _; (with_reducible repeat (first | apply kN_ | apply kD_ | apply kA_)); exact BK174.out) hb; replace BK175 := sqQ_ (g := gb175) (o := .cells #[.int .i64 t177, .int .u64 t178, .string t179, .int .i64 t180] 24 (0, 0)) (by (with_reducible repeat (first | apply kN_ | apply kD_ | apply kA_)); refine blk_put (cs := #[.int .i64 t177, .int .u64 t178, .string t179, .int .i64 a2_3]) ?_ 3 _ rfl; (with_reducible repeat (first | apply kN_ | apply kD_ | apply kA_)); refine blk_put (cs := #[.int .i64 t177, .int .u64 t178, .string a2_2, .int .i64 a2_3]) ?_ 2 _ rfl; (with_reducible repeat (first | apply kN_ | apply kD_ | apply kA_)); refine blk_put (cs := #[.int .i64 t177, .int .u64 a2_1, .string a2_2, .int .i64 a2_3]) ?_ 1 _ rfl; (with_reducible repeat (first | apply kN_ | apply kD_ | apply kA_)); refine blk_put (cs := #[.int .i64 a2_0, .int .u64 a2_1, .string a2_2, .int .i64 a2_3]) ?_ 0 _ rfl; (with_reducible repeat (first | apply kN_ | apply kD_ | apply kA_)); exact BK175.out) hb; replace BK176 := sqB_ BK176 (by (with_reducible repeat (first | apply kN_ | apply kD_ | apply kA_)); refine blk_far ?_ NB176_175.out _; (with_reducible repeat (first | apply kN_ | apply kD_ | apply kA_)); refine blk_far ?_ NB176_175.out _; (with_reducible repeat (first | apply kN_ | apply kD_ | apply kA_)); refine blk_far ?_ NB176_175.out _; (with_reducible repeat (first | apply kN_ | apply kD_ | apply kA_)); refine blk_far ?_ NB176_175.out _; (with_reducible repeat (first | apply kN_ | apply kD_ | apply kA_)); exact BK176.out) hb; replace HB := sqS_ (by repeat (first | (with_reducible first | exact HB.out | apply bA_ | apply bN_ | apply bD_ | refine bS_ ?_ GE174.out | refine bS_ ?_ GE175.out | refine bS_ ?_ GE176.out) | exact HB.out)) hb; (try clear hb); (try clear hb2); (try clear hk); (try clear hi)) | ((with_reducible refine gate_callee (f := 43) rfl ?_); refine goesL_ (some 48) rfl rfl Tryd.func43 (by kernel_rfl) rfl #[.bool (decide (t187 < 0))] rfl (by (try simp only [List.map_toArray, List.map_cons, List.map_nil]); first | done | rfl) ?_; (with_reducible refine (value_boolean.calls (decide (t187 < 0)) t188 t189 t190 t191 _ A41.out).mono ?_); rintro e w51 ⟨rfl, hb⟩; refine ⟨_, rfl, ?_⟩; replace BK174 := sqB_ BK174 (by (with_reducible repeat (first | apply kN_ | apply kD_ | apply kA_)); exact BK174.out) hb; replace BK175 := sqB_ BK175 (by (with_reducible repeat (first | apply kN_ | apply kD_ | apply kA_)); exact BK175.out) hb; replace BK176 := sqB_ BK176 (by (with_reducible repeat (first | apply kN_ | apply kD_ | apply kA_)); exact BK176.out) hb; replace HB := sqS_ (by repeat (first | (with_reducible first | exact HB.out | apply bA_ | apply bN_ | apply bD_ | refine bS_ ?_ GE174.out | refine bS_ ?_ GE175.out | refine bS_ ?_ GE176.out) | exact HB.out)) hb; (try clear hb); (try clear hb2); (try clear hk); (try clear hi); obtain ⟨hcz52_0, hcz52_1, hcz52_2, hcz52_3⟩ := cells4_ BK176.out; obtain ⟨hfz52_0, hfz52_1, hfz52_2, hfz52_3⟩ := froz4_ BK176.out))
       refine bodyPost_ret (results_ct rfl _ _ gb176 24 #[.int .i64 t188, .int .u64 t189, .string t190, .int .i64 t191] (0, 0) _ rfl (by (with_reducible repeat (first | apply kN_ | apply kD_ | apply kA_)); refine blk_put (cs := #[.int .i64 t188, .int .u64 t189, .string t190, .int .i64 0]) ?_ 3 _ rfl; (with_reducible repeat (first | apply kN_ | apply kD_ | apply kA_)); refine blk_put (cs := #[.int .i64 t188, .int .u64 t189, .string ⟨#[]⟩, .int .i64 0]) ?_ 2 _ rfl; (with_reducible repeat (first | apply kN_ | apply kD_ | apply kA_)); refine blk_put (cs := #[.int .i64 t188, .int .u64 0, .string ⟨#[]⟩, .int .i64 0]) ?_ 1 _ rfl; (with_reducible repeat (first | apply kN_ | apply kD_ | apply kA_)); refine blk_put (cs := #[.int .i64 0, .int .u64 0, .string ⟨#[]⟩, .int .i64 0]) ?_ 0 _ rfl; (with_reducible repeat (first | apply kN_ | apply kD_ | apply kA_)); exact BK176.out) Tryd.underlying24 rfl (by kernel_rfl)) rfl ?_
       exact ⟨by first | rfl | (simp [errW_none, errW_some] <;> rfl) | (simp [*, errW_none, errW_some] <;> rfl), by repeat (first | (with_reducible first | exact HB.out | apply bA_ | apply bN_ | apply bD_ | refine bS_ ?_ GE174.out | refine bS_ ?_ GE175.out | refine bS_ ?_ GE176.out) | exact HB.out)⟩
      ·rw [if_neg c39] at H
       have c39b0 : (a0 == 73) = false := beq_eq_false_iff_ne.mpr c39
       have c39b1 : (a0 != 73) = true := bne_iff_ne.mpr c39
       by_cases c53 : a0 = 74
       ·rw [if_pos c53] at H
        have c53b0 : (a0 == 74) = true := beq_iff_eq.mpr c53
        have c53b1 : (a0 != 74) = false := bne_eq_false_iff_eq.mpr c53
        clear c53
        replace H := Option.bind_eq_some_iff.mp H
        obtain ⟨t192, A540, H⟩ := H
        replace H : ((value_boolean.f (decide (t192 > 0))).bind fun bt193 => (some (bt193.1, bt193.2.1, bt193.2.2.1, bt193.2.2.2, 0))) = some (r1, r2, r3, r4, r5) := H
        have A54 := Aside0.mk A540
        clear A540
        replace H := Option.bind_eq_some_iff.mp H
        obtain ⟨⟨t193, t194, t195, t196⟩, A550, H⟩ := H
        replace H : (some (t193, t194, t195, t196, 0)) = some (r1, r2, r3, r4, r5) := H
        have A55 := Aside0.mk A550
        clear A550
        simp only [Option.some.injEq, Prod.mk.injEq] at H
        obtain ⟨rfl, rfl, rfl, rfl, rfl⟩ := H
        have hnb56 := NB175_174.out
        have hnc56 := NB174_175.out
        have hnb57 := NB175_176.out
        have hnc57 := NB176_175.out
        obtain ⟨hcz58_0, hcz58_1, hcz58_2, hcz58_3⟩ := cells4_ BK175.out
        obtain ⟨hfz58_0, hfz58_1, hfz58_2, hfz58_3⟩ := froz4_ BK175.out
        have hnb59 := NB174_176.out
        have hnc59 := NB176_174.out
        obtain ⟨hcz60_0, hcz60_1, hcz60_2, hcz60_3⟩ := cells4_ BK174.out
        obtain ⟨hfz60_0, hfz60_1, hfz60_2, hfz60_3⟩ := froz4_ BK174.out
        go_wp2_with (first | ((with_reducible refine gate_callee (f := 46) rfl ?_); refine goesL_ (some 27) rfl rfl Tryd.func46 (by kernel_rfl) rfl #[.agg #[.int .i64 a2_0, .int .u64 a2_1, .string a2_2, .int .i64 a2_3], .int .i64 a1_0] rfl (by (try simp only [List.map_toArray, List.map_cons, List.map_nil]); first | done | rfl) ?_; (with_reducible refine (value_Convert.calls kj3 a2_0 a2_1 a2_2 a2_3 a1_0 t177 t178 t179 t180 t181 _ ?hTT_ A23.out).mono ?_); (case hTT_ => exact tb_below HTT_.out (by repeat (first | (with_reducible first | exact HB.out | apply bA_ | apply bN_ | apply bD_ | refine bS_ ?_ GE174.out | refine bS_ ?_ GE175.out | refine bS_ ?_ GE176.out) | exact HB.out))); rintro e w61 ⟨rfl, hb⟩; refine ⟨_, rfl, ?_⟩; replace BK174 := sqB_ BK174 (by (with_reducible repeat (first | apply kN_ | apply kD_ | apply kA_)); exact BK174.out) hb; replace BK175 := sqB_ BK175 (by (with_reducible repeat (first | apply kN_ | apply kD_ | apply kA_)); exact BK175.out) hb; replace BK176 := sqB_ BK176 (by (with_reducible repeat (first | apply kN_ | apply kD_ | apply kA_)); exact BK176.out) hb; replace HB := sqS_ (by repeat (first | (with_reducible first | exact HB.out | apply bA_ | apply bN_ | apply bD_ | refine bS_ ?_ GE174.out | refine bS_ ?_ GE175.out | refine bS_ ?_ GE176.out) | exact HB.out)) hb; (try clear hb); (try clear hb2); (try clear hk); (try clear hi); obtain ⟨hcz62_0, hcz62_1, hcz62_2, hcz62_3⟩ := cells4_ BK175.out; obtain ⟨hfz62_0, hfz62_1, hfz62_2, hfz62_3⟩ := froz4_ BK175.out; obtain ⟨hcz63_0, hcz63_1, hcz63_2, hcz63_3⟩ := cells4_ BK174.out; obtain ⟨hfz63_0, hfz63_1, hfz63_2, hfz63_3⟩ := froz4_ BK174.out) | ((with_reducible refine gate_callee (f := 53) rfl ?_); refine goesL_ (some 53) rfl rfl Tryd.func53 (by kernel_rfl) rfl #[.agg #[.int .i64 a1_0, .int .u64 a1_1, .string a1_2, .int .i64 a1_3], .agg #[.int .i64 t177, .int .u64 t178, .string t179, .int .i64 t180]] rfl (by (try simp only [List.map_toArray, List.map_cons, List.map_nil]); first | done | rfl) ?_; (with_reducible refine (value_order.calls a1_0 a1_1 a1_2 a1_3 t177 t178 t179 t180 t192 _ A54.out).mono ?_); rintro e w64 ⟨rfl, hb⟩; refine ⟨_, rfl, ?_⟩; replace BK174 := sqB_ BK174 (by (with_reducible repeat (first | apply kN_ | apply kD_ | apply kA_)); refine blk_far ?_ NB174_175.out _; (with_reducible repeat (first | apply kN_ | apply kD_ | apply kA_)); refine blk_far ?_ NB174_175.out _; (with_reducible repeat (first | apply kN_ | apply kD_ | apply kA_)); refine blk_far ?_ NB174_175.out _; (with_reducible repeat (first | apply kN_ | apply kD_ | apply kA_)); refine blk_far ?_ NB174_175.out _; (with_reducible repeat (first | apply kN_ | apply kD_ | apply kA_)); exact BK174.out) hb; replace BK175 := sqQ_ (g := gb175) (o := .cells #[.int .i64 t177, .int .u64 t178, .string t179, .int .i64 t180] 24 (0, 0)) (by (with_reducible repeat (first | apply kN_ | apply kD_ | apply kA_)); refine blk_put (cs := #[.int .i64 t177, .int .u64 t178, .string t179, .int .i64 a2_3]) ?_ 3 _ rfl; (with_reducible repeat (first | apply kN_ | apply kD_ | apply kA_)); refine blk_put (cs := #[.int .i64 t177, .int .u64 t178, .string a2_2, .int .i64 a2_3]) ?_ 2 _ rfl; (with_reducible repeat (first | apply kN_ | apply kD_ | apply kA_)); refine blk_put (cs := #[.int .i64 t177, .int .u64 a2_1, .string a2_2, .int .i64 a2_3]) ?_ 1 _ rfl; (with_reducible repeat (first | apply kN_ | apply kD_ | apply kA_)); refine blk_put (cs := #[.int .i64 a2_0, .int .u64 a2_1, .string a2_2, .int .i64 a2_3]) ?_ 0 _ rfl; (with_reducible repeat (first | apply kN_ | apply kD_ | apply kA_)); exact BK175.out) hb; replace BK176 := sqB_ BK176 (by (with_reducible repeat (first | apply kN_ | apply kD_ | apply kA_)); refine blk_far ?_ NB176_175.out _; (with_reducible repeat (first | apply kN_ | apply kD_ | apply kA_)); refine blk_far ?_ NB176_175.out _; (with_reducible repeat (first | apply kN_ | apply kD_ | apply kA_)); refine blk_far ?_ NB176_175.out _; (with_reducible repeat (first | apply kN_ | apply kD_ | apply kA_)); refine blk_far ?_ NB176_175.out _; (with_reducible repeat (first | apply kN_ | apply kD_ | apply kA_)); exact BK176.out) hb; replace HB := sqS_ (by repeat (first | (with_reducible first | exact HB.out | apply bA_ | apply bN_ | apply bD_ | refine bS_ ?_ GE174.out | refine bS_ ?_ GE175.out | refine bS_ ?_ GE176.out) | exact HB.out)) hb; (try clear hb); (try clear hb2); (try clear hk); (try clear hi)) | ((with_reducible refine gate_callee (f := 43) rfl ?_); refine goesL_ (some 55) rfl rfl Tryd.func43 (by kernel_rfl) rfl #[.bool (decide (t192 > 0))] rfl (by (try simp only [List.map_toArray, List.map_cons, List.map_nil]); first | done | rfl) ?_; (with_reducible refine (value_boolean.calls (decide (t192 > 0)) t193 t194 t195 t196 _ A55.out).mono ?_); rintro e w65 ⟨rfl, hb⟩; refine ⟨_, rfl, ?_⟩; replace BK174 := sqB_ BK174 (by (with_reducible repeat (first | apply kN_ | apply kD_ | apply kA_)); exact BK174.out) hb; replace BK175 := sqB_ BK175 (by (with_reducible repeat (first | apply kN_ | apply kD_ | apply kA_)); exact BK175.out) hb; replace BK176 := sqB_ BK176 (by (with_reducible repeat (first | apply kN_ | apply kD_ | apply kA_)); exact BK176.out) hb; replace HB := sqS_ (by repeat (first | (with_reducible first | exact HB.out | apply bA_ | apply bN_ | apply bD_ | refine bS_ ?_ GE174.out | refine bS_ ?_ GE175.out | refine bS_ ?_ GE176.out) | exact HB.out)) hb; (try clear hb); (try clear hb2); (try clear hk); (try clear hi); obtain ⟨hcz66_0, hcz66_1, hcz66_2, hcz66_3⟩ := cells4_ BK176.out; obtain ⟨hfz66_0, hfz66_1, hfz66_2, hfz66_3⟩ := froz4_ BK176.out))
        refine bodyPost_ret (results_ct rfl _ _ gb176 24 #[.int .i64 t193, .int .u64 t194, .string t195, .int .i64 t196] (0, 0) _ rfl (by (with_reducible repeat (first | apply kN_ | apply kD_ | apply kA_)); refine blk_put (cs := #[.int .i64 t193, .int .u64 t194, .string t195, .int .i64 0]) ?_ 3 _ rfl; (with_reducible repeat (first | apply kN_ | apply kD_ | apply kA_)); refine blk_put (cs := #[.int .i64 t193, .int .u64 t194, .string ⟨#[]⟩, .int .i64 0]) ?_ 2 _ rfl; (with_reducible repeat (first | apply kN_ | apply kD_ | apply kA_)); refine blk_put (cs := #[.int .i64 t193, .int .u64 0, .string ⟨#[]⟩, .int .i64 0]) ?_ 1 _ rfl; (with_reducible repeat (first | apply kN_ | apply kD_ | apply kA_)); refine blk_put (cs := #[.int .i64 0, .int .u64 0, .string ⟨#[]⟩, .int .i64 0]) ?_ 0 _ rfl; (with_reducible repeat (first | apply kN_ | apply kD_ | apply kA_)); exact BK176.out) Tryd.underlying24 rfl (by kernel_rfl)) rfl ?_
        exact ⟨by first | rfl | (simp [errW_none, errW_some] <;> rfl) | (simp [*, errW_none, errW_some] <;> rfl), by repeat (first | (with_reducible first | exact HB.out | apply bA_ | apply bN_ | apply bD_ | refine bS_ ?_ GE174.out | refine bS_ ?_ GE175.out | refine bS_ ?_ GE176.out) | exact HB.out)⟩
       ·rw [if_neg c53] at H
        have c53b0 : (a0 == 74) = false := beq_eq_false_iff_ne.mpr c53
        have c53b1 : (a0 != 74) = true := bne_iff_ne.mpr c53
        replace H := Option.bind_eq_some_iff.mp H
        obtain ⟨⟨t197, t198, t199, t200, t201⟩, A670, H⟩ := H
        replace H : (some (t197, t198, t199, t200, t201)) = some (r1, r2, r3, r4, r5) := H
        have A67 := Aside0.mk A670
        clear A670
        simp only [Option.some.injEq, Prod.mk.injEq] at H
        obtain ⟨rfl, rfl, rfl, rfl, rfl⟩ := H
        have hnb68 := NB175_174.out
        have hnc68 := NB174_175.out
        have hnb69 := NB175_176.out
        have hnc69 := NB176_175.out
        obtain ⟨hcz70_0, hcz70_1, hcz70_2, hcz70_3⟩ := cells4_ BK175.out
        obtain ⟨hfz70_0, hfz70_1, hfz70_2, hfz70_3⟩ := froz4_ BK175.out
        have hnb71 := NB174_176.out
        have hnc71 := NB176_174.out
        obtain ⟨hcz72_0, hcz72_1, hcz72_2, hcz72_3⟩ := cells4_ BK174.out
        obtain ⟨hfz72_0, hfz72_1, hfz72_2, hfz72_3⟩ := froz4_ BK174.out
        go_wp2_with (first | ((with_reducible refine gate_callee (f := 46) rfl ?_); refine goesL_ (some 27) rfl rfl Tryd.func46 (by kernel_rfl) rfl #[.agg #[.int .i64 a2_0, .int .u64 a2_1, .string a2_2, .int .i64 a2_3], .int .i64 a1_0] rfl (by (try simp only [List.map_toArray, List.map_cons, List.map_nil]); first | done | rfl) ?_; (with_reducible refine (value_Convert.calls kj3 a2_0 a2_1 a2_2 a2_3 a1_0 t177 t178 t179 t180 t181 _ ?hTT_ A23.out).mono ?_); (case hTT_ => exact tb_below HTT_.out (by repeat (first | (with_reducible first | exact HB.out | apply bA_ | apply bN_ | apply bD_ | refine bS_ ?_ GE174.out | refine bS_ ?_ GE175.out | refine bS_ ?_ GE176.out) | exact HB.out))); rintro e w73 ⟨rfl, hb⟩; refine ⟨_, rfl, ?_⟩; replace BK174 := sqB_ BK174 (by (with_reducible repeat (first | apply kN_ | apply kD_ | apply kA_)); exact BK174.out) hb; replace BK175 := sqB_ BK175 (by (with_reducible repeat (first | apply kN_ | apply kD_ | apply kA_)); exact BK175.out) hb; replace BK176 := sqB_ BK176 (by (with_reducible repeat (first | apply kN_ | apply kD_ | apply kA_)); exact BK176.out) hb; replace HB := sqS_ (by repeat (first | (with_reducible first | exact HB.out | apply bA_ | apply bN_ | apply bD_ | refine bS_ ?_ GE174.out | refine bS_ ?_ GE175.out | refine bS_ ?_ GE176.out) | exact HB.out)) hb; (try clear hb); (try clear hb2); (try clear hk); (try clear hi); obtain ⟨hcz74_0, hcz74_1, hcz74_2, hcz74_3⟩ := cells4_ BK175.out; obtain ⟨hfz74_0, hfz74_1, hfz74_2, hfz74_3⟩ := froz4_ BK175.out; obtain ⟨hcz75_0, hcz75_1, hcz75_2, hcz75_3⟩ := cells4_ BK174.out; obtain ⟨hfz75_0, hfz75_1, hfz75_2, hfz75_3⟩ := froz4_ BK174.out) | ((with_reducible refine gate_callee (f := 54) rfl ?_); refine goesL_ (some 58) rfl rfl Tryd.func54 (by kernel_rfl) rfl #[.agg #[.int .i64 a1_0, .int .u64 a1_1, .string a1_2, .int .i64 a1_3], .agg #[.int .i64 t177, .int .u64 t178, .string t179, .int .i64 t180]] rfl (by (try simp only [List.map_toArray, List.map_cons, List.map_nil]); first | done | rfl) ?_; (with_reducible refine (value_concatenate.calls kj3 a1_0 a1_1 a1_2 a1_3 t177 t178 t179 t180 t197 t198 t199 t200 t201 _ A67.out).mono ?_); rintro e w76 ⟨rfl, hb⟩; refine ⟨_, rfl, ?_⟩; replace BK174 := sqB_ BK174 (by (with_reducible repeat (first | apply kN_ | apply kD_ | apply kA_)); refine blk_far ?_ NB174_175.out _; (with_reducible repeat (first | apply kN_ | apply kD_ | apply kA_)); refine blk_far ?_ NB174_175.out _; (with_reducible repeat (first | apply kN_ | apply kD_ | apply kA_)); refine blk_far ?_ NB174_175.out _; (with_reducible repeat (first | apply kN_ | apply kD_ | apply kA_)); refine blk_far ?_ NB174_175.out _; (with_reducible repeat (first | apply kN_ | apply kD_ | apply kA_)); exact BK174.out) hb; replace BK175 := sqQ_ (g := gb175) (o := .cells #[.int .i64 t177, .int .u64 t178, .string t179, .int .i64 t180] 24 (0, 0)) (by (with_reducible repeat (first | apply kN_ | apply kD_ | apply kA_)); refine blk_put (cs := #[.int .i64 t177, .int .u64 t178, .string t179, .int .i64 a2_3]) ?_ 3 _ rfl; (with_reducible repeat (first | apply kN_ | apply kD_ | apply kA_)); refine blk_put (cs := #[.int .i64 t177, .int .u64 t178, .string a2_2, .int .i64 a2_3]) ?_ 2 _ rfl; (with_reducible repeat (first | apply kN_ | apply kD_ | apply kA_)); refine blk_put (cs := #[.int .i64 t177, .int .u64 a2_1, .string a2_2, .int .i64 a2_3]) ?_ 1 _ rfl; (with_reducible repeat (first | apply kN_ | apply kD_ | apply kA_)); refine blk_put (cs := #[.int .i64 a2_0, .int .u64 a2_1, .string a2_2, .int .i64 a2_3]) ?_ 0 _ rfl; (with_reducible repeat (first | apply kN_ | apply kD_ | apply kA_)); exact BK175.out) hb; replace BK176 := sqB_ BK176 (by (with_reducible repeat (first | apply kN_ | apply kD_ | apply kA_)); refine blk_far ?_ NB176_175.out _; (with_reducible repeat (first | apply kN_ | apply kD_ | apply kA_)); refine blk_far ?_ NB176_175.out _; (with_reducible repeat (first | apply kN_ | apply kD_ | apply kA_)); refine blk_far ?_ NB176_175.out _; (with_reducible repeat (first | apply kN_ | apply kD_ | apply kA_)); refine blk_far ?_ NB176_175.out _; (with_reducible repeat (first | apply kN_ | apply kD_ | apply kA_)); exact BK176.out) hb; replace HB := sqS_ (by repeat (first | (with_reducible first | exact HB.out | apply bA_ | apply bN_ | apply bD_ | refine bS_ ?_ GE174.out | refine bS_ ?_ GE175.out | refine bS_ ?_ GE176.out) | exact HB.out)) hb; (try clear hb); (try clear hb2); (try clear hk); (try clear hi); obtain ⟨hcz77_0, hcz77_1, hcz77_2, hcz77_3⟩ := cells4_ BK176.out; obtain ⟨hfz77_0, hfz77_1, hfz77_2, hfz77_3⟩ := froz4_ BK176.out))
        refine bodyPost_ret (results_ct rfl _ _ gb176 24 #[.int .i64 t197, .int .u64 t198, .string t199, .int .i64 t200] (0, 0) _ rfl (by (with_reducible repeat (first | apply kN_ | apply kD_ | apply kA_)); refine blk_put (cs := #[.int .i64 t197, .int .u64 t198, .string t199, .int .i64 0]) ?_ 3 _ rfl; (with_reducible repeat (first | apply kN_ | apply kD_ | apply kA_)); refine blk_put (cs := #[.int .i64 t197, .int .u64 t198, .string ⟨#[]⟩, .int .i64 0]) ?_ 2 _ rfl; (with_reducible repeat (first | apply kN_ | apply kD_ | apply kA_)); refine blk_put (cs := #[.int .i64 t197, .int .u64 0, .string ⟨#[]⟩, .int .i64 0]) ?_ 1 _ rfl; (with_reducible repeat (first | apply kN_ | apply kD_ | apply kA_)); refine blk_put (cs := #[.int .i64 0, .int .u64 0, .string ⟨#[]⟩, .int .i64 0]) ?_ 0 _ rfl; (with_reducible repeat (first | apply kN_ | apply kD_ | apply kA_)); exact BK176.out) Tryd.underlying24 rfl (by kernel_rfl)) rfl ?_
        exact ⟨by first | rfl | (simp [errW_none, errW_some] <;> rfl) | (simp [*, errW_none, errW_some] <;> rfl), by repeat (first | (with_reducible first | exact HB.out | apply bA_ | apply bN_ | apply bD_ | refine bS_ ?_ GE174.out | refine bS_ ?_ GE175.out | refine bS_ ?_ GE176.out) | exact HB.out)⟩
    ·rw [if_neg c24] at H
     have c24b0 : (t181 == 0) = false := beq_eq_false_iff_ne.mpr c24
     have c24b1 : (t181 != 0) = true := bne_iff_ne.mpr c24
     simp only [Option.some.injEq, Prod.mk.injEq] at H
     obtain ⟨rfl, rfl, rfl, rfl, rfl⟩ := H
     have hnb78 := NB175_174.out
     have hnc78 := NB174_175.out
     have hnb79 := NB175_176.out
     have hnc79 := NB176_175.out
     obtain ⟨hcz80_0, hcz80_1, hcz80_2, hcz80_3⟩ := cells4_ BK175.out
     obtain ⟨hfz80_0, hfz80_1, hfz80_2, hfz80_3⟩ := froz4_ BK175.out
     have hnb81 := NB174_176.out
     have hnc81 := NB176_174.out
     obtain ⟨hcz82_0, hcz82_1, hcz82_2, hcz82_3⟩ := cells4_ BK174.out
     obtain ⟨hfz82_0, hfz82_1, hfz82_2, hfz82_3⟩ := froz4_ BK174.out
     go_wp2_with (first | ((with_reducible refine gate_callee (f := 46) rfl ?_); refine goesL_ (some 27) rfl rfl Tryd.func46 (by kernel_rfl) rfl #[.agg #[.int .i64 a2_0, .int .u64 a2_1, .string a2_2, .int .i64 a2_3], .int .i64 a1_0] rfl (by (try simp only [List.map_toArray, List.map_cons, List.map_nil]); first | done | rfl) ?_; (with_reducible refine (value_Convert.calls kj3 a2_0 a2_1 a2_2 a2_3 a1_0 t177 t178 t179 t180 t181 _ ?hTT_ A23.out).mono ?_); (case hTT_ => exact tb_below HTT_.out (by repeat (first | (with_reducible first | exact HB.out | apply bA_ | apply bN_ | apply bD_ | refine bS_ ?_ GE174.out | refine bS_ ?_ GE175.out | refine bS_ ?_ GE176.out) | exact HB.out))); rintro e w83 ⟨rfl, hb⟩; refine ⟨_, rfl, ?_⟩; replace BK174 := sqB_ BK174 (by (with_reducible repeat (first | apply kN_ | apply kD_ | apply kA_)); exact BK174.out) hb; replace BK175 := sqB_ BK175 (by (with_reducible repeat (first | apply kN_ | apply kD_ | apply kA_)); exact BK175.out) hb; replace BK176 := sqB_ BK176 (by (with_reducible repeat (first | apply kN_ | apply kD_ | apply kA_)); exact BK176.out) hb; replace HB := sqS_ (by repeat (first | (with_reducible first | exact HB.out | apply bA_ | apply bN_ | apply bD_ | refine bS_ ?_ GE174.out | refine bS_ ?_ GE175.out | refine bS_ ?_ GE176.out) | exact HB.out)) hb; (try clear hb); (try clear hb2); (try clear hk); (try clear hi); obtain ⟨hcz84_0, hcz84_1, hcz84_2, hcz84_3⟩ := cells4_ BK175.out; obtain ⟨hfz84_0, hfz84_1, hfz84_2, hfz84_3⟩ := froz4_ BK175.out; obtain ⟨hcz85_0, hcz85_1, hcz85_2, hcz85_3⟩ := cells4_ BK176.out; obtain ⟨hfz85_0, hfz85_1, hfz85_2, hfz85_3⟩ := froz4_ BK176.out))
     refine bodyPost_ret (results_ct rfl _ _ gb176 24 #[.int .i64 0, .int .u64 0, .string ⟨#[]⟩, .int .i64 0] (0, 0) _ rfl (by (with_reducible repeat (first | apply kN_ | apply kD_ | apply kA_)); refine blk_put (cs := #[.int .i64 0, .int .u64 0, .string ⟨#[]⟩, .int .i64 0]) ?_ 3 _ rfl; (with_reducible repeat (first | apply kN_ | apply kD_ | apply kA_)); refine blk_put (cs := #[.int .i64 0, .int .u64 0, .string ⟨#[]⟩, .int .i64 0]) ?_ 2 _ rfl; (with_reducible repeat (first | apply kN_ | apply kD_ | apply kA_)); refine blk_put (cs := #[.int .i64 0, .int .u64 0, .string ⟨#[]⟩, .int .i64 0]) ?_ 1 _ rfl; (with_reducible repeat (first | apply kN_ | apply kD_ | apply kA_)); refine blk_put (cs := #[.int .i64 0, .int .u64 0, .string ⟨#[]⟩, .int .i64 0]) ?_ 0 _ rfl; (with_reducible repeat (first | apply kN_ | apply kD_ | apply kA_)); refine blk_far ?_ NB176_175.out _; (with_reducible repeat (first | apply kN_ | apply kD_ | apply kA_)); refine blk_far ?_ NB176_175.out _; (with_reducible repeat (first | apply kN_ | apply kD_ | apply kA_)); refine blk_far ?_ NB176_175.out _; (with_reducible repeat (first | apply kN_ | apply kD_ | apply kA_)); refine blk_far ?_ NB176_175.out _; (with_reducible repeat (first | apply kN_ | apply kD_ | apply kA_)); exact BK176.out) Tryd.underlying24 rfl (by kernel_rfl)) rfl ?_
     exact ⟨by first | rfl | (simp [errW_none, errW_some] <;> rfl) | (simp [*, errW_none, errW_some] <;> rfl), by repeat (first | (with_reducible first | exact HB.out | apply bA_ | apply bN_ | apply bD_ | refine bS_ ?_ GE174.out | refine bS_ ?_ GE175.out | refine bS_ ?_ GE176.out) | exact HB.out)⟩

/-! ### value_divide: function 55 -/
def value_divide.f (a0 : Int) (a1 : Int) (a2 : Int) : Option (Int × Int × ByteArray × Int × Int) := if a0 = 68 then (if 0 ≤ a2 then ((value_integer.f (shl .u64 a1 a2)).bind fun bt203 => (some (bt203.1, bt203.2.1, bt203.2.2.1, bt203.2.2.2, 0))) else (none)) else (if a0 = 69 then (if 0 ≤ a2 then ((value_integer.f (shr .u64 a1 a2)).bind fun bt207 => (some (bt207.1, bt207.2.1, bt207.2.2.1, bt207.2.2.2, 0))) else (none)) else (if a2 = 0 then (some (0, 0, (⟨#[]⟩ : ByteArray), 0, 12)) else (if a0 = 63 then ((value_integer.f (IntKind.u64.wrap (Int.tdiv a1 a2))).bind fun bt211 => (some (bt211.1, bt211.2.1, bt211.2.2.1, bt211.2.2.2, 0))) else ((value_integer.f (Int.tmod a1 a2)).bind fun bt215 => (some (bt215.1, bt215.2.1, bt215.2.2.1, bt215.2.2.2, 0))))))
set_option maxHeartbeats 8000000 in
set_option maxRecDepth 100000 in
theorem value_divide.calls (a0 : Int) (a1 : Int) (a2 : Int) (r1 : Int) (r2 : Int) (r3 : ByteArray) (r4 : Int) (r5 : Int) (w : World) (h : value_divide.f a0 a1 a2 = some (r1, r2, r3, r4, r5)) :
  Calls Tryd.prog 55 #[.int .i64 a0, .int .u64 a1, .int .u64 a2] w fun e w' => e = .returned (.tuple #[.agg #[.int .i64 r1, .int .u64 r2, .string r3, .int .i64 r4], .int .i64 r5]) ∧ Below w.heap.size w w' := by
 have hu24 := Tryd.underlying24
 have HB := Aside0.mk (Below.refl w.heap.size w)
 have H : (if a0 = 68 then (if 0 ≤ a2 then ((value_integer.f (shl .u64 a1 a2)).bind fun bt203 => (some (bt203.1, bt203.2.1, bt203.2.2.1, bt203.2.2.2, 0))) else (none)) else (if a0 = 69 then (if 0 ≤ a2 then ((value_integer.f (shr .u64 a1 a2)).bind fun bt207 => (some (bt207.1, bt207.2.1, bt207.2.2.1, bt207.2.2.2, 0))) else (none)) else (if a2 = 0 then (some (0, 0, (⟨#[]⟩ : ByteArray), 0, 12)) else (if a0 = 63 then ((value_integer.f (IntKind.u64.wrap (Int.tdiv a1 a2))).bind fun bt211 => (some (bt211.1, bt211.2.1, bt211.2.2.1, bt211.2.2.2, 0))) else ((value_integer.f (Int.tmod a1 a2)).bind fun bt215 => (some (bt215.1, bt215.2.1, bt215.2.2.1, bt215.2.2.2, 0))))))) = some (r1, r2, r3, r4, r5) := h
 clear h
 by_cases c4 : a0 = 68
 ·rw [if_pos c4] at H
  have c4b0 : (a0 == 68) = true := beq_iff_eq.mpr c4
  have c4b1 : (a0 != 68) = false := bne_eq_false_iff_eq.mpr c4
  clear c4
  by_cases c5 : 0 ≤ a2
  ·rw [if_pos c5] at H
   have c5b0 := eq_true c5
   have c5b1 : decide (0 ≤ a2) = true := decide_eq_true c5
   clear c5
   obtain ⟨ji6, hji6⟩ : ∃ j_ : Int, (shl .u64 a1 a2) = j_ := ⟨_, rfl⟩
   replace H : ((value_integer.f (ji6)).bind fun bt203 => (some (bt203.1, bt203.2.1, bt203.2.2.1, bt203.2.2.2, 0))) = some (r1, r2, r3, r4, r5) := by first | (rw [hji6] at H; exact H) | (simp only [hji6] at H ⊢; exact H)
   have hji6_ : (IntKind.u64.wrap (a1 * 2 ^ min a2.toNat 64)) = ji6 := hji6
   have hji6z : a2 ≤ 64 → (IntKind.u64.wrap (a1 * 2 ^ a2.toNat)) = ji6 := shl_small hji6
   replace H := Option.bind_eq_some_iff.mp H
   obtain ⟨⟨t203, t204, t205, t206⟩, A70, H⟩ := H
   replace H : (some (t203, t204, t205, t206, 0)) = some (r1, r2, r3, r4, r5) := H
   have A7 := Aside0.mk A70
   clear A70
   simp only [Option.some.injEq, Prod.mk.injEq] at H
   obtain ⟨rfl, rfl, rfl, rfl, rfl⟩ := H
   go_enter Tryd.func55, Tryd.ntmps55
   go_wp2_with (first | ((with_reducible refine gate_dst (N := 6) rfl ?_); refine box_event ?hg (N := 6) ?hd (cs := #[.int .i64 0, .int .u64 0, .string ⟨#[]⟩, .int .i64 0]) (t := 24) ?hr ?_; (case hd => rfl); (case hg => rfl); (case hr => first | (go_simp; done) | (go_simp; rfl)); intro gb202 hg w8 hbox hb; replace HB := sqN_ (by repeat (first | (with_reducible first | exact HB.out | apply bA_ | apply bN_ | apply bD_) | exact HB.out)) hg hb; obtain ⟨HB, GE202⟩ := HB; have BK202 := Aside0.mk hbox; clear hb hbox hg) | ((with_reducible refine gate_callee (f := 44) rfl ?_); refine goesL_ (some 14) rfl rfl Tryd.func44 (by kernel_rfl) rfl #[.int .u64 ji6] rfl (by (try simp only [List.map_toArray, List.map_cons, List.map_nil]); first | done | (simp only [hji6]; rfl) | rfl | (simp only [List.length_drop, List.length_take]; rfl)) ?_; (with_reducible refine (value_integer.calls ji6 t203 t204 t205 t206 _ A7.out).mono ?_); rintro e w9 ⟨rfl, hb⟩; refine ⟨_, rfl, ?_⟩; replace BK202 := sqB_ BK202 (by (with_reducible repeat (first | apply kN_ | apply kD_ | apply kA_)); exact BK202.out) hb; replace HB := sqS_ (by repeat (first | (with_reducible first | exact HB.out | apply bA_ | apply bN_ | apply bD_ | refine bS_ ?_ GE202.out) | exact HB.out)) hb; (try clear hb); (try clear hb2); (try clear hk); (try clear hi); obtain ⟨hcz10_0, hcz10_1, hcz10_2, hcz10_3⟩ := cells4_ BK202.out; obtain ⟨hfz10_0, hfz10_1, hfz10_2, hfz10_3⟩ := froz4_ BK202.out))
   refine bodyPost_ret (results_ct rfl _ _ gb202 24 #[.int .i64 t203, .int .u64 t204, .string t205, .int .i64 t206] (0, 0) _ rfl (by (with_reducible repeat (first | apply kN_ | apply kD_ | apply kA_)); refine blk_put (cs := #[.int .i64 t203, .int .u64 t204, .string t205, .int .i64 0]) ?_ 3 _ rfl; (with_reducible repeat (first | apply kN_ | apply kD_ | apply kA_)); refine blk_put (cs := #[.int .i64 t203, .int .u64 t204, .string ⟨#[]⟩, .int .i64 0]) ?_ 2 _ rfl; (with_reducible repeat (first | apply kN_ | apply kD_ | apply kA_)); refine blk_put (cs := #[.int .i64 t203, .int .u64 0, .string ⟨#[]⟩, .int .i64 0]) ?_ 1 _ rfl; (with_reducible repeat (first | apply kN_ | apply kD_ | apply kA_)); refine blk_put (cs := #[.int .i64 0, .int .u64 0, .string ⟨#[]⟩, .int .i64 0]) ?_ 0 _ rfl; (with_reducible repeat (first | apply kN_ | apply kD_ | apply kA_)); exact BK202.out) Tryd.underlying24 rfl (by kernel_rfl)) rfl ?_
   exact ⟨by first | rfl | (simp [errW_none, errW_some] <;> rfl) | (simp only [← hji6]; first | rfl | (simp [errW_none, errW_some] <;> rfl)) | (simp [*, errW_none, errW_some] <;> rfl), by repeat (first | (with_reducible first | exact HB.out | apply bA_ | apply bN_ | apply bD_ | refine bS_ ?_ GE202.out) | exact HB.out)⟩
  ·rw [if_neg c5] at H
   exact absurd H (by simp)
 ·rw [if_neg c4] at H
  have c4b0 : (a0 == 68) = false := beq_eq_false_iff_ne.mpr c4
  have c4b1 : (a0 != 68) = true := bne_iff_ne.mpr c4
  by_cases c11 : a0 = 69
  ·rw [if_pos c11] at H
   have c11b0 : (a0 == 69) = true := beq_iff_eq.mpr c11
   have c11b1 : (a0 != 69) = false := bne_eq_false_iff_eq.mpr c11
   clear c11
   by_cases c12 : 0 ≤ a2
   ·rw [if_pos c12] at H
    have c12b0 := eq_true c12
    have c12b1 : decide (0 ≤ a2) = true := decide_eq_true c12
    clear c12
    obtain ⟨ji13, hji13⟩ : ∃ j_ : Int, (shr .u64 a1 a2) = j_ := ⟨_, rfl⟩
    replace H : ((value_integer.f (ji13)).bind fun bt207 => (some (bt207.1, bt207.2.1, bt207.2.2.1, bt207.2.2.2, 0))) = some (r1, r2, r3, r4, r5) := by first | (rw [hji13] at H; exact H) | (simp only [hji13] at H ⊢; exact H)
    have hji13_ : (a1 / 2 ^ min a2.toNat 64) = ji13 := hji13
    have hji13z : a2 ≤ 64 → (a1 / 2 ^ a2.toNat) = ji13 := shr_small hji13
    replace H := Option.bind_eq_some_iff.mp H
    obtain ⟨⟨t207, t208, t209, t210⟩, A140, H⟩ := H
    replace H : (some (t207, t208, t209, t210, 0)) = some (r1, r2, r3, r4, r5) := H
    have A14 := Aside0.mk A140
    clear A140
    simp only [Option.some.injEq, Prod.mk.injEq] at H
    obtain ⟨rfl, rfl, rfl, rfl, rfl⟩ := H
    go_enter Tryd.func55, Tryd.ntmps55
    go_wp2_with (first | ((with_reducible refine gate_dst (N := 6) rfl ?_); refine box_event ?hg (N := 6) ?hd (cs := #[.int .i64 0, .int .u64 0, .string ⟨#[]⟩, .int .i64 0]) (t := 24) ?hr ?_; (case hd => rfl); (case hg => rfl); (case hr => first | (go_simp; done) | (go_simp; rfl)); intro gb202 hg w15 hbox hb; replace HB := sqN_ (by repeat (first | (with_reducible first | exact HB.out | apply bA_ | apply bN_ | apply bD_) | exact HB.out)) hg hb; obtain ⟨HB, GE202⟩ := HB; have BK202 := Aside0.mk hbox; clear hb hbox hg) | ((with_reducible refine gate_callee (f := 44) rfl ?_); refine goesL_ (some 21) rfl rfl Tryd.func44 (by kernel_rfl) rfl #[.int .u64 ji13] rfl (by (try simp only [List.map_toArray, List.map_cons, List.map_nil]); first | done | (simp only [hji13]; rfl) | rfl | (simp only [List.length_drop, List.length_take]; rfl)) ?_; (with_reducible refine (value_integer.calls ji13 t207 t208 t209 t210 _ A14.out).mono ?_); rintro e w16 ⟨rfl, hb⟩; refine ⟨_, rfl, ?_⟩; replace BK202 := sqB_ BK202 (by (with_reducible repeat (first | apply kN_ | apply kD_ | apply kA_)); exact BK202.out) hb; replace HB := sqS_ (by repeat (first | (with_reducible first | exact HB.out | apply bA_ | apply bN_ | apply bD_ | refine bS_ ?_ GE202.out) | exact HB.out)) hb; (try clear hb); (try clear hb2); (try clear hk); (try clear hi); obtain ⟨hcz17_0, hcz17_1, hcz17_2, hcz17_3⟩ := cells4_ BK202.out; obtain ⟨hfz17_0, hfz17_1, hfz17_2, hfz17_3⟩ := froz4_ BK202.out))
    refine bodyPost_ret (results_ct rfl _ _ gb202 24 #[.int .i64 t207, .int .u64 t208, .string t209, .int .i64 t210] (0, 0) _ rfl (by (with_reducible repeat (first | apply kN_ | apply kD_ | apply kA_)); refine blk_put (cs := #[.int .i64 t207, .int .u64 t208, .string t209, .int .i64 0]) ?_ 3 _ rfl; (with_reducible repeat (first | apply kN_ | apply kD_ | apply kA_)); refine blk_put (cs := #[.int .i64 t207, .int .u64 t208, .string ⟨#[]⟩, .int .i64 0]) ?_ 2 _ rfl; (with_reducible repeat (first | apply kN_ | apply kD_ | apply kA_)); refine blk_put (cs := #[.int .i64 t207, .int .u64 0, .string ⟨#[]⟩, .int .i64 0]) ?_ 1 _ rfl; (with_reducible repeat (first | apply kN_ | apply kD_ | apply kA_)); refine blk_put (cs := #[.int .i64 0, .int .u64 0, .string ⟨#[]⟩, .int .i64 0]) ?_ 0 _ rfl; (with_reducible repeat (first | apply kN_ | apply kD_ | apply kA_)); exact BK202.out) Tryd.underlying24 rfl (by kernel_rfl)) rfl ?_
    exact ⟨by first | rfl | (simp [errW_none, errW_some] <;> rfl) | (simp only [← hji13]; first | rfl | (simp [errW_none, errW_some] <;> rfl)) | (simp [*, errW_none, errW_some] <;> rfl), by repeat (first | (with_reducible first | exact HB.out | apply bA_ | apply bN_ | apply bD_ | refine bS_ ?_ GE202.out) | exact HB.out)⟩
   ·rw [if_neg c12] at H
    exact absurd H (by simp)
  ·rw [if_neg c11] at H
   have c11b0 : (a0 == 69) = false := beq_eq_false_iff_ne.mpr c11
   have c11b1 : (a0 != 69) = true := bne_iff_ne.mpr c11
   by_cases c18 : a2 = 0
   ·rw [if_pos c18] at H
    have c18b0 : (a2 == 0) = true := beq_iff_eq.mpr c18
    have c18b1 : (a2 != 0) = false := bne_eq_false_iff_eq.mpr c18
    clear c18
    simp only [Option.some.injEq, Prod.mk.injEq] at H
    obtain ⟨rfl, rfl, rfl, rfl, rfl⟩ := H
    go_enter Tryd.func55, Tryd.ntmps55
    go_wp2_with (first | ((with_reducible refine gate_dst (N := 6) rfl ?_); refine box_event ?hg (N := 6) ?hd (cs := #[.int .i64 0, .int .u64 0, .string ⟨#[]⟩, .int .i64 0]) (t := 24) ?hr ?_; (case hd => rfl); (case hg => rfl); (case hr => first | (go_simp; done) | (go_simp; rfl)); intro gb202 hg w19 hbox hb; replace HB := sqN_ (by repeat (first | (with_reducible first | exact HB.out | apply bA_ | apply bN_ | apply bD_) | exact HB.out)) hg hb; obtain ⟨HB, GE202⟩ := HB; have BK202 := Aside0.mk hbox; clear hb hbox hg; obtain ⟨hcz20_0, hcz20_1, hcz20_2, hcz20_3⟩ := cells4_ BK202.out; obtain ⟨hfz20_0, hfz20_1, hfz20_2, hfz20_3⟩ := froz4_ BK202.out))
    refine bodyPost_ret (results_ct rfl _ _ gb202 24 #[.int .i64 0, .int .u64 0, .string ⟨#[]⟩, .int .i64 0] (0, 0) _ rfl (by (with_reducible repeat (first | apply kN_ | apply kD_ | apply kA_)); refine blk_put (cs := #[.int .i64 0, .int .u64 0, .string ⟨#[]⟩, .int .i64 0]) ?_ 3 _ rfl; (with_reducible repeat (first | apply kN_ | apply kD_ | apply kA_)); refine blk_put (cs := #[.int .i64 0, .int .u64 0, .string ⟨#[]⟩, .int .i64 0]) ?_ 2 _ rfl; (with_reducible repeat (first | apply kN_ | apply kD_ | apply kA_)); refine blk_put (cs := #[.int .i64 0, .int .u64 0, .string ⟨#[]⟩, .int .i64 0]) ?_ 1 _ rfl; (with_reducible repeat (first | apply kN_ | apply kD_ | apply kA_)); refine blk_put (cs := #[.int .i64 0, .int .u64 0, .string ⟨#[]⟩, .int .i64 0]) ?_ 0 _ rfl; (with_reducible repeat (first | apply kN_ | apply kD_ | apply kA_)); exact BK202.out) Tryd.underlying24 rfl (by kernel_rfl)) rfl ?_
    exact ⟨by first | rfl | (simp [errW_none, errW_some] <;> rfl) | (simp [*, errW_none, errW_some] <;> rfl), by repeat (first | (with_reducible first | exact HB.out | apply bA_ | apply bN_ | apply bD_ | refine bS_ ?_ GE202.out) | exact HB.out)⟩
   ·rw [if_neg c18] at H
    have c18b0 : (a2 == 0) = false := beq_eq_false_iff_ne.mpr c18
    have c18b1 : (a2 != 0) = true := bne_iff_ne.mpr c18
    by_cases c21 : a0 = 63
    ·rw [if_pos c21] at H
     have c21b0 : (a0 == 63) = true := beq_iff_eq.mpr c21
     have c21b1 : (a0 != 63) = false := bne_eq_false_iff_eq.mpr c21
     clear c21
     replace H := Option.bind_eq_some_iff.mp H
     obtain ⟨⟨t211, t212, t213, t214⟩, A220, H⟩ := H
     replace H : (some (t211, t212, t213, t214, 0)) = some (r1, r2, r3, r4, r5) := H
     have A22 := Aside0.mk A220
     clear A220
     simp only [Option.some.injEq, Prod.mk.injEq] at H
     obtain ⟨rfl, rfl, rfl, rfl, rfl⟩ := H
     go_enter Tryd.func55, Tryd.ntmps55
     go_wp2_with (first | ((with_reducible refine gate_dst (N := 6) rfl ?_); refine box_event ?hg (N := 6) ?hd (cs := #[.int .i64 0, .int .u64 0, .string ⟨#[]⟩, .int .i64 0]) (t := 24) ?hr ?_; (case hd => rfl); (case hg => rfl); (case hr => first | (go_simp; done) | (go_simp; rfl)); intro gb202 hg w23 hbox hb; replace HB := sqN_ (by repeat (first | (with_reducible first | exact HB.out | apply bA_ | apply bN_ | apply bD_) | exact HB.out)) hg hb; obtain ⟨HB, GE202⟩ := HB; have BK202 := Aside0.mk hbox; clear hb hbox hg) | ((with_reducible refine gate_callee (f := 44) rfl ?_); refine goesL_ (some 32) rfl rfl Tryd.func44 (by kernel_rfl) rfl #[.int .u64 (IntKind.u64.wrap (Int.tdiv a1 a2))] rfl (by (try simp only [List.map_toArray, List.map_cons, List.map_nil]); first | done | rfl) ?_; (with_reducible refine (value_integer.calls (IntKind.u64.wrap (Int.tdiv a1 a2)) t211 t212 t213 t214 _ A22.out).mono ?_); rintro e w24 ⟨rfl, hb⟩; refine ⟨_, rfl, ?_⟩; replace BK202 := sqB_ BK202 (by (with_reducible repeat (first | apply kN_ | apply kD_ | apply kA_)); exact BK202.out) hb; replace HB := sqS_ (by repeat (first | (with_reducible first | exact HB.out | apply bA_ | apply bN_ | apply bD_ | refine bS_ ?_ GE202.out) | exact HB.out)) hb; (try clear hb); (try clear hb2); (try clear hk); (try clear hi); obtain ⟨hcz25_0, hcz25_1, hcz25_2, hcz25_3⟩ := cells4_ BK202.out; obtain ⟨hfz25_0, hfz25_1, hfz25_2, hfz25_3⟩ := froz4_ BK202.out))
     refine bodyPost_ret (results_ct rfl _ _ gb202 24 #[.int .i64 t211, .int .u64 t212, .string t213, .int .i64 t214] (0, 0) _ rfl (by (with_reducible repeat (first | apply kN_ | apply kD_ | apply kA_)); refine blk_put (cs := #[.int .i64 t211, .int .u64 t212, .string t213, .int .i64 0]) ?_ 3 _ rfl; (with_reducible repeat (first | apply kN_ | apply kD_ | apply kA_)); refine blk_put (cs := #[.int .i64 t211, .int .u64 t212, .string ⟨#[]⟩, .int .i64 0]) ?_ 2 _ rfl; (with_reducible repeat (first | apply kN_ | apply kD_ | apply kA_)); refine blk_put (cs := #[.int .i64 t211, .int .u64 0, .string ⟨#[]⟩, .int .i64 0]) ?_ 1 _ rfl; (with_reducible repeat (first | apply kN_ | apply kD_ | apply kA_)); refine blk_put (cs := #[.int .i64 0, .int .u64 0, .string ⟨#[]⟩, .int .i64 0]) ?_ 0 _ rfl; (with_reducible repeat (first | apply kN_ | apply kD_ | apply kA_)); exact BK202.out) Tryd.underlying24 rfl (by kernel_rfl)) rfl ?_
     exact ⟨by first | rfl | (simp [errW_none, errW_some] <;> rfl) | (simp [*, errW_none, errW_some] <;> rfl), by repeat (first | (with_reducible first | exact HB.out | apply bA_ | apply bN_ | apply bD_ | refine bS_ ?_ GE202.out) | exact HB.out)⟩
    ·rw [if_neg c21] at H
     have c21b0 : (a0 == 63) = false := beq_eq_false_iff_ne.mpr c21
     have c21b1 : (a0 != 63) = true := bne_iff_ne.mpr c21
     replace H := Option.bind_eq_some_iff.mp H
     obtain ⟨⟨t215, t216, t217, t218⟩, A260, H⟩ := H
     replace H : (some (t215, t216, t217, t218, 0)) = some (r1, r2, r3, r4, r5) := H
     have A26 := Aside0.mk A260
     clear A260
     simp only [Option.some.injEq, Prod.mk.injEq] at H
     obtain ⟨rfl, rfl, rfl, rfl, rfl⟩ := H
     go_enter Tryd.func55, Tryd.ntmps55
     go_wp2_with (first | ((with_reducible refine gate_dst (N := 6) rfl ?_); refine box_event ?hg (N := 6) ?hd (cs := #[.int .i64 0, .int .u64 0, .string ⟨#[]⟩, .int .i64 0]) (t := 24) ?hr ?_; (case hd => rfl); (case hg => rfl); (case hr => first | (go_simp; done) | (go_simp; rfl)); intro gb202 hg w27 hbox hb; replace HB := sqN_ (by repeat (first | (with_reducible first | exact HB.out | apply bA_ | apply bN_ | apply bD_) | exact HB.out)) hg hb; obtain ⟨HB, GE202⟩ := HB; have BK202 := Aside0.mk hbox; clear hb hbox hg) | ((with_reducible refine gate_callee (f := 44) rfl ?_); refine goesL_ (some 36) rfl rfl Tryd.func44 (by kernel_rfl) rfl #[.int .u64 (Int.tmod a1 a2)] rfl (by (try simp only [List.map_toArray, List.map_cons, List.map_nil]); first | done | rfl) ?_; (with_reducible refine (value_integer.calls (Int.tmod a1 a2) t215 t216 t217 t218 _ A26.out).mono ?_); rintro e w28 ⟨rfl, hb⟩; refine ⟨_, rfl, ?_⟩; replace BK202 := sqB_ BK202 (by (with_reducible repeat (first | apply kN_ | apply kD_ | apply kA_)); exact BK202.out) hb; replace HB := sqS_ (by repeat (first | (with_reducible first | exact HB.out | apply bA_ | apply bN_ | apply bD_ | refine bS_ ?_ GE202.out) | exact HB.out)) hb; (try clear hb); (try clear hb2); (try clear hk); (try clear hi); obtain ⟨hcz29_0, hcz29_1, hcz29_2, hcz29_3⟩ := cells4_ BK202.out; obtain ⟨hfz29_0, hfz29_1, hfz29_2, hfz29_3⟩ := froz4_ BK202.out))
     refine bodyPost_ret (results_ct rfl _ _ gb202 24 #[.int .i64 t215, .int .u64 t216, .string t217, .int .i64 t218] (0, 0) _ rfl (by (with_reducible repeat (first | apply kN_ | apply kD_ | apply kA_)); refine blk_put (cs := #[.int .i64 t215, .int .u64 t216, .string t217, .int .i64 0]) ?_ 3 _ rfl; (with_reducible repeat (first | apply kN_ | apply kD_ | apply kA_)); refine blk_put (cs := #[.int .i64 t215, .int .u64 t216, .string ⟨#[]⟩, .int .i64 0]) ?_ 2 _ rfl; (with_reducible repeat (first | apply kN_ | apply kD_ | apply kA_)); refine blk_put (cs := #[.int .i64 t215, .int .u64 0, .string ⟨#[]⟩, .int .i64 0]) ?_ 1 _ rfl; (with_reducible repeat (first | apply kN_ | apply kD_ | apply kA_)); refine blk_put (cs := #[.int .i64 0, .int .u64 0, .string ⟨#[]⟩, .int .i64 0]) ?_ 0 _ rfl; (with_reducible repeat (first | apply kN_ | apply kD_ | apply kA_)); exact BK202.out) Tryd.underlying24 rfl (by kernel_rfl)) rfl ?_
     exact ⟨by first | rfl | (simp [errW_none, errW_some] <;> rfl) | (simp [*, errW_none, errW_some] <;> rfl), by repeat (first | (with_reducible first | exact HB.out | apply bA_ | apply bN_ | apply bD_ | refine bS_ ?_ GE202.out) | exact HB.out)⟩

/-! ### value_arithmetic: function 27 -/
def value_arithmetic.f (a0 : Int) (a1 : Int) (a2 : Int) : Option (Int × Int × ByteArray × Int × Int) := if a0 = 60 then ((value_integer.f (IntKind.u64.wrap (a1 + a2))).bind fun bt220 => (some (bt220.1, bt220.2.1, bt220.2.2.1, bt220.2.2.2, 0))) else (if a0 = 61 then ((value_integer.f (IntKind.u64.wrap (a1 - a2))).bind fun bt224 => (some (bt224.1, bt224.2.1, bt224.2.2.1, bt224.2.2.2, 0))) else (if a0 = 62 then ((value_integer.f (IntKind.u64.wrap (a1 * a2))).bind fun bt228 => (some (bt228.1, bt228.2.1, bt228.2.2.1, bt228.2.2.2, 0))) else (if a0 = 65 then ((value_integer.f (Go.bits .and .u64 a1 a2)).bind fun bt232 => (some (bt232.1, bt232.2.1, bt232.2.2.1, bt232.2.2.2, 0))) else (if a0 = 66 then ((value_integer.f (Go.bits .or .u64 a1 a2)).bind fun bt236 => (some (bt236.1, bt236.2.1, bt236.2.2.1, bt236.2.2.2, 0))) else (if a0 = 67 then ((value_integer.f (Go.bits .xor .u64 a1 a2)).bind fun bt240 => (some (bt240.1, bt240.2.1, bt240.2.2.1, bt240.2.2.2, 0))) else (if a0 = 70 then (if a1 = 0 then ((value_boolean.f false).bind fun bt244 => (some (bt244.1, bt244.2.1, bt244.2.2.1, bt244.2.2.2, 0))) else ((value_boolean.f (a2 != 0)).bind fun bt248 => (some (bt248.1, bt248.2.1, bt248.2.2.1, bt248.2.2.2, 0)))) else (if a0 = 71 then (if a1 = 0 then ((value_boolean.f (a2 != 0)).bind fun bt252 => (some (bt252.1, bt252.2.1, bt252.2.2.1, bt252.2.2.2, 0))) else ((value_boolean.f true).bind fun bt256 => (some (bt256.1, bt256.2.1, bt256.2.2.1, bt256.2.2.2, 0)))) else ((value_divide.f a0 a1 a2).bind fun bt260 => (some (bt260.1, bt260.2.1, bt260.2.2.1, bt260.2.2.2.1, bt260.2.2.2.2))))))))))
set_option maxHeartbeats 8000000 in
set_option maxRecDepth 100000 in
theorem value_arithmetic.calls (a0 : Int) (a1 : Int) (a2 : Int) (r1 : Int) (r2 : Int) (r3 : ByteArray) (r4 : Int) (r5 : Int) (w : World) (h : value_arithmetic.f a0 a1 a2 = some (r1, r2, r3, r4, r5)) :
  Calls Tryd.prog 27 #[.int .i64 a0, .int .u64 a1, .int .u64 a2] w fun e w' => e = .returned (.tuple #[.agg #[.int .i64 r1, .int .u64 r2, .string r3, .int .i64 r4], .int .i64 r5]) ∧ Below w.heap.size w w' := by
 have hu24 := Tryd.underlying24
 have HB := Aside0.mk (Below.refl w.heap.size w)
 have H : (if a0 = 60 then ((value_integer.f (IntKind.u64.wrap (a1 + a2))).bind fun bt220 => (some (bt220.1, bt220.2.1, bt220.2.2.1, bt220.2.2.2, 0))) else (if a0 = 61 then ((value_integer.f (IntKind.u64.wrap (a1 - a2))).bind fun bt224 => (some (bt224.1, bt224.2.1, bt224.2.2.1, bt224.2.2.2, 0))) else (if a0 = 62 then ((value_integer.f (IntKind.u64.wrap (a1 * a2))).bind fun bt228 => (some (bt228.1, bt228.2.1, bt228.2.2.1, bt228.2.2.2, 0))) else (if a0 = 65 then ((value_integer.f (Go.bits .and .u64 a1 a2)).bind fun bt232 => (some (bt232.1, bt232.2.1, bt232.2.2.1, bt232.2.2.2, 0))) else (if a0 = 66 then ((value_integer.f (Go.bits .or .u64 a1 a2)).bind fun bt236 => (some (bt236.1, bt236.2.1, bt236.2.2.1, bt236.2.2.2, 0))) else (if a0 = 67 then ((value_integer.f (Go.bits .xor .u64 a1 a2)).bind fun bt240 => (some (bt240.1, bt240.2.1, bt240.2.2.1, bt240.2.2.2, 0))) else (if a0 = 70 then (if a1 = 0 then ((value_boolean.f false).bind fun bt244 => (some (bt244.1, bt244.2.1, bt244.2.2.1, bt244.2.2.2, 0))) else ((value_boolean.f (a2 != 0)).bind fun bt248 => (some (bt248.1, bt248.2.1, bt248.2.2.1, bt248.2.2.2, 0)))) else (if a0 = 71 then (if a1 = 0 then ((value_boolean.f (a2 != 0)).bind fun bt252 => (some (bt252.1, bt252.2.1, bt252.2.2.1, bt252.2.2.2, 0))) else ((value_boolean.f true).bind fun bt256 => (some (bt256.1, bt256.2.1, bt256.2.2.1, bt256.2.2.2, 0)))) else ((value_divide.f a0 a1 a2).bind fun bt260 => (some (bt260.1, bt260.2.1, bt260.2.2.1, bt260.2.2.2.1, bt260.2.2.2.2))))))))))) = some (r1, r2, r3, r4, r5) := h
 clear h
 by_cases c4 : a0 = 60
 ·rw [if_pos c4] at H
  have c4b0 : (a0 == 60) = true := beq_iff_eq.mpr c4
  have c4b1 : (a0 != 60) = false := bne_eq_false_iff_eq.mpr c4
  clear c4
  replace H := Option.bind_eq_some_iff.mp H
  obtain ⟨⟨t220, t221, t222, t223⟩, A50, H⟩ := H
  replace H : (some (t220, t221, t222, t223, 0)) = some (r1, r2, r3, r4, r5) := H
  have A5 := Aside0.mk A50
  clear A50
  simp only [Option.some.injEq, Prod.mk.injEq] at H
  obtain ⟨rfl, rfl, rfl, rfl, rfl⟩ := H
  go_enter Tryd.func27, Tryd.ntmps27
  go_wp2_with (first | ((with_reducible refine gate_dst (N := 6) rfl ?_); refine box_event ?hg (N := 6) ?hd (cs := #[.int .i64 0, .int .u64 0, .string ⟨#[]⟩, .int .i64 0]) (t := 24) ?hr ?_; (case hd => rfl); (case hg => rfl); (case hr => first | (go_simp; done) | (go_simp; rfl)); intro gb219 hg w6 hbox hb; replace HB := sqN_ (by repeat (first | (with_reducible first | exact HB.out | apply bA_ | apply bN_ | apply bD_) | exact HB.out)) hg hb; obtain ⟨HB, GE219⟩ := HB; have BK219 := Aside0.mk hbox; clear hb hbox hg) | ((with_reducible refine gate_callee (f := 44) rfl ?_); refine goesL_ (some 14) rfl rfl Tryd.func44 (by kernel_rfl) rfl #[.int .u64 (IntKind.u64.wrap (a1 + a2))] rfl (by (try simp only [List.map_toArray, List.map_cons, List.map_nil]); first | done | rfl) ?_; (with_reducible refine (value_integer.calls (IntKind.u64.wrap (a1 + a2)) t220 t221 t222 t223 _ A5.out).mono ?_); rintro e w7 ⟨rfl, hb⟩; refine ⟨_, rfl, ?_⟩; replace BK219 := sqB_ BK219 (by (with_reducible repeat (first | apply kN_ | apply kD_ | apply kA_)); exact BK219.out) hb; replace HB := sqS_ (by repeat (first | (with_reducible first | exact HB.out | apply bA_ | apply bN_ | apply bD_ | refine bS_ ?_ GE219.out) | exact HB.out)) hb; (try clear hb); (try clear hb2); (try clear hk); (try clear hi); obtain ⟨hcz8_0, hcz8_1, hcz8_2, hcz8_3⟩ := cells4_ BK219.out; obtain ⟨hfz8_0, hfz8_1, hfz8_2, hfz8_3⟩ := froz4_ BK219.out))
  refine bodyPost_ret (results_ct rfl _ _ gb219 24 #[.int .i64 t220, .int .u64 t221, .string t222, .int .i64 t223] (0, 0) _ rfl (by (with_reducible repeat (first | apply kN_ | apply kD_ | apply kA_)); refine blk_put (cs := #[.int .i64 t220, .int .u64 t221, .string t222, .int .i64 0]) ?_ 3 _ rfl; (with_reducible repeat (first | apply kN_ | apply kD_ | apply kA_)); refine blk_put (cs := #[.int .i64 t220, .int .u64 t221, .string ⟨#[]⟩, .int .i64 0]) ?_ 2 _ rfl; (with_reducible repeat (first | apply kN_ | apply kD_ | apply kA_)); refine blk_put (cs := #[.int .i64 t220, .int .u64 0, .string ⟨#[]⟩, .int .i64 0]) ?_ 1 _ rfl; (with_reducible repeat (first | apply kN_ | apply kD_ | apply kA_)); refine blk_put (cs := #[.int .i64 0, .int .u64 0, .string ⟨#[]⟩, .int .i64 0]) ?_ 0 _ rfl; (with_reducible repeat (first | apply kN_ | apply kD_ | apply kA_)); exact BK219.out) Tryd.underlying24 rfl (by kernel_rfl)) rfl ?_
  exact ⟨by first | rfl | (simp [errW_none, errW_some] <;> rfl) | (simp [*, errW_none, errW_some] <;> rfl), by repeat (first | (with_reducible first | exact HB.out | apply bA_ | apply bN_ | apply bD_ | refine bS_ ?_ GE219.out) | exact HB.out)⟩
 ·rw [if_neg c4] at H
  have c4b0 : (a0 == 60) = false := beq_eq_false_iff_ne.mpr c4
  have c4b1 : (a0 != 60) = true := bne_iff_ne.mpr c4
  by_cases c9 : a0 = 61
  ·rw [if_pos c9] at H
   have c9b0 : (a0 == 61) = true := beq_iff_eq.mpr c9
   have c9b1 : (a0 != 61) = false := bne_eq_false_iff_eq.mpr c9
   clear c9
   replace H := Option.bind_eq_some_iff.mp H
   obtain ⟨⟨t224, t225, t226, t227⟩, A100, H⟩ := H
   replace H : (some (t224, t225, t226, t227, 0)) = some (r1, r2, r3, r4, r5) := H
   have A10 := Aside0.mk A100
   clear A100
   simp only [Option.some.injEq, Prod.mk.injEq] at H
   obtain ⟨rfl, rfl, rfl, rfl, rfl⟩ := H
   go_enter Tryd.func27, Tryd.ntmps27
   go_wp2_with (first | ((with_reducible refine gate_dst (N := 6) rfl ?_); refine box_event ?hg (N := 6) ?hd (cs := #[.int .i64 0, .int .u64 0, .string ⟨#[]⟩, .int .i64 0]) (t := 24) ?hr ?_; (case hd => rfl); (case hg => rfl); (case hr => first | (go_simp; done) | (go_simp; rfl)); intro gb219 hg w11 hbox hb; replace HB := sqN_ (by repeat (first | (with_reducible first | exact HB.out | apply bA_ | apply bN_ | apply bD_) | exact HB.out)) hg hb; obtain ⟨HB, GE219⟩ := HB; have BK219 := Aside0.mk hbox; clear hb hbox hg) | ((with_reducible refine gate_callee (f := 44) rfl ?_); refine goesL_ (some 20) rfl rfl Tryd.func44 (by kernel_rfl) rfl #[.int .u64 (IntKind.u64.wrap (a1 - a2))] rfl (by (try simp only [List.map_toArray, List.map_cons, List.map_nil]); first | done | rfl) ?_; (with_reducible refine (value_integer.calls (IntKind.u64.wrap (a1 - a2)) t224 t225 t226 t227 _ A10.out).mono ?_); rintro e w12 ⟨rfl, hb⟩; refine ⟨_, rfl, ?_⟩; replace BK219 := sqB_ BK219 (by (with_reducible repeat (first | apply kN_ | apply kD_ | apply kA_)); exact BK219.out) hb; replace HB := sqS_ (by repeat (first | (with_reducible first | exact HB.out | apply bA_ | apply bN_ | apply bD_ | refine bS_ ?_ GE219.out) | exact HB.out)) hb; (try clear hb); (try clear hb2); (try clear hk); (try clear hi); obtain ⟨hcz13_0, hcz13_1, hcz13_2, hcz13_3⟩ := cells4_ BK219.out; obtain ⟨hfz13_0, hfz13_1, hfz13_2, hfz13_3⟩ := froz4_ BK219.out))
   refine bodyPost_ret (results_ct rfl _ _ gb219 24 #[.int .i64 t224, .int .u64 t225, .string t226, .int .i64 t227] (0, 0) _ rfl (by (with_reducible repeat (first | apply kN_ | apply kD_ | apply kA_)); refine blk_put (cs := #[.int .i64 t224, .int .u64 t225, .string t226, .int .i64 0]) ?_ 3 _ rfl; (with_reducible repeat (first | apply kN_ | apply kD_ | apply kA_)); refine blk_put (cs := #[.int .i64 t224, .int .u64 t225, .string ⟨#[]⟩, .int .i64 0]) ?_ 2 _ rfl; (with_reducible repeat (first | apply kN_ | apply kD_ | apply kA_)); refine blk_put (cs := #[.int .i64 t224, .int .u64 0, .string ⟨#[]⟩, .int .i64 0]) ?_ 1 _ rfl; (with_reducible repeat (first | apply kN_ | apply kD_ | apply kA_)); refine blk_put (cs := #[.int .i64 0, .int .u64 0, .string ⟨#[]⟩, .int .i64 0]) ?_ 0 _ rfl; (with_reducible repeat (first | apply kN_ | apply kD_ | apply kA_)); exact BK219.out) Tryd.underlying24 rfl (by kernel_rfl)) rfl ?_
   exact ⟨by first | rfl | (simp [errW_none, errW_some] <;> rfl) | (simp [*, errW_none, errW_some] <;> rfl), by repeat (first | (with_reducible first | exact HB.out | apply bA_ | apply bN_ | apply bD_ | refine bS_ ?_ GE219.out) | exact HB.out)⟩
  ·rw [if_neg c9] at H
   have c9b0 : (a0 == 61) = false := beq_eq_false_iff_ne.mpr c9
   have c9b1 : (a0 != 61) = true := bne_iff_ne.mpr c9
   by_cases c14 : a0 = 62
   ·rw [if_pos c14] at H
    have c14b0 : (a0 == 62) = true := beq_iff_eq.mpr c14
    have c14b1 : (a0 != 62) = false := bne_eq_false_iff_eq.mpr c14
    clear c14
    replace H := Option.bind_eq_some_iff.mp H
    obtain ⟨⟨t228, t229, t230, t231⟩, A150, H⟩ := H
    replace H : (some (t228, t229, t230, t231, 0)) = some (r1, r2, r3, r4, r5) := H
    have A15 := Aside0.mk A150
    clear A150
    simp only [Option.some.injEq, Prod.mk.injEq] at H
    obtain ⟨rfl, rfl, rfl, rfl, rfl⟩ := H
    go_enter Tryd.func27, Tryd.ntmps27
    go_wp2_with (first | ((with_reducible refine gate_dst (N := 6) rfl ?_); refine box_event ?hg (N := 6) ?hd (cs := #[.int .i64 0, .int .u64 0, .string ⟨#[]⟩, .int .i64 0]) (t := 24) ?hr ?_; (case hd => rfl); (case hg => rfl); (case hr => first | (go_simp; done) | (go_simp; rfl)); intro gb219 hg w16 hbox hb; replace HB := sqN_ (by repeat (first | (with_reducible first | exact HB.out | apply bA_ | apply bN_ | apply bD_) | exact HB.out)) hg hb; obtain ⟨HB, GE219⟩ := HB; have BK219 := Aside0.mk hbox; clear hb hbox hg) | ((with_reducible refine gate_callee (f := 44) rfl ?_); refine goesL_ (some 26) rfl rfl Tryd.func44 (by kernel_rfl) rfl #[.int .u64 (IntKind.u64.wrap (a1 * a2))] rfl (by (try simp only [List.map_toArray, List.map_cons, List.map_nil]); first | done | rfl) ?_; (with_reducible refine (value_integer.calls (IntKind.u64.wrap (a1 * a2)) t228 t229 t230 t231 _ A15.out).mono ?_); rintro e w17 ⟨rfl, hb⟩; refine ⟨_, rfl, ?_⟩; replace BK219 := sqB_ BK219 (by (with_reducible repeat (first | apply kN_ | apply kD_ | apply kA_)); exact BK219.out) hb; replace HB := sqS_ (by repeat (first | (with_reducible first | exact HB.out | apply bA_ | apply bN_ | apply bD_ | refine bS_ ?_ GE219.out) | exact HB.out)) hb; (try clear hb); (try clear hb2); (try clear hk); (try clear hi); obtain ⟨hcz18_0, hcz18_1, hcz18_2, hcz18_3⟩ := cells4_ BK219.out; obtain ⟨hfz18_0, hfz18_1, hfz18_2, hfz18_3⟩ := froz4_ BK219.out))
    refine bodyPost_ret (results_ct rfl _ _ gb219 24 #[.int .i64 t228, .int .u64 t229, .string t230, .int .i64 t231] (0, 0) _ rfl (by (with_reducible repeat (first | apply kN_ | apply kD_ | apply kA_)); refine blk_put (cs := #[.int .i64 t228, .int .u64 t229, .string t230, .int .i64 0]) ?_ 3 _ rfl; (with_reducible repeat (first | apply kN_ | apply kD_ | apply kA_)); refine blk_put (cs := #[.int .i64 t228, .int .u64 t229, .string ⟨#[]⟩, .int .i64 0]) ?_ 2 _ rfl; (with_reducible repeat (first | apply kN_ | apply kD_ | apply kA_)); refine blk_put (cs := #[.int .i64 t228, .int .u64 0, .string ⟨#[]⟩, .int .i64 0]) ?_ 1 _ rfl; (with_reducible repeat (first | apply kN_ | apply kD_ | apply kA_)); refine blk_put (cs := #[.int .i64 0, .int .u64 0, .string ⟨#[]⟩, .int .i64 0]) ?_ 0 _ rfl; (with_reducible repeat (first | apply kN_ | apply kD_ | apply kA_)); exact BK219.out) Tryd.underlying24 rfl (by kernel_rfl)) rfl ?_
    exact ⟨by first | rfl | (simp [errW_none, errW_some] <;> rfl) | (simp [*, errW_none, errW_some] <;> rfl), by repeat (first | (with_reducible first | exact HB.out | apply bA_ | apply bN_ | apply bD_ | refine bS_ ?_ GE219.out) | exact HB.out)⟩
   ·rw [if_neg c14] at H
    have c14b0 : (a0 == 62) = false := beq_eq_false_iff_ne.mpr c14
    have c14b1 : (a0 != 62) = true := bne_iff_ne.mpr c14
    by_cases c19 : a0 = 65
    ·rw [if_pos c19] at H
     have c19b0 : (a0 == 65) = true := beq_iff_eq.mpr c19
     have c19b1 : (a0 != 65) = false := bne_eq_false_iff_eq.mpr c19
     clear c19
     replace H := Option.bind_eq_some_iff.mp H
     obtain ⟨⟨t232, t233, t234, t235⟩, A200, H⟩ := H
     replace H : (some (t232, t233, t234, t235, 0)) = some (r1, r2, r3, r4, r5) := H
     have A20 := Aside0.mk A200
     clear A200
     simp only [Option.some.injEq, Prod.mk.injEq] at H
     obtain ⟨rfl, rfl, rfl, rfl, rfl⟩ := H
     go_enter Tryd.func27, Tryd.ntmps27
     go_wp2_with (first | ((with_reducible refine gate_dst (N := 6) rfl ?_); refine box_event ?hg (N := 6) ?hd (cs := #[.int .i64 0, .int .u64 0, .string ⟨#[]⟩, .int .i64 0]) (t := 24) ?hr ?_; (case hd => rfl); (case hg => rfl); (case hr => first | (go_simp; done) | (go_simp; rfl)); intro gb219 hg w21 hbox hb; replace HB := sqN_ (by repeat (first | (with_reducible first | exact HB.out | apply bA_ | apply bN_ | apply bD_) | exact HB.out)) hg hb; obtain ⟨HB, GE219⟩ := HB; have BK219 := Aside0.mk hbox; clear hb hbox hg) | ((with_reducible refine gate_callee (f := 44) rfl ?_); refine goesL_ (some 32) rfl rfl Tryd.func44 (by kernel_rfl) rfl #[.int .u64 (Go.bits .and .u64 a1 a2)] rfl (by (try simp only [List.map_toArray, List.map_cons, List.map_nil]); first | done | rfl) ?_; (with_reducible refine (value_integer.calls (Go.bits .and .u64 a1 a2) t232 t233 t234 t235 _ A20.out).mono ?_); rintro e w22 ⟨rfl, hb⟩; refine ⟨_, rfl, ?_⟩; replace BK219 := sqB_ BK219 (by (with_reducible repeat (first | apply kN_ | apply kD_ | apply kA_)); exact BK219.out) hb; replace HB := sqS_ (by repeat (first | (with_reducible first | exact HB.out | apply bA_ | apply bN_ | apply bD_ | refine bS_ ?_ GE219.out) | exact HB.out)) hb; (try clear hb); (try clear hb2); (try clear hk); (try clear hi); obtain ⟨hcz23_0, hcz23_1, hcz23_2, hcz23_3⟩ := cells4_ BK219.out; obtain ⟨hfz23_0, hfz23_1, hfz23_2, hfz23_3⟩ := froz4_ BK219.out))
     refine bodyPost_ret (results_ct rfl _ _ gb219 24 #[.int .i64 t232, .int .u64 t233, .string t234, .int .i64 t235] (0, 0) _ rfl (by (with_reducible repeat (first | apply kN_ | apply kD_ | apply kA_)); refine blk_put (cs := #[.int .i64 t232, .int .u64 t233, .string t234, .int .i64 0]) ?_ 3 _ rfl; (with_reducible repeat (first | apply kN_ | apply kD_ | apply kA_)); refine blk_put (cs := #[.int .i64 t232, .int .u64 t233, .string ⟨#[]⟩, .int .i64 0]) ?_ 2 _ rfl; (with_reducible repeat (first | apply kN_ | apply kD_ | apply kA_)); refine blk_put (cs := #[.int .i64 t232, .int .u64 0, .string ⟨#[]⟩, .int .i64 0]) ?_ 1 _ rfl; (with_reducible repeat (first | apply kN_ | apply kD_ | apply kA_)); refine blk_put (cs := #[.int .i64 0, .int .u64 0, .string ⟨#[]⟩, .int .i64 0]) ?_ 0 _ rfl; (with_reducible repeat (first | apply kN_ | apply kD_ | apply kA_)); exact BK219.out) Tryd.underlying24 rfl (by kernel_rfl)) rfl ?_
     exact ⟨by first | rfl | (simp [errW_none, errW_some] <;> rfl) | (simp [*, errW_none, errW_some] <;> rfl), by repeat (first | (with_reducible first | exact HB.out | apply bA_ | apply bN_ | apply bD_ | refine bS_ ?_ GE219.out) | exact HB.out)⟩
    ·rw [if_neg c19] at H
     have c19b0 : (a0 == 65) = false := beq_eq_false_iff_ne.mpr c19
     have c19b1 : (a0 != 65) = true := bne_iff_ne.mpr c19
     by_cases c24 : a0 = 66
     ·rw [if_pos c24] at H
      have c24b0 : (a0 == 66) = true := beq_iff_eq.mpr c24
      have c24b1 : (a0 != 66) = false := bne_eq_false_iff_eq.mpr c24
      clear c24
      replace H := Option.bind_eq_some_iff.mp H
      obtain ⟨⟨t236, t237, t238, t239⟩, A250, H⟩ := H
      replace H : (some (t236, t237, t238, t239, 0)) = some (r1, r2, r3, r4, r5) := H
      have A25 := Aside0.mk A250
      clear A250
      simp only [Option.some.injEq, Prod.mk.injEq] at H
      obtain ⟨rfl, rfl, rfl, rfl, rfl⟩ := H
      go_enter Tryd.func27, Tryd.ntmps27
      go_wp2_with (first | ((with_reducible refine gate_dst (N := 6) rfl ?_); refine box_event ?hg (N := 6) ?hd (cs := #[.int .i64 0, .int .u64 0, .string ⟨#[]⟩, .int .i64 0]) (t := 24) ?hr ?_; (case hd => rfl); (case hg => rfl); (case hr => first | (go_simp; done) | (go_simp; rfl)); intro gb219 hg w26 hbox hb; replace HB := sqN_ (by repeat (first | (with_reducible first | exact HB.out | apply bA_ | apply bN_ | apply bD_) | exact HB.out)) hg hb; obtain ⟨HB, GE219⟩ := HB; have BK219 := Aside0.mk hbox; clear hb hbox hg) | ((with_reducible refine gate_callee (f := 44) rfl ?_); refine goesL_ (some 38) rfl rfl Tryd.func44 (by kernel_rfl) rfl #[.int .u64 (Go.bits .or .u64 a1 a2)] rfl (by (try simp only [List.map_toArray, List.map_cons, List.map_nil]); first | done | rfl) ?_; (with_reducible refine (value_integer.calls (Go.bits .or .u64 a1 a2) t236 t237 t238 t239 _ A25.out).mono ?_); rintro e w27 ⟨rfl, hb⟩; refine ⟨_, rfl, ?_⟩; replace BK219 := sqB_ BK219 (by (with_reducible repeat (first | apply kN_ | apply kD_ | apply kA_)); exact BK219.out) hb; replace HB := sqS_ (by repeat (first | (with_reducible first | exact HB.out | apply bA_ | apply bN_ | apply bD_ | refine bS_ ?_ GE219.out) | exact HB.out)) hb; (try clear hb); (try clear hb2); (try clear hk); (try clear hi); obtain ⟨hcz28_0, hcz28_1, hcz28_2, hcz28_3⟩ := cells4_ BK219.out; obtain ⟨hfz28_0, hfz28_1, hfz28_2, hfz28_3⟩ := froz4_ BK219.out))
      refine bodyPost_ret (results_ct rfl _ _ gb219 24 #[.int .i64 t236, .int .u64 t237, .string t238, .int .i64 t239] (0, 0) _ rfl (by (with_reducible repeat (first | apply kN_ | apply kD_ | apply kA_)); refine blk_put (cs := #[.int .i64 t236, .int .u64 t237, .string t238, .int .i64 0]) ?_ 3 _ rfl; (with_reducible repeat (first | apply kN_ | apply kD_ | apply kA_)); refine blk_put (cs := #[.int .i64 t236, .int .u64 t237, .string ⟨#[]⟩, .int .i64 0]) ?_ 2 _ rfl; (with_reducible repeat (first | apply kN_ | apply kD_ | apply kA_)); refine blk_put (cs := #[.int .i64 t236, .int .u64 0, .string ⟨#[]⟩, .int .i64 0]) ?_ 1 _ rfl; (with_reducible repeat (first | apply kN_ | apply kD_ | apply kA_)); refine blk_put (cs := #[.int .i64 0, .int .u64 0, .string ⟨#[]⟩, .int .i64 0]) ?_ 0 _ rfl; (with_reducible repeat (first | apply kN_ | apply kD_ | apply kA_)); exact BK219.out) Tryd.underlying24 rfl (by kernel_rfl)) rfl ?_
      exact ⟨by first | rfl | (simp [errW_none, errW_some] <;> rfl) | (simp [*, errW_none, errW_some] <;> rfl), by repeat (first | (with_reducible first | exact HB.out | apply bA_ | apply bN_ | apply bD_ | refine bS_ ?_ GE219.out) | exact HB.out)⟩
     ·rw [if_neg c24] at H
      have c24b0 : (a0 == 66) = false := beq_eq_false_iff_ne.mpr c24
      have c24b1 : (a0 != 66) = true := bne_iff_ne.mpr c24
      by_cases c29 : a0 = 67
      ·rw [if_pos c29] at H
       have c29b0 : (a0 == 67) = true := beq_iff_eq.mpr c29
       have c29b1 : (a0 != 67) = false := bne_eq_false_iff_eq.mpr c29
       clear c29
       replace H := Option.bind_eq_some_iff.mp H
       obtain ⟨⟨t240, t241, t242, t243⟩, A300, H⟩ := H
       replace H : (some (t240, t241, t242, t243, 0)) = some (r1, r2, r3, r4, r5) := H
       have A30 := Aside0.mk A300
       clear A300
       simp only [Option.some.injEq, Prod.mk.injEq] at H
       obtain ⟨rfl, rfl, rfl, rfl, rfl⟩ := H
       go_enter Tryd.func27, Tryd.ntmps27
       go_wp2_with (first | ((with_reducible refine gate_dst (N := 6) rfl ?_); refine box_event ?hg (N := 6) ?hd (cs := #[.int .i64 0, .int .u64 0, .string ⟨#[]⟩, .int .i64 0]) (t := 24) ?hr ?_; (case hd => rfl); (case hg => rfl); (case hr => first | (go_simp; done) | (go_simp; rfl)); intro gb219 hg w31 hbox hb; replace HB := sqN_ (by repeat (first | (with_reducible first | exact HB.out | apply bA_ | apply bN_ | apply bD_) | exact HB.out)) hg hb; obtain ⟨HB, GE219⟩ := HB; have BK219 := Aside0.mk hbox; clear hb hbox hg) | ((with_reducible refine gate_callee (f := 44) rfl ?_); refine goesL_ (some 44) rfl rfl Tryd.func44 (by kernel_rfl) rfl #[.int .u64 (Go.bits .xor .u64 a1 a2)] rfl (by (try simp only [List.map_toArray, List.map_cons, List.map_nil]); first | done | rfl) ?_; (with_reducible refine (value_integer.calls (Go.bits .xor .u64 a1 a2) t240 t241 t242 t243 _ A30.out).mono ?_); rintro e w32 ⟨rfl, hb⟩; refine ⟨_, rfl, ?_⟩; replace BK219 := sqB_ BK219 (by (with_reducible repeat (first | apply kN_ | apply kD_ | apply kA_)); exact BK219.out) hb; replace HB := sqS_ (by repeat (first | (with_reducible first | exact HB.out | apply bA_ | apply bN_ | apply bD_ | refine bS_ ?_ GE219.out) | exact HB.out)) hb; (try clear hb); (try clear hb2); (try clear hk); (try clear hi); obtain ⟨hcz33_0, hcz33_1, hcz33_2, hcz33_3⟩ := cells4_ BK219.out; obtain ⟨hfz33_0, hfz33_1, hfz33_2, hfz33_3⟩ := froz4_ BK219.out))
       refine bodyPost_ret (results_ct rfl _ _ gb219 24 #[.int .i64 t240, .int .u64 t241, .string t242, .int .i64 t243] (0, 0) _ rfl (by (with_reducible repeat (first | apply kN_ | apply kD_ | apply kA_)); refine blk_put (cs := #[.int .i64 t240, .int .u64 t241, .string t242, .int .i64 0]) ?_ 3 _ rfl; (with_reducible repeat (first | apply kN_ | apply kD_ | apply kA_)); refine blk_put (cs := #[.int .i64 t240, .int .u64 t241, .string ⟨#[]⟩, .int .i64 0]) ?_ 2 _ rfl; (with_reducible repeat (first | apply kN_ | apply kD_ | apply kA_)); refine blk_put (cs := #[.int .i64 t240, .int .u64 0, .string ⟨#[]⟩, .int .i64 0]) ?_ 1 _ rfl; (with_reducible repeat (first | apply kN_ | apply kD_ | apply kA_)); refine blk_put (cs := #[.int .i64 0, .int .u64 0, .string ⟨#[]⟩, .int .i64 0]) ?_ 0 _ rfl; (with_reducible repeat (first | apply kN_ | apply kD_ | apply kA_)); exact BK219.out) Tryd.underlying24 rfl (by kernel_rfl)) rfl ?_
       exact ⟨by first | rfl | (simp [errW_none, errW_some] <;> rfl) | (simp [*, errW_none, errW_some] <;> rfl), by repeat (first | (with_reducible first | exact HB.out | apply bA_ | apply bN_ | apply bD_ | refine bS_ ?_ GE219.out) | exact HB.out)⟩
      ·rw [if_neg c29] at H
       have c29b0 : (a0 == 67) = false := beq_eq_false_iff_ne.mpr c29
       have c29b1 : (a0 != 67) = true := bne_iff_ne.mpr c29
       by_cases c34 : a0 = 70
       ·rw [if_pos c34] at H
        have c34b0 : (a0 == 70) = true := beq_iff_eq.mpr c34
        have c34b1 : (a0 != 70) = false := bne_eq_false_iff_eq.mpr c34
        clear c34
        by_cases c35 : a1 = 0
        ·rw [if_pos c35] at H
         have c35b0 : (a1 == 0) = true := beq_iff_eq.mpr c35
         have c35b1 : (a1 != 0) = false := bne_eq_false_iff_eq.mpr c35
         clear c35
         replace H := Option.bind_eq_some_iff.mp H
         obtain ⟨⟨t244, t245, t246, t247⟩, A360, H⟩ := H
         replace H : (some (t244, t245, t246, t247, 0)) = some (r1, r2, r3, r4, r5) := H
         have A36 := Aside0.mk A360
         clear A360
         simp only [Option.some.injEq, Prod.mk.injEq] at H
         obtain ⟨rfl, rfl, rfl, rfl, rfl⟩ := H
         go_enter Tryd.func27, Tryd.ntmps27
         go_wp2_with (first | ((with_reducible refine gate_dst (N := 6) rfl ?_); refine box_event ?hg (N := 6) ?hd (cs := #[.int .i64 0, .int .u64 0, .string ⟨#[]⟩, .int .i64 0]) (t := 24) ?hr ?_; (case hd => rfl); (case hg => rfl); (case hr => first | (go_simp; done) | (go_simp; rfl)); intro gb219 hg w37 hbox hb; replace HB := sqN_ (by repeat (first | (with_reducible first | exact HB.out | apply bA_ | apply bN_ | apply bD_) | exact HB.out)) hg hb; obtain ⟨HB, GE219⟩ := HB; have BK219 := Aside0.mk hbox; clear hb hbox hg) | ((with_reducible refine gate_callee (f := 43) rfl ?_); refine goesL_ (some 53) rfl rfl Tryd.func43 (by kernel_rfl) rfl #[.bool false] rfl (by (try simp only [List.map_toArray, List.map_cons, List.map_nil]); first | done | rfl) ?_; (with_reducible refine (value_boolean.calls false t244 t245 t246 t247 _ A36.out).mono ?_); rintro e w38 ⟨rfl, hb⟩; refine ⟨_, rfl, ?_⟩; replace BK219 := sqB_ BK219 (by (with_reducible repeat (first | apply kN_ | apply kD_ | apply kA_)); exact BK219.out) hb; replace HB := sqS_ (by repeat (first | (with_reducible first | exact HB.out | apply bA_ | apply bN_ | apply bD_ | refine bS_ ?_ GE219.out) | exact HB.out)) hb; (try clear hb); (try clear hb2); (try clear hk); (try clear hi); obtain ⟨hcz39_0, hcz39_1, hcz39_2, hcz39_3⟩ := cells4_ BK219.out; obtain ⟨hfz39_0, hfz39_1, hfz39_2, hfz39_3⟩ := froz4_ BK219.out))
         refine bodyPost_ret (results_ct rfl _ _ gb219 24 #[.int .i64 t244, .int .u64 t245, .string t246, .int .i64 t247] (0, 0) _ rfl (by (with_reducible repeat (first | apply kN_ | apply kD_ | apply kA_)); refine blk_put (cs := #[.int .i64 t244, .int .u64 t245, .string t246, .int .i64 0]) ?_ 3 _ rfl; (with_reducible repeat (first | apply kN_ | apply kD_ | apply kA_)); refine blk_put (cs := #[.int .i64 t244, .int .u64 t245, .string ⟨#[]⟩, .int .i64 0]) ?_ 2 _ rfl; (with_reducible repeat (first | apply kN_ | apply kD_ | apply kA_)); refine blk_put (cs := #[.int .i64 t244, .int .u64 0, .string ⟨#[]⟩, .int .i64 0]) ?_ 1 _ rfl; (with_reducible repeat (first | apply kN_ | apply kD_ | apply kA_)); refine blk_put (cs := #[.int .i64 0, .int .u64 0, .string ⟨#[]⟩, .int .i64 0]) ?_ 0 _ rfl; (with_reducible repeat (first | apply kN_ | apply kD_ | apply kA_)); exact BK219.out) Tryd.underlying24 rfl (by kernel_rfl)) rfl ?_
         exact ⟨by first | rfl | (simp [errW_none, errW_some] <;> rfl) | (simp [*, errW_none, errW_some] <;> rfl), by repeat (first | (with_reducible first | exact HB.out | apply bA_ | apply bN_ | apply bD_ | refine bS_ ?_ GE219.out) | exact HB.out)⟩
        ·rw [if_neg c35] at H
         have c35b0 : (a1 == 0) = false := beq_eq_false_iff_ne.mpr c35
         have c35b1 : (a1 != 0) = true := bne_iff_ne.mpr c35
         replace H := Option.bind_eq_some_iff.mp H
         obtain ⟨⟨t248, t249, t250, t251⟩, A400, H⟩ := H
         replace H : (some (t248, t249, t250, t251, 0)) = some (r1, r2, r3, r4, r5) := H
         have A40 := Aside0.mk A400
         clear A400
         simp only [Option.some.injEq, Prod.mk.injEq] at H
         obtain ⟨rfl, rfl, rfl, rfl, rfl⟩ := H
         go_enter Tryd.func27, Tryd.ntmps27
         go_wp2_with (first | ((with_reducible refine gate_dst (N := 6) rfl ?_); refine box_event ?hg (N := 6) ?hd (cs := #[.int .i64 0, .int .u64 0, .string ⟨#[]⟩, .int .i64 0]) (t := 24) ?hr ?_; (case hd => rfl); (case hg => rfl); (case hr => first | (go_simp; done) | (go_simp; rfl)); intro gb219 hg w41 hbox hb; replace HB := sqN_ (by repeat (first | (with_reducible first | exact HB.out | apply bA_ | apply bN_ | apply bD_) | exact HB.out)) hg hb; obtain ⟨HB, GE219⟩ := HB; have BK219 := Aside0.mk hbox; clear hb hbox hg) | ((with_reducible refine gate_callee (f := 43) rfl ?_); refine goesL_ (some 53) rfl rfl Tryd.func43 (by kernel_rfl) rfl #[.bool (a2 != 0)] rfl (by (try simp only [List.map_toArray, List.map_cons, List.map_nil]); first | done | rfl) ?_; (with_reducible refine (value_boolean.calls (a2 != 0) t248 t249 t250 t251 _ A40.out).mono ?_); rintro e w42 ⟨rfl, hb⟩; refine ⟨_, rfl, ?_⟩; replace BK219 := sqB_ BK219 (by (with_reducible repeat (first | apply kN_ | apply kD_ | apply kA_)); exact BK219.out) hb; replace HB := sqS_ (by repeat (first | (with_reducible first | exact HB.out | apply bA_ | apply bN_ | apply bD_ | refine bS_ ?_ GE219.out) | exact HB.out)) hb; (try clear hb); (try clear hb2); (try clear hk); (try clear hi); obtain ⟨hcz43_0, hcz43_1, hcz43_2, hcz43_3⟩ := cells4_ BK219.out; obtain ⟨hfz43_0, hfz43_1, hfz43_2, hfz43_3⟩ := froz4_ BK219.out))
         refine bodyPost_ret (results_ct rfl _ _ gb219 24 #[.int .i64 t248, .int .u64 t249, .string t250, .int .i64 t251] (0, 0) _ rfl (by (with_reducible repeat (first | apply kN_ | apply kD_ | apply kA_)); refine blk_put (cs := #[.int .i64 t248, .int .u64 t249, .string t250, .int .i64 0]) ?_ 3 _ rfl; (with_reducible repeat (first | apply kN_ | apply kD_ | apply kA_)); refine blk_put (cs := #[.int .i64 t248, .int .u64 t249, .string ⟨#[]⟩, .int .i64 0]) ?_ 2 _ rfl; (with_reducible repeat (first | apply kN_ | apply kD_ | apply kA_)); refine blk_put (cs := #[.int .i64 t248, .int .u64 0, .string ⟨#[]⟩, .int .i64 0]) ?_ 1 _ rfl; (with_reducible repeat (first | apply kN_ | apply kD_ | apply kA_)); refine blk_put (cs := #[.int .i64 0, .int .u64 0, .string ⟨#[]⟩, .int .i64 0]) ?_ 0 _ rfl; (with_reducible repeat (first | apply kN_ | apply kD_ | apply kA_)); exact BK219.out) Tryd.underlying24 rfl (by kernel_rfl)) rfl ?_
         exact ⟨by first | rfl | (simp [errW_none, errW_some] <;> rfl) | (simp [*, errW_none, errW_some] <;> rfl), by repeat (first | (with_reducible first | exact HB.out | apply bA_ | apply bN_ | apply bD_ | refine bS_ ?_ GE219.out) | exact HB.out)⟩
       ·rw [if_neg c34] at H
        have c34b0 : (a0 == 70) = false := beq_eq_false_iff_ne.mpr c34
        have c34b1 : (a0 != 70) = true := bne_iff_ne.mpr c34
        by_cases c44 : a0 = 71
        ·rw [if_pos c44] at H
         have c44b0 : (a0 == 71) = true := beq_iff_eq.mpr c44
         have c44b1 : (a0 != 71) = false := bne_eq_false_iff_eq.mpr c44
         clear c44
         by_cases c45 : a1 = 0
         ·rw [if_pos c45] at H
          have c45b0 : (a1 == 0) = true := beq_iff_eq.mpr c45
          have c45b1 : (a1 != 0) = false := bne_eq_false_iff_eq.mpr c45
          clear c45
          replace H := Option.bind_eq_some_iff.mp H
          obtain ⟨⟨t252, t253, t254, t255⟩, A460, H⟩ := H
          replace H : (some (t252, t253, t254, t255, 0)) = some (r1, r2, r3, r4, r5) := H
          have A46 := Aside0.mk A460
          clear A460
          simp only [Option.some.injEq, Prod.mk.injEq] at H
          obtain ⟨rfl, rfl, rfl, rfl, rfl⟩ := H
          go_enter Tryd.func27, Tryd.ntmps27
          go_wp2_with (first | ((with_reducible refine gate_dst (N := 6) rfl ?_); refine box_event ?hg (N := 6) ?hd (cs := #[.int .i64 0, .int .u64 0, .string ⟨#[]⟩, .int .i64 0]) (t := 24) ?hr ?_; (case hd => rfl); (case hg => rfl); (case hr => first | (go_simp; done) | (go_simp; rfl)); intro gb219 hg w47 hbox hb; replace HB := sqN_ (by repeat (first | (with_reducible first | exact HB.out | apply bA_ | apply bN_ | apply bD_) | exact HB.out)) hg hb; obtain ⟨HB, GE219⟩ := HB; have BK219 := Aside0.mk hbox; clear hb hbox hg) | ((with_reducible refine gate_callee (f := 43) rfl ?_); refine goesL_ (some 62) rfl rfl Tryd.func43 (by kernel_rfl) rfl #[.bool (a2 != 0)] rfl (by (try simp only [List.map_toArray, List.map_cons, List.map_nil]); first | done | rfl) ?_; (with_reducible refine (value_boolean.calls (a2 != 0) t252 t253 t254 t255 _ A46.out).mono ?_); rintro e w48 ⟨rfl, hb⟩; refine ⟨_, rfl, ?_⟩; replace BK219 := sqB_ BK219 (by (with_reducible repeat (first | apply kN_ | apply kD_ | apply kA_)); exact BK219.out) hb; replace HB := sqS_ (by repeat (first | (with_reducible first | exact HB.out | apply bA_ | apply bN_ | apply bD_ | refine bS_ ?_ GE219.out) | exact HB.out)) hb; (try clear hb); (try clear hb2); (try clear hk); (try clear hi); obtain ⟨hcz49_0, hcz49_1, hcz49_2, hcz49_3⟩ := cells4_ BK219.out; obtain ⟨hfz49_0, hfz49_1, hfz49_2, hfz49_3⟩ := froz4_ BK219.out))
          refine bodyPost_ret (results_ct rfl _ _ gb219 24 #[.int .i64 t252, .int .u64 t253, .string t254, .int .i64 t255] (0, 0) _ rfl (by (with_reducible repeat (first | apply kN_ | apply kD_ | apply kA_)); refine blk_put (cs := #[.int .i64 t252, .int .u64 t253, .string t254, .int .i64 0]) ?_ 3 _ rfl; (with_reducible repeat (first | apply kN_ | apply kD_ | apply kA_)); refine blk_put (cs := #[.int .i64 t252, .int .u64 t253, .string ⟨#[]⟩, .int .i64 0]) ?_ 2 _ rfl; (with_reducible repeat (first | apply kN_ | apply kD_ | apply kA_)); refine blk_put (cs := #[.int .i64 t252, .int .u64 0, .string ⟨#[]⟩, .int .i64 0]) ?_ 1 _ rfl; (with_reducible repeat (first | apply kN_ | apply kD_ | apply kA_)); refine blk_put (cs := #[.int .i64 0, .int .u64 0, .string ⟨#[]⟩, .int .i64 0]) ?_ 0 _ rfl; (with_reducible repeat (first | apply kN_ | apply kD_ | apply kA_)); exact BK219.out) Tryd.underlying24 rfl (by kernel_rfl)) rfl ?_
          exact ⟨by first | rfl | (simp [errW_none, errW_some] <;> rfl) | (simp [*, errW_none, errW_some] <;> rfl), by repeat (first | (with_reducible first | exact HB.out | apply bA_ | apply bN_ | apply bD_ | refine bS_ ?_ GE219.out) | exact HB.out)⟩
         ·rw [if_neg c45] at H
          have c45b0 : (a1 == 0) = false := beq_eq_false_iff_ne.mpr c45
          have c45b1 : (a1 != 0) = true := bne_iff_ne.mpr c45
          replace H := Option.bind_eq_some_iff.mp H
          obtain ⟨⟨t256, t257, t258, t259⟩, A500, H⟩ := H
          replace H : (some (t256, t257, t258, t259, 0)) = some (r1, r2, r3, r4, r5) := H
          have A50 := Aside0.mk A500
          clear A500
          simp only [Option.some.injEq, Prod.mk.injEq] at H
          obtain ⟨rfl, rfl, rfl, rfl, rfl⟩ := H
          go_enter Tryd.func27, Tryd.ntmps27
          go_wp2_with (first | ((with_reducible refine gate_dst (N := 6) rfl ?_); refine box_event ?hg (N := 6) ?hd (cs := #[.int .i64 0, .int .u64 0, .string ⟨#[]⟩, .int .i64 0]) (t := 24) ?hr ?_; (case hd => rfl); (case hg => rfl); (case hr => first | (go_simp; done) | (go_simp; rfl)); intro gb219 hg w51 hbox hb; replace HB := sqN_ (by repeat (first | (with_reducible first | exact HB.out | apply bA_ | apply bN_ | apply bD_) | exact HB.out)) hg hb; obtain ⟨HB, GE219⟩ := HB; have BK219 := Aside0.mk hbox; clear hb hbox hg) | ((with_reducible refine gate_callee (f := 43) rfl ?_); refine goesL_ (some 62) rfl rfl Tryd.func43 (by kernel_rfl) rfl #[.bool true] rfl (by (try simp only [List.map_toArray, List.map_cons, List.map_nil]); first | done | rfl) ?_; (with_reducible refine (value_boolean.calls true t256 t257 t258 t259 _ A50.out).mono ?_); rintro e w52 ⟨rfl, hb⟩; refine ⟨_, rfl, ?_⟩; replace BK219 := sqB_ BK219 (by (with_reducible repeat (first | apply kN_ | apply kD_ | apply kA_)); exact BK219.out) hb; replace HB := sqS_ (by repeat (first | (with_reducible first | exact HB.out | apply bA_ | apply bN_ | apply bD_ | refine bS_ ?_ GE219.out) | exact HB.out)) hb; (try clear hb); (try clear hb2); (try clear hk); (try clear hi); obtain ⟨hcz53_0, hcz53_1, hcz53_2, hcz53_3⟩ := cells4_ BK219.out; obtain ⟨hfz53_0, hfz53_1, hfz53_2, hfz53_3⟩ := froz4_ BK219.out))
          refine bodyPost_ret (results_ct rfl _ _ gb219 24 #[.int .i64 t256, .int .u64 t257, .string t258, .int .i64 t259] (0, 0) _ rfl (by (with_reducible repeat (first | apply kN_ | apply kD_ | apply kA_)); refine blk_put (cs := #[.int .i64 t256, .int .u64 t257, .string t258, .int .i64 0]) ?_ 3 _ rfl; (with_reducible repeat (first | apply kN_ | apply kD_ | apply kA_)); refine blk_put (cs := #[.int .i64 t256, .int .u64 t257, .string ⟨#[]⟩, .int .i64 0]) ?_ 2 _ rfl; (with_reducible repeat (first | apply kN_ | apply kD_ | apply kA_)); refine blk_put (cs := #[.int .i64 t256, .int .u64 0, .string ⟨#[]⟩, .int .i64 0]) ?_ 1 _ rfl; (with_reducible repeat (first | apply kN_ | apply kD_ | apply kA_)); refine blk_put (cs := #[.int .i64 0, .int .u64 0, .string ⟨#[]⟩, .int .i64 0]) ?_ 0 _ rfl; (with_reducible repeat (first | apply kN_ | apply kD_ | apply kA_)); exact BK219.out) Tryd.underlying24 rfl (by kernel_rfl)) rfl ?_
          exact ⟨by first | rfl | (simp [errW_none, errW_some] <;> rfl) | (simp [*, errW_none, errW_some] <;> rfl), by repeat (first | (with_reducible first | exact HB.out | apply bA_ | apply bN_ | apply bD_ | refine bS_ ?_ GE219.out) | exact HB.out)⟩
        ·rw [if_neg c44] at H
         have c44b0 : (a0 == 71) = false := beq_eq_false_iff_ne.mpr c44
         have c44b1 : (a0 != 71) = true := bne_iff_ne.mpr c44
         replace H := Option.bind_eq_some_iff.mp H
         obtain ⟨⟨t260, t261, t262, t263, t264⟩, A540, H⟩ := H
         replace H : (some (t260, t261, t262, t263, t264)) = some (r1, r2, r3, r4, r5) := H
         have A54 := Aside0.mk A540
         clear A540
         simp only [Option.some.injEq, Prod.mk.injEq] at H
         obtain ⟨rfl, rfl, rfl, rfl, rfl⟩ := H
         go_enter Tryd.func27, Tryd.ntmps27
         go_wp2_with (first | ((with_reducible refine gate_dst (N := 6) rfl ?_); refine box_event ?hg (N := 6) ?hd (cs := #[.int .i64 0, .int .u64 0, .string ⟨#[]⟩, .int .i64 0]) (t := 24) ?hr ?_; (case hd => rfl); (case hg => rfl); (case hr => first | (go_simp; done) | (go_simp; rfl)); intro gb219 hg w55 hbox hb; replace HB := sqN_ (by repeat (first | (with_reducible first | exact HB.out | apply bA_ | apply bN_ | apply bD_) | exact HB.out)) hg hb; obtain ⟨HB, GE219⟩ := HB; have BK219 := Aside0.mk hbox; clear hb hbox hg) | ((with_reducible refine gate_callee (f := 55) rfl ?_); refine goesL_ (some 66) rfl rfl Tryd.func55 (by kernel_rfl) rfl #[.int .i64 a0, .int .u64 a1, .int .u64 a2] rfl (by (try simp only [List.map_toArray, List.map_cons, List.map_nil]); first | done | rfl) ?_; (with_reducible refine (value_divide.calls a0 a1 a2 t260 t261 t262 t263 t264 _ A54.out).mono ?_); rintro e w56 ⟨rfl, hb⟩; refine ⟨_, rfl, ?_⟩; replace BK219 := sqB_ BK219 (by (with_reducible repeat (first | apply kN_ | apply kD_ | apply kA_)); exact BK219.out) hb; replace HB := sqS_ (by repeat (first | (with_reducible first | exact HB.out | apply bA_ | apply bN_ | apply bD_ | refine bS_ ?_ GE219.out) | exact HB.out)) hb; (try clear hb); (try clear hb2); (try clear hk); (try clear hi); obtain ⟨hcz57_0, hcz57_1, hcz57_2, hcz57_3⟩ := cells4_ BK219.out; obtain ⟨hfz57_0, hfz57_1, hfz57_2, hfz57_3⟩ := froz4_ BK219.out))
         refine bodyPost_ret (results_ct rfl _ _ gb219 24 #[.int .i64 t260, .int .u64 t261, .string t262, .int .i64 t263] (0, 0) _ rfl (by (with_reducible repeat (first | apply kN_ | apply kD_ | apply kA_)); refine blk_put (cs := #[.int .i64 t260, .int .u64 t261, .string t262, .int .i64 0]) ?_ 3 _ rfl; (with_reducible repeat (first | apply kN_ | apply kD_ | apply kA_)); refine blk_put (cs := #[.int .i64 t260, .int .u64 t261, .string ⟨#[]⟩, .int .i64 0]) ?_ 2 _ rfl; (with_reducible repeat (first | apply kN_ | apply kD_ | apply kA_)); refine blk_put (cs := #[.int .i64 t260, .int .u64 0, .string ⟨#[]⟩, .int .i64 0]) ?_ 1 _ rfl; (with_reducible repeat (first | apply kN_ | apply kD_ | apply kA_)); refine blk_put (cs := #[.int .i64 0, .int .u64 0, .string ⟨#[]⟩, .int .i64 0]) ?_ 0 _ rfl; (with_reducible repeat (first | apply kN_ | apply kD_ | apply kA_)); exact BK219.out) Tryd.underlying24 rfl (by kernel_rfl)) rfl ?_
         exact ⟨by first | rfl | (simp [errW_none, errW_some] <;> rfl) | (simp [*, errW_none, errW_some] <;> rfl), by repeat (first | (with_reducible first | exact HB.out | apply bA_ | apply bN_ | apply bD_ | refine bS_ ?_ GE219.out) | exact HB.out)⟩

end Go.Proofs.YtdmeglmmihaonaaDoor.PValueMid
