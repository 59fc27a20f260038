-- Written by a program of this session's (wip/print_patch.py over the kit's print) out of the translation; Lean checks it.
import Derived.Test.YtdmeglmmihaonaaDoorPValueBinaryx0
import Derived.Test.YtdmeglmmihaonaaDoorPValueBinaryx1
import Derived.Test.YtdmeglmmihaonaaDoorPValueBinaryx5
import Derived.Test.YtdmeglmmihaonaaDoorPValueBinaryx9
import Derived.Test.YtdmeglmmihaonaaDoorPValueBinaryx10
import Derived.Test.YtdmeglmmihaonaaDoorPValueBinaryx11
import Derived.Test.YtdmeglmmihaonaaDoorVValueBinaryExtP
namespace Go.Proofs.YtdmeglmmihaonaaDoor.PValueBinary
open Go.RowKit Go.Proofs.YtdmeglmmihaonaaDoor.Ext Go.Proofs.YtdmeglmmihaonaaDoorW.PrintWords Go.Proofs.YtdmeglmmihaonaaDoorW.PrintLast Go.Proofs.YtdmeglmmihaonaaDoorW.PrintMore
attribute [local go_sem] max2_int min2_int max_two min_two max_three min_three max_four min_four   -- for this text's walks alone
set_option linter.unusedVariables false
set_option linter.unusedSimpArgs false

attribute [local go_sem high] eqA24
/-! ### platformfwlaw08_ValueBinary: function 3 -/
mutual
def platformfwlaw08_ValueBinary.l0 : Nat → Int → Int → Int → Int → ByteArray → Int → Int → Int → ByteArray → Int → Option (Bool)
 | 0, _, _, _, _, _, _, _, _, _, _ => none
 | k + 1, x0, x7, x511000, x511001, x511002, x511003, x512000, x512001, x512002, x512003 => if x7 < 3 then ((value_Binary.f k x0 x511000 x511001 x511002 x511003 x512000 x512001 x512002 x512003).bind fun bt513 => ((platformfwref08_Binary.f k x0 x511000 x511001 x511002 x511003 x512000 x512001 x512002 x512003).bind fun bt519 => (if (!(bt513.1 == bt519.1) || (!(bt513.2.1 == bt519.2.1) || (!(bt513.2.2.1.toList == bt519.2.2.1.toList) || (!(bt513.2.2.2.1 == bt519.2.2.2.1))))) = true then (platformfwlaw08_ValueBinary.j1 k x0 x7 true x511000 x511001 x511002 x511003 x512000 x512001 x512002 x512003) else (platformfwlaw08_ValueBinary.j1 k x0 x7 (bt513.2.2.2.2 != bt519.2.2.2.2) x511000 x511001 x511002 x511003 x512000 x512001 x512002 x512003)))) else ((platformfwlaw08_awake.f k).bind fun t512 => (some t512))
def platformfwlaw08_ValueBinary.j1 : Nat → Int → Int → Bool → Int → Int → ByteArray → Int → Int → Int → ByteArray → Int → Option (Bool)
 | 0, _, _, _, _, _, _, _, _, _, _, _ => none
 | k + 1, x0, x7, x37, x511000, x511001, x511002, x511003, x512000, x512001, x512002, x512003 => if x37 = true then (some false) else ((platformfwhelp_Mod.f x0 18).bind fun t525 => (if x7 = 0 then ((platformfwlaw08_some.f k x511000 x511001 x511002 x511003).bind fun bt526 => ((platformfwlaw08_some.f k x512000 x512001 x512002 x512003).bind fun bt530 => (platformfwlaw08_ValueBinary.l0 k (wrap64 (60 + t525)) (wrap64 (x7 + 1)) bt526.1 bt526.2.1 bt526.2.2.1 bt526.2.2.2 bt530.1 bt530.2.1 bt530.2.2.1 bt530.2.2.2))) else (platformfwlaw08_ValueBinary.l0 k (wrap64 (60 + t525)) (wrap64 (x7 + 1)) x511000 x511001 x511002 x511003 x512000 x512001 x512002 x512003)))
end
def platformfwlaw08_ValueBinary.f (k : Nat) (a0 : Int) (a1_0 : Int) (a1_1 : Int) (a1_2 : ByteArray) (a1_3 : Int) (a2_0 : Int) (a2_1 : Int) (a2_2 : ByteArray) (a2_3 : Int) : Option (Bool) := platformfwlaw08_ValueBinary.l0 k a0 0 a1_0 a1_1 a1_2 a1_3 a2_0 a2_1 a2_2 a2_3
theorem platformfwlaw08_ValueBinary.mono_l : ∀ k, (∀ y0 y1 y2 y3 y4 y5 y6 y7 y8 y9, LeO (platformfwlaw08_ValueBinary.l0 k y0 y1 y2 y3 y4 y5 y6 y7 y8 y9) (platformfwlaw08_ValueBinary.l0 (k + 1) y0 y1 y2 y3 y4 y5 y6 y7 y8 y9)) ∧ (∀ y0 y1 y2 y3 y4 y5 y6 y7 y8 y9 y10, LeO (platformfwlaw08_ValueBinary.j1 k y0 y1 y2 y3 y4 y5 y6 y7 y8 y9 y10) (platformfwlaw08_ValueBinary.j1 (k + 1) y0 y1 y2 y3 y4 y5 y6 y7 y8 y9 y10))
 | 0 => ⟨fun _ _ _ _ _ _ _ _ _ _ r h => by simp [platformfwlaw08_ValueBinary.l0] at h, fun _ _ _ _ _ _ _ _ _ _ _ r h => by simp [platformfwlaw08_ValueBinary.j1] at h⟩
 | k + 1 => by
  obtain ⟨ih0, ih1⟩ := platformfwlaw08_ValueBinary.mono_l k
  refine ⟨?_, ?_⟩
  ·intro y0 y1 y2 y3 y4 y5 y6 y7 y8 y9
   unfold platformfwlaw08_ValueBinary.l0
   repeat' first
   | (with_reducible exact ih0 _ _ _ _ _ _ _ _ _ _)
   | (with_reducible exact ih1 _ _ _ _ _ _ _ _ _ _ _)
   | (with_reducible exact platformfwlaw08_awake.mono _)
   | (with_reducible exact platformfwlaw08_some.mono _ _ _ _ _)
   | (with_reducible exact platformfwref08_Binary.mono _ _ _ _ _ _ _ _ _ _)
   | (with_reducible exact value_Binary.mono _ _ _ _ _ _ _ _ _ _)
   | (with_reducible exact LeO.refl _)
   | (with_reducible exact LeO.none _)
   | (with_reducible refine LeO.ite ?_ ?_)
   | (with_reducible refine LeO.bind ?_ (fun _ => ?_))
   | exact ih0 _ _ _ _ _ _ _ _ _ _
   | exact ih1 _ _ _ _ _ _ _ _ _ _ _
   | exact platformfwlaw08_awake.mono _
   | exact platformfwlaw08_some.mono _ _ _ _ _
   | exact platformfwref08_Binary.mono _ _ _ _ _ _ _ _ _ _
   | exact value_Binary.mono _ _ _ _ _ _ _ _ _ _
   | exact LeO.none _
   | refine LeO.ite ?_ ?_
   | refine LeO.bind ?_ (fun _ => ?_)
  ·intro y0 y1 y2 y3 y4 y5 y6 y7 y8 y9 y10
   unfold platformfwlaw08_ValueBinary.j1
   repeat' first
   | (with_reducible exact ih0 _ _ _ _ _ _ _ _ _ _)
   | (with_reducible exact ih1 _ _ _ _ _ _ _ _ _ _ _)
   | (with_reducible exact platformfwlaw08_awake.mono _)
   | (with_reducible exact platformfwlaw08_some.mono _ _ _ _ _)
   | (with_reducible exact platformfwref08_Binary.mono _ _ _ _ _ _ _ _ _ _)
   | (with_reducible exact value_Binary.mono _ _ _ _ _ _ _ _ _ _)
   | (with_reducible exact LeO.refl _)
   | (with_reducible exact LeO.none _)
   | (with_reducible refine LeO.ite ?_ ?_)
   | (with_reducible refine LeO.bind ?_ (fun _ => ?_))
   | exact ih0 _ _ _ _ _ _ _ _ _ _
   | exact ih1 _ _ _ _ _ _ _ _ _ _ _
   | exact platformfwlaw08_awake.mono _
   | exact platformfwlaw08_some.mono _ _ _ _ _
   | exact platformfwref08_Binary.mono _ _ _ _ _ _ _ _ _ _
   | exact value_Binary.mono _ _ _ _ _ _ _ _ _ _
   | exact LeO.none _
   | refine LeO.ite ?_ ?_
   | refine LeO.bind ?_ (fun _ => ?_)
theorem platformfwlaw08_ValueBinary.mono : ∀ a0 a1 a2 a3 a4 a5 a6 a7 a8 k, LeO (platformfwlaw08_ValueBinary.f k a0 a1 a2 a3 a4 a5 a6 a7 a8) (platformfwlaw08_ValueBinary.f (k + 1) a0 a1 a2 a3 a4 a5 a6 a7 a8) := by
 intro a0 a1 a2 a3 a4 a5 a6 a7 a8 k
 obtain ⟨ih0, ih1⟩ := platformfwlaw08_ValueBinary.mono_l k
 unfold platformfwlaw08_ValueBinary.f
 repeat' first
   | (with_reducible exact ih0 _ _ _ _ _ _ _ _ _ _)
   | (with_reducible exact ih1 _ _ _ _ _ _ _ _ _ _ _)
   | (with_reducible exact platformfwlaw08_awake.mono _)
   | (with_reducible exact platformfwlaw08_some.mono _ _ _ _ _)
   | (with_reducible exact platformfwref08_Binary.mono _ _ _ _ _ _ _ _ _ _)
   | (with_reducible exact value_Binary.mono _ _ _ _ _ _ _ _ _ _)
   | (with_reducible exact LeO.refl _)
   | (with_reducible exact LeO.none _)
   | (with_reducible refine LeO.ite ?_ ?_)
   | (with_reducible refine LeO.bind ?_ (fun _ => ?_))
   | exact ih0 _ _ _ _ _ _ _ _ _ _
   | exact ih1 _ _ _ _ _ _ _ _ _ _ _
   | exact platformfwlaw08_awake.mono _
   | exact platformfwlaw08_some.mono _ _ _ _ _
   | exact platformfwref08_Binary.mono _ _ _ _ _ _ _ _ _ _
   | exact value_Binary.mono _ _ _ _ _ _ _ _ _ _
   | exact LeO.none _
   | refine LeO.ite ?_ ?_
   | refine LeO.bind ?_ (fun _ => ?_)
set_option maxHeartbeats 8000000 in
set_option maxRecDepth 100000 in
theorem platformfwlaw08_ValueBinary.calls (k : Nat) (a0 : Int) (a1_0 : Int) (a1_1 : Int) (a1_2 : ByteArray) (a1_3 : Int) (a2_0 : Int) (a2_1 : Int) (a2_2 : ByteArray) (a2_3 : Int) (r : Bool) (w : World) (hT_ : w.cell? ⟨6, 15, none⟩ = some (.int .u8 4)) (hr_ : Aside0 (r = true)) (h : platformfwlaw08_ValueBinary.f k a0 a1_0 a1_1 a1_2 a1_3 a2_0 a2_1 a2_2 a2_3 = some r) :
  Calls Tryd.prog 3 #[.int .i64 a0, .agg #[.int .i64 a1_0, .int .u64 a1_1, .string a1_2, .int .i64 a1_3], .agg #[.int .i64 a2_0, .int .u64 a2_1, .string a2_2, .int .i64 a2_3]] w fun e w' => e = .returned (.bool r) ∧ Below w.heap.size w w' := by
 have HTT_ := Aside0.mk hT_
 clear hT_
 have hu24 := Tryd.underlying24
 have HB := Aside0.mk (Below.refl w.heap.size w)
 have H : (platformfwlaw08_ValueBinary.l0 k a0 0 a1_0 a1_1 a1_2 a1_3 a2_0 a2_1 a2_2 a2_3) = some r := h
 clear h
 have H' := Aside0.mk H
 clear H
 go_enter Tryd.func3, Tryd.ntmps3
 go_wp2_with (first | ((with_reducible refine gate_dst (N := 4) rfl ?_); refine box_event ?hg (N := 4) ?hd (cs := #[.int .i64 a1_0, .int .u64 a1_1, .string a1_2, .int .i64 a1_3]) (t := 24) ?hr ?_; (case hd => rfl); (case hg => rfl); (case hr => first | (go_simp; done) | (go_simp; rfl)); intro gb510 hg w4 hbox hb; have n0_ := Aside0.mk (below_step (by repeat (first | (with_reducible first | exact HB.out | apply bA_ | apply bN_ | apply bD_) | exact HB.out)) hb); have n1_ := Aside0.mk (hbox); have n2_ := Aside0.mk ((by rw [hg]; exact (below_size (by repeat (first | (with_reducible first | exact HB.out | apply bA_ | apply bN_ | apply bD_) | exact HB.out))) : w.heap.size ≤ gb510)); have n3_ := Aside0.mk ((by rw [hg]; exact (below_size (by repeat (first | (with_reducible first | exact HB.out | apply bA_ | apply bN_ | apply bD_) | exact HB.out))) : w.heap.size ≤ gb510)); clear HB; have HB := n0_; have BK510 := n1_; have GW510 := n2_; have GE510 := n3_; clear n0_ n1_ n2_ n3_; clear hb hbox hg) | ((with_reducible refine gate_dst (N := 5) rfl ?_); refine box_event ?hg (N := 5) ?hd (cs := #[.int .i64 a2_0, .int .u64 a2_1, .string a2_2, .int .i64 a2_3]) (t := 24) ?hr ?_; (case hd => rfl); (case hg => rfl); (case hr => first | (go_simp; done) | (go_simp; rfl)); intro gb511 hg w5 hbox hb; have n0_ := Aside0.mk (blk_below (g := gb510) (o := .cells #[.int .i64 a1_0, .int .u64 a1_1, .string a1_2, .int .i64 a1_3] 24 (0, 0)) (by (with_reducible repeat (first | apply kN_ | apply kD_ | apply kA_)); exact BK510.out) hb); have n1_ := Aside0.mk (below_step (by repeat (first | (with_reducible first | exact HB.out | apply bA_ | apply bN_ | apply bD_ | refine bS_ ?_ GE510.out) | exact HB.out)) hb); have n2_ := Aside0.mk (hbox); have n3_ := Aside0.mk ((by rw [hg]; exact (below_size (by repeat (first | (with_reducible first | exact HB.out | apply bA_ | apply bN_ | apply bD_ | refine bS_ ?_ GE510.out) | exact HB.out))) : w.heap.size ≤ gb511)); have n4_ := Aside0.mk ((by rw [hg]; exact (below_size (by repeat (first | (with_reducible first | exact HB.out | apply bA_ | apply bN_ | apply bD_ | refine bS_ ?_ GE510.out) | exact HB.out))) : w.heap.size ≤ gb511)); have n5_ := Aside0.mk ((by rw [hg]; exact Nat.ne_of_lt (blk_lt (g := gb510) (o := .cells #[.int .i64 a1_0, .int .u64 a1_1, .string a1_2, .int .i64 a1_3] 24 (0, 0)) (by (with_reducible repeat (first | apply kN_ | apply kD_ | apply kA_)); exact BK510.out)) : gb510 ≠ gb511)); have n6_ := Aside0.mk ((by rw [hg]; exact Nat.ne_of_gt (blk_lt (g := gb510) (o := .cells #[.int .i64 a1_0, .int .u64 a1_1, .string a1_2, .int .i64 a1_3] 24 (0, 0)) (by (with_reducible repeat (first | apply kN_ | apply kD_ | apply kA_)); exact BK510.out)) : gb511 ≠ gb510)); clear BK510; clear HB; have BK510 := n0_; have HB := n1_; have BK511 := n2_; have GW511 := n3_; have GE511 := n4_; have NB510_511 := n5_; have NB511_510 := n6_; clear n0_ n1_ n2_ n3_ n4_ n5_ n6_; clear hb hbox hg))
 go_loopg [0, 7] k (fun kq v0 v7 w' => ∃ (x0_1 : Int) (x7_1 : Int) (x511000_1 : Int) (x511001_1 : Int) (x511002_1 : ByteArray) (x511003_1 : Int) (x512000_1 : Int) (x512001_1 : Int) (x512002_1 : ByteArray) (x512003_1 : Int), v0 = .int .i64 x0_1 ∧ v7 = .int .i64 x7_1 ∧ Aside0 (platformfwlaw08_ValueBinary.l0 kq x0_1 x7_1 x511000_1 x511001_1 x511002_1 x511003_1 x512000_1 x512001_1 x512002_1 x512003_1 = some r) ∧ Aside0 (kq ≤ k) ∧ Aside0 (w'.heap[gb510]? = some (.cells #[.int .i64 x511000_1, .int .u64 x511001_1, .string x511002_1, .int .i64 x511003_1] 24 (0, 0))) ∧ Aside0 (w'.heap[gb511]? = some (.cells #[.int .i64 x512000_1, .int .u64 x512001_1, .string x512002_1, .int .i64 x512003_1] 24 (0, 0))) ∧ Aside0 (Below w.heap.size w w'))
 case atStart => exact ⟨(a0), (0), (a1_0), (a1_1), (a1_2), (a1_3), (a2_0), (a2_1), (a2_2), (a2_3), (by first | rfl | (simp; done) | (simp [*]; done)), (by first | rfl | (simp; done) | (simp [*]; done)), H', ⟨Nat.le_refl _⟩, ⟨by (with_reducible repeat (first | apply kN_ | apply kD_ | apply kA_)); exact BK510.out⟩, ⟨by (with_reducible repeat (first | apply kN_ | apply kD_ | apply kA_)); exact BK511.out⟩, ⟨by repeat (first | (with_reducible first | exact HB.out | apply bA_ | apply bN_ | apply bD_ | refine bS_ ?_ GE510.out | refine bS_ ?_ GE511.out) | exact HB.out)⟩⟩
 case round =>
  clear H'
  try clear p2
  try clear c3
  obtain ⟨x0_1, x7_1, x511000_1, x511001_1, x511002_1, x511003_1, x512000_1, x512001_1, x512002_1, x512003_1, rfl, rfl, HA, HK1, BK510, BK511, HB⟩ := hrel
  cases gk with
  | zero => exact absurd HA.out (by simp [platformfwlaw08_ValueBinary.l0])
  | succ k1 =>
   have H := HA.out
   clear HA
   simp only [platformfwlaw08_ValueBinary.l0] at H
   by_cases c6 : x7_1 < 3
   ·rw [if_pos c6] at H
    have c6b0 : decide (x7_1 < 3) = true := decide_eq_true c6
    clear c6
    replace H := Option.bind_eq_some_iff.mp H
    obtain ⟨⟨t513, t514, t515, t516, t517⟩, A70, H⟩ := H
    replace H : ((platformfwref08_Binary.f k1 x0_1 x511000_1 x511001_1 x511002_1 x511003_1 x512000_1 x512001_1 x512002_1 x512003_1).bind fun bt519 => (if (!(t513 == bt519.1) || (!(t514 == bt519.2.1) || (!(t515.toList == bt519.2.2.1.toList) || (!(t516 == bt519.2.2.2.1))))) = true then (platformfwlaw08_ValueBinary.j1 k1 x0_1 x7_1 true x511000_1 x511001_1 x511002_1 x511003_1 x512000_1 x512001_1 x512002_1 x512003_1) else (platformfwlaw08_ValueBinary.j1 k1 x0_1 x7_1 (t517 != bt519.2.2.2.2) x511000_1 x511001_1 x511002_1 x511003_1 x512000_1 x512001_1 x512002_1 x512003_1))) = some r := H
    have A7 := Aside0.mk A70
    clear A70
    replace H := Option.bind_eq_some_iff.mp H
    obtain ⟨⟨t519, t520, t521, t522, t523⟩, A80, H⟩ := H
    replace H : (if (!(t513 == t519) || (!(t514 == t520) || (!(t515.toList == t521.toList) || (!(t516 == t522))))) = true then (platformfwlaw08_ValueBinary.j1 k1 x0_1 x7_1 true x511000_1 x511001_1 x511002_1 x511003_1 x512000_1 x512001_1 x512002_1 x512003_1) else (platformfwlaw08_ValueBinary.j1 k1 x0_1 x7_1 (t517 != t523) x511000_1 x511001_1 x511002_1 x511003_1 x512000_1 x512001_1 x512002_1 x512003_1)) = some r := H
    have A8 := Aside0.mk A80
    clear A80
    have HC9 := Aside0.mk H
    clear H
    have hnb10 := NB510_511.out
    have hnc10 := NB511_510.out
    obtain ⟨hcz11_0, hcz11_1, hcz11_2, hcz11_3⟩ := cells4_ BK510.out
    obtain ⟨hfz11_0, hfz11_1, hfz11_2, hfz11_3⟩ := froz4_ BK510.out
    obtain ⟨hcz12_0, hcz12_1, hcz12_2, hcz12_3⟩ := cells4_ BK511.out
    obtain ⟨hfz12_0, hfz12_1, hfz12_2, hfz12_3⟩ := froz4_ BK511.out
    go_upto_region 6 with (first | ((with_reducible refine gate_callee (f := 8) rfl ?_); refine goesL_ (some 20) rfl rfl Tryd.func8 (by kernel_rfl) rfl #[.int .i64 x0_1, .agg #[.int .i64 x511000_1, .int .u64 x511001_1, .string x511002_1, .int .i64 x511003_1], .agg #[.int .i64 x512000_1, .int .u64 x512001_1, .string x512002_1, .int .i64 x512003_1]] rfl (by (try simp only [List.map_toArray, List.map_cons, List.map_nil]); first | done | rfl | (simp only [List.length_drop, List.length_take]; rfl)) ?_; (with_reducible refine (value_Binary.calls k1 x0_1 x511000_1 x511001_1 x511002_1 x511003_1 x512000_1 x512001_1 x512002_1 x512003_1 t513 t514 t515 t516 t517 _ ?hTT_ A7.out).mono ?_); (case hTT_ => exact tb_below HTT_.out (by repeat (first | (with_reducible first | exact HB.out | apply bA_ | apply bN_ | apply bD_ | refine bS_ ?_ GE510.out | refine bS_ ?_ GE511.out) | exact HB.out))); rintro e w13 ⟨rfl, hb⟩; refine ⟨_, rfl, ?_⟩; have n0_ := Aside0.mk (blk_below (g := gb510) (o := .cells #[.int .i64 x511000_1, .int .u64 x511001_1, .string x511002_1, .int .i64 x511003_1] 24 (0, 0)) (by (with_reducible repeat (first | apply kN_ | apply kD_ | apply kA_)); exact BK510.out) hb); have n1_ := Aside0.mk (blk_below (g := gb511) (o := .cells #[.int .i64 x512000_1, .int .u64 x512001_1, .string x512002_1, .int .i64 x512003_1] 24 (0, 0)) (by (with_reducible repeat (first | apply kN_ | apply kD_ | apply kA_)); exact BK511.out) hb); have n2_ := Aside0.mk (below_step (by repeat (first | (with_reducible first | exact HB.out | apply bA_ | apply bN_ | apply bD_ | refine bS_ ?_ GE510.out | refine bS_ ?_ GE511.out) | exact HB.out)) hb); clear BK510; clear BK511; clear HB; have BK510 := n0_; have BK511 := n1_; have HB := n2_; clear n0_ n1_ n2_; (try clear hb); (try clear hb2); (try clear hk); (try clear hi)) | ((with_reducible refine gate_dst (N := 8) rfl ?_); refine box_event ?hg (N := 8) ?hd (cs := #[.int .i64 0, .int .u64 0, .string (⟨#[]⟩ : ByteArray), .int .i64 0]) (t := 24) ?hr ?_; (case hd => rfl); (case hg => rfl); (case hr => first | (go_simp; done) | (go_simp; rfl)); intro gb518 hg w14 hbox hb; have n0_ := Aside0.mk (blk_below (g := gb510) (o := .cells #[.int .i64 x511000_1, .int .u64 x511001_1, .string x511002_1, .int .i64 x511003_1] 24 (0, 0)) (by (with_reducible repeat (first | apply kN_ | apply kD_ | apply kA_)); exact BK510.out) hb); have n1_ := Aside0.mk (blk_below (g := gb511) (o := .cells #[.int .i64 x512000_1, .int .u64 x512001_1, .string x512002_1, .int .i64 x512003_1] 24 (0, 0)) (by (with_reducible repeat (first | apply kN_ | apply kD_ | apply kA_)); exact BK511.out) hb); have n2_ := Aside0.mk (below_step (by repeat (first | (with_reducible first | exact HB.out | apply bA_ | apply bN_ | apply bD_ | refine bS_ ?_ GE510.out | refine bS_ ?_ GE511.out) | exact HB.out)) hb); have n3_ := Aside0.mk (hbox); have n4_ := Aside0.mk ((by rw [hg]; exact (below_size (by repeat (first | (with_reducible first | exact HB.out | apply bA_ | apply bN_ | apply bD_ | refine bS_ ?_ GE510.out | refine bS_ ?_ GE511.out) | exact HB.out))) : w.heap.size ≤ gb518)); have n5_ := Aside0.mk ((by rw [hg]; exact (below_size (by repeat (first | (with_reducible first | exact HB.out | apply bA_ | apply bN_ | apply bD_ | refine bS_ ?_ GE510.out | refine bS_ ?_ GE511.out) | exact HB.out))) : w.heap.size ≤ gb518)); have n6_ := Aside0.mk ((by rw [hg]; exact Nat.ne_of_lt (blk_lt (g := gb510) (o := .cells #[.int .i64 x511000_1, .int .u64 x511001_1, .string x511002_1, .int .i64 x511003_1] 24 (0, 0)) (by (with_reducible repeat (first | apply kN_ | apply kD_ | apply kA_)); exact BK510.out)) : gb510 ≠ gb518)); have n7_ := Aside0.mk ((by rw [hg]; exact Nat.ne_of_gt (blk_lt (g := gb510) (o := .cells #[.int .i64 x511000_1, .int .u64 x511001_1, .string x511002_1, .int .i64 x511003_1] 24 (0, 0)) (by (with_reducible repeat (first | apply kN_ | apply kD_ | apply kA_)); exact BK510.out)) : gb518 ≠ gb510)); have n8_ := Aside0.mk ((by rw [hg]; exact Nat.ne_of_lt (blk_lt (g := gb511) (o := .cells #[.int .i64 x512000_1, .int .u64 x512001_1, .string x512002_1, .int .i64 x512003_1] 24 (0, 0)) (by (with_reducible repeat (first | apply kN_ | apply kD_ | apply kA_)); exact BK511.out)) : gb511 ≠ gb518)); have n9_ := Aside0.mk ((by rw [hg]; exact Nat.ne_of_gt (blk_lt (g := gb511) (o := .cells #[.int .i64 x512000_1, .int .u64 x512001_1, .string x512002_1, .int .i64 x512003_1] 24 (0, 0)) (by (with_reducible repeat (first | apply kN_ | apply kD_ | apply kA_)); exact BK511.out)) : gb518 ≠ gb511)); clear BK510; clear BK511; clear HB; have BK510 := n0_; have BK511 := n1_; have HB := n2_; have BK518 := n3_; have GW518 := n4_; have GE518 := n5_; have NB510_518 := n6_; have NB518_510 := n7_; have NB511_518 := n8_; have NB518_511 := n9_; clear n0_ n1_ n2_ n3_ n4_ n5_ n6_ n7_ n8_ n9_; clear hb hbox hg; have hnb15 := NB518_510.out; have hnc15 := NB510_518.out; have hnb16 := NB518_511.out; have hnc16 := NB511_518.out; obtain ⟨hcz17_0, hcz17_1, hcz17_2, hcz17_3⟩ := cells4_ BK518.out; obtain ⟨hfz17_0, hfz17_1, hfz17_2, hfz17_3⟩ := froz4_ BK518.out; obtain ⟨hcz18_0, hcz18_1, hcz18_2, hcz18_3⟩ := cells4_ BK510.out; obtain ⟨hfz18_0, hfz18_1, hfz18_2, hfz18_3⟩ := froz4_ BK510.out; obtain ⟨hcz19_0, hcz19_1, hcz19_2, hcz19_3⟩ := cells4_ BK511.out; obtain ⟨hfz19_0, hfz19_1, hfz19_2, hfz19_3⟩ := froz4_ BK511.out) | ((with_reducible refine gate_callee (f := 9) rfl ?_); refine goesL_ (some 27) rfl rfl Tryd.func9 (by kernel_rfl) rfl #[.int .i64 x0_1, .agg #[.int .i64 x511000_1, .int .u64 x511001_1, .string x511002_1, .int .i64 x511003_1], .agg #[.int .i64 x512000_1, .int .u64 x512001_1, .string x512002_1, .int .i64 x512003_1]] rfl (by (try simp only [List.map_toArray, List.map_cons, List.map_nil]); first | done | rfl | (simp only [List.length_drop, List.length_take]; rfl)) ?_; (with_reducible refine (platformfwref08_Binary.calls k1 x0_1 x511000_1 x511001_1 x511002_1 x511003_1 x512000_1 x512001_1 x512002_1 x512003_1 t519 t520 t521 t522 t523 _ A8.out).mono ?_); rintro e w20 ⟨rfl, hb⟩; refine ⟨_, rfl, ?_⟩; have n0_ := Aside0.mk (blk_below (g := gb510) (o := .cells #[.int .i64 x511000_1, .int .u64 x511001_1, .string x511002_1, .int .i64 x511003_1] 24 (0, 0)) (by (with_reducible repeat (first | apply kN_ | apply kD_ | apply kA_)); refine blk_far ?_ NB510_518.out _; (with_reducible repeat (first | apply kN_ | apply kD_ | apply kA_)); refine blk_far ?_ NB510_518.out _; (with_reducible repeat (first | apply kN_ | apply kD_ | apply kA_)); refine blk_far ?_ NB510_518.out _; (with_reducible repeat (first | apply kN_ | apply kD_ | apply kA_)); refine blk_far ?_ NB510_518.out _; (with_reducible repeat (first | apply kN_ | apply kD_ | apply kA_)); exact BK510.out) hb); have n1_ := Aside0.mk (blk_below (g := gb511) (o := .cells #[.int .i64 x512000_1, .int .u64 x512001_1, .string x512002_1, .int .i64 x512003_1] 24 (0, 0)) (by (with_reducible repeat (first | apply kN_ | apply kD_ | apply kA_)); refine blk_far ?_ NB511_518.out _; (with_reducible repeat (first | apply kN_ | apply kD_ | apply kA_)); refine blk_far ?_ NB511_518.out _; (with_reducible repeat (first | apply kN_ | apply kD_ | apply kA_)); refine blk_far ?_ NB511_518.out _; (with_reducible repeat (first | apply kN_ | apply kD_ | apply kA_)); refine blk_far ?_ NB511_518.out _; (with_reducible repeat (first | apply kN_ | apply kD_ | apply kA_)); exact BK511.out) hb); have n2_ := Aside0.mk (blk_below (g := gb518) (o := .cells #[.int .i64 t513, .int .u64 t514, .string t515, .int .i64 t516] 24 (0, 0)) (by (with_reducible repeat (first | apply kN_ | apply kD_ | apply kA_)); refine blk_put (cs := #[.int .i64 t513, .int .u64 t514, .string t515, .int .i64 0]) ?_ 3 _ rfl; (with_reducible repeat (first | apply kN_ | apply kD_ | apply kA_)); refine blk_put (cs := #[.int .i64 t513, .int .u64 t514, .string (⟨#[]⟩ : ByteArray), .int .i64 0]) ?_ 2 _ rfl; (with_reducible repeat (first | apply kN_ | apply kD_ | apply kA_)); refine blk_put (cs := #[.int .i64 t513, .int .u64 0, .string (⟨#[]⟩ : ByteArray), .int .i64 0]) ?_ 1 _ rfl; (with_reducible repeat (first | apply kN_ | apply kD_ | apply kA_)); refine blk_put (cs := #[.int .i64 0, .int .u64 0, .string (⟨#[]⟩ : ByteArray), .int .i64 0]) ?_ 0 _ rfl; (with_reducible repeat (first | apply kN_ | apply kD_ | apply kA_)); exact BK518.out) hb); have n3_ := Aside0.mk (below_step (by repeat (first | (with_reducible first | exact HB.out | apply bA_ | apply bN_ | apply bD_ | refine bS_ ?_ GE510.out | refine bS_ ?_ GE511.out | refine bS_ ?_ GE518.out) | exact HB.out)) hb); clear BK510; clear BK511; clear BK518; clear HB; have BK510 := n0_; have BK511 := n1_; have BK518 := n2_; have HB := n3_; clear n0_ n1_ n2_ n3_; (try clear hb); (try clear hb2); (try clear hk); (try clear hi)) | ((with_reducible refine gate_dst (N := 10) rfl ?_); refine box_event ?hg (N := 10) ?hd (cs := #[.int .i64 0, .int .u64 0, .string (⟨#[]⟩ : ByteArray), .int .i64 0]) (t := 24) ?hr ?_; (case hd => rfl); (case hg => rfl); (case hr => first | (go_simp; done) | (go_simp; rfl)); intro gb524 hg w21 hbox hb; have n0_ := Aside0.mk (blk_below (g := gb510) (o := .cells #[.int .i64 x511000_1, .int .u64 x511001_1, .string x511002_1, .int .i64 x511003_1] 24 (0, 0)) (by (with_reducible repeat (first | apply kN_ | apply kD_ | apply kA_)); exact BK510.out) hb); have n1_ := Aside0.mk (blk_below (g := gb511) (o := .cells #[.int .i64 x512000_1, .int .u64 x512001_1, .string x512002_1, .int .i64 x512003_1] 24 (0, 0)) (by (with_reducible repeat (first | apply kN_ | apply kD_ | apply kA_)); exact BK511.out) hb); have n2_ := Aside0.mk (blk_below (g := gb518) (o := .cells #[.int .i64 t513, .int .u64 t514, .string t515, .int .i64 t516] 24 (0, 0)) (by (with_reducible repeat (first | apply kN_ | apply kD_ | apply kA_)); exact BK518.out) hb); have n3_ := Aside0.mk (below_step (by repeat (first | (with_reducible first | exact HB.out | apply bA_ | apply bN_ | apply bD_ | refine bS_ ?_ GE510.out | refine bS_ ?_ GE511.out | refine bS_ ?_ GE518.out) | exact HB.out)) hb); have n4_ := Aside0.mk (hbox); have n5_ := Aside0.mk ((by rw [hg]; exact (below_size (by repeat (first | (with_reducible first | exact HB.out | apply bA_ | apply bN_ | apply bD_ | refine bS_ ?_ GE510.out | refine bS_ ?_ GE511.out | refine bS_ ?_ GE518.out) | exact HB.out))) : w.heap.size ≤ gb524)); have n6_ := Aside0.mk ((by rw [hg]; exact (below_size (by repeat (first | (with_reducible first | exact HB.out | apply bA_ | apply bN_ | apply bD_ | refine bS_ ?_ GE510.out | refine bS_ ?_ GE511.out | refine bS_ ?_ GE518.out) | exact HB.out))) : w.heap.size ≤ gb524)); have n7_ := Aside0.mk ((by rw [hg]; exact Nat.ne_of_lt (blk_lt (g := gb510) (o := .cells #[.int .i64 x511000_1, .int .u64 x511001_1, .string x511002_1, .int .i64 x511003_1] 24 (0, 0)) (by (with_reducible repeat (first | apply kN_ | apply kD_ | apply kA_)); exact BK510.out)) : gb510 ≠ gb524)); have n8_ := Aside0.mk ((by rw [hg]; exact Nat.ne_of_gt (blk_lt (g := gb510) (o := .cells #[.int .i64 x511000_1, .int .u64 x511001_1, .string x511002_1, .int .i64 x511003_1] 24 (0, 0)) (by (with_reducible repeat (first | apply kN_ | apply kD_ | apply kA_)); exact BK510.out)) : gb524 ≠ gb510)); have n9_ := Aside0.mk ((by rw [hg]; exact Nat.ne_of_lt (blk_lt (g := gb511) (o := .cells #[.int .i64 x512000_1, .int .u64 x512001_1, .string x512002_1, .int .i64 x512003_1] 24 (0, 0)) (by (with_reducible repeat (first | apply kN_ | apply kD_ | apply kA_)); exact BK511.out)) : gb511 ≠ gb524)); have n10_ := Aside0.mk ((by rw [hg]; exact Nat.ne_of_gt (blk_lt (g := gb511) (o := .cells #[.int .i64 x512000_1, .int .u64 x512001_1, .string x512002_1, .int .i64 x512003_1] 24 (0, 0)) (by (with_reducible repeat (first | apply kN_ | apply kD_ | apply kA_)); exact BK511.out)) : gb524 ≠ gb511)); have n11_ := Aside0.mk ((by rw [hg]; exact Nat.ne_of_lt (blk_lt (g := gb518) (o := .cells #[.int .i64 t513, .int .u64 t514, .string t515, .int .i64 t516] 24 (0, 0)) (by (with_reducible repeat (first | apply kN_ | apply kD_ | apply kA_)); exact BK518.out)) : gb518 ≠ gb524)); have n12_ := Aside0.mk ((by rw [hg]; exact Nat.ne_of_gt (blk_lt (g := gb518) (o := .cells #[.int .i64 t513, .int .u64 t514, .string t515, .int .i64 t516] 24 (0, 0)) (by (with_reducible repeat (first | apply kN_ | apply kD_ | apply kA_)); exact BK518.out)) : gb524 ≠ gb518)); clear BK510; clear BK511; clear BK518; clear HB; have BK510 := n0_; have BK511 := n1_; have BK518 := n2_; have HB := n3_; have BK524 := n4_; have GW524 := n5_; have GE524 := n6_; have NB510_524 := n7_; have NB524_510 := n8_; have NB511_524 := n9_; have NB524_511 := n10_; have NB518_524 := n11_; have NB524_518 := n12_; clear n0_ n1_ n2_ n3_ n4_ n5_ n6_ n7_ n8_ n9_ n10_ n11_ n12_; clear hb hbox hg; have hnb22 := NB524_510.out; have hnc22 := NB510_524.out; have hnb23 := NB524_511.out; have hnc23 := NB511_524.out; have hnb24 := NB524_518.out; have hnc24 := NB518_524.out; obtain ⟨hcz25_0, hcz25_1, hcz25_2, hcz25_3⟩ := cells4_ BK524.out; obtain ⟨hfz25_0, hfz25_1, hfz25_2, hfz25_3⟩ := froz4_ BK524.out))
    (try simp only [Act.put, sA_, sB_, sC_])
    go_cut [37] (fun v37 wc => ∃ (kq : Nat) (x37_8 : Bool), v37 = .bool x37_8 ∧ Aside0 (platformfwlaw08_ValueBinary.j1 kq x0_1 x7_1 x37_8 x511000_1 x511001_1 x511002_1 x511003_1 x512000_1 x512001_1 x512002_1 x512003_1 = some r) ∧ Aside0 (kq ≤ k1) ∧ Aside0 (wc.heap[gb510]? = some (.cells #[.int .i64 x511000_1, .int .u64 x511001_1, .string x511002_1, .int .i64 x511003_1] 24 (0, 0))) ∧ Aside0 (wc.heap[gb511]? = some (.cells #[.int .i64 x512000_1, .int .u64 x512001_1, .string x512002_1, .int .i64 x512003_1] 24 (0, 0))) ∧ Aside0 (wc.heap[gb518]? = some (.cells #[.int .i64 t513, .int .u64 t514, .string t515, .int .i64 t516] 24 (0, 0))) ∧ Aside0 (wc.heap[gb524]? = some (.cells #[.int .i64 t519, .int .u64 t520, .string t521, .int .i64 t522] 24 (0, 0))) ∧ Aside0 (Below w.heap.size w wc))
    case first =>
     have H := HC9.out
     clear HC9
     by_cases c26 : (!(t513 == t519) || (!(t514 == t520) || (!(t515.toList == t521.toList) || (!(t516 == t522))))) = true
     ·rw [if_pos c26] at H
      have c26b0 : (!(t513 == t519) || (!(t514 == t520) || (!(t515.toList == t521.toList) || (!(t516 == t522))))) = true := c26
      clear c26
      (first | rw [c26b0] | (simp only [i64_w, i32_w]; rw [c26b0]) | skip)
      have H' := Aside0.mk H
      clear H
      have hnb27 := NB518_510.out
      have hnc27 := NB510_518.out
      have hnb28 := NB518_511.out
      have hnc28 := NB511_518.out
      have hnb29 := NB518_524.out
      have hnc29 := NB524_518.out
      obtain ⟨hcz30_0, hcz30_1, hcz30_2, hcz30_3⟩ := cells4_ BK518.out
      obtain ⟨hfz30_0, hfz30_1, hfz30_2, hfz30_3⟩ := froz4_ BK518.out
      have hnb31 := NB524_510.out
      have hnc31 := NB510_524.out
      have hnb32 := NB524_511.out
      have hnc32 := NB511_524.out
      have hcz33_0 : w21.cell? ⟨gb524, 0, none⟩ = some (.int .i64 0) := (blk_cell BK524.out 0).trans rfl
      have hcz33_1 : w21.cell? ⟨gb524, 1, none⟩ = some (.int .u64 0) := (blk_cell BK524.out 1).trans rfl
      have hcz33_2 : w21.cell? ⟨gb524, 2, none⟩ = some (.string (⟨#[]⟩ : ByteArray)) := (blk_cell BK524.out 2).trans rfl
      have hcz33_3 : w21.cell? ⟨gb524, 3, none⟩ = some (.int .i64 0) := (blk_cell BK524.out 3).trans rfl
      have hfz33_0 := blk_frozen BK524.out 0
      have hfz33_1 := blk_frozen BK524.out 1
      have hfz33_2 := blk_frozen BK524.out 2
      have hfz33_3 := blk_frozen BK524.out 3
      go_wp2
      go_meet
      case rel => exact ⟨_, (true), (by first | rfl | (simp; done) | (simp [*]; done)), H', ⟨by have := HK1.out; first | omega | exact Nat.le_refl _⟩, ⟨by (with_reducible repeat (first | apply kN_ | apply kD_ | apply kA_)); refine blk_far ?_ NB510_524.out _; (with_reducible repeat (first | apply kN_ | apply kD_ | apply kA_)); refine blk_far ?_ NB510_524.out _; (with_reducible repeat (first | apply kN_ | apply kD_ | apply kA_)); refine blk_far ?_ NB510_524.out _; (with_reducible repeat (first | apply kN_ | apply kD_ | apply kA_)); refine blk_far ?_ NB510_524.out _; (with_reducible repeat (first | apply kN_ | apply kD_ | apply kA_)); exact BK510.out⟩, ⟨by (with_reducible repeat (first | apply kN_ | apply kD_ | apply kA_)); refine blk_far ?_ NB511_524.out _; (with_reducible repeat (first | apply kN_ | apply kD_ | apply kA_)); refine blk_far ?_ NB511_524.out _; (with_reducible repeat (first | apply kN_ | apply kD_ | apply kA_)); refine blk_far ?_ NB511_524.out _; (with_reducible repeat (first | apply kN_ | apply kD_ | apply kA_)); refine blk_far ?_ NB511_524.out _; (with_reducible repeat (first | apply kN_ | apply kD_ | apply kA_)); exact BK511.out⟩, ⟨by (with_reducible repeat (first | apply kN_ | apply kD_ | apply kA_)); refine blk_far ?_ NB518_524.out _; (with_reducible repeat (first | apply kN_ | apply kD_ | apply kA_)); refine blk_far ?_ NB518_524.out _; (with_reducible repeat (first | apply kN_ | apply kD_ | apply kA_)); refine blk_far ?_ NB518_524.out _; (with_reducible repeat (first | apply kN_ | apply kD_ | apply kA_)); refine blk_far ?_ NB518_524.out _; (with_reducible repeat (first | apply kN_ | apply kD_ | apply kA_)); exact BK518.out⟩, ⟨by (with_reducible repeat (first | apply kN_ | apply kD_ | apply kA_)); refine blk_put (cs := #[.int .i64 t519, .int .u64 t520, .string t521, .int .i64 0]) ?_ 3 _ rfl; (with_reducible repeat (first | apply kN_ | apply kD_ | apply kA_)); refine blk_put (cs := #[.int .i64 t519, .int .u64 t520, .string (⟨#[]⟩ : ByteArray), .int .i64 0]) ?_ 2 _ rfl; (with_reducible repeat (first | apply kN_ | apply kD_ | apply kA_)); refine blk_put (cs := #[.int .i64 t519, .int .u64 0, .string (⟨#[]⟩ : ByteArray), .int .i64 0]) ?_ 1 _ rfl; (with_reducible repeat (first | apply kN_ | apply kD_ | apply kA_)); refine blk_put (cs := #[.int .i64 0, .int .u64 0, .string (⟨#[]⟩ : ByteArray), .int .i64 0]) ?_ 0 _ rfl; (with_reducible repeat (first | apply kN_ | apply kD_ | apply kA_)); exact BK524.out⟩, ⟨by repeat (first | (with_reducible first | exact HB.out | apply bA_ | apply bN_ | apply bD_ | refine bS_ ?_ GE510.out | refine bS_ ?_ GE511.out | refine bS_ ?_ GE518.out | refine bS_ ?_ GE524.out) | exact HB.out)⟩⟩
     ·rw [if_neg c26] at H
      have c26b0 : (!(t513 == t519) || (!(t514 == t520) || (!(t515.toList == t521.toList) || (!(t516 == t522))))) = false := by simpa using c26
      clear c26
      (first | rw [c26b0] | (simp only [i64_w, i32_w]; rw [c26b0]) | skip)
      have H' := Aside0.mk H
      clear H
      have hnb34 := NB518_510.out
      have hnc34 := NB510_518.out
      have hnb35 := NB518_511.out
      have hnc35 := NB511_518.out
      have hnb36 := NB518_524.out
      have hnc36 := NB524_518.out
      obtain ⟨hcz37_0, hcz37_1, hcz37_2, hcz37_3⟩ := cells4_ BK518.out
      obtain ⟨hfz37_0, hfz37_1, hfz37_2, hfz37_3⟩ := froz4_ BK518.out
      have hnb38 := NB524_510.out
      have hnc38 := NB510_524.out
      have hnb39 := NB524_511.out
      have hnc39 := NB511_524.out
      have hcz40_0 : w21.cell? ⟨gb524, 0, none⟩ = some (.int .i64 0) := (blk_cell BK524.out 0).trans rfl
      have hcz40_1 : w21.cell? ⟨gb524, 1, none⟩ = some (.int .u64 0) := (blk_cell BK524.out 1).trans rfl
      have hcz40_2 : w21.cell? ⟨gb524, 2, none⟩ = some (.string (⟨#[]⟩ : ByteArray)) := (blk_cell BK524.out 2).trans rfl
      have hcz40_3 : w21.cell? ⟨gb524, 3, none⟩ = some (.int .i64 0) := (blk_cell BK524.out 3).trans rfl
      have hfz40_0 := blk_frozen BK524.out 0
      have hfz40_1 := blk_frozen BK524.out 1
      have hfz40_2 := blk_frozen BK524.out 2
      have hfz40_3 := blk_frozen BK524.out 3
      go_wp2
      go_meet
      case rel => exact ⟨_, ((t517 != t523)), (by first | rfl | (simp; done) | (simp [*]; done)), H', ⟨by have := HK1.out; first | omega | exact Nat.le_refl _⟩, ⟨by (with_reducible repeat (first | apply kN_ | apply kD_ | apply kA_)); refine blk_far ?_ NB510_524.out _; (with_reducible repeat (first | apply kN_ | apply kD_ | apply kA_)); refine blk_far ?_ NB510_524.out _; (with_reducible repeat (first | apply kN_ | apply kD_ | apply kA_)); refine blk_far ?_ NB510_524.out _; (with_reducible repeat (first | apply kN_ | apply kD_ | apply kA_)); refine blk_far ?_ NB510_524.out _; (with_reducible repeat (first | apply kN_ | apply kD_ | apply kA_)); exact BK510.out⟩, ⟨by (with_reducible repeat (first | apply kN_ | apply kD_ | apply kA_)); refine blk_far ?_ NB511_524.out _; (with_reducible repeat (first | apply kN_ | apply kD_ | apply kA_)); refine blk_far ?_ NB511_524.out _; (with_reducible repeat (first | apply kN_ | apply kD_ | apply kA_)); refine blk_far ?_ NB511_524.out _; (with_reducible repeat (first | apply kN_ | apply kD_ | apply kA_)); refine blk_far ?_ NB511_524.out _; (with_reducible repeat (first | apply kN_ | apply kD_ | apply kA_)); exact BK511.out⟩, ⟨by (with_reducible repeat (first | apply kN_ | apply kD_ | apply kA_)); refine blk_far ?_ NB518_524.out _; (with_reducible repeat (first | apply kN_ | apply kD_ | apply kA_)); refine blk_far ?_ NB518_524.out _; (with_reducible repeat (first | apply kN_ | apply kD_ | apply kA_)); refine blk_far ?_ NB518_524.out _; (with_reducible repeat (first | apply kN_ | apply kD_ | apply kA_)); refine blk_far ?_ NB518_524.out _; (with_reducible repeat (first | apply kN_ | apply kD_ | apply kA_)); exact BK518.out⟩, ⟨by (with_reducible repeat (first | apply kN_ | apply kD_ | apply kA_)); refine blk_put (cs := #[.int .i64 t519, .int .u64 t520, .string t521, .int .i64 0]) ?_ 3 _ rfl; (with_reducible repeat (first | apply kN_ | apply kD_ | apply kA_)); refine blk_put (cs := #[.int .i64 t519, .int .u64 t520, .string (⟨#[]⟩ : ByteArray), .int .i64 0]) ?_ 2 _ rfl; (with_reducible repeat (first | apply kN_ | apply kD_ | apply kA_)); refine blk_put (cs := #[.int .i64 t519, .int .u64 0, .string (⟨#[]⟩ : ByteArray), .int .i64 0]) ?_ 1 _ rfl; (with_reducible repeat (first | apply kN_ | apply kD_ | apply kA_)); refine blk_put (cs := #[.int .i64 0, .int .u64 0, .string (⟨#[]⟩ : ByteArray), .int .i64 0]) ?_ 0 _ rfl; (with_reducible repeat (first | apply kN_ | apply kD_ | apply kA_)); exact BK524.out⟩, ⟨by repeat (first | (with_reducible first | exact HB.out | apply bA_ | apply bN_ | apply bD_ | refine bS_ ?_ GE510.out | refine bS_ ?_ GE511.out | refine bS_ ?_ GE518.out | refine bS_ ?_ GE524.out) | exact HB.out)⟩⟩
    case rest =>
     clear HC9
     try clear c1
     try clear c2
     try clear p2
     try clear c3
     try clear c6
     try clear c6b0
     try clear c8
     try clear c9
     try clear c10
     try clear c15
     try clear c16
     try clear c22
     try clear c23
     try clear c24
     try clear c26
     try clear c26b0
     try clear c27
     try clear c28
     try clear c29
     try clear c31
     try clear c32
     try clear c34
     try clear c35
     try clear c36
     try clear c38
     try clear c39
     try clear hcz11_0 hcz11_1 hcz11_2 hcz11_3
     try clear hcz12_0 hcz12_1 hcz12_2 hcz12_3
     try clear hcz17_0 hcz17_1 hcz17_2 hcz17_3
     try clear hcz18_0 hcz18_1 hcz18_2 hcz18_3
     try clear hcz19_0 hcz19_1 hcz19_2 hcz19_3
     try clear hcz25_0 hcz25_1 hcz25_2 hcz25_3
     try clear hcz30_0 hcz30_1 hcz30_2 hcz30_3
     try clear hcz33_0 hcz33_1 hcz33_2 hcz33_3
     try clear hcz37_0 hcz37_1 hcz37_2 hcz37_3
     try clear hcz40_0 hcz40_1 hcz40_2 hcz40_3
     try clear hfz11_0 hfz11_1 hfz11_2 hfz11_3
     try clear hfz12_0 hfz12_1 hfz12_2 hfz12_3
     try clear hfz17_0 hfz17_1 hfz17_2 hfz17_3
     try clear hfz18_0 hfz18_1 hfz18_2 hfz18_3
     try clear hfz19_0 hfz19_1 hfz19_2 hfz19_3
     try clear hfz25_0 hfz25_1 hfz25_2 hfz25_3
     try clear hfz30_0 hfz30_1 hfz30_2 hfz30_3
     try clear hfz33_0 hfz33_1 hfz33_2 hfz33_3
     try clear hfz37_0 hfz37_1 hfz37_2 hfz37_3
     try clear hfz40_0 hfz40_1 hfz40_2 hfz40_3
     try clear p2
     obtain ⟨kq, x37_8, rfl, HA, HJ8, BK510, BK511, BK518, BK524, HB⟩ := hcut
     cases kq with
     | zero => exact absurd HA.out (by simp [platformfwlaw08_ValueBinary.j1])
     | succ kj8 =>
      have H := HA.out
      clear HA
      simp only [platformfwlaw08_ValueBinary.j1] at H
      by_cases c41 : x37_8 = true
      ·subst c41
       have H1 : (some false) = some r := by rw [if_pos rfl] at H; exact H
       clear H
       have H := H1
       clear H1
       obtain rfl := Option.some.inj H
       exact absurd hr_.out (by simp)
      ·replace c41 := Bool.eq_false_iff.mpr c41
       subst c41
       have H1 : ((platformfwhelp_Mod.f x0_1 18).bind fun t525 => (if x7_1 = 0 then ((platformfwlaw08_some.f kj8 x511000_1 x511001_1 x511002_1 x511003_1).bind fun bt526 => ((platformfwlaw08_some.f kj8 x512000_1 x512001_1 x512002_1 x512003_1).bind fun bt530 => (platformfwlaw08_ValueBinary.l0 kj8 (wrap64 (60 + t525)) (wrap64 (x7_1 + 1)) bt526.1 bt526.2.1 bt526.2.2.1 bt526.2.2.2 bt530.1 bt530.2.1 bt530.2.2.1 bt530.2.2.2))) else (platformfwlaw08_ValueBinary.l0 kj8 (wrap64 (60 + t525)) (wrap64 (x7_1 + 1)) x511000_1 x511001_1 x511002_1 x511003_1 x512000_1 x512001_1 x512002_1 x512003_1))) = some r := by rw [if_neg (show ¬ (false = true) by decide)] at H; exact H
       clear H
       have H := H1
       clear H1
       replace H := Option.bind_eq_some_iff.mp H
       obtain ⟨t525, A420, H⟩ := H
       replace H : (if x7_1 = 0 then ((platformfwlaw08_some.f kj8 x511000_1 x511001_1 x511002_1 x511003_1).bind fun bt526 => ((platformfwlaw08_some.f kj8 x512000_1 x512001_1 x512002_1 x512003_1).bind fun bt530 => (platformfwlaw08_ValueBinary.l0 kj8 (wrap64 (60 + t525)) (wrap64 (x7_1 + 1)) bt526.1 bt526.2.1 bt526.2.2.1 bt526.2.2.2 bt530.1 bt530.2.1 bt530.2.2.1 bt530.2.2.2))) else (platformfwlaw08_ValueBinary.l0 kj8 (wrap64 (60 + t525)) (wrap64 (x7_1 + 1)) x511000_1 x511001_1 x511002_1 x511003_1 x512000_1 x512001_1 x512002_1 x512003_1)) = some r := H
       have A42 := Aside0.mk A420
       clear A420
       by_cases c43 : x7_1 = 0
       ·rw [if_pos c43] at H
        have c43b0 : (x7_1 == 0) = true := beq_iff_eq.mpr c43
        have c43b1 : (x7_1 != 0) = false := bne_eq_false_iff_eq.mpr c43
        clear c43
        replace H := Option.bind_eq_some_iff.mp H
        obtain ⟨⟨t526, t527, t528, t529⟩, A440, H⟩ := H
        replace H : ((platformfwlaw08_some.f kj8 x512000_1 x512001_1 x512002_1 x512003_1).bind fun bt530 => (platformfwlaw08_ValueBinary.l0 kj8 (wrap64 (60 + t525)) (wrap64 (x7_1 + 1)) t526 t527 t528 t529 bt530.1 bt530.2.1 bt530.2.2.1 bt530.2.2.2)) = some r := H
        have A44 := Aside0.mk A440
        clear A440
        replace H := Option.bind_eq_some_iff.mp H
        obtain ⟨⟨t530, t531, t532, t533⟩, A450, H⟩ := H
        replace H : (platformfwlaw08_ValueBinary.l0 kj8 (wrap64 (60 + t525)) (wrap64 (x7_1 + 1)) t526 t527 t528 t529 t530 t531 t532 t533) = some r := H
        have A45 := Aside0.mk A450
        clear A450
        have H' := Aside0.mk H
        clear H
        try go_wp2_with (first | ((with_reducible refine gate_callee (f := 10) rfl ?_); refine goesL_ (some 39) rfl rfl Tryd.func10 (by kernel_rfl) rfl #[.int .i64 x0_1, .int .i64 18] rfl (by (try simp only [List.map_toArray, List.map_cons, List.map_nil]); first | done | rfl | (simp only [List.length_drop, List.length_take]; rfl)) ?_; (with_reducible refine (platformfwhelp_Mod.calls x0_1 18 t525 _ A42.out).mono ?_); rintro e w' ⟨rfl, ⟨nd, rfl⟩⟩; refine ⟨_, rfl, ?_⟩; (try (rw [drewN_self wc]; generalize hq_ : World.drewN wc _ = wc; have n0_ : Aside0 (wc.heap[gb510]? = some (.cells #[.int .i64 x511000_1, .int .u64 x511001_1, .string x511002_1, .int .i64 x511003_1] 24 (0, 0))) := ⟨by rw [← hq_]; exact (by (with_reducible repeat (first | apply kN_ | apply kD_ | apply kA_)); exact BK510.out)⟩; have n1_ : Aside0 (wc.heap[gb511]? = some (.cells #[.int .i64 x512000_1, .int .u64 x512001_1, .string x512002_1, .int .i64 x512003_1] 24 (0, 0))) := ⟨by rw [← hq_]; exact (by (with_reducible repeat (first | apply kN_ | apply kD_ | apply kA_)); exact BK511.out)⟩; have n2_ : Aside0 (wc.heap[gb518]? = some (.cells #[.int .i64 t513, .int .u64 t514, .string t515, .int .i64 t516] 24 (0, 0))) := ⟨by rw [← hq_]; exact (by (with_reducible repeat (first | apply kN_ | apply kD_ | apply kA_)); exact BK518.out)⟩; have n3_ : Aside0 (wc.heap[gb524]? = some (.cells #[.int .i64 t519, .int .u64 t520, .string t521, .int .i64 t522] 24 (0, 0))) := ⟨by rw [← hq_]; exact (by (with_reducible repeat (first | apply kN_ | apply kD_ | apply kA_)); exact BK524.out)⟩; have n4_ : Aside0 (Below w.heap.size w wc) := ⟨by rw [← hq_]; exact (by repeat (first | (with_reducible first | exact HB.out | apply bA_ | apply bN_ | apply bD_ | refine bS_ ?_ GE510.out | refine bS_ ?_ GE511.out | refine bS_ ?_ GE518.out | refine bS_ ?_ GE524.out) | exact HB.out))⟩; clear BK510 BK511 BK518 BK524 HB hq_; have BK510 := n0_; have BK511 := n1_; have BK518 := n2_; have BK524 := n3_; have HB := n4_; clear n0_ n1_ n2_ n3_ n4_))))
        have n0_ := Aside0.mk (kD_ BK510.out)
        have n1_ := Aside0.mk (kD_ BK511.out)
        have n2_ := Aside0.mk (kD_ BK518.out)
        have n3_ := Aside0.mk (kD_ BK524.out)
        have n4_ := Aside0.mk (bD_ HB.out)
        clear BK510
        clear BK511
        clear BK518
        clear BK524
        clear HB
        have BK510 := n0_
        have BK511 := n1_
        have BK518 := n2_
        have BK524 := n3_
        have HB := n4_
        clear n0_ n1_ n2_ n3_ n4_
        refine start_ (n := 6) (S := fun w' => w'.cell? ⟨gb510, 0, none⟩ = some (.int .i64 x511000_1) ∧ w'.cell? ⟨gb510, 1, none⟩ = some (.int .u64 x511001_1) ∧ w'.cell? ⟨gb510, 2, none⟩ = some (.string x511002_1) ∧ w'.cell? ⟨gb510, 3, none⟩ = some (.int .i64 x511003_1) ∧ w'.cell? ⟨gb511, 0, none⟩ = some (.int .i64 x512000_1) ∧ w'.cell? ⟨gb511, 1, none⟩ = some (.int .u64 x512001_1) ∧ w'.cell? ⟨gb511, 2, none⟩ = some (.string x512002_1) ∧ w'.cell? ⟨gb511, 3, none⟩ = some (.int .i64 x512003_1)) (ds := [4, 5]) #[false, false, false, false, false, false] (by kernel_rfl) rfl rfl ⟨(blk_cell BK510.out 0).trans rfl, (blk_cell BK510.out 1).trans rfl, (blk_cell BK510.out 2).trans rfl, (blk_cell BK510.out 3).trans rfl, (blk_cell BK511.out 0).trans rfl, (blk_cell BK511.out 1).trans rfl, (blk_cell BK511.out 2).trans rfl, (blk_cell BK511.out 3).trans rfl⟩ (fun hHeld => ?_)
        generalize wc.drew = w46 at BK510 BK511 BK518 BK524 HB hHeld ⊢
        refine take_ (i := 0) (N := some 43) (v := ?_) (a' := ?_) (tf 6 1) rfl rfl (by kernel_rfl) (fun _ _ _ h => h) (Or.inl ⟨by rfl, ?_⟩) hHeld ?_ ?_
        rotate_left
        ·rintro w' ⟨s0, s1, s2, s3, s4, s5, s6, s7⟩
         go_simp
         with_reducible rfl
        rotate_left
        ·simp only [Act.put, sA_, sB_, sC_, i64_w, i32_w]
         rfl
        refine take_ (i := 2) (N := some 45) (v := ?_) (a' := ?_) (tf 6 5) rfl rfl (by kernel_rfl) (fun _ _ _ h => h) (Or.inl ⟨by rfl, ?_⟩) hHeld ?_ ?_
        rotate_left
        ·rintro w' ⟨s0, s1, s2, s3, s4, s5, s6, s7⟩
         go_simp
         with_reducible rfl
        rotate_left
        ·simp only [Act.put, sA_, sB_, sC_, i64_w, i32_w]
         rfl
        refine one_ (i := 1) (N := some 44) (tf 6 7) rfl rfl (by kernel_rfl) (by decide) (fun K hK => ?_)
        refine goes_ Tryd.func11 (by kernel_rfl) rfl #[.agg #[.int .i64 x511000_1, .int .u64 x511001_1, .string x511002_1, .int .i64 x511003_1]] (by rfl) rfl rfl (by (try simp only [List.map_toArray, List.map_cons, List.map_nil]); first | done | rfl | (simp only [List.length_drop, List.length_take]; rfl)) ?_
        with_reducible refine (platformfwlaw08_some.calls kj8 x511000_1 x511001_1 x511002_1 x511003_1 t526 t527 t528 t529 _ A44.out).mono ?_
        rintro e w47 ⟨rfl, hb⟩
        refine ⟨_, rfl, ?_⟩
        have n0_ := Aside0.mk (blk_below (g := gb510) (o := .cells #[.int .i64 x511000_1, .int .u64 x511001_1, .string x511002_1, .int .i64 x511003_1] 24 (0, 0)) (by (with_reducible repeat (first | apply kN_ | apply kD_ | apply kA_)); exact BK510.out) hb)
        have n1_ := Aside0.mk (blk_below (g := gb511) (o := .cells #[.int .i64 x512000_1, .int .u64 x512001_1, .string x512002_1, .int .i64 x512003_1] 24 (0, 0)) (by (with_reducible repeat (first | apply kN_ | apply kD_ | apply kA_)); exact BK511.out) hb)
        have n2_ := Aside0.mk (blk_below (g := gb518) (o := .cells #[.int .i64 t513, .int .u64 t514, .string t515, .int .i64 t516] 24 (0, 0)) (by (with_reducible repeat (first | apply kN_ | apply kD_ | apply kA_)); exact BK518.out) hb)
        have n3_ := Aside0.mk (blk_below (g := gb524) (o := .cells #[.int .i64 t519, .int .u64 t520, .string t521, .int .i64 t522] 24 (0, 0)) (by (with_reducible repeat (first | apply kN_ | apply kD_ | apply kA_)); exact BK524.out) hb)
        have n4_ := Aside0.mk (below_step (by repeat (first | (with_reducible first | exact HB.out | apply bA_ | apply bN_ | apply bD_ | refine bS_ ?_ GE510.out | refine bS_ ?_ GE511.out | refine bS_ ?_ GE518.out | refine bS_ ?_ GE524.out) | exact HB.out)) hb)
        clear BK510
        clear BK511
        clear BK518
        clear BK524
        clear HB
        have BK510 := n0_
        have BK511 := n1_
        have BK518 := n2_
        have BK524 := n3_
        have HB := n4_
        clear n0_ n1_ n2_ n3_ n4_
        (try clear hb)
        (try clear hb2)
        (try clear hk)
        (try clear hi)
        refine hK.out _ _ ⟨(blk_cell BK510.out 0).trans rfl, (blk_cell BK510.out 1).trans rfl, (blk_cell BK510.out 2).trans rfl, (blk_cell BK510.out 3).trans rfl, (blk_cell BK511.out 0).trans rfl, (blk_cell BK511.out 1).trans rfl, (blk_cell BK511.out 2).trans rfl, (blk_cell BK511.out 3).trans rfl⟩ (fun hHeld => ?_)
        clear hK K
        refine norm_ (a' := ?_) ?_ ?_
        rotate_left
        ·show Act.put _ (some 44) _ = _
         simp only [Act.put, sA_, sB_, sC_, i64_w, i32_w]
         rfl
        refine one_ (i := 3) (N := some 46) (tf 6 15) rfl rfl (by kernel_rfl) (by decide) (fun K hK => ?_)
        refine goes_ Tryd.func11 (by kernel_rfl) rfl #[.agg #[.int .i64 x512000_1, .int .u64 x512001_1, .string x512002_1, .int .i64 x512003_1]] (by rfl) rfl rfl (by (try simp only [List.map_toArray, List.map_cons, List.map_nil]); first | done | rfl | (simp only [List.length_drop, List.length_take]; rfl)) ?_
        with_reducible refine (platformfwlaw08_some.calls kj8 x512000_1 x512001_1 x512002_1 x512003_1 t530 t531 t532 t533 _ A45.out).mono ?_
        rintro e w48 ⟨rfl, hb⟩
        refine ⟨_, rfl, ?_⟩
        have n0_ := Aside0.mk (blk_below (g := gb510) (o := .cells #[.int .i64 x511000_1, .int .u64 x511001_1, .string x511002_1, .int .i64 x511003_1] 24 (0, 0)) (by (with_reducible repeat (first | apply kN_ | apply kD_ | apply kA_)); exact BK510.out) hb)
        have n1_ := Aside0.mk (blk_below (g := gb511) (o := .cells #[.int .i64 x512000_1, .int .u64 x512001_1, .string x512002_1, .int .i64 x512003_1] 24 (0, 0)) (by (with_reducible repeat (first | apply kN_ | apply kD_ | apply kA_)); exact BK511.out) hb)
        have n2_ := Aside0.mk (blk_below (g := gb518) (o := .cells #[.int .i64 t513, .int .u64 t514, .string t515, .int .i64 t516] 24 (0, 0)) (by (with_reducible repeat (first | apply kN_ | apply kD_ | apply kA_)); exact BK518.out) hb)
        have n3_ := Aside0.mk (blk_below (g := gb524) (o := .cells #[.int .i64 t519, .int .u64 t520, .string t521, .int .i64 t522] 24 (0, 0)) (by (with_reducible repeat (first | apply kN_ | apply kD_ | apply kA_)); exact BK524.out) hb)
        have n4_ := Aside0.mk (below_step (by repeat (first | (with_reducible first | exact HB.out | apply bA_ | apply bN_ | apply bD_ | refine bS_ ?_ GE510.out | refine bS_ ?_ GE511.out | refine bS_ ?_ GE518.out | refine bS_ ?_ GE524.out) | exact HB.out)) hb)
        clear BK510
        clear BK511
        clear BK518
        clear BK524
        clear HB
        have BK510 := n0_
        have BK511 := n1_
        have BK518 := n2_
        have BK524 := n3_
        have HB := n4_
        clear n0_ n1_ n2_ n3_ n4_
        (try clear hb)
        (try clear hb2)
        (try clear hk)
        (try clear hi)
        refine hK.out _ _ ⟨(blk_cell BK510.out 0).trans rfl, (blk_cell BK510.out 1).trans rfl, (blk_cell BK510.out 2).trans rfl, (blk_cell BK510.out 3).trans rfl, (blk_cell BK511.out 0).trans rfl, (blk_cell BK511.out 1).trans rfl, (blk_cell BK511.out 2).trans rfl, (blk_cell BK511.out 3).trans rfl⟩ (fun hHeld => ?_)
        clear hK K
        refine norm_ (a' := ?_) ?_ ?_
        rotate_left
        ·show Act.put _ (some 46) _ = _
         simp only [Act.put, sA_, sB_, sC_, i64_w, i32_w]
         rfl
        refine last_ (i := 4) (N := none) (tf 6 31) rfl rfl (by kernel_rfl) (by decide) (fun K hK => ?_)
        have hs49 : w48.cell? ⟨gb510, 0, none⟩ = some (.int .i64 x511000_1) := (blk_cell BK510.out 0).trans rfl
        have hfs49 := blk_frozen BK510.out 0
        have hns49_1 := NB511_510.out
        have hns49_2 := NB518_510.out
        have hns49_3 := NB524_510.out
        have hms49_1 := NB510_511.out
        have hms49_2 := NB510_518.out
        have hms49_3 := NB510_524.out
        have hs50 : w48.cell? ⟨gb510, 1, none⟩ = some (.int .u64 x511001_1) := (blk_cell BK510.out 1).trans rfl
        have hfs50 := blk_frozen BK510.out 1
        have hns50_1 := NB511_510.out
        have hns50_2 := NB518_510.out
        have hns50_3 := NB524_510.out
        have hms50_1 := NB510_511.out
        have hms50_2 := NB510_518.out
        have hms50_3 := NB510_524.out
        have hs51 : w48.cell? ⟨gb510, 2, none⟩ = some (.string x511002_1) := (blk_cell BK510.out 2).trans rfl
        have hfs51 := blk_frozen BK510.out 2
        have hns51_1 := NB511_510.out
        have hns51_2 := NB518_510.out
        have hns51_3 := NB524_510.out
        have hms51_1 := NB510_511.out
        have hms51_2 := NB510_518.out
        have hms51_3 := NB510_524.out
        have hs52 : w48.cell? ⟨gb510, 3, none⟩ = some (.int .i64 x511003_1) := (blk_cell BK510.out 3).trans rfl
        have hfs52 := blk_frozen BK510.out 3
        have hns52_1 := NB511_510.out
        have hns52_2 := NB518_510.out
        have hns52_3 := NB524_510.out
        have hms52_1 := NB510_511.out
        have hms52_2 := NB510_518.out
        have hms52_3 := NB510_524.out
        refine skip_ (w1 := ?_) (by rfl) rfl ?_ ?_
        rotate_left
        ·go_simp
         rfl
        refine hK.out _ _ ?_
        clear hK K
        refine last_ (i := 5) (N := none) (tf 6 63) rfl rfl (by kernel_rfl) (by decide) (fun K hK => ?_)
        have hs53 : w48.cell? ⟨gb511, 0, none⟩ = some (.int .i64 x512000_1) := (blk_cell BK511.out 0).trans rfl
        have hfs53 := blk_frozen BK511.out 0
        have hns53_0 := NB510_511.out
        have hns53_2 := NB518_511.out
        have hns53_3 := NB524_511.out
        have hms53_0 := NB511_510.out
        have hms53_2 := NB511_518.out
        have hms53_3 := NB511_524.out
        have hs54 : w48.cell? ⟨gb511, 1, none⟩ = some (.int .u64 x512001_1) := (blk_cell BK511.out 1).trans rfl
        have hfs54 := blk_frozen BK511.out 1
        have hns54_0 := NB510_511.out
        have hns54_2 := NB518_511.out
        have hns54_3 := NB524_511.out
        have hms54_0 := NB511_510.out
        have hms54_2 := NB511_518.out
        have hms54_3 := NB511_524.out
        have hs55 : w48.cell? ⟨gb511, 2, none⟩ = some (.string x512002_1) := (blk_cell BK511.out 2).trans rfl
        have hfs55 := blk_frozen BK511.out 2
        have hns55_0 := NB510_511.out
        have hns55_2 := NB518_511.out
        have hns55_3 := NB524_511.out
        have hms55_0 := NB511_510.out
        have hms55_2 := NB511_518.out
        have hms55_3 := NB511_524.out
        have hs56 : w48.cell? ⟨gb511, 3, none⟩ = some (.int .i64 x512003_1) := (blk_cell BK511.out 3).trans rfl
        have hfs56 := blk_frozen BK511.out 3
        have hns56_0 := NB510_511.out
        have hns56_2 := NB518_511.out
        have hns56_3 := NB524_511.out
        have hms56_0 := NB511_510.out
        have hms56_2 := NB511_518.out
        have hms56_3 := NB511_524.out
        refine skip_ (w1 := ?_) (by rfl) rfl ?_ ?_
        rotate_left
        ·go_simp
         rfl
        refine hK.out _ _ ?_
        clear hK K
        refine done_ (by kernel_rfl) ?_
        try go_wp2
        go_roundg kj8
        case measure => have := HK1.out; have := HJ8.out; omega
        case rel => exact ⟨(wrap64 (60 + t525)), (wrap64 (x7_1 + 1)), (t526), (t527), (t528), (t529), (t530), (t531), (t532), (t533), (by first | rfl | (simp; done) | (simp [*]; done)), (by first | rfl | (simp; done) | (simp [*]; done)), H', ⟨by have := HK1.out; have := HJ8.out; omega⟩, ⟨by (with_reducible repeat (first | apply kN_ | apply kD_ | apply kA_)); refine blk_far ?_ NB510_511.out _; (with_reducible repeat (first | apply kN_ | apply kD_ | apply kA_)); refine blk_far ?_ NB510_511.out _; (with_reducible repeat (first | apply kN_ | apply kD_ | apply kA_)); refine blk_far ?_ NB510_511.out _; (with_reducible repeat (first | apply kN_ | apply kD_ | apply kA_)); refine blk_far ?_ NB510_511.out _; (with_reducible repeat (first | apply kN_ | apply kD_ | apply kA_)); refine blk_put (cs := #[.int .i64 t526, .int .u64 t527, .string t528, .int .i64 x511003_1]) ?_ 3 _ rfl; (with_reducible repeat (first | apply kN_ | apply kD_ | apply kA_)); refine blk_put (cs := #[.int .i64 t526, .int .u64 t527, .string x511002_1, .int .i64 x511003_1]) ?_ 2 _ rfl; (with_reducible repeat (first | apply kN_ | apply kD_ | apply kA_)); refine blk_put (cs := #[.int .i64 t526, .int .u64 x511001_1, .string x511002_1, .int .i64 x511003_1]) ?_ 1 _ rfl; (with_reducible repeat (first | apply kN_ | apply kD_ | apply kA_)); refine blk_put (cs := #[.int .i64 x511000_1, .int .u64 x511001_1, .string x511002_1, .int .i64 x511003_1]) ?_ 0 _ rfl; (with_reducible repeat (first | apply kN_ | apply kD_ | apply kA_)); exact BK510.out⟩, ⟨by (with_reducible repeat (first | apply kN_ | apply kD_ | apply kA_)); refine blk_put (cs := #[.int .i64 t530, .int .u64 t531, .string t532, .int .i64 x512003_1]) ?_ 3 _ rfl; (with_reducible repeat (first | apply kN_ | apply kD_ | apply kA_)); refine blk_put (cs := #[.int .i64 t530, .int .u64 t531, .string x512002_1, .int .i64 x512003_1]) ?_ 2 _ rfl; (with_reducible repeat (first | apply kN_ | apply kD_ | apply kA_)); refine blk_put (cs := #[.int .i64 t530, .int .u64 x512001_1, .string x512002_1, .int .i64 x512003_1]) ?_ 1 _ rfl; (with_reducible repeat (first | apply kN_ | apply kD_ | apply kA_)); refine blk_put (cs := #[.int .i64 x512000_1, .int .u64 x512001_1, .string x512002_1, .int .i64 x512003_1]) ?_ 0 _ rfl; (with_reducible repeat (first | apply kN_ | apply kD_ | apply kA_)); refine blk_far ?_ NB511_510.out _; (with_reducible repeat (first | apply kN_ | apply kD_ | apply kA_)); refine blk_far ?_ NB511_510.out _; (with_reducible repeat (first | apply kN_ | apply kD_ | apply kA_)); refine blk_far ?_ NB511_510.out _; (with_reducible repeat (first | apply kN_ | apply kD_ | apply kA_)); refine blk_far ?_ NB511_510.out _; (with_reducible repeat (first | apply kN_ | apply kD_ | apply kA_)); exact BK511.out⟩, ⟨by repeat (first | (with_reducible first | exact HB.out | apply bA_ | apply bN_ | apply bD_ | refine bS_ ?_ GE510.out | refine bS_ ?_ GE511.out | refine bS_ ?_ GE518.out | refine bS_ ?_ GE524.out) | exact HB.out)⟩⟩
       ·rw [if_neg c43] at H
        have c43b0 : (x7_1 == 0) = false := beq_eq_false_iff_ne.mpr c43
        have c43b1 : (x7_1 != 0) = true := bne_iff_ne.mpr c43
        have H' := Aside0.mk H
        clear H
        go_wp2_with (first | ((with_reducible refine gate_callee (f := 10) rfl ?_); refine goesL_ (some 39) rfl rfl Tryd.func10 (by kernel_rfl) rfl #[.int .i64 x0_1, .int .i64 18] rfl (by (try simp only [List.map_toArray, List.map_cons, List.map_nil]); first | done | rfl | (simp only [List.length_drop, List.length_take]; rfl)) ?_; (with_reducible refine (platformfwhelp_Mod.calls x0_1 18 t525 _ A42.out).mono ?_); rintro e w' ⟨rfl, ⟨nd, rfl⟩⟩; refine ⟨_, rfl, ?_⟩))
        go_roundg kj8
        case measure => have := HK1.out; have := HJ8.out; omega
        case rel => exact ⟨(wrap64 (60 + t525)), (wrap64 (x7_1 + 1)), (x511000_1), (x511001_1), (x511002_1), (x511003_1), (x512000_1), (x512001_1), (x512002_1), (x512003_1), (by first | rfl | (simp; done) | (simp [*]; done)), (by first | rfl | (simp; done) | (simp [*]; done)), H', ⟨by have := HK1.out; have := HJ8.out; omega⟩, ⟨by (with_reducible repeat (first | apply kN_ | apply kD_ | apply kA_)); exact BK510.out⟩, ⟨by (with_reducible repeat (first | apply kN_ | apply kD_ | apply kA_)); exact BK511.out⟩, ⟨by repeat (first | (with_reducible first | exact HB.out | apply bA_ | apply bN_ | apply bD_ | refine bS_ ?_ GE510.out | refine bS_ ?_ GE511.out | refine bS_ ?_ GE518.out | refine bS_ ?_ GE524.out) | exact HB.out)⟩⟩
   ·rw [if_neg c6] at H
    have c6b0 : decide (x7_1 < 3) = false := decide_eq_false c6
    clear c6
    replace H := Option.bind_eq_some_iff.mp H
    obtain ⟨t512, A570, H⟩ := H
    replace H : (some t512) = some r := H
    have A57 := Aside0.mk A570
    clear A570
    obtain rfl := Option.some.inj H
    go_wp2_with (first | ((with_reducible refine gate_callee (f := 12) rfl ?_); refine goesL_ (some 47) rfl rfl Tryd.func12 (by kernel_rfl) rfl #[] rfl (by (try simp only [List.map_toArray, List.map_cons, List.map_nil]); first | done | rfl | (simp only [List.length_drop, List.length_take]; rfl)) ?_; (with_reducible refine (platformfwlaw08_awake.calls k1  t512 _ ?hTT_ (by first | exact hr_ | exact ⟨rfl⟩) A57.out).mono ?_); (case hTT_ => exact tb_below HTT_.out (by repeat (first | (with_reducible first | exact HB.out | apply bA_ | apply bN_ | apply bD_ | refine bS_ ?_ GE510.out | refine bS_ ?_ GE511.out) | exact HB.out))); rintro e w58 ⟨rfl, hb⟩; refine ⟨_, rfl, ?_⟩; have n0_ := Aside0.mk (blk_below (g := gb510) (o := .cells #[.int .i64 x511000_1, .int .u64 x511001_1, .string x511002_1, .int .i64 x511003_1] 24 (0, 0)) (by (with_reducible repeat (first | apply kN_ | apply kD_ | apply kA_)); exact BK510.out) hb); have n1_ := Aside0.mk (blk_below (g := gb511) (o := .cells #[.int .i64 x512000_1, .int .u64 x512001_1, .string x512002_1, .int .i64 x512003_1] 24 (0, 0)) (by (with_reducible repeat (first | apply kN_ | apply kD_ | apply kA_)); exact BK511.out) hb); have n2_ := Aside0.mk (below_step (by repeat (first | (with_reducible first | exact HB.out | apply bA_ | apply bN_ | apply bD_ | refine bS_ ?_ GE510.out | refine bS_ ?_ GE511.out) | exact HB.out)) hb); clear BK510; clear BK511; clear HB; have BK510 := n0_; have BK511 := n1_; have HB := n2_; clear n0_ n1_ n2_; (try clear hb); (try clear hb2); (try clear hk); (try clear hi)))
    go_ret
    exact ⟨by first | rfl | (simp [errW_none, errW_some] <;> rfl) | (simp [*, errW_none, errW_some] <;> rfl), by repeat (first | (with_reducible first | exact HB.out | apply bA_ | apply bN_ | apply bD_ | refine bS_ ?_ GE510.out | refine bS_ ?_ GE511.out) | exact HB.out)⟩

end Go.Proofs.YtdmeglmmihaonaaDoor.PValueBinary
