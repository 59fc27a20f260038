-- Written by a program of this session's (wip/print_patch.py over the kit's print) out of the translation; Lean checks it.
import Derived.Test.YtdmeglmmihaonaaDoorPValueMidx0
import Derived.Test.YtdmeglmmihaonaaDoorPValueMidx7
import Derived.Test.YtdmeglmmihaonaaDoorPValueMidx8
import Derived.Test.YtdmeglmmihaonaaDoorVValueMidExtP
namespace Go.Proofs.YtdmeglmmihaonaaDoor.PValueMid
open Go.RowKit Go.Proofs.YtdmeglmmihaonaaDoor.Ext Go.Proofs.YtdmeglmmihaonaaDoorW.PrintWords Go.Proofs.YtdmeglmmihaonaaDoorW.PrintLast Go.Proofs.YtdmeglmmihaonaaDoorW.PrintMore
attribute [local go_sem] max2_int min2_int max_two min_two max_three min_three max_four min_four   -- for this text's walks alone
set_option linter.unusedVariables false
set_option linter.unusedSimpArgs false

/-! ### platformfwref08_Mid: function 16 -/
def platformfwref08_Mid.j0 : Nat → Int → Int → Int → ByteArray → Option (Int × Int × ByteArray × Int × Int)
 | 0, _, _, _, _ => none
 | k + 1, x1, x2, x8, x9 => if x1 ≥ (IntKind.u64.wrap ((x9.size : Int))) then (some (x8, 0, (⟨#[]⟩ : ByteArray), 0, 0)) else (if 0 ≤ x1 then (if x1 ≤ (x9.size : Int) then (if x2 < (IntKind.u64.wrap (((x9.extract (x1 : Int).toNat x9.size).size : Int))) then (if 0 ≤ x2 then (if x2 ≤ ((x9.extract (x1 : Int).toNat x9.size).size : Int) then (some (x8, 0, (x9.extract (x1 : Int).toNat x9.size).extract 0 (x2 : Int).toNat, 0, 0)) else (none)) else (none)) else (some (x8, 0, x9.extract (x1 : Int).toNat x9.size, 0, 0))) else (none)) else (none))
def platformfwref08_Mid.f (k : Nat) (a0_0 : Int) (a0_1 : Int) (a0_2 : ByteArray) (a0_3 : Int) (a1 : Int) (a2 : Int) : Option (Int × Int × ByteArray × Int × Int) := (platformfwref08_Valid.f a0_0 a0_1 a0_2 a0_3).bind fun t339 => (if t339 = true then (if a0_0 = 1 then ((platformfwref08_little.f k a0_1).bind fun t340 => (platformfwref08_Mid.j0 k a1 a2 3 t340)) else (if a0_0 = 2 then (platformfwref08_Mid.j0 k a1 a2 a0_0 a0_2) else (if a0_0 = 3 then (platformfwref08_Mid.j0 k a1 a2 a0_0 a0_2) else (some (0, 0, (⟨#[]⟩ : ByteArray), 0, 10))))) else (some (0, 0, (⟨#[]⟩ : ByteArray), 0, 1)))
theorem platformfwref08_Mid.mono_l : ∀ k, (∀ y0 y1 y2 y3, LeO (platformfwref08_Mid.j0 k y0 y1 y2 y3) (platformfwref08_Mid.j0 (k + 1) y0 y1 y2 y3))
 | 0 => fun _ _ _ _ r h => by simp [platformfwref08_Mid.j0] at h
 | k + 1 => by
  have ih0 := platformfwref08_Mid.mono_l k
  ·intro y0 y1 y2 y3
   unfold platformfwref08_Mid.j0
   repeat' first
   | (with_reducible exact ih0 _ _ _ _)
   | (with_reducible exact platformfwref08_little.mono _ _)
   | (with_reducible exact LeO.refl _)
   | (with_reducible exact LeO.none _)
   | (with_reducible refine LeO.ite ?_ ?_)
   | (with_reducible refine LeO.bind ?_ (fun _ => ?_))
   | exact ih0 _ _ _ _
   | exact platformfwref08_little.mono _ _
   | exact LeO.none _
   | refine LeO.ite ?_ ?_
   | refine LeO.bind ?_ (fun _ => ?_)
theorem platformfwref08_Mid.mono : ∀ a0 a1 a2 a3 a4 a5 k, LeO (platformfwref08_Mid.f k a0 a1 a2 a3 a4 a5) (platformfwref08_Mid.f (k + 1) a0 a1 a2 a3 a4 a5) := by
 intro a0 a1 a2 a3 a4 a5 k
 have ih0 := platformfwref08_Mid.mono_l k
 unfold platformfwref08_Mid.f
 repeat' first
   | (with_reducible exact ih0 _ _ _ _)
   | (with_reducible exact platformfwref08_little.mono _ _)
   | (with_reducible exact LeO.refl _)
   | (with_reducible exact LeO.none _)
   | (with_reducible refine LeO.ite ?_ ?_)
   | (with_reducible refine LeO.bind ?_ (fun _ => ?_))
   | exact ih0 _ _ _ _
   | exact platformfwref08_little.mono _ _
   | exact LeO.none _
   | refine LeO.ite ?_ ?_
   | refine LeO.bind ?_ (fun _ => ?_)
set_option maxHeartbeats 8000000 in
set_option maxRecDepth 100000 in
theorem platformfwref08_Mid.calls (k : Nat) (a0_0 : Int) (a0_1 : Int) (a0_2 : ByteArray) (a0_3 : Int) (a1 : Int) (a2 : Int) (r1 : Int) (r2 : Int) (r3 : ByteArray) (r4 : Int) (r5 : Int) (w : World) (h : platformfwref08_Mid.f k a0_0 a0_1 a0_2 a0_3 a1 a2 = some (r1, r2, r3, r4, r5)) :
  Calls Tryd.prog 16 #[.agg #[.int .i64 a0_0, .int .u64 a0_1, .string a0_2, .int .i64 a0_3], .int .u64 a1, .int .u64 a2] w fun e w' => e = .returned (.tuple #[.agg #[.int .i64 r1, .int .u64 r2, .string r3, .int .i64 r4], .int .i64 r5]) ∧ Below w.heap.size w w' := by
 have hu24 := Tryd.underlying24
 have HB := Aside0.mk (Below.refl w.heap.size w)
 have H : ((platformfwref08_Valid.f a0_0 a0_1 a0_2 a0_3).bind fun t339 => (if t339 = true then (if a0_0 = 1 then ((platformfwref08_little.f k a0_1).bind fun t340 => (platformfwref08_Mid.j0 k a1 a2 3 t340)) else (if a0_0 = 2 then (platformfwref08_Mid.j0 k a1 a2 a0_0 a0_2) else (if a0_0 = 3 then (platformfwref08_Mid.j0 k a1 a2 a0_0 a0_2) else (some (0, 0, (⟨#[]⟩ : ByteArray), 0, 10))))) else (some (0, 0, (⟨#[]⟩ : ByteArray), 0, 1)))) = some (r1, r2, r3, r4, r5) := h
 clear h
 replace H := Option.bind_eq_some_iff.mp H
 obtain ⟨t339, A40, H⟩ := H
 replace H : (if t339 = true then (if a0_0 = 1 then ((platformfwref08_little.f k a0_1).bind fun t340 => (platformfwref08_Mid.j0 k a1 a2 3 t340)) else (if a0_0 = 2 then (platformfwref08_Mid.j0 k a1 a2 a0_0 a0_2) else (if a0_0 = 3 then (platformfwref08_Mid.j0 k a1 a2 a0_0 a0_2) else (some (0, 0, (⟨#[]⟩ : ByteArray), 0, 10))))) else (some (0, 0, (⟨#[]⟩ : ByteArray), 0, 1))) = some (r1, r2, r3, r4, r5) := H
 have A4 := Aside0.mk A40
 clear A40
 by_cases c5 : t339 = true
 ·subst c5
  have H1 : (if a0_0 = 1 then ((platformfwref08_little.f k a0_1).bind fun t340 => (platformfwref08_Mid.j0 k a1 a2 3 t340)) else (if a0_0 = 2 then (platformfwref08_Mid.j0 k a1 a2 a0_0 a0_2) else (if a0_0 = 3 then (platformfwref08_Mid.j0 k a1 a2 a0_0 a0_2) else (some (0, 0, (⟨#[]⟩ : ByteArray), 0, 10))))) = some (r1, r2, r3, r4, r5) := by rw [if_pos rfl] at H; exact H
  clear H
  have H := H1
  clear H1
  have HC6 := Aside0.mk H
  clear H
  go_enter Tryd.func16, Tryd.ntmps16
  go_upto_block 0 with (first | ((with_reducible refine gate_dst (N := 3) rfl ?_); refine box_event ?hg (N := 3) ?hd (cs := #[.int .i64 a0_0, .int .u64 a0_1, .string a0_2, .int .i64 a0_3]) (t := 24) ?hr ?_; (case hd => rfl); (case hg => rfl); (case hr => first | (go_simp; done) | (go_simp; rfl)); intro gb337 hg w7 hbox hb; replace HB := sqN_ (by repeat (first | (with_reducible first | exact HB.out | apply bA_ | apply bN_ | apply bD_) | exact HB.out)) hg hb; obtain ⟨HB, GE337⟩ := HB; have BK337 := Aside0.mk hbox; clear hb hbox hg) | ((with_reducible refine gate_dst (N := 6) rfl ?_); refine box_event ?hg (N := 6) ?hd (cs := #[.int .i64 0, .int .u64 0, .string ⟨#[]⟩, .int .i64 0]) (t := 24) ?hr ?_; (case hd => rfl); (case hg => rfl); (case hr => first | (go_simp; done) | (go_simp; rfl)); intro gb338 hg w8 hbox hb; replace BK337 := sqO_ BK337 (by (with_reducible repeat (first | apply kN_ | apply kD_ | apply kA_)); exact BK337.out) hg hb; obtain ⟨BK337, NB337_338, NB338_337⟩ := BK337; replace HB := sqN_ (by repeat (first | (with_reducible first | exact HB.out | apply bA_ | apply bN_ | apply bD_ | refine bS_ ?_ GE337.out) | exact HB.out)) hg hb; obtain ⟨HB, GE338⟩ := HB; have BK338 := Aside0.mk hbox; clear hb hbox hg; have hnb9 := NB337_338.out; have hnc9 := NB338_337.out; obtain ⟨hcz10_0, hcz10_1, hcz10_2, hcz10_3⟩ := cells4_ BK337.out; obtain ⟨hfz10_0, hfz10_1, hfz10_2, hfz10_3⟩ := froz4_ BK337.out) | (go_at_call 13; (with_reducible refine (platformfwref08_Valid.calls a0_0 a0_1 a0_2 a0_3 true _ A4.out).mono ?_); rintro e w11 ⟨rfl, hb⟩; replace BK337 := sqB_ BK337 (by (with_reducible repeat (first | apply kN_ | apply kD_ | apply kA_)); exact BK337.out) hb; replace BK338 := sqB_ BK338 (by (with_reducible repeat (first | apply kN_ | apply kD_ | apply kA_)); exact BK338.out) hb; replace HB := sqS_ (by repeat (first | (with_reducible first | exact HB.out | apply bA_ | apply bN_ | apply bD_ | refine bS_ ?_ GE337.out | refine bS_ ?_ GE338.out) | exact HB.out)) hb; (try clear hb); (try clear hb2); (try clear hk); (try clear hi); obtain ⟨hcz12_0, hcz12_1, hcz12_2, hcz12_3⟩ := cells4_ BK337.out; obtain ⟨hfz12_0, hfz12_1, hfz12_2, hfz12_3⟩ := froz4_ BK337.out))
  repeat (go_quiet (first | ((with_reducible refine gate_dst (N := 3) rfl ?_); refine box_event ?hg (N := 3) ?hd (cs := #[.int .i64 a0_0, .int .u64 a0_1, .string a0_2, .int .i64 a0_3]) (t := 24) ?hr ?_; (case hd => rfl); (case hg => rfl); (case hr => first | (go_simp; done) | (go_simp; rfl)); intro gb337 hg w7 hbox hb; replace HB := sqN_ (by repeat (first | (with_reducible first | exact HB.out | apply bA_ | apply bN_ | apply bD_) | exact HB.out)) hg hb; obtain ⟨HB, GE337⟩ := HB; have BK337 := Aside0.mk hbox; clear hb hbox hg) | ((with_reducible refine gate_dst (N := 6) rfl ?_); refine box_event ?hg (N := 6) ?hd (cs := #[.int .i64 0, .int .u64 0, .string ⟨#[]⟩, .int .i64 0]) (t := 24) ?hr ?_; (case hd => rfl); (case hg => rfl); (case hr => first | (go_simp; done) | (go_simp; rfl)); intro gb338 hg w8 hbox hb; replace BK337 := sqO_ BK337 (by (with_reducible repeat (first | apply kN_ | apply kD_ | apply kA_)); exact BK337.out) hg hb; obtain ⟨BK337, NB337_338, NB338_337⟩ := BK337; replace HB := sqN_ (by repeat (first | (with_reducible first | exact HB.out | apply bA_ | apply bN_ | apply bD_ | refine bS_ ?_ GE337.out) | exact HB.out)) hg hb; obtain ⟨HB, GE338⟩ := HB; have BK338 := Aside0.mk hbox; clear hb hbox hg; have hnb9 := NB337_338.out; have hnc9 := NB338_337.out; obtain ⟨hcz10_0, hcz10_1, hcz10_2, hcz10_3⟩ := cells4_ BK337.out; obtain ⟨hfz10_0, hfz10_1, hfz10_2, hfz10_3⟩ := froz4_ BK337.out) | (go_at_call 13; (with_reducible refine (platformfwref08_Valid.calls a0_0 a0_1 a0_2 a0_3 true _ A4.out).mono ?_); rintro e w11 ⟨rfl, hb⟩; replace BK337 := sqB_ BK337 (by (with_reducible repeat (first | apply kN_ | apply kD_ | apply kA_)); exact BK337.out) hb; replace BK338 := sqB_ BK338 (by (with_reducible repeat (first | apply kN_ | apply kD_ | apply kA_)); exact BK338.out) hb; replace HB := sqS_ (by repeat (first | (with_reducible first | exact HB.out | apply bA_ | apply bN_ | apply bD_ | refine bS_ ?_ GE337.out | refine bS_ ?_ GE338.out) | exact HB.out)) hb; (try clear hb); (try clear hb2); (try clear hk); (try clear hi); obtain ⟨hcz12_0, hcz12_1, hcz12_2, hcz12_3⟩ := cells4_ BK337.out; obtain ⟨hfz12_0, hfz12_1, hfz12_2, hfz12_3⟩ := froz4_ BK337.out)); go_upto_block 0 with (first | ((with_reducible refine gate_dst (N := 3) rfl ?_); refine box_event ?hg (N := 3) ?hd (cs := #[.int .i64 a0_0, .int .u64 a0_1, .string a0_2, .int .i64 a0_3]) (t := 24) ?hr ?_; (case hd => rfl); (case hg => rfl); (case hr => first | (go_simp; done) | (go_simp; rfl)); intro gb337 hg w7 hbox hb; replace HB := sqN_ (by repeat (first | (with_reducible first | exact HB.out | apply bA_ | apply bN_ | apply bD_) | exact HB.out)) hg hb; obtain ⟨HB, GE337⟩ := HB; have BK337 := Aside0.mk hbox; clear hb hbox hg) | ((with_reducible refine gate_dst (N := 6) rfl ?_); refine box_event ?hg (N := 6) ?hd (cs := #[.int .i64 0, .int .u64 0, .string ⟨#[]⟩, .int .i64 0]) (t := 24) ?hr ?_; (case hd => rfl); (case hg => rfl); (case hr => first | (go_simp; done) | (go_simp; rfl)); intro gb338 hg w8 hbox hb; replace BK337 := sqO_ BK337 (by (with_reducible repeat (first | apply kN_ | apply kD_ | apply kA_)); exact BK337.out) hg hb; obtain ⟨BK337, NB337_338, NB338_337⟩ := BK337; replace HB := sqN_ (by repeat (first | (with_reducible first | exact HB.out | apply bA_ | apply bN_ | apply bD_ | refine bS_ ?_ GE337.out) | exact HB.out)) hg hb; obtain ⟨HB, GE338⟩ := HB; have BK338 := Aside0.mk hbox; clear hb hbox hg; have hnb9 := NB337_338.out; have hnc9 := NB338_337.out; obtain ⟨hcz10_0, hcz10_1, hcz10_2, hcz10_3⟩ := cells4_ BK337.out; obtain ⟨hfz10_0, hfz10_1, hfz10_2, hfz10_3⟩ := froz4_ BK337.out) | (go_at_call 13; (with_reducible refine (platformfwref08_Valid.calls a0_0 a0_1 a0_2 a0_3 true _ A4.out).mono ?_); rintro e w11 ⟨rfl, hb⟩; replace BK337 := sqB_ BK337 (by (with_reducible repeat (first | apply kN_ | apply kD_ | apply kA_)); exact BK337.out) hb; replace BK338 := sqB_ BK338 (by (with_reducible repeat (first | apply kN_ | apply kD_ | apply kA_)); exact BK338.out) hb; replace HB := sqS_ (by repeat (first | (with_reducible first | exact HB.out | apply bA_ | apply bN_ | apply bD_ | refine bS_ ?_ GE337.out | refine bS_ ?_ GE338.out) | exact HB.out)) hb; (try clear hb); (try clear hb2); (try clear hk); (try clear hi); obtain ⟨hcz12_0, hcz12_1, hcz12_2, hcz12_3⟩ := cells4_ BK337.out; obtain ⟨hfz12_0, hfz12_1, hfz12_2, hfz12_3⟩ := froz4_ BK337.out)))
  (try simp only [Act.put, sA_, sB_, sC_])
  go_cut [8, 9] (fun v8 v9 wc => ∃ (kq : Nat) (x8_5 : Int) (x9_5 : ByteArray) (x339000_5 : Int) (x339001_5 : Int) (x339002_5 : ByteArray) (x339003_5 : Int), v8 = .int .i64 x8_5 ∧ v9 = .string x9_5 ∧ Aside0 (platformfwref08_Mid.j0 kq a1 a2 x8_5 x9_5 = some (r1, r2, r3, r4, r5)) ∧ Aside0 (kq ≤ k) ∧ Aside0 (wc.heap[gb337]? = some (.cells #[.int .i64 a0_0, .int .u64 a0_1, .string a0_2, .int .i64 a0_3] 24 (0, 0))) ∧ Aside0 (wc.heap[gb338]? = some (.cells #[.int .i64 x339000_5, .int .u64 x339001_5, .string x339002_5, .int .i64 x339003_5] 24 (0, 0))) ∧ Aside0 (Below w.heap.size w wc))
  case first =>
   have H := HC6.out
   clear HC6
   by_cases c13 : a0_0 = 1
   ·rw [if_pos c13] at H
    have c13b0 : (a0_0 == 1) = true := beq_iff_eq.mpr c13
    have c13b1 : (a0_0 != 1) = false := bne_eq_false_iff_eq.mpr c13
    clear c13
    (first | rw [c13b0] | (simp only [i64_w, i32_w]; rw [c13b0]) | skip)
    replace H := Option.bind_eq_some_iff.mp H
    obtain ⟨t340, A140, H⟩ := H
    replace H : (platformfwref08_Mid.j0 k a1 a2 3 t340) = some (r1, r2, r3, r4, r5) := H
    have A14 := Aside0.mk A140
    clear A140
    have H' := Aside0.mk H
    clear H
    have hnb15 := NB337_338.out
    have hnc15 := NB338_337.out
    obtain ⟨hcz16_0, hcz16_1, hcz16_2, hcz16_3⟩ := cells4_ BK337.out
    obtain ⟨hfz16_0, hfz16_1, hfz16_2, hfz16_3⟩ := froz4_ BK337.out
    go_wp2_with (first | (go_at_call 32; (with_reducible refine (platformfwref08_little.calls k a0_1 t340 _ A14.out).mono ?_); rintro e w17 ⟨rfl, hb⟩; replace BK337 := sqB_ BK337 (by (with_reducible repeat (first | apply kN_ | apply kD_ | apply kA_)); exact BK337.out) hb; replace BK338 := sqB_ BK338 (by (with_reducible repeat (first | apply kN_ | apply kD_ | apply kA_)); exact BK338.out) hb; replace HB := sqS_ (by repeat (first | (with_reducible first | exact HB.out | apply bA_ | apply bN_ | apply bD_ | refine bS_ ?_ GE337.out | refine bS_ ?_ GE338.out) | exact HB.out)) hb; (try clear hb); (try clear hb2); (try clear hk); (try clear hi)))
    repeat (go_quiet (first | (go_at_call 32; (with_reducible refine (platformfwref08_little.calls k a0_1 t340 _ A14.out).mono ?_); rintro e w17 ⟨rfl, hb⟩; replace BK337 := sqB_ BK337 (by (with_reducible repeat (first | apply kN_ | apply kD_ | apply kA_)); exact BK337.out) hb; replace BK338 := sqB_ BK338 (by (with_reducible repeat (first | apply kN_ | apply kD_ | apply kA_)); exact BK338.out) hb; replace HB := sqS_ (by repeat (first | (with_reducible first | exact HB.out | apply bA_ | apply bN_ | apply bD_ | refine bS_ ?_ GE337.out | refine bS_ ?_ GE338.out) | exact HB.out)) hb; (try clear hb); (try clear hb2); (try clear hk); (try clear hi))); try go_wp2_with (first | (go_at_call 32; (with_reducible refine (platformfwref08_little.calls k a0_1 t340 _ A14.out).mono ?_); rintro e w17 ⟨rfl, hb⟩; replace BK337 := sqB_ BK337 (by (with_reducible repeat (first | apply kN_ | apply kD_ | apply kA_)); exact BK337.out) hb; replace BK338 := sqB_ BK338 (by (with_reducible repeat (first | apply kN_ | apply kD_ | apply kA_)); exact BK338.out) hb; replace HB := sqS_ (by repeat (first | (with_reducible first | exact HB.out | apply bA_ | apply bN_ | apply bD_ | refine bS_ ?_ GE337.out | refine bS_ ?_ GE338.out) | exact HB.out)) hb; (try clear hb); (try clear hb2); (try clear hk); (try clear hi))))
    go_meet
    case rel => exact ⟨_, (3), (t340), (0), (0), ((⟨#[]⟩ : ByteArray)), (0), (by first | rfl | (simp; done) | (simp [*]; done)), (by first | rfl | (simp; done) | (simp [*]; done)), H', ⟨by first | omega | exact Nat.le_refl _⟩, ⟨by (with_reducible repeat (first | apply kN_ | apply kD_ | apply kA_)); exact BK337.out⟩, ⟨by (with_reducible repeat (first | apply kN_ | apply kD_ | apply kA_)); exact BK338.out⟩, ⟨by repeat (first | (with_reducible first | exact HB.out | apply bA_ | apply bN_ | apply bD_ | refine bS_ ?_ GE337.out | refine bS_ ?_ GE338.out) | exact HB.out)⟩⟩
   ·rw [if_neg c13] at H
    have c13b0 : (a0_0 == 1) = false := beq_eq_false_iff_ne.mpr c13
    have c13b1 : (a0_0 != 1) = true := bne_iff_ne.mpr c13
    (first | rw [c13b0] | (simp only [i64_w, i32_w]; rw [c13b0]) | skip)
    by_cases c18 : a0_0 = 2
    ·rw [if_pos c18] at H
     have c18b0 : (a0_0 == 2) = true := beq_iff_eq.mpr c18
     have c18b1 : (a0_0 != 2) = false := bne_eq_false_iff_eq.mpr c18
     clear c18
     have H' := Aside0.mk H
     clear H
     go_wp2
     repeat (go_quiet (fail); try go_wp2)
     go_meet
     case rel => exact ⟨_, (a0_0), (a0_2), (0), (0), ((⟨#[]⟩ : ByteArray)), (0), (by first | rfl | (simp; done) | (simp [*]; done)), (by first | rfl | (simp; done) | (simp [*]; done)), H', ⟨by first | omega | exact Nat.le_refl _⟩, ⟨by (with_reducible repeat (first | apply kN_ | apply kD_ | apply kA_)); exact BK337.out⟩, ⟨by (with_reducible repeat (first | apply kN_ | apply kD_ | apply kA_)); exact BK338.out⟩, ⟨by repeat (first | (with_reducible first | exact HB.out | apply bA_ | apply bN_ | apply bD_ | refine bS_ ?_ GE337.out | refine bS_ ?_ GE338.out) | exact HB.out)⟩⟩
    ·rw [if_neg c18] at H
     have c18b0 : (a0_0 == 2) = false := beq_eq_false_iff_ne.mpr c18
     have c18b1 : (a0_0 != 2) = true := bne_iff_ne.mpr c18
     by_cases c19 : a0_0 = 3
     ·rw [if_pos c19] at H
      have c19b0 : (a0_0 == 3) = true := beq_iff_eq.mpr c19
      have c19b1 : (a0_0 != 3) = false := bne_eq_false_iff_eq.mpr c19
      clear c19
      have H' := Aside0.mk H
      clear H
      go_wp2
      repeat (go_quiet (fail); try go_wp2)
      go_meet
      case rel => exact ⟨_, (a0_0), (a0_2), (0), (0), ((⟨#[]⟩ : ByteArray)), (0), (by first | rfl | (simp; done) | (simp [*]; done)), (by first | rfl | (simp; done) | (simp [*]; done)), H', ⟨by first | omega | exact Nat.le_refl _⟩, ⟨by (with_reducible repeat (first | apply kN_ | apply kD_ | apply kA_)); exact BK337.out⟩, ⟨by (with_reducible repeat (first | apply kN_ | apply kD_ | apply kA_)); exact BK338.out⟩, ⟨by repeat (first | (with_reducible first | exact HB.out | apply bA_ | apply bN_ | apply bD_ | refine bS_ ?_ GE337.out | refine bS_ ?_ GE338.out) | exact HB.out)⟩⟩
     ·rw [if_neg c19] at H
      have c19b0 : (a0_0 == 3) = false := beq_eq_false_iff_ne.mpr c19
      have c19b1 : (a0_0 != 3) = true := bne_iff_ne.mpr c19
      simp only [Option.some.injEq, Prod.mk.injEq] at H
      obtain ⟨rfl, rfl, rfl, rfl, rfl⟩ := H
      have hnb20 := NB338_337.out
      have hnc20 := NB337_338.out
      obtain ⟨hcz21_0, hcz21_1, hcz21_2, hcz21_3⟩ := cells4_ BK338.out
      obtain ⟨hfz21_0, hfz21_1, hfz21_2, hfz21_3⟩ := froz4_ BK338.out
      go_wp2
      repeat (go_quiet (fail); try go_wp2)
      refine bodyPost_ret (results_ct rfl _ _ gb338 24 #[.int .i64 0, .int .u64 0, .string ⟨#[]⟩, .int .i64 0] (0, 0) _ rfl (by (with_reducible repeat (first | apply kN_ | apply kD_ | apply kA_)); refine blk_put (cs := #[.int .i64 0, .int .u64 0, .string ⟨#[]⟩, .int .i64 0]) ?_ 3 _ rfl; (with_reducible repeat (first | apply kN_ | apply kD_ | apply kA_)); refine blk_put (cs := #[.int .i64 0, .int .u64 0, .string ⟨#[]⟩, .int .i64 0]) ?_ 2 _ rfl; (with_reducible repeat (first | apply kN_ | apply kD_ | apply kA_)); refine blk_put (cs := #[.int .i64 0, .int .u64 0, .string ⟨#[]⟩, .int .i64 0]) ?_ 1 _ rfl; (with_reducible repeat (first | apply kN_ | apply kD_ | apply kA_)); refine blk_put (cs := #[.int .i64 0, .int .u64 0, .string ⟨#[]⟩, .int .i64 0]) ?_ 0 _ rfl; (with_reducible repeat (first | apply kN_ | apply kD_ | apply kA_)); exact BK338.out) Tryd.underlying24 rfl (by kernel_rfl)) rfl ?_
      exact ⟨by first | rfl | (simp [errW_none, errW_some] <;> rfl) | (simp [*, errW_none, errW_some] <;> rfl), by repeat (first | (with_reducible first | exact HB.out | apply bA_ | apply bN_ | apply bD_ | refine bS_ ?_ GE337.out | refine bS_ ?_ GE338.out) | exact HB.out)⟩
  case rest =>
   clear HC6
   try clear c1
   try clear c2
   try clear p2
   try clear c5
   try clear c9
   try clear c13
   try clear c13b0
   try clear c13b1
   try clear c15
   try clear c16
   try clear c18
   try clear c18b0
   try clear c18b1
   try clear c19
   try clear c19b0
   try clear c19b1
   try clear c20
   try clear hcz10_0 hcz10_1 hcz10_2 hcz10_3
   try clear hcz12_0 hcz12_1 hcz12_2 hcz12_3
   try clear hcz16_0 hcz16_1 hcz16_2 hcz16_3
   try clear hcz21_0 hcz21_1 hcz21_2 hcz21_3
   try clear hfz10_0 hfz10_1 hfz10_2 hfz10_3
   try clear hfz12_0 hfz12_1 hfz12_2 hfz12_3
   try clear hfz16_0 hfz16_1 hfz16_2 hfz16_3
   try clear hfz21_0 hfz21_1 hfz21_2 hfz21_3
   obtain ⟨kq, x8_5, x9_5, x339000_5, x339001_5, x339002_5, x339003_5, rfl, rfl, HA, HJ5, BK337, BK338, HB⟩ := hcut
   cases kq with
   | zero => exact absurd HA.out (by simp [platformfwref08_Mid.j0])
   | succ kj5 =>
    have H := HA.out
    clear HA
    simp only [platformfwref08_Mid.j0] at H
    by_cases c22 : a1 ≥ (IntKind.u64.wrap ((x9_5.size : Int)))
    ·rw [if_pos c22] at H
     have c22b0 : decide ((IntKind.u64.wrap ((x9_5.size : Int))) ≤ a1) = true := decide_eq_true c22
     clear c22
     simp only [Option.some.injEq, Prod.mk.injEq] at H
     obtain ⟨rfl, rfl, rfl, rfl, rfl⟩ := H
     have hnb23 := NB338_337.out
     have hnc23 := NB337_338.out
     obtain ⟨hcz24_0, hcz24_1, hcz24_2, hcz24_3⟩ := cells4_ BK338.out
     obtain ⟨hfz24_0, hfz24_1, hfz24_2, hfz24_3⟩ := froz4_ BK338.out
     go_wp2
     repeat (go_quiet (fail); try go_wp2)
     refine bodyPost_ret (results_ct rfl _ _ gb338 24 #[.int .i64 x8_5, .int .u64 0, .string ⟨#[]⟩, .int .i64 0] (0, 0) _ rfl (by (with_reducible repeat (first | apply kN_ | apply kD_ | apply kA_)); refine blk_put (cs := #[.int .i64 x8_5, .int .u64 0, .string ⟨#[]⟩, .int .i64 x339003_5]) ?_ 3 _ rfl; (with_reducible repeat (first | apply kN_ | apply kD_ | apply kA_)); refine blk_put (cs := #[.int .i64 x8_5, .int .u64 0, .string x339002_5, .int .i64 x339003_5]) ?_ 2 _ rfl; (with_reducible repeat (first | apply kN_ | apply kD_ | apply kA_)); refine blk_put (cs := #[.int .i64 x8_5, .int .u64 x339001_5, .string x339002_5, .int .i64 x339003_5]) ?_ 1 _ rfl; (with_reducible repeat (first | apply kN_ | apply kD_ | apply kA_)); refine blk_put (cs := #[.int .i64 x339000_5, .int .u64 x339001_5, .string x339002_5, .int .i64 x339003_5]) ?_ 0 _ rfl; (with_reducible repeat (first | apply kN_ | apply kD_ | apply kA_)); exact BK338.out) Tryd.underlying24 rfl (by kernel_rfl)) rfl ?_
     exact ⟨by first | rfl | (simp [errW_none, errW_some] <;> rfl) | (simp [*, errW_none, errW_some] <;> rfl), by repeat (first | (with_reducible first | exact HB.out | apply bA_ | apply bN_ | apply bD_ | refine bS_ ?_ GE337.out | refine bS_ ?_ GE338.out) | exact HB.out)⟩
    ·rw [if_neg c22] at H
     have c22b0 : decide ((IntKind.u64.wrap ((x9_5.size : Int))) ≤ a1) = false := decide_eq_false c22
     clear c22
     by_cases c25 : 0 ≤ a1
     ·rw [if_pos c25] at H
      have c25b0 := eq_true c25
      have c25b1 : decide (0 ≤ a1) = true := decide_eq_true c25
      clear c25
      by_cases c26 : a1 ≤ (x9_5.size : Int)
      ·rw [if_pos c26] at H
       have c26b0 := eq_true c26
       have c26b1 : decide (a1 ≤ (x9_5.size : Int)) = true := decide_eq_true c26
       clear c26
       by_cases c27 : a2 < (IntKind.u64.wrap (((x9_5.extract (a1 : Int).toNat x9_5.size).size : Int)))
       ·rw [if_pos c27] at H
        have c27b0 : decide (a2 < (IntKind.u64.wrap (((x9_5.extract (a1 : Int).toNat x9_5.size).size : Int)))) = true := decide_eq_true c27
        clear c27
        by_cases c28 : 0 ≤ a2
        ·rw [if_pos c28] at H
         have c28b0 := eq_true c28
         have c28b1 : decide (0 ≤ a2) = true := decide_eq_true c28
         clear c28
         by_cases c29 : a2 ≤ ((x9_5.extract (a1 : Int).toNat x9_5.size).size : Int)
         ·rw [if_pos c29] at H
          have c29b0 := eq_true c29
          have c29b1 : decide (a2 ≤ ((x9_5.extract (a1 : Int).toNat x9_5.size).size : Int)) = true := decide_eq_true c29
          clear c29
          simp only [Option.some.injEq, Prod.mk.injEq] at H
          obtain ⟨rfl, rfl, rfl, rfl, rfl⟩ := H
          simp only [ByteArray.size_extract, Nat.min_self] at c27b0 c29b0 c29b1
          have hnb30 := NB338_337.out
          have hnc30 := NB337_338.out
          obtain ⟨hcz31_0, hcz31_1, hcz31_2, hcz31_3⟩ := cells4_ BK338.out
          obtain ⟨hfz31_0, hfz31_1, hfz31_2, hfz31_3⟩ := froz4_ BK338.out
          go_wp2
          repeat (go_quiet (fail); try go_wp2)
          refine bodyPost_ret (results_ct rfl _ _ gb338 24 #[.int .i64 x8_5, .int .u64 0, .string ((x9_5.extract (a1 : Int).toNat x9_5.size).extract 0 (a2 : Int).toNat), .int .i64 0] (0, 0) _ rfl (by (with_reducible repeat (first | apply kN_ | apply kD_ | apply kA_)); refine blk_put (cs := #[.int .i64 x8_5, .int .u64 0, .string ((x9_5.extract (a1 : Int).toNat x9_5.size).extract 0 (a2 : Int).toNat), .int .i64 x339003_5]) ?_ 3 _ rfl; (with_reducible repeat (first | apply kN_ | apply kD_ | apply kA_)); refine blk_put (cs := #[.int .i64 x8_5, .int .u64 0, .string x339002_5, .int .i64 x339003_5]) ?_ 2 _ rfl; (with_reducible repeat (first | apply kN_ | apply kD_ | apply kA_)); refine blk_put (cs := #[.int .i64 x8_5, .int .u64 x339001_5, .string x339002_5, .int .i64 x339003_5]) ?_ 1 _ rfl; (with_reducible repeat (first | apply kN_ | apply kD_ | apply kA_)); refine blk_put (cs := #[.int .i64 x339000_5, .int .u64 x339001_5, .string x339002_5, .int .i64 x339003_5]) ?_ 0 _ rfl; (with_reducible repeat (first | apply kN_ | apply kD_ | apply kA_)); exact BK338.out) Tryd.underlying24 rfl (by kernel_rfl)) rfl ?_
          exact ⟨by first | rfl | (simp [errW_none, errW_some] <;> rfl) | (simp [*, errW_none, errW_some] <;> rfl), by repeat (first | (with_reducible first | exact HB.out | apply bA_ | apply bN_ | apply bD_ | refine bS_ ?_ GE337.out | refine bS_ ?_ GE338.out) | exact HB.out)⟩
         ·rw [if_neg c29] at H
          exact absurd H (by simp)
        ·rw [if_neg c28] at H
         exact absurd H (by simp)
       ·rw [if_neg c27] at H
        have c27b0 : decide (a2 < (IntKind.u64.wrap (((x9_5.extract (a1 : Int).toNat x9_5.size).size : Int)))) = false := decide_eq_false c27
        clear c27
        simp only [Option.some.injEq, Prod.mk.injEq] at H
        obtain ⟨rfl, rfl, rfl, rfl, rfl⟩ := H
        simp only [ByteArray.size_extract, Nat.min_self] at c27b0
        have hnb32 := NB338_337.out
        have hnc32 := NB337_338.out
        obtain ⟨hcz33_0, hcz33_1, hcz33_2, hcz33_3⟩ := cells4_ BK338.out
        obtain ⟨hfz33_0, hfz33_1, hfz33_2, hfz33_3⟩ := froz4_ BK338.out
        go_wp2
        repeat (go_quiet (fail); try go_wp2)
        refine bodyPost_ret (results_ct rfl _ _ gb338 24 #[.int .i64 x8_5, .int .u64 0, .string (x9_5.extract (a1 : Int).toNat x9_5.size), .int .i64 0] (0, 0) _ rfl (by (with_reducible repeat (first | apply kN_ | apply kD_ | apply kA_)); refine blk_put (cs := #[.int .i64 x8_5, .int .u64 0, .string (x9_5.extract (a1 : Int).toNat x9_5.size), .int .i64 x339003_5]) ?_ 3 _ rfl; (with_reducible repeat (first | apply kN_ | apply kD_ | apply kA_)); refine blk_put (cs := #[.int .i64 x8_5, .int .u64 0, .string x339002_5, .int .i64 x339003_5]) ?_ 2 _ rfl; (with_reducible repeat (first | apply kN_ | apply kD_ | apply kA_)); refine blk_put (cs := #[.int .i64 x8_5, .int .u64 x339001_5, .string x339002_5, .int .i64 x339003_5]) ?_ 1 _ rfl; (with_reducible repeat (first | apply kN_ | apply kD_ | apply kA_)); refine blk_put (cs := #[.int .i64 x339000_5, .int .u64 x339001_5, .string x339002_5, .int .i64 x339003_5]) ?_ 0 _ rfl; (with_reducible repeat (first | apply kN_ | apply kD_ | apply kA_)); exact BK338.out) Tryd.underlying24 rfl (by kernel_rfl)) rfl ?_
        exact ⟨by first | rfl | (simp [errW_none, errW_some] <;> rfl) | (simp [*, errW_none, errW_some] <;> rfl), by repeat (first | (with_reducible first | exact HB.out | apply bA_ | apply bN_ | apply bD_ | refine bS_ ?_ GE337.out | refine bS_ ?_ GE338.out) | exact HB.out)⟩
      ·rw [if_neg c26] at H
       exact absurd H (by simp)
     ·rw [if_neg c25] at H
      exact absurd H (by simp)
 ·replace c5 := Bool.eq_false_iff.mpr c5
  subst c5
  have H1 : (some (0, 0, (⟨#[]⟩ : ByteArray), 0, 1)) = some (r1, r2, r3, r4, r5) := by rw [if_neg (show ¬ (false = true) by decide)] at H; exact H
  clear H
  have H := H1
  clear H1
  simp only [Option.some.injEq, Prod.mk.injEq] at H
  obtain ⟨rfl, rfl, rfl, rfl, rfl⟩ := H
  go_enter Tryd.func16, Tryd.ntmps16
  go_wp2_with (first | ((with_reducible refine gate_dst (N := 3) rfl ?_); refine box_event ?hg (N := 3) ?hd (cs := #[.int .i64 a0_0, .int .u64 a0_1, .string a0_2, .int .i64 a0_3]) (t := 24) ?hr ?_; (case hd => rfl); (case hg => rfl); (case hr => first | (go_simp; done) | (go_simp; rfl)); intro gb337 hg w34 hbox hb; replace HB := sqN_ (by repeat (first | (with_reducible first | exact HB.out | apply bA_ | apply bN_ | apply bD_) | exact HB.out)) hg hb; obtain ⟨HB, GE337⟩ := HB; have BK337 := Aside0.mk hbox; clear hb hbox hg) | ((with_reducible refine gate_dst (N := 6) rfl ?_); refine box_event ?hg (N := 6) ?hd (cs := #[.int .i64 0, .int .u64 0, .string ⟨#[]⟩, .int .i64 0]) (t := 24) ?hr ?_; (case hd => rfl); (case hg => rfl); (case hr => first | (go_simp; done) | (go_simp; rfl)); intro gb338 hg w35 hbox hb; replace BK337 := sqO_ BK337 (by (with_reducible repeat (first | apply kN_ | apply kD_ | apply kA_)); exact BK337.out) hg hb; obtain ⟨BK337, NB337_338, NB338_337⟩ := BK337; replace HB := sqN_ (by repeat (first | (with_reducible first | exact HB.out | apply bA_ | apply bN_ | apply bD_ | refine bS_ ?_ GE337.out) | exact HB.out)) hg hb; obtain ⟨HB, GE338⟩ := HB; have BK338 := Aside0.mk hbox; clear hb hbox hg; have hnb36 := NB337_338.out; have hnc36 := NB338_337.out; obtain ⟨hcz37_0, hcz37_1, hcz37_2, hcz37_3⟩ := cells4_ BK337.out; obtain ⟨hfz37_0, hfz37_1, hfz37_2, hfz37_3⟩ := froz4_ BK337.out) | (go_at_call 13; (with_reducible refine (platformfwref08_Valid.calls a0_0 a0_1 a0_2 a0_3 false _ A4.out).mono ?_); rintro e w38 ⟨rfl, hb⟩; replace BK337 := sqB_ BK337 (by (with_reducible repeat (first | apply kN_ | apply kD_ | apply kA_)); exact BK337.out) hb; replace BK338 := sqB_ BK338 (by (with_reducible repeat (first | apply kN_ | apply kD_ | apply kA_)); exact BK338.out) hb; replace HB := sqS_ (by repeat (first | (with_reducible first | exact HB.out | apply bA_ | apply bN_ | apply bD_ | refine bS_ ?_ GE337.out | refine bS_ ?_ GE338.out) | exact HB.out)) hb; (try clear hb); (try clear hb2); (try clear hk); (try clear hi); obtain ⟨hcz39_0, hcz39_1, hcz39_2, hcz39_3⟩ := cells4_ BK338.out; obtain ⟨hfz39_0, hfz39_1, hfz39_2, hfz39_3⟩ := froz4_ BK338.out))
  repeat (go_quiet (first | ((with_reducible refine gate_dst (N := 3) rfl ?_); refine box_event ?hg (N := 3) ?hd (cs := #[.int .i64 a0_0, .int .u64 a0_1, .string a0_2, .int .i64 a0_3]) (t := 24) ?hr ?_; (case hd => rfl); (case hg => rfl); (case hr => first | (go_simp; done) | (go_simp; rfl)); intro gb337 hg w34 hbox hb; replace HB := sqN_ (by repeat (first | (with_reducible first | exact HB.out | apply bA_ | apply bN_ | apply bD_) | exact HB.out)) hg hb; obtain ⟨HB, GE337⟩ := HB; have BK337 := Aside0.mk hbox; clear hb hbox hg) | ((with_reducible refine gate_dst (N := 6) rfl ?_); refine box_event ?hg (N := 6) ?hd (cs := #[.int .i64 0, .int .u64 0, .string ⟨#[]⟩, .int .i64 0]) (t := 24) ?hr ?_; (case hd => rfl); (case hg => rfl); (case hr => first | (go_simp; done) | (go_simp; rfl)); intro gb338 hg w35 hbox hb; replace BK337 := sqO_ BK337 (by (with_reducible repeat (first | apply kN_ | apply kD_ | apply kA_)); exact BK337.out) hg hb; obtain ⟨BK337, NB337_338, NB338_337⟩ := BK337; replace HB := sqN_ (by repeat (first | (with_reducible first | exact HB.out | apply bA_ | apply bN_ | apply bD_ | refine bS_ ?_ GE337.out) | exact HB.out)) hg hb; obtain ⟨HB, GE338⟩ := HB; have BK338 := Aside0.mk hbox; clear hb hbox hg; have hnb36 := NB337_338.out; have hnc36 := NB338_337.out; obtain ⟨hcz37_0, hcz37_1, hcz37_2, hcz37_3⟩ := cells4_ BK337.out; obtain ⟨hfz37_0, hfz37_1, hfz37_2, hfz37_3⟩ := froz4_ BK337.out) | (go_at_call 13; (with_reducible refine (platformfwref08_Valid.calls a0_0 a0_1 a0_2 a0_3 false _ A4.out).mono ?_); rintro e w38 ⟨rfl, hb⟩; replace BK337 := sqB_ BK337 (by (with_reducible repeat (first | apply kN_ | apply kD_ | apply kA_)); exact BK337.out) hb; replace BK338 := sqB_ BK338 (by (with_reducible repeat (first | apply kN_ | apply kD_ | apply kA_)); exact BK338.out) hb; replace HB := sqS_ (by repeat (first | (with_reducible first | exact HB.out | apply bA_ | apply bN_ | apply bD_ | refine bS_ ?_ GE337.out | refine bS_ ?_ GE338.out) | exact HB.out)) hb; (try clear hb); (try clear hb2); (try clear hk); (try clear hi); obtain ⟨hcz39_0, hcz39_1, hcz39_2, hcz39_3⟩ := cells4_ BK338.out; obtain ⟨hfz39_0, hfz39_1, hfz39_2, hfz39_3⟩ := froz4_ BK338.out)); try go_wp2_with (first | ((with_reducible refine gate_dst (N := 3) rfl ?_); refine box_event ?hg (N := 3) ?hd (cs := #[.int .i64 a0_0, .int .u64 a0_1, .string a0_2, .int .i64 a0_3]) (t := 24) ?hr ?_; (case hd => rfl); (case hg => rfl); (case hr => first | (go_simp; done) | (go_simp; rfl)); intro gb337 hg w34 hbox hb; replace HB := sqN_ (by repeat (first | (with_reducible first | exact HB.out | apply bA_ | apply bN_ | apply bD_) | exact HB.out)) hg hb; obtain ⟨HB, GE337⟩ := HB; have BK337 := Aside0.mk hbox; clear hb hbox hg) | ((with_reducible refine gate_dst (N := 6) rfl ?_); refine box_event ?hg (N := 6) ?hd (cs := #[.int .i64 0, .int .u64 0, .string ⟨#[]⟩, .int .i64 0]) (t := 24) ?hr ?_; (case hd => rfl); (case hg => rfl); (case hr => first | (go_simp; done) | (go_simp; rfl)); intro gb338 hg w35 hbox hb; replace BK337 := sqO_ BK337 (by (with_reducible repeat (first | apply kN_ | apply kD_ | apply kA_)); exact BK337.out) hg hb; obtain ⟨BK337, NB337_338, NB338_337⟩ := BK337; replace HB := sqN_ (by repeat (first | (with_reducible first | exact HB.out | apply bA_ | apply bN_ | apply bD_ | refine bS_ ?_ GE337.out) | exact HB.out)) hg hb; obtain ⟨HB, GE338⟩ := HB; have BK338 := Aside0.mk hbox; clear hb hbox hg; have hnb36 := NB337_338.out; have hnc36 := NB338_337.out; obtain ⟨hcz37_0, hcz37_1, hcz37_2, hcz37_3⟩ := cells4_ BK337.out; obtain ⟨hfz37_0, hfz37_1, hfz37_2, hfz37_3⟩ := froz4_ BK337.out) | (go_at_call 13; (with_reducible refine (platformfwref08_Valid.calls a0_0 a0_1 a0_2 a0_3 false _ A4.out).mono ?_); rintro e w38 ⟨rfl, hb⟩; replace BK337 := sqB_ BK337 (by (with_reducible repeat (first | apply kN_ | apply kD_ | apply kA_)); exact BK337.out) hb; replace BK338 := sqB_ BK338 (by (with_reducible repeat (first | apply kN_ | apply kD_ | apply kA_)); exact BK338.out) hb; replace HB := sqS_ (by repeat (first | (with_reducible first | exact HB.out | apply bA_ | apply bN_ | apply bD_ | refine bS_ ?_ GE337.out | refine bS_ ?_ GE338.out) | exact HB.out)) hb; (try clear hb); (try clear hb2); (try clear hk); (try clear hi); obtain ⟨hcz39_0, hcz39_1, hcz39_2, hcz39_3⟩ := cells4_ BK338.out; obtain ⟨hfz39_0, hfz39_1, hfz39_2, hfz39_3⟩ := froz4_ BK338.out)))
  refine bodyPost_ret (results_ct rfl _ _ gb338 24 #[.int .i64 0, .int .u64 0, .string ⟨#[]⟩, .int .i64 0] (0, 0) _ rfl (by (with_reducible repeat (first | apply kN_ | apply kD_ | apply kA_)); refine blk_put (cs := #[.int .i64 0, .int .u64 0, .string ⟨#[]⟩, .int .i64 0]) ?_ 3 _ rfl; (with_reducible repeat (first | apply kN_ | apply kD_ | apply kA_)); refine blk_put (cs := #[.int .i64 0, .int .u64 0, .string ⟨#[]⟩, .int .i64 0]) ?_ 2 _ rfl; (with_reducible repeat (first | apply kN_ | apply kD_ | apply kA_)); refine blk_put (cs := #[.int .i64 0, .int .u64 0, .string ⟨#[]⟩, .int .i64 0]) ?_ 1 _ rfl; (with_reducible repeat (first | apply kN_ | apply kD_ | apply kA_)); refine blk_put (cs := #[.int .i64 0, .int .u64 0, .string ⟨#[]⟩, .int .i64 0]) ?_ 0 _ rfl; (with_reducible repeat (first | apply kN_ | apply kD_ | apply kA_)); exact BK338.out) Tryd.underlying24 rfl (by kernel_rfl)) rfl ?_
  exact ⟨by first | rfl | (simp [errW_none, errW_some] <;> rfl) | (simp [*, errW_none, errW_some] <;> rfl), by repeat (first | (with_reducible first | exact HB.out | apply bA_ | apply bN_ | apply bD_ | refine bS_ ?_ GE337.out | refine bS_ ?_ GE338.out) | exact HB.out)⟩

/-! ### platformfwref08_Clean: function 18 -/
def platformfwref08_Clean.j0 : Nat → Int → Bool → Int → Int → ByteArray → Int → Option (Int × Int × ByteArray × Int)
 | 0, _, _, _, _, _, _ => none
 | k + 1, x4, x12, x342000, x342001, x342002, x342003 => if x12 = true then (some (x342000, 0, x342002, 0)) else (if x4 = 0 then (some (0, 0, (⟨#[]⟩ : ByteArray), 0)) else (some (x342000, 0, (⟨#[]⟩ : ByteArray), x342003)))
def platformfwref08_Clean.f (k : Nat) (a0_0 : Int) (a0_1 : Int) (a0_2 : ByteArray) (a0_3 : Int) : Option (Int × Int × ByteArray × Int) := if a0_0 = 1 then (some (a0_0, a0_1, (⟨#[]⟩ : ByteArray), 0)) else (if a0_0 = 2 then (platformfwref08_Clean.j0 k a0_0 (a0_0 == 2) a0_0 a0_1 a0_2 a0_3) else (platformfwref08_Clean.j0 k a0_0 (a0_0 == 3) a0_0 a0_1 a0_2 a0_3))
theorem platformfwref08_Clean.mono_l : ∀ k, (∀ y0 y1 y2 y3 y4 y5, LeO (platformfwref08_Clean.j0 k y0 y1 y2 y3 y4 y5) (platformfwref08_Clean.j0 (k + 1) y0 y1 y2 y3 y4 y5))
 | 0 => fun _ _ _ _ _ _ r h => by simp [platformfwref08_Clean.j0] at h
 | k + 1 => by
  have ih0 := platformfwref08_Clean.mono_l k
  ·intro y0 y1 y2 y3 y4 y5
   unfold platformfwref08_Clean.j0
   repeat' first
   | (with_reducible exact ih0 _ _ _ _ _ _)
   | (with_reducible exact LeO.refl _)
   | (with_reducible exact LeO.none _)
   | (with_reducible refine LeO.ite ?_ ?_)
   | (with_reducible refine LeO.bind ?_ (fun _ => ?_))
   | exact ih0 _ _ _ _ _ _
   | exact LeO.none _
   | refine LeO.ite ?_ ?_
   | refine LeO.bind ?_ (fun _ => ?_)
theorem platformfwref08_Clean.mono : ∀ a0 a1 a2 a3 k, LeO (platformfwref08_Clean.f k a0 a1 a2 a3) (platformfwref08_Clean.f (k + 1) a0 a1 a2 a3) := by
 intro a0 a1 a2 a3 k
 have ih0 := platformfwref08_Clean.mono_l k
 unfold platformfwref08_Clean.f
 repeat' first
   | (with_reducible exact ih0 _ _ _ _ _ _)
   | (with_reducible exact LeO.refl _)
   | (with_reducible exact LeO.none _)
   | (with_reducible refine LeO.ite ?_ ?_)
   | (with_reducible refine LeO.bind ?_ (fun _ => ?_))
   | exact ih0 _ _ _ _ _ _
   | exact LeO.none _
   | refine LeO.ite ?_ ?_
   | refine LeO.bind ?_ (fun _ => ?_)
set_option maxHeartbeats 8000000 in
set_option maxRecDepth 100000 in
theorem platformfwref08_Clean.calls (k : Nat) (a0_0 : Int) (a0_1 : Int) (a0_2 : ByteArray) (a0_3 : Int) (r1 : Int) (r2 : Int) (r3 : ByteArray) (r4 : Int) (w : World) (h : platformfwref08_Clean.f k a0_0 a0_1 a0_2 a0_3 = some (r1, r2, r3, r4)) :
  Calls Tryd.prog 18 #[.agg #[.int .i64 a0_0, .int .u64 a0_1, .string a0_2, .int .i64 a0_3]] w fun e w' => e = .returned (.agg #[.int .i64 r1, .int .u64 r2, .string r3, .int .i64 r4]) ∧ Below w.heap.size w w' := by
 have hu24 := Tryd.underlying24
 have HB := Aside0.mk (Below.refl w.heap.size w)
 have H : (if a0_0 = 1 then (some (a0_0, a0_1, (⟨#[]⟩ : ByteArray), 0)) else (if a0_0 = 2 then (platformfwref08_Clean.j0 k a0_0 (a0_0 == 2) a0_0 a0_1 a0_2 a0_3) else (platformfwref08_Clean.j0 k a0_0 (a0_0 == 3) a0_0 a0_1 a0_2 a0_3))) = some (r1, r2, r3, r4) := h
 clear h
 by_cases c2 : a0_0 = 1
 ·rw [if_pos c2] at H
  have c2b0 : (a0_0 == 1) = true := beq_iff_eq.mpr c2
  have c2b1 : (a0_0 != 1) = false := bne_eq_false_iff_eq.mpr c2
  clear c2
  simp only [Option.some.injEq, Prod.mk.injEq] at H
  obtain ⟨rfl, rfl, rfl, rfl⟩ := H
  go_enter Tryd.func18, Tryd.ntmps18
  go_wp2_with (first | ((with_reducible refine gate_dst (N := 1) rfl ?_); refine box_event ?hg (N := 1) ?hd (cs := #[.int .i64 a0_0, .int .u64 a0_1, .string a0_2, .int .i64 a0_3]) (t := 24) ?hr ?_; (case hd => rfl); (case hg => rfl); (case hr => first | (go_simp; done) | (go_simp; rfl)); intro gb341 hg w3 hbox hb; replace HB := sqN_ (by repeat (first | (with_reducible first | exact HB.out | apply bA_ | apply bN_ | apply bD_) | exact HB.out)) hg hb; obtain ⟨HB, GE341⟩ := HB; have BK341 := Aside0.mk hbox; clear hb hbox hg) | ((with_reducible refine gate_dst (N := 2) rfl ?_); refine box_event ?hg (N := 2) ?hd (cs := #[.int .i64 0, .int .u64 0, .string ⟨#[]⟩, .int .i64 0]) (t := 24) ?hr ?_; (case hd => rfl); (case hg => rfl); (case hr => first | (go_simp; done) | (go_simp; rfl)); intro gb342 hg w4 hbox hb; replace BK341 := sqO_ BK341 (by (with_reducible repeat (first | apply kN_ | apply kD_ | apply kA_)); exact BK341.out) hg hb; obtain ⟨BK341, NB341_342, NB342_341⟩ := BK341; replace HB := sqN_ (by repeat (first | (with_reducible first | exact HB.out | apply bA_ | apply bN_ | apply bD_ | refine bS_ ?_ GE341.out) | exact HB.out)) hg hb; obtain ⟨HB, GE342⟩ := HB; have BK342 := Aside0.mk hbox; clear hb hbox hg; have hnb5 := NB341_342.out; have hnc5 := NB342_341.out; obtain ⟨hcz6_0, hcz6_1, hcz6_2, hcz6_3⟩ := cells4_ BK341.out; obtain ⟨hfz6_0, hfz6_1, hfz6_2, hfz6_3⟩ := froz4_ BK341.out; obtain ⟨hcz7_0, hcz7_1, hcz7_2, hcz7_3⟩ := cells4_ BK342.out; obtain ⟨hfz7_0, hfz7_1, hfz7_2, hfz7_3⟩ := froz4_ BK342.out))
  refine bodyPost_ret (results_cell_row rfl _ _ gb342 24 #[.int .i64 a0_0, .int .u64 a0_1, .string ⟨#[]⟩, .int .i64 0] (0, 0) _ rfl (by (with_reducible repeat (first | apply kN_ | apply kD_ | apply kA_)); refine blk_put (cs := #[.int .i64 a0_0, .int .u64 a0_1, .string ⟨#[]⟩, .int .i64 0]) ?_ 3 _ rfl; (with_reducible repeat (first | apply kN_ | apply kD_ | apply kA_)); refine blk_put (cs := #[.int .i64 a0_0, .int .u64 a0_1, .string ⟨#[]⟩, .int .i64 0]) ?_ 2 _ rfl; (with_reducible repeat (first | apply kN_ | apply kD_ | apply kA_)); refine blk_put (cs := #[.int .i64 a0_0, .int .u64 0, .string ⟨#[]⟩, .int .i64 0]) ?_ 1 _ rfl; (with_reducible repeat (first | apply kN_ | apply kD_ | apply kA_)); refine blk_put (cs := #[.int .i64 0, .int .u64 0, .string ⟨#[]⟩, .int .i64 0]) ?_ 0 _ rfl; (with_reducible repeat (first | apply kN_ | apply kD_ | apply kA_)); exact BK342.out) Tryd.underlying24 rfl (by kernel_rfl)) rfl ?_
  exact ⟨by first | rfl | (simp [errW_none, errW_some] <;> rfl) | (simp [*, errW_none, errW_some] <;> rfl), by repeat (first | (with_reducible first | exact HB.out | apply bA_ | apply bN_ | apply bD_ | refine bS_ ?_ GE341.out | refine bS_ ?_ GE342.out) | exact HB.out)⟩
 ·rw [if_neg c2] at H
  have c2b0 : (a0_0 == 1) = false := beq_eq_false_iff_ne.mpr c2
  have c2b1 : (a0_0 != 1) = true := bne_iff_ne.mpr c2
  have HC8 := Aside0.mk H
  clear H
  go_enter Tryd.func18, Tryd.ntmps18
  go_upto_if 12 with (first | ((with_reducible refine gate_dst (N := 1) rfl ?_); refine box_event ?hg (N := 1) ?hd (cs := #[.int .i64 a0_0, .int .u64 a0_1, .string a0_2, .int .i64 a0_3]) (t := 24) ?hr ?_; (case hd => rfl); (case hg => rfl); (case hr => first | (go_simp; done) | (go_simp; rfl)); intro gb341 hg w9 hbox hb; replace HB := sqN_ (by repeat (first | (with_reducible first | exact HB.out | apply bA_ | apply bN_ | apply bD_) | exact HB.out)) hg hb; obtain ⟨HB, GE341⟩ := HB; have BK341 := Aside0.mk hbox; clear hb hbox hg) | ((with_reducible refine gate_dst (N := 2) rfl ?_); refine box_event ?hg (N := 2) ?hd (cs := #[.int .i64 0, .int .u64 0, .string ⟨#[]⟩, .int .i64 0]) (t := 24) ?hr ?_; (case hd => rfl); (case hg => rfl); (case hr => first | (go_simp; done) | (go_simp; rfl)); intro gb342 hg w10 hbox hb; replace BK341 := sqO_ BK341 (by (with_reducible repeat (first | apply kN_ | apply kD_ | apply kA_)); exact BK341.out) hg hb; obtain ⟨BK341, NB341_342, NB342_341⟩ := BK341; replace HB := sqN_ (by repeat (first | (with_reducible first | exact HB.out | apply bA_ | apply bN_ | apply bD_ | refine bS_ ?_ GE341.out) | exact HB.out)) hg hb; obtain ⟨HB, GE342⟩ := HB; have BK342 := Aside0.mk hbox; clear hb hbox hg; have hnb11 := NB341_342.out; have hnc11 := NB342_341.out; obtain ⟨hcz12_0, hcz12_1, hcz12_2, hcz12_3⟩ := cells4_ BK341.out; obtain ⟨hfz12_0, hfz12_1, hfz12_2, hfz12_3⟩ := froz4_ BK341.out))
  (try simp only [Act.put, sA_, sB_, sC_])
  go_cut [12] (fun v12 wc => ∃ (kq : Nat) (x12_7 : Bool), v12 = .bool x12_7 ∧ Aside0 (platformfwref08_Clean.j0 kq a0_0 x12_7 a0_0 a0_1 a0_2 a0_3 = some (r1, r2, r3, r4)) ∧ Aside0 (kq ≤ k) ∧ Aside0 (wc.heap[gb341]? = some (.cells #[.int .i64 a0_0, .int .u64 a0_1, .string a0_2, .int .i64 a0_3] 24 (0, 0))) ∧ Aside0 (wc.heap[gb342]? = some (.cells #[.int .i64 0, .int .u64 0, .string ⟨#[]⟩, .int .i64 0] 24 (0, 0))) ∧ Aside0 (Below w.heap.size w wc))
  case first =>
   have H := HC8.out
   clear HC8
   by_cases c13 : a0_0 = 2
   ·rw [if_pos c13] at H
    have c13b0 : (a0_0 == 2) = true := beq_iff_eq.mpr c13
    have c13b1 : (a0_0 != 2) = false := bne_eq_false_iff_eq.mpr c13
    clear c13
    (first | rw [c13b0] | (simp only [i64_w, i32_w]; rw [c13b0]) | skip)
    have H' := Aside0.mk H
    clear H
    go_wp2
    go_meet
    case rel => exact ⟨_, ((a0_0 == 2)), (by first | rfl | (simp; done) | (simp [*]; done)), H', ⟨by first | omega | exact Nat.le_refl _⟩, ⟨by (with_reducible repeat (first | apply kN_ | apply kD_ | apply kA_)); exact BK341.out⟩, ⟨by (with_reducible repeat (first | apply kN_ | apply kD_ | apply kA_)); exact BK342.out⟩, ⟨by repeat (first | (with_reducible first | exact HB.out | apply bA_ | apply bN_ | apply bD_ | refine bS_ ?_ GE341.out | refine bS_ ?_ GE342.out) | exact HB.out)⟩⟩
   ·rw [if_neg c13] at H
    have c13b0 : (a0_0 == 2) = false := beq_eq_false_iff_ne.mpr c13
    have c13b1 : (a0_0 != 2) = true := bne_iff_ne.mpr c13
    (first | rw [c13b0] | (simp only [i64_w, i32_w]; rw [c13b0]) | skip)
    have H' := Aside0.mk H
    clear H
    go_wp2
    go_meet
    case rel => exact ⟨_, ((a0_0 == 3)), (by first | rfl | (simp; done) | (simp [*]; done)), H', ⟨by first | omega | exact Nat.le_refl _⟩, ⟨by (with_reducible repeat (first | apply kN_ | apply kD_ | apply kA_)); exact BK341.out⟩, ⟨by (with_reducible repeat (first | apply kN_ | apply kD_ | apply kA_)); exact BK342.out⟩, ⟨by repeat (first | (with_reducible first | exact HB.out | apply bA_ | apply bN_ | apply bD_ | refine bS_ ?_ GE341.out | refine bS_ ?_ GE342.out) | exact HB.out)⟩⟩
  case rest =>
   clear HC8
   try clear c1
   try clear c2
   try clear c2b0
   try clear c2b1
   try clear p2
   try clear c5
   try clear c11
   try clear c13
   try clear c13b0
   try clear c13b1
   try clear hcz12_0 hcz12_1 hcz12_2 hcz12_3
   try clear hcz6_0 hcz6_1 hcz6_2 hcz6_3
   try clear hcz7_0 hcz7_1 hcz7_2 hcz7_3
   try clear hfz12_0 hfz12_1 hfz12_2 hfz12_3
   try clear hfz6_0 hfz6_1 hfz6_2 hfz6_3
   try clear hfz7_0 hfz7_1 hfz7_2 hfz7_3
   obtain ⟨kq, x12_7, rfl, HA, HJ7, BK341, BK342, HB⟩ := hcut
   cases kq with
   | zero => exact absurd HA.out (by simp [platformfwref08_Clean.j0])
   | succ kj7 =>
    have H := HA.out
    clear HA
    simp only [platformfwref08_Clean.j0] at H
    by_cases c14 : x12_7 = true
    ·subst c14
     have H1 : (some (a0_0, 0, a0_2, 0)) = some (r1, r2, r3, r4) := by rw [if_pos rfl] at H; exact H
     clear H
     have H := H1
     clear H1
     simp only [Option.some.injEq, Prod.mk.injEq] at H
     obtain ⟨rfl, rfl, rfl, rfl⟩ := H
     have hnb15 := NB341_342.out
     have hnc15 := NB342_341.out
     obtain ⟨hcz16_0, hcz16_1, hcz16_2, hcz16_3⟩ := cells4_ BK341.out
     obtain ⟨hfz16_0, hfz16_1, hfz16_2, hfz16_3⟩ := froz4_ BK341.out
     obtain ⟨hcz17_0, hcz17_1, hcz17_2, hcz17_3⟩ := cells4_ BK342.out
     obtain ⟨hfz17_0, hfz17_1, hfz17_2, hfz17_3⟩ := froz4_ BK342.out
     go_wp2
     refine bodyPost_ret (results_cell_row rfl _ _ gb342 24 #[.int .i64 a0_0, .int .u64 0, .string a0_2, .int .i64 0] (0, 0) _ rfl (by (with_reducible repeat (first | apply kN_ | apply kD_ | apply kA_)); refine blk_put (cs := #[.int .i64 a0_0, .int .u64 0, .string a0_2, .int .i64 0]) ?_ 3 _ rfl; (with_reducible repeat (first | apply kN_ | apply kD_ | apply kA_)); refine blk_put (cs := #[.int .i64 a0_0, .int .u64 0, .string ⟨#[]⟩, .int .i64 0]) ?_ 2 _ rfl; (with_reducible repeat (first | apply kN_ | apply kD_ | apply kA_)); refine blk_put (cs := #[.int .i64 a0_0, .int .u64 0, .string ⟨#[]⟩, .int .i64 0]) ?_ 1 _ rfl; (with_reducible repeat (first | apply kN_ | apply kD_ | apply kA_)); refine blk_put (cs := #[.int .i64 0, .int .u64 0, .string ⟨#[]⟩, .int .i64 0]) ?_ 0 _ rfl; (with_reducible repeat (first | apply kN_ | apply kD_ | apply kA_)); exact BK342.out) Tryd.underlying24 rfl (by kernel_rfl)) rfl ?_
     exact ⟨by first | rfl | (simp [errW_none, errW_some] <;> rfl) | (simp [*, errW_none, errW_some] <;> rfl), by repeat (first | (with_reducible first | exact HB.out | apply bA_ | apply bN_ | apply bD_ | refine bS_ ?_ GE341.out | refine bS_ ?_ GE342.out) | exact HB.out)⟩
    ·replace c14 := Bool.eq_false_iff.mpr c14
     subst c14
     have H1 : (if a0_0 = 0 then (some (0, 0, (⟨#[]⟩ : ByteArray), 0)) else (some (a0_0, 0, (⟨#[]⟩ : ByteArray), a0_3))) = some (r1, r2, r3, r4) := by rw [if_neg (show ¬ (false = true) by decide)] at H; exact H
     clear H
     have H := H1
     clear H1
     by_cases c18 : a0_0 = 0
     ·rw [if_pos c18] at H
      have c18b0 : (a0_0 == 0) = true := beq_iff_eq.mpr c18
      have c18b1 : (a0_0 != 0) = false := bne_eq_false_iff_eq.mpr c18
      clear c18
      simp only [Option.some.injEq, Prod.mk.injEq] at H
      obtain ⟨rfl, rfl, rfl, rfl⟩ := H
      have hnb19 := NB342_341.out
      have hnc19 := NB341_342.out
      obtain ⟨hcz20_0, hcz20_1, hcz20_2, hcz20_3⟩ := cells4_ BK342.out
      obtain ⟨hfz20_0, hfz20_1, hfz20_2, hfz20_3⟩ := froz4_ BK342.out
      go_wp2
      refine bodyPost_ret (results_cell_row rfl _ _ gb342 24 #[.int .i64 0, .int .u64 0, .string ⟨#[]⟩, .int .i64 0] (0, 0) _ rfl (by (with_reducible repeat (first | apply kN_ | apply kD_ | apply kA_)); refine blk_put (cs := #[.int .i64 0, .int .u64 0, .string ⟨#[]⟩, .int .i64 0]) ?_ 3 _ rfl; (with_reducible repeat (first | apply kN_ | apply kD_ | apply kA_)); refine blk_put (cs := #[.int .i64 0, .int .u64 0, .string ⟨#[]⟩, .int .i64 0]) ?_ 2 _ rfl; (with_reducible repeat (first | apply kN_ | apply kD_ | apply kA_)); refine blk_put (cs := #[.int .i64 0, .int .u64 0, .string ⟨#[]⟩, .int .i64 0]) ?_ 1 _ rfl; (with_reducible repeat (first | apply kN_ | apply kD_ | apply kA_)); refine blk_put (cs := #[.int .i64 0, .int .u64 0, .string ⟨#[]⟩, .int .i64 0]) ?_ 0 _ rfl; (with_reducible repeat (first | apply kN_ | apply kD_ | apply kA_)); exact BK342.out) Tryd.underlying24 rfl (by kernel_rfl)) rfl ?_
      exact ⟨by first | rfl | (simp [errW_none, errW_some] <;> rfl) | (simp [*, errW_none, errW_some] <;> rfl), by repeat (first | (with_reducible first | exact HB.out | apply bA_ | apply bN_ | apply bD_ | refine bS_ ?_ GE341.out | refine bS_ ?_ GE342.out) | exact HB.out)⟩
     ·rw [if_neg c18] at H
      have c18b0 : (a0_0 == 0) = false := beq_eq_false_iff_ne.mpr c18
      have c18b1 : (a0_0 != 0) = true := bne_iff_ne.mpr c18
      simp only [Option.some.injEq, Prod.mk.injEq] at H
      obtain ⟨rfl, rfl, rfl, rfl⟩ := H
      have hnb21 := NB341_342.out
      have hnc21 := NB342_341.out
      obtain ⟨hcz22_0, hcz22_1, hcz22_2, hcz22_3⟩ := cells4_ BK341.out
      obtain ⟨hfz22_0, hfz22_1, hfz22_2, hfz22_3⟩ := froz4_ BK341.out
      obtain ⟨hcz23_0, hcz23_1, hcz23_2, hcz23_3⟩ := cells4_ BK342.out
      obtain ⟨hfz23_0, hfz23_1, hfz23_2, hfz23_3⟩ := froz4_ BK342.out
      go_wp2
      refine bodyPost_ret (results_cell_row rfl _ _ gb342 24 #[.int .i64 a0_0, .int .u64 0, .string ⟨#[]⟩, .int .i64 a0_3] (0, 0) _ rfl (by (with_reducible repeat (first | apply kN_ | apply kD_ | apply kA_)); refine blk_put (cs := #[.int .i64 a0_0, .int .u64 0, .string ⟨#[]⟩, .int .i64 0]) ?_ 3 _ rfl; (with_reducible repeat (first | apply kN_ | apply kD_ | apply kA_)); refine blk_put (cs := #[.int .i64 a0_0, .int .u64 0, .string ⟨#[]⟩, .int .i64 0]) ?_ 2 _ rfl; (with_reducible repeat (first | apply kN_ | apply kD_ | apply kA_)); refine blk_put (cs := #[.int .i64 a0_0, .int .u64 0, .string ⟨#[]⟩, .int .i64 0]) ?_ 1 _ rfl; (with_reducible repeat (first | apply kN_ | apply kD_ | apply kA_)); refine blk_put (cs := #[.int .i64 0, .int .u64 0, .string ⟨#[]⟩, .int .i64 0]) ?_ 0 _ rfl; (with_reducible repeat (first | apply kN_ | apply kD_ | apply kA_)); exact BK342.out) Tryd.underlying24 rfl (by kernel_rfl)) rfl ?_
      exact ⟨by first | rfl | (simp [errW_none, errW_some] <;> rfl) | (simp [*, errW_none, errW_some] <;> rfl), by repeat (first | (with_reducible first | exact HB.out | apply bA_ | apply bN_ | apply bD_ | refine bS_ ?_ GE341.out | refine bS_ ?_ GE342.out) | exact HB.out)⟩

/-! ### platformfwref08_hex: function 57 -/
mutual
def platformfwref08_hex.j0 : Nat → Int → Bool → Option (Int)
 | 0, _, _ => none
 | k + 1, x0, x3 => if x3 = true then (some ((x0 - 48) % 256)) else (if x0 ≥ 97 then (platformfwref08_hex.j1 k x0 (decide (x0 ≤ 102))) else (platformfwref08_hex.j1 k x0 false))
def platformfwref08_hex.j1 : Nat → Int → Bool → Option (Int)
 | 0, _, _ => none
 | k + 1, x0, x13 => if x13 = true then (some (((x0 - 97) % 256) + 10)) else (if x0 ≥ 65 then (if x0 ≤ 70 then (some (((x0 - 65) % 256) + 10)) else (some (-1))) else (some (-1)))
end
def platformfwref08_hex.f (k : Nat) (a0 : Int) : Option (Int) := if a0 ≥ 48 then (platformfwref08_hex.j0 k a0 (decide (a0 ≤ 57))) else (platformfwref08_hex.j0 k a0 false)
theorem platformfwref08_hex.mono_l : ∀ k, (∀ y0 y1, LeO (platformfwref08_hex.j0 k y0 y1) (platformfwref08_hex.j0 (k + 1) y0 y1)) ∧ (∀ y0 y1, LeO (platformfwref08_hex.j1 k y0 y1) (platformfwref08_hex.j1 (k + 1) y0 y1))
 | 0 => ⟨fun _ _ r h => by simp [platformfwref08_hex.j0] at h, fun _ _ r h => by simp [platformfwref08_hex.j1] at h⟩
 | k + 1 => by
  obtain ⟨ih0, ih1⟩ := platformfwref08_hex.mono_l k
  refine ⟨?_, ?_⟩
  ·intro y0 y1
   unfold platformfwref08_hex.j0
   repeat' first
   | (with_reducible exact ih0 _ _)
   | (with_reducible exact ih1 _ _)
   | (with_reducible exact LeO.refl _)
   | (with_reducible exact LeO.none _)
   | (with_reducible refine LeO.ite ?_ ?_)
   | (with_reducible refine LeO.bind ?_ (fun _ => ?_))
   | exact ih0 _ _
   | exact ih1 _ _
   | exact LeO.none _
   | refine LeO.ite ?_ ?_
   | refine LeO.bind ?_ (fun _ => ?_)
  ·intro y0 y1
   unfold platformfwref08_hex.j1
   repeat' first
   | (with_reducible exact ih0 _ _)
   | (with_reducible exact ih1 _ _)
   | (with_reducible exact LeO.refl _)
   | (with_reducible exact LeO.none _)
   | (with_reducible refine LeO.ite ?_ ?_)
   | (with_reducible refine LeO.bind ?_ (fun _ => ?_))
   | exact ih0 _ _
   | exact ih1 _ _
   | exact LeO.none _
   | refine LeO.ite ?_ ?_
   | refine LeO.bind ?_ (fun _ => ?_)
theorem platformfwref08_hex.mono : ∀ a0 k, LeO (platformfwref08_hex.f k a0) (platformfwref08_hex.f (k + 1) a0) := by
 intro a0 k
 obtain ⟨ih0, ih1⟩ := platformfwref08_hex.mono_l k
 unfold platformfwref08_hex.f
 repeat' first
   | (with_reducible exact ih0 _ _)
   | (with_reducible exact ih1 _ _)
   | (with_reducible exact LeO.refl _)
   | (with_reducible exact LeO.none _)
   | (with_reducible refine LeO.ite ?_ ?_)
   | (with_reducible refine LeO.bind ?_ (fun _ => ?_))
   | exact ih0 _ _
   | exact ih1 _ _
   | exact LeO.none _
   | refine LeO.ite ?_ ?_
   | refine LeO.bind ?_ (fun _ => ?_)
set_option maxHeartbeats 8000000 in
set_option maxRecDepth 100000 in
theorem platformfwref08_hex.calls (k : Nat) (a0 : Int) (r : Int) (w : World) (h : platformfwref08_hex.f k a0 = some r) :
  Calls Tryd.prog 57 #[.int .u8 a0] w fun e w' => e = .returned (.int .i64 r) ∧ Drawn0 w w' := by
 have H : (if a0 ≥ 48 then (platformfwref08_hex.j0 k a0 (decide (a0 ≤ 57))) else (platformfwref08_hex.j0 k a0 false)) = some r := h
 clear h
 have HC2 := Aside0.mk H
 clear H
 go_enter Tryd.func57, Tryd.ntmps57
 go_upto_region 1 with (fail)
 go_cut [3] (fun v3 wc => ∃ (kq : Nat) (x3_1 : Bool), v3 = .bool x3_1 ∧ Aside0 (platformfwref08_hex.j0 kq a0 x3_1 = some r) ∧ Aside0 (kq ≤ k) ∧ Drawn0 w wc)
 case first =>
  have H := HC2.out
  clear HC2
  by_cases c3 : a0 ≥ 48
  ·rw [if_pos c3] at H
   have c3b0 : decide (48 ≤ a0) = true := decide_eq_true c3
   clear c3
   (first | rw [c3b0] | (simp only [i64_w, i32_w]; rw [c3b0]) | skip)
   have H' := Aside0.mk H
   clear H
   go_wp2
   go_meet
   case rel => exact ⟨_, (decide (a0 ≤ 57)), (by first | rfl | (simp; done) | (simp [*]; done)), H', ⟨by first | omega | exact Nat.le_refl _⟩, by repeat (first | exact Drawn0.refl _ | apply Drawn0.step)⟩
  ·rw [if_neg c3] at H
   have c3b0 : decide (48 ≤ a0) = false := decide_eq_false c3
   clear c3
   (first | rw [c3b0] | (simp only [i64_w, i32_w]; rw [c3b0]) | skip)
   have H' := Aside0.mk H
   clear H
   go_wp2
   go_meet
   case rel => exact ⟨_, (false), (by first | rfl | (simp; done) | (simp [*]; done)), H', ⟨by first | omega | exact Nat.le_refl _⟩, by repeat (first | exact Drawn0.refl _ | apply Drawn0.step)⟩
 case rest =>
  clear HC2
  try clear p2
  try clear c3
  try clear c3b0
  obtain ⟨kq, x3_1, rfl, HA, HJ1, ⟨mc1, rfl⟩⟩ := hcut
  cases kq with
  | zero => exact absurd HA.out (by simp [platformfwref08_hex.j0])
  | succ kj1 =>
   have H := HA.out
   clear HA
   simp only [platformfwref08_hex.j0] at H
   by_cases c4 : x3_1 = true
   ·subst c4
    have H1 : (some ((a0 - 48) % 256)) = some r := by rw [if_pos rfl] at H; exact H
    clear H
    have H := H1
    clear H1
    obtain rfl := Option.some.inj H
    go_wp2
    go_ret
    exact ⟨by first | rfl | (simp; done) | (simp [*]; done), by repeat (first | exact Drawn0.refl _ | apply Drawn0.step)⟩
   ·replace c4 := Bool.eq_false_iff.mpr c4
    subst c4
    have H1 : (if a0 ≥ 97 then (platformfwref08_hex.j1 kj1 a0 (decide (a0 ≤ 102))) else (platformfwref08_hex.j1 kj1 a0 false)) = some r := by rw [if_neg (show ¬ (false = true) by decide)] at H; exact H
    clear H
    have H := H1
    clear H1
    have HC5 := Aside0.mk H
    clear H
    go_upto_region 3 with (fail)
    go_cut [13] (fun v13 wc => ∃ (kq : Nat) (x13_4 : Bool), v13 = .bool x13_4 ∧ Aside0 (platformfwref08_hex.j1 kq a0 x13_4 = some r) ∧ Aside0 (kq ≤ kj1) ∧ Drawn0 w wc)
    case first =>
     have H := HC5.out
     clear HC5
     by_cases c6 : a0 ≥ 97
     ·rw [if_pos c6] at H
      have c6b0 : decide (97 ≤ a0) = true := decide_eq_true c6
      clear c6
      (first | rw [c6b0] | (simp only [i64_w, i32_w]; rw [c6b0]) | skip)
      have H' := Aside0.mk H
      clear H
      go_wp2
      go_meet
      case rel => exact ⟨_, (decide (a0 ≤ 102)), (by first | rfl | (simp; done) | (simp [*]; done)), H', ⟨by have := HJ1.out; first | omega | exact Nat.le_refl _⟩, by repeat (first | exact Drawn0.refl _ | apply Drawn0.step)⟩
     ·rw [if_neg c6] at H
      have c6b0 : decide (97 ≤ a0) = false := decide_eq_false c6
      clear c6
      (first | rw [c6b0] | (simp only [i64_w, i32_w]; rw [c6b0]) | skip)
      have H' := Aside0.mk H
      clear H
      go_wp2
      go_meet
      case rel => exact ⟨_, (false), (by first | rfl | (simp; done) | (simp [*]; done)), H', ⟨by have := HJ1.out; first | omega | exact Nat.le_refl _⟩, by repeat (first | exact Drawn0.refl _ | apply Drawn0.step)⟩
    case rest =>
     clear HC5
     try clear c1
     try clear p2
     try clear c3
     try clear c3b0
     try clear c4
     try clear c5
     try clear c6
     try clear c6b0
     try clear p2
     obtain ⟨kq, x13_4, rfl, HA, HJ4, ⟨mc4, rfl⟩⟩ := hcut
     cases kq with
     | zero => exact absurd HA.out (by simp [platformfwref08_hex.j1])
     | succ kj4 =>
      have H := HA.out
      clear HA
      simp only [platformfwref08_hex.j1] at H
      by_cases c7 : x13_4 = true
      ·subst c7
       have H1 : (some (((a0 - 97) % 256) + 10)) = some r := by rw [if_pos rfl] at H; exact H
       clear H
       have H := H1
       clear H1
       obtain rfl := Option.some.inj H
       go_wp2
       go_ret
       exact ⟨by first | rfl | (simp; done) | (simp [*]; done), by repeat (first | exact Drawn0.refl _ | apply Drawn0.step)⟩
      ·replace c7 := Bool.eq_false_iff.mpr c7
       subst c7
       have H1 : (if a0 ≥ 65 then (if a0 ≤ 70 then (some (((a0 - 65) % 256) + 10)) else (some (-1))) else (some (-1))) = some r := by rw [if_neg (show ¬ (false = true) by decide)] at H; exact H
       clear H
       have H := H1
       clear H1
       by_cases c8 : a0 ≥ 65
       ·rw [if_pos c8] at H
        have c8b0 : decide (65 ≤ a0) = true := decide_eq_true c8
        clear c8
        by_cases c9 : a0 ≤ 70
        ·rw [if_pos c9] at H
         have c9b0 : decide (a0 ≤ 70) = true := decide_eq_true c9
         clear c9
         obtain rfl := Option.some.inj H
         go_wp2
         go_ret
         exact ⟨by first | rfl | (simp; done) | (simp [*]; done), by repeat (first | exact Drawn0.refl _ | apply Drawn0.step)⟩
        ·rw [if_neg c9] at H
         have c9b0 : decide (a0 ≤ 70) = false := decide_eq_false c9
         clear c9
         obtain rfl := Option.some.inj H
         go_wp2
         go_ret
         exact ⟨by first | rfl | (simp; done) | (simp [*]; done), by repeat (first | exact Drawn0.refl _ | apply Drawn0.step)⟩
       ·rw [if_neg c8] at H
        have c8b0 : decide (65 ≤ a0) = false := decide_eq_false c8
        clear c8
        obtain rfl := Option.some.inj H
        go_wp2
        go_ret
        exact ⟨by first | rfl | (simp; done) | (simp [*]; done), by repeat (first | exact Drawn0.refl _ | apply Drawn0.step)⟩

end Go.Proofs.YtdmeglmmihaonaaDoor.PValueMid
