-- Written by a program of this session's (wip/print_patch.py over the kit's print) out of the translation; Lean checks it.
import Derived.Test.YtdmeglmmihaonaaDoorPValueMidx0
import Derived.Test.YtdmeglmmihaonaaDoorPValueMidx2
import Derived.Test.YtdmeglmmihaonaaDoorPValueMidx4
import Derived.Test.YtdmeglmmihaonaaDoorVValueMidExtP
namespace Go.Proofs.YtdmeglmmihaonaaDoor.PValueMid
open Go.RowKit Go.Proofs.YtdmeglmmihaonaaDoor.Ext Go.Proofs.YtdmeglmmihaonaaDoorW.PrintWords Go.Proofs.YtdmeglmmihaonaaDoorW.PrintLast Go.Proofs.YtdmeglmmihaonaaDoorW.PrintMore
attribute [local go_sem] max2_int min2_int max_two min_two max_three min_three max_four min_four   -- for this text's walks alone
set_option linter.unusedVariables false
set_option linter.unusedSimpArgs false

/-! ### value_Binary: function 8 -/
def value_Binary.j0 : Nat → Int → Bool → Int → Int → ByteArray → Int → Int → Int → ByteArray → Int → Option (Int × Int × ByteArray × Int × Int)
 | 0, _, _, _, _, _, _, _, _, _, _ => none
 | k + 1, x0, x11, x266000, x266001, x266002, x266003, x267000, x267001, x267002, x267003 => if x11 = true then (some (0, 0, (⟨#[]⟩ : ByteArray), 0, 1)) else (if x0 ≥ 72 then ((value_matched.f k x0 x266000 x266001 x266002 x266003 x267000 x267001 x267002 x267003).bind fun bt270 => (some (bt270.1, bt270.2.1, bt270.2.2.1, bt270.2.2.2.1, bt270.2.2.2.2))) else ((value_Integer.f k x266000 x266001 x266002 x266003).bind fun bt275 => (if bt275.2 = 0 then ((value_Integer.f k x267000 x267001 x267002 x267003).bind fun bt277 => (if bt277.2 = 0 then ((value_arithmetic.f x0 bt275.1 bt277.1).bind fun bt279 => (some (bt279.1, bt279.2.1, bt279.2.2.1, bt279.2.2.2.1, bt279.2.2.2.2))) else (some (0, 0, (⟨#[]⟩ : ByteArray), 0, bt277.2)))) else (some (0, 0, (⟨#[]⟩ : ByteArray), 0, bt275.2)))))
def value_Binary.f (k : Nat) (a0 : Int) (a1_0 : Int) (a1_1 : Int) (a1_2 : ByteArray) (a1_3 : Int) (a2_0 : Int) (a2_1 : Int) (a2_2 : ByteArray) (a2_3 : Int) : Option (Int × Int × ByteArray × Int × Int) := (value_Valid.f a1_0 a1_1 a1_2 a1_3).bind fun t268 => (if t268 = true then ((value_Valid.f a2_0 a2_1 a2_2 a2_3).bind fun t269 => (if t269 = true then (if a0 < 60 then (value_Binary.j0 k a0 true a1_0 a1_1 a1_2 a1_3 a2_0 a2_1 a2_2 a2_3) else (value_Binary.j0 k a0 (decide (a0 > 75)) a1_0 a1_1 a1_2 a1_3 a2_0 a2_1 a2_2 a2_3)) else (value_Binary.j0 k a0 true a1_0 a1_1 a1_2 a1_3 a2_0 a2_1 a2_2 a2_3))) else (value_Binary.j0 k a0 true a1_0 a1_1 a1_2 a1_3 a2_0 a2_1 a2_2 a2_3))
theorem value_Binary.mono_l : ∀ k, (∀ y0 y1 y2 y3 y4 y5 y6 y7 y8 y9, LeO (value_Binary.j0 k y0 y1 y2 y3 y4 y5 y6 y7 y8 y9) (value_Binary.j0 (k + 1) y0 y1 y2 y3 y4 y5 y6 y7 y8 y9))
 | 0 => fun _ _ _ _ _ _ _ _ _ _ r h => by simp [value_Binary.j0] at h
 | k + 1 => by
  have ih0 := value_Binary.mono_l k
  ·intro y0 y1 y2 y3 y4 y5 y6 y7 y8 y9
   unfold value_Binary.j0
   repeat' first
   | (with_reducible exact ih0 _ _ _ _ _ _ _ _ _ _)
   | (with_reducible exact value_Integer.mono _ _ _ _ _)
   | (with_reducible exact value_matched.mono _ _ _ _ _ _ _ _ _ _)
   | (with_reducible exact LeO.refl _)
   | (with_reducible exact LeO.none _)
   | (with_reducible refine LeO.ite ?_ ?_)
   | (with_reducible refine LeO.bind ?_ (fun _ => ?_))
   | exact ih0 _ _ _ _ _ _ _ _ _ _
   | exact value_Integer.mono _ _ _ _ _
   | exact value_matched.mono _ _ _ _ _ _ _ _ _ _
   | exact LeO.none _
   | refine LeO.ite ?_ ?_
   | refine LeO.bind ?_ (fun _ => ?_)
theorem value_Binary.mono : ∀ a0 a1 a2 a3 a4 a5 a6 a7 a8 k, LeO (value_Binary.f k a0 a1 a2 a3 a4 a5 a6 a7 a8) (value_Binary.f (k + 1) a0 a1 a2 a3 a4 a5 a6 a7 a8) := by
 intro a0 a1 a2 a3 a4 a5 a6 a7 a8 k
 have ih0 := value_Binary.mono_l k
 unfold value_Binary.f
 repeat' first
   | (with_reducible exact ih0 _ _ _ _ _ _ _ _ _ _)
   | (with_reducible exact value_Integer.mono _ _ _ _ _)
   | (with_reducible exact value_matched.mono _ _ _ _ _ _ _ _ _ _)
   | (with_reducible exact LeO.refl _)
   | (with_reducible exact LeO.none _)
   | (with_reducible refine LeO.ite ?_ ?_)
   | (with_reducible refine LeO.bind ?_ (fun _ => ?_))
   | exact ih0 _ _ _ _ _ _ _ _ _ _
   | exact value_Integer.mono _ _ _ _ _
   | exact value_matched.mono _ _ _ _ _ _ _ _ _ _
   | exact LeO.none _
   | refine LeO.ite ?_ ?_
   | refine LeO.bind ?_ (fun _ => ?_)
set_option maxHeartbeats 8000000 in
set_option maxRecDepth 100000 in
theorem value_Binary.calls (k : Nat) (a0 : Int) (a1_0 : Int) (a1_1 : Int) (a1_2 : ByteArray) (a1_3 : Int) (a2_0 : Int) (a2_1 : Int) (a2_2 : ByteArray) (a2_3 : Int) (r1 : Int) (r2 : Int) (r3 : ByteArray) (r4 : Int) (r5 : Int) (w : World) (hT_ : w.cell? ⟨6, 15, none⟩ = some (.int .u8 4)) (h : value_Binary.f k a0 a1_0 a1_1 a1_2 a1_3 a2_0 a2_1 a2_2 a2_3 = some (r1, r2, r3, r4, r5)) :
  Calls Tryd.prog 8 #[.int .i64 a0, .agg #[.int .i64 a1_0, .int .u64 a1_1, .string a1_2, .int .i64 a1_3], .agg #[.int .i64 a2_0, .int .u64 a2_1, .string a2_2, .int .i64 a2_3]] w fun e w' => e = .returned (.tuple #[.agg #[.int .i64 r1, .int .u64 r2, .string r3, .int .i64 r4], .int .i64 r5]) ∧ Below w.heap.size w w' := by
 have HTT_ := Aside0.mk hT_
 clear hT_
 have hu24 := Tryd.underlying24
 have HB := Aside0.mk (Below.refl w.heap.size w)
 have H : ((value_Valid.f a1_0 a1_1 a1_2 a1_3).bind fun t268 => (if t268 = true then ((value_Valid.f a2_0 a2_1 a2_2 a2_3).bind fun t269 => (if t269 = true then (if a0 < 60 then (value_Binary.j0 k a0 true a1_0 a1_1 a1_2 a1_3 a2_0 a2_1 a2_2 a2_3) else (value_Binary.j0 k a0 (decide (a0 > 75)) a1_0 a1_1 a1_2 a1_3 a2_0 a2_1 a2_2 a2_3)) else (value_Binary.j0 k a0 true a1_0 a1_1 a1_2 a1_3 a2_0 a2_1 a2_2 a2_3))) else (value_Binary.j0 k a0 true a1_0 a1_1 a1_2 a1_3 a2_0 a2_1 a2_2 a2_3))) = some (r1, r2, r3, r4, r5) := h
 clear h
 have HC4 := Aside0.mk H
 clear H
 go_enter Tryd.func8, Tryd.ntmps8
 go_upto_region 1 with (first | ((with_reducible refine gate_dst (N := 4) rfl ?_); refine box_event ?hg (N := 4) ?hd (cs := #[.int .i64 a1_0, .int .u64 a1_1, .string a1_2, .int .i64 a1_3]) (t := 24) ?hr ?_; (case hd => rfl); (case hg => rfl); (case hr => first | (go_simp; done) | (go_simp; rfl)); intro gb265 hg w5 hbox hb; replace HB := sqN_ (by repeat (first | (with_reducible first | exact HB.out | apply bA_ | apply bN_ | apply bD_) | exact HB.out)) hg hb; obtain ⟨HB, GE265⟩ := HB; have BK265 := Aside0.mk hbox; clear hb hbox hg) | ((with_reducible refine gate_dst (N := 5) rfl ?_); refine box_event ?hg (N := 5) ?hd (cs := #[.int .i64 a2_0, .int .u64 a2_1, .string a2_2, .int .i64 a2_3]) (t := 24) ?hr ?_; (case hd => rfl); (case hg => rfl); (case hr => first | (go_simp; done) | (go_simp; rfl)); intro gb266 hg w6 hbox hb; replace BK265 := sqO_ BK265 (by (with_reducible repeat (first | apply kN_ | apply kD_ | apply kA_)); exact BK265.out) hg hb; obtain ⟨BK265, NB265_266, NB266_265⟩ := BK265; replace HB := sqN_ (by repeat (first | (with_reducible first | exact HB.out | apply bA_ | apply bN_ | apply bD_ | refine bS_ ?_ GE265.out) | exact HB.out)) hg hb; obtain ⟨HB, GE266⟩ := HB; have BK266 := Aside0.mk hbox; clear hb hbox hg) | ((with_reducible refine gate_dst (N := 6) rfl ?_); refine box_event ?hg (N := 6) ?hd (cs := #[.int .i64 0, .int .u64 0, .string ⟨#[]⟩, .int .i64 0]) (t := 24) ?hr ?_; (case hd => rfl); (case hg => rfl); (case hr => first | (go_simp; done) | (go_simp; rfl)); intro gb267 hg w7 hbox hb; replace BK265 := sqO_ BK265 (by (with_reducible repeat (first | apply kN_ | apply kD_ | apply kA_)); exact BK265.out) hg hb; obtain ⟨BK265, NB265_267, NB267_265⟩ := BK265; replace BK266 := sqO_ BK266 (by (with_reducible repeat (first | apply kN_ | apply kD_ | apply kA_)); exact BK266.out) hg hb; obtain ⟨BK266, NB266_267, NB267_266⟩ := BK266; replace HB := sqN_ (by repeat (first | (with_reducible first | exact HB.out | apply bA_ | apply bN_ | apply bD_ | refine bS_ ?_ GE265.out | refine bS_ ?_ GE266.out) | exact HB.out)) hg hb; obtain ⟨HB, GE267⟩ := HB; have BK267 := Aside0.mk hbox; clear hb hbox hg))
 (try simp only [Act.put, sA_, sB_, sC_])
 go_cut [11] (fun v11 wc => ∃ (kq : Nat) (x11_3 : Bool), v11 = .bool x11_3 ∧ Aside0 (value_Binary.j0 kq a0 x11_3 a1_0 a1_1 a1_2 a1_3 a2_0 a2_1 a2_2 a2_3 = some (r1, r2, r3, r4, r5)) ∧ Aside0 (kq ≤ k) ∧ Aside0 (wc.heap[gb265]? = some (.cells #[.int .i64 a1_0, .int .u64 a1_1, .string a1_2, .int .i64 a1_3] 24 (0, 0))) ∧ Aside0 (wc.heap[gb266]? = some (.cells #[.int .i64 a2_0, .int .u64 a2_1, .string a2_2, .int .i64 a2_3] 24 (0, 0))) ∧ Aside0 (wc.heap[gb267]? = some (.cells #[.int .i64 0, .int .u64 0, .string ⟨#[]⟩, .int .i64 0] 24 (0, 0))) ∧ Aside0 (Below w.heap.size w wc))
 case first =>
  have H := HC4.out
  clear HC4
  replace H := Option.bind_eq_some_iff.mp H
  obtain ⟨t268, A80, H⟩ := H
  replace H : (if t268 = true then ((value_Valid.f a2_0 a2_1 a2_2 a2_3).bind fun t269 => (if t269 = true then (if a0 < 60 then (value_Binary.j0 k a0 true a1_0 a1_1 a1_2 a1_3 a2_0 a2_1 a2_2 a2_3) else (value_Binary.j0 k a0 (decide (a0 > 75)) a1_0 a1_1 a1_2 a1_3 a2_0 a2_1 a2_2 a2_3)) else (value_Binary.j0 k a0 true a1_0 a1_1 a1_2 a1_3 a2_0 a2_1 a2_2 a2_3))) else (value_Binary.j0 k a0 true a1_0 a1_1 a1_2 a1_3 a2_0 a2_1 a2_2 a2_3)) = some (r1, r2, r3, r4, r5) := H
  have A8 := Aside0.mk A80
  clear A80
  by_cases c9 : t268 = true
  ·subst c9
   have H1 : ((value_Valid.f a2_0 a2_1 a2_2 a2_3).bind fun t269 => (if t269 = true then (if a0 < 60 then (value_Binary.j0 k a0 true a1_0 a1_1 a1_2 a1_3 a2_0 a2_1 a2_2 a2_3) else (value_Binary.j0 k a0 (decide (a0 > 75)) a1_0 a1_1 a1_2 a1_3 a2_0 a2_1 a2_2 a2_3)) else (value_Binary.j0 k a0 true a1_0 a1_1 a1_2 a1_3 a2_0 a2_1 a2_2 a2_3))) = some (r1, r2, r3, r4, r5) := by rw [if_pos rfl] at H; exact H
   clear H
   have H := H1
   clear H1
   replace H := Option.bind_eq_some_iff.mp H
   obtain ⟨t269, A100, H⟩ := H
   replace H : (if t269 = true then (if a0 < 60 then (value_Binary.j0 k a0 true a1_0 a1_1 a1_2 a1_3 a2_0 a2_1 a2_2 a2_3) else (value_Binary.j0 k a0 (decide (a0 > 75)) a1_0 a1_1 a1_2 a1_3 a2_0 a2_1 a2_2 a2_3)) else (value_Binary.j0 k a0 true a1_0 a1_1 a1_2 a1_3 a2_0 a2_1 a2_2 a2_3)) = some (r1, r2, r3, r4, r5) := H
   have A10 := Aside0.mk A100
   clear A100
   by_cases c11 : t269 = true
   ·subst c11
    have H1 : (if a0 < 60 then (value_Binary.j0 k a0 true a1_0 a1_1 a1_2 a1_3 a2_0 a2_1 a2_2 a2_3) else (value_Binary.j0 k a0 (decide (a0 > 75)) a1_0 a1_1 a1_2 a1_3 a2_0 a2_1 a2_2 a2_3)) = some (r1, r2, r3, r4, r5) := by rw [if_pos rfl] at H; exact H
    clear H
    have H := H1
    clear H1
    by_cases c12 : a0 < 60
    ·rw [if_pos c12] at H
     have c12b0 : decide (a0 < 60) = true := decide_eq_true c12
     clear c12
     (first | rw [c12b0] | (simp only [i64_w, i32_w]; rw [c12b0]) | skip)
     have H' := Aside0.mk H
     clear H
     have hnb13 := NB265_266.out
     have hnc13 := NB266_265.out
     have hnb14 := NB265_267.out
     have hnc14 := NB267_265.out
     obtain ⟨hcz15_0, hcz15_1, hcz15_2, hcz15_3⟩ := cells4_ BK265.out
     obtain ⟨hfz15_0, hfz15_1, hfz15_2, hfz15_3⟩ := froz4_ BK265.out
     go_wp2_with (first | ((with_reducible refine gate_callee (f := 25) rfl ?_); refine goesL_ (some 13) rfl rfl Tryd.func25 (by kernel_rfl) rfl #[.agg #[.int .i64 a1_0, .int .u64 a1_1, .string a1_2, .int .i64 a1_3]] rfl (by (try simp only [List.map_toArray, List.map_cons, List.map_nil]); first | done | rfl) ?_; (with_reducible refine (value_Valid.calls a1_0 a1_1 a1_2 a1_3 true _ A8.out).mono ?_); rintro e w16 ⟨rfl, hb⟩; refine ⟨_, rfl, ?_⟩; replace BK265 := sqB_ BK265 (by (with_reducible repeat (first | apply kN_ | apply kD_ | apply kA_)); exact BK265.out) hb; replace BK266 := sqB_ BK266 (by (with_reducible repeat (first | apply kN_ | apply kD_ | apply kA_)); exact BK266.out) hb; replace BK267 := sqB_ BK267 (by (with_reducible repeat (first | apply kN_ | apply kD_ | apply kA_)); exact BK267.out) hb; replace HB := sqS_ (by repeat (first | (with_reducible first | exact HB.out | apply bA_ | apply bN_ | apply bD_ | refine bS_ ?_ GE265.out | refine bS_ ?_ GE266.out | refine bS_ ?_ GE267.out) | exact HB.out)) hb; (try clear hb); (try clear hb2); (try clear hk); (try clear hi); have hnb17 := NB266_267.out; have hnc17 := NB267_266.out; obtain ⟨hcz18_0, hcz18_1, hcz18_2, hcz18_3⟩ := cells4_ BK266.out; obtain ⟨hfz18_0, hfz18_1, hfz18_2, hfz18_3⟩ := froz4_ BK266.out) | (go_at_call 25; (with_reducible refine (value_Valid.calls a2_0 a2_1 a2_2 a2_3 true _ A10.out).mono ?_); rintro e w19 ⟨rfl, hb⟩; replace BK265 := sqB_ BK265 (by (with_reducible repeat (first | apply kN_ | apply kD_ | apply kA_)); exact BK265.out) hb; replace BK266 := sqB_ BK266 (by (with_reducible repeat (first | apply kN_ | apply kD_ | apply kA_)); exact BK266.out) hb; replace BK267 := sqB_ BK267 (by (with_reducible repeat (first | apply kN_ | apply kD_ | apply kA_)); exact BK267.out) hb; replace HB := sqS_ (by repeat (first | (with_reducible first | exact HB.out | apply bA_ | apply bN_ | apply bD_ | refine bS_ ?_ GE265.out | refine bS_ ?_ GE266.out | refine bS_ ?_ GE267.out) | exact HB.out)) hb; (try clear hb); (try clear hb2); (try clear hk); (try clear hi)))
     go_meet
     case rel => exact ⟨_, (true), (by first | rfl | (simp; done) | (simp [*]; done)), H', ⟨by first | omega | exact Nat.le_refl _⟩, ⟨by (with_reducible repeat (first | apply kN_ | apply kD_ | apply kA_)); exact BK265.out⟩, ⟨by (with_reducible repeat (first | apply kN_ | apply kD_ | apply kA_)); exact BK266.out⟩, ⟨by (with_reducible repeat (first | apply kN_ | apply kD_ | apply kA_)); exact BK267.out⟩, ⟨by repeat (first | (with_reducible first | exact HB.out | apply bA_ | apply bN_ | apply bD_ | refine bS_ ?_ GE265.out | refine bS_ ?_ GE266.out | refine bS_ ?_ GE267.out) | exact HB.out)⟩⟩
    ·rw [if_neg c12] at H
     have c12b0 : decide (a0 < 60) = false := decide_eq_false c12
     clear c12
     (first | rw [c12b0] | (simp only [i64_w, i32_w]; rw [c12b0]) | skip)
     have H' := Aside0.mk H
     clear H
     have hnb20 := NB265_266.out
     have hnc20 := NB266_265.out
     have hnb21 := NB265_267.out
     have hnc21 := NB267_265.out
     obtain ⟨hcz22_0, hcz22_1, hcz22_2, hcz22_3⟩ := cells4_ BK265.out
     obtain ⟨hfz22_0, hfz22_1, hfz22_2, hfz22_3⟩ := froz4_ BK265.out
     go_wp2_with (first | ((with_reducible refine gate_callee (f := 25) rfl ?_); refine goesL_ (some 13) rfl rfl Tryd.func25 (by kernel_rfl) rfl #[.agg #[.int .i64 a1_0, .int .u64 a1_1, .string a1_2, .int .i64 a1_3]] rfl (by (try simp only [List.map_toArray, List.map_cons, List.map_nil]); first | done | rfl) ?_; (with_reducible refine (value_Valid.calls a1_0 a1_1 a1_2 a1_3 true _ A8.out).mono ?_); rintro e w23 ⟨rfl, hb⟩; refine ⟨_, rfl, ?_⟩; replace BK265 := sqB_ BK265 (by (with_reducible repeat (first | apply kN_ | apply kD_ | apply kA_)); exact BK265.out) hb; replace BK266 := sqB_ BK266 (by (with_reducible repeat (first | apply kN_ | apply kD_ | apply kA_)); exact BK266.out) hb; replace BK267 := sqB_ BK267 (by (with_reducible repeat (first | apply kN_ | apply kD_ | apply kA_)); exact BK267.out) hb; replace HB := sqS_ (by repeat (first | (with_reducible first | exact HB.out | apply bA_ | apply bN_ | apply bD_ | refine bS_ ?_ GE265.out | refine bS_ ?_ GE266.out | refine bS_ ?_ GE267.out) | exact HB.out)) hb; (try clear hb); (try clear hb2); (try clear hk); (try clear hi); have hnb24 := NB266_267.out; have hnc24 := NB267_266.out; obtain ⟨hcz25_0, hcz25_1, hcz25_2, hcz25_3⟩ := cells4_ BK266.out; obtain ⟨hfz25_0, hfz25_1, hfz25_2, hfz25_3⟩ := froz4_ BK266.out) | (go_at_call 25; (with_reducible refine (value_Valid.calls a2_0 a2_1 a2_2 a2_3 true _ A10.out).mono ?_); rintro e w26 ⟨rfl, hb⟩; replace BK265 := sqB_ BK265 (by (with_reducible repeat (first | apply kN_ | apply kD_ | apply kA_)); exact BK265.out) hb; replace BK266 := sqB_ BK266 (by (with_reducible repeat (first | apply kN_ | apply kD_ | apply kA_)); exact BK266.out) hb; replace BK267 := sqB_ BK267 (by (with_reducible repeat (first | apply kN_ | apply kD_ | apply kA_)); exact BK267.out) hb; replace HB := sqS_ (by repeat (first | (with_reducible first | exact HB.out | apply bA_ | apply bN_ | apply bD_ | refine bS_ ?_ GE265.out | refine bS_ ?_ GE266.out | refine bS_ ?_ GE267.out) | exact HB.out)) hb; (try clear hb); (try clear hb2); (try clear hk); (try clear hi)))
     go_meet
     case rel => exact ⟨_, (decide (a0 > 75)), (by first | rfl | (simp; done) | (simp [*]; done)), H', ⟨by first | omega | exact Nat.le_refl _⟩, ⟨by (with_reducible repeat (first | apply kN_ | apply kD_ | apply kA_)); exact BK265.out⟩, ⟨by (with_reducible repeat (first | apply kN_ | apply kD_ | apply kA_)); exact BK266.out⟩, ⟨by (with_reducible repeat (first | apply kN_ | apply kD_ | apply kA_)); exact BK267.out⟩, ⟨by repeat (first | (with_reducible first | exact HB.out | apply bA_ | apply bN_ | apply bD_ | refine bS_ ?_ GE265.out | refine bS_ ?_ GE266.out | refine bS_ ?_ GE267.out) | exact HB.out)⟩⟩
   ·replace c11 := Bool.eq_false_iff.mpr c11
    subst c11
    have H1 : (value_Binary.j0 k a0 true a1_0 a1_1 a1_2 a1_3 a2_0 a2_1 a2_2 a2_3) = some (r1, r2, r3, r4, r5) := by rw [if_neg (show ¬ (false = true) by decide)] at H; exact H
    clear H
    have H := H1
    clear H1
    have H' := Aside0.mk H
    clear H
    have hnb27 := NB265_266.out
    have hnc27 := NB266_265.out
    have hnb28 := NB265_267.out
    have hnc28 := NB267_265.out
    obtain ⟨hcz29_0, hcz29_1, hcz29_2, hcz29_3⟩ := cells4_ BK265.out
    obtain ⟨hfz29_0, hfz29_1, hfz29_2, hfz29_3⟩ := froz4_ BK265.out
    go_wp2_with (first | ((with_reducible refine gate_callee (f := 25) rfl ?_); refine goesL_ (some 13) rfl rfl Tryd.func25 (by kernel_rfl) rfl #[.agg #[.int .i64 a1_0, .int .u64 a1_1, .string a1_2, .int .i64 a1_3]] rfl (by (try simp only [List.map_toArray, List.map_cons, List.map_nil]); first | done | rfl) ?_; (with_reducible refine (value_Valid.calls a1_0 a1_1 a1_2 a1_3 true _ A8.out).mono ?_); rintro e w30 ⟨rfl, hb⟩; refine ⟨_, rfl, ?_⟩; replace BK265 := sqB_ BK265 (by (with_reducible repeat (first | apply kN_ | apply kD_ | apply kA_)); exact BK265.out) hb; replace BK266 := sqB_ BK266 (by (with_reducible repeat (first | apply kN_ | apply kD_ | apply kA_)); exact BK266.out) hb; replace BK267 := sqB_ BK267 (by (with_reducible repeat (first | apply kN_ | apply kD_ | apply kA_)); exact BK267.out) hb; replace HB := sqS_ (by repeat (first | (with_reducible first | exact HB.out | apply bA_ | apply bN_ | apply bD_ | refine bS_ ?_ GE265.out | refine bS_ ?_ GE266.out | refine bS_ ?_ GE267.out) | exact HB.out)) hb; (try clear hb); (try clear hb2); (try clear hk); (try clear hi); have hnb31 := NB266_267.out; have hnc31 := NB267_266.out; obtain ⟨hcz32_0, hcz32_1, hcz32_2, hcz32_3⟩ := cells4_ BK266.out; obtain ⟨hfz32_0, hfz32_1, hfz32_2, hfz32_3⟩ := froz4_ BK266.out) | (go_at_call 25; (with_reducible refine (value_Valid.calls a2_0 a2_1 a2_2 a2_3 false _ A10.out).mono ?_); rintro e w33 ⟨rfl, hb⟩; replace BK265 := sqB_ BK265 (by (with_reducible repeat (first | apply kN_ | apply kD_ | apply kA_)); exact BK265.out) hb; replace BK266 := sqB_ BK266 (by (with_reducible repeat (first | apply kN_ | apply kD_ | apply kA_)); exact BK266.out) hb; replace BK267 := sqB_ BK267 (by (with_reducible repeat (first | apply kN_ | apply kD_ | apply kA_)); exact BK267.out) hb; replace HB := sqS_ (by repeat (first | (with_reducible first | exact HB.out | apply bA_ | apply bN_ | apply bD_ | refine bS_ ?_ GE265.out | refine bS_ ?_ GE266.out | refine bS_ ?_ GE267.out) | exact HB.out)) hb; (try clear hb); (try clear hb2); (try clear hk); (try clear hi)))
    go_meet
    case rel => exact ⟨_, (true), (by first | rfl | (simp; done) | (simp [*]; done)), H', ⟨by first | omega | exact Nat.le_refl _⟩, ⟨by (with_reducible repeat (first | apply kN_ | apply kD_ | apply kA_)); exact BK265.out⟩, ⟨by (with_reducible repeat (first | apply kN_ | apply kD_ | apply kA_)); exact BK266.out⟩, ⟨by (with_reducible repeat (first | apply kN_ | apply kD_ | apply kA_)); exact BK267.out⟩, ⟨by repeat (first | (with_reducible first | exact HB.out | apply bA_ | apply bN_ | apply bD_ | refine bS_ ?_ GE265.out | refine bS_ ?_ GE266.out | refine bS_ ?_ GE267.out) | exact HB.out)⟩⟩
  ·replace c9 := Bool.eq_false_iff.mpr c9
   subst c9
   have H1 : (value_Binary.j0 k a0 true a1_0 a1_1 a1_2 a1_3 a2_0 a2_1 a2_2 a2_3) = some (r1, r2, r3, r4, r5) := by rw [if_neg (show ¬ (false = true) by decide)] at H; exact H
   clear H
   have H := H1
   clear H1
   have H' := Aside0.mk H
   clear H
   have hnb34 := NB265_266.out
   have hnc34 := NB266_265.out
   have hnb35 := NB265_267.out
   have hnc35 := NB267_265.out
   obtain ⟨hcz36_0, hcz36_1, hcz36_2, hcz36_3⟩ := cells4_ BK265.out
   obtain ⟨hfz36_0, hfz36_1, hfz36_2, hfz36_3⟩ := froz4_ BK265.out
   go_wp2_with (first | ((with_reducible refine gate_callee (f := 25) rfl ?_); refine goesL_ (some 13) rfl rfl Tryd.func25 (by kernel_rfl) rfl #[.agg #[.int .i64 a1_0, .int .u64 a1_1, .string a1_2, .int .i64 a1_3]] rfl (by (try simp only [List.map_toArray, List.map_cons, List.map_nil]); first | done | rfl) ?_; (with_reducible refine (value_Valid.calls a1_0 a1_1 a1_2 a1_3 false _ A8.out).mono ?_); rintro e w37 ⟨rfl, hb⟩; refine ⟨_, rfl, ?_⟩; replace BK265 := sqB_ BK265 (by (with_reducible repeat (first | apply kN_ | apply kD_ | apply kA_)); exact BK265.out) hb; replace BK266 := sqB_ BK266 (by (with_reducible repeat (first | apply kN_ | apply kD_ | apply kA_)); exact BK266.out) hb; replace BK267 := sqB_ BK267 (by (with_reducible repeat (first | apply kN_ | apply kD_ | apply kA_)); exact BK267.out) hb; replace HB := sqS_ (by repeat (first | (with_reducible first | exact HB.out | apply bA_ | apply bN_ | apply bD_ | refine bS_ ?_ GE265.out | refine bS_ ?_ GE266.out | refine bS_ ?_ GE267.out) | exact HB.out)) hb; (try clear hb); (try clear hb2); (try clear hk); (try clear hi)))
   go_meet
   case rel => exact ⟨_, (true), (by first | rfl | (simp; done) | (simp [*]; done)), H', ⟨by first | omega | exact Nat.le_refl _⟩, ⟨by (with_reducible repeat (first | apply kN_ | apply kD_ | apply kA_)); exact BK265.out⟩, ⟨by (with_reducible repeat (first | apply kN_ | apply kD_ | apply kA_)); exact BK266.out⟩, ⟨by (with_reducible repeat (first | apply kN_ | apply kD_ | apply kA_)); exact BK267.out⟩, ⟨by repeat (first | (with_reducible first | exact HB.out | apply bA_ | apply bN_ | apply bD_ | refine bS_ ?_ GE265.out | refine bS_ ?_ GE266.out | refine bS_ ?_ GE267.out) | exact HB.out)⟩⟩
 case rest =>
  clear HC4
  try clear c1
  try clear c2
  try clear p2
  try clear c3
  try clear c8
  try clear c9
  try clear c11
  try clear c12
  try clear c12b0
  try clear c13
  try clear c14
  try clear c17
  try clear c20
  try clear c21
  try clear c24
  try clear c25
  try clear c27
  try clear c28
  try clear c31
  try clear c34
  try clear c35
  try clear hcz15_0 hcz15_1 hcz15_2 hcz15_3
  try clear hcz18_0 hcz18_1 hcz18_2 hcz18_3
  try clear hcz22_0 hcz22_1 hcz22_2 hcz22_3
  try clear hcz25_0 hcz25_1 hcz25_2 hcz25_3
  try clear hcz29_0 hcz29_1 hcz29_2 hcz29_3
  try clear hcz32_0 hcz32_1 hcz32_2 hcz32_3
  try clear hcz36_0 hcz36_1 hcz36_2 hcz36_3
  try clear hfz15_0 hfz15_1 hfz15_2 hfz15_3
  try clear hfz18_0 hfz18_1 hfz18_2 hfz18_3
  try clear hfz22_0 hfz22_1 hfz22_2 hfz22_3
  try clear hfz25_0 hfz25_1 hfz25_2 hfz25_3
  try clear hfz29_0 hfz29_1 hfz29_2 hfz29_3
  try clear hfz32_0 hfz32_1 hfz32_2 hfz32_3
  try clear hfz36_0 hfz36_1 hfz36_2 hfz36_3
  obtain ⟨kq, x11_3, rfl, HA, HJ3, BK265, BK266, BK267, HB⟩ := hcut
  cases kq with
  | zero => exact absurd HA.out (by simp [value_Binary.j0])
  | succ kj3 =>
   have H := HA.out
   clear HA
   simp only [value_Binary.j0] at H
   by_cases c38 : x11_3 = true
   ·subst c38
    have H1 : (some (0, 0, (⟨#[]⟩ : ByteArray), 0, 1)) = some (r1, r2, r3, r4, r5) := by rw [if_pos rfl] at H; exact H
    clear H
    have H := H1
    clear H1
    simp only [Option.some.injEq, Prod.mk.injEq] at H
    obtain ⟨rfl, rfl, rfl, rfl, rfl⟩ := H
    have hnb39 := NB267_265.out
    have hnc39 := NB265_267.out
    have hnb40 := NB267_266.out
    have hnc40 := NB266_267.out
    obtain ⟨hcz41_0, hcz41_1, hcz41_2, hcz41_3⟩ := cells4_ BK267.out
    obtain ⟨hfz41_0, hfz41_1, hfz41_2, hfz41_3⟩ := froz4_ BK267.out
    go_wp2
    refine bodyPost_ret (results_ct rfl _ _ gb267 24 #[.int .i64 0, .int .u64 0, .string ⟨#[]⟩, .int .i64 0] (0, 0) _ rfl (by (with_reducible repeat (first | apply kN_ | apply kD_ | apply kA_)); refine blk_put (cs := #[.int .i64 0, .int .u64 0, .string ⟨#[]⟩, .int .i64 0]) ?_ 3 _ rfl; (with_reducible repeat (first | apply kN_ | apply kD_ | apply kA_)); refine blk_put (cs := #[.int .i64 0, .int .u64 0, .string ⟨#[]⟩, .int .i64 0]) ?_ 2 _ rfl; (with_reducible repeat (first | apply kN_ | apply kD_ | apply kA_)); refine blk_put (cs := #[.int .i64 0, .int .u64 0, .string ⟨#[]⟩, .int .i64 0]) ?_ 1 _ rfl; (with_reducible repeat (first | apply kN_ | apply kD_ | apply kA_)); refine blk_put (cs := #[.int .i64 0, .int .u64 0, .string ⟨#[]⟩, .int .i64 0]) ?_ 0 _ rfl; (with_reducible repeat (first | apply kN_ | apply kD_ | apply kA_)); exact BK267.out) Tryd.underlying24 rfl (by kernel_rfl)) rfl ?_
    exact ⟨by first | rfl | (simp [errW_none, errW_some] <;> rfl) | (simp [*, errW_none, errW_some] <;> rfl), by repeat (first | (with_reducible first | exact HB.out | apply bA_ | apply bN_ | apply bD_ | refine bS_ ?_ GE265.out | refine bS_ ?_ GE266.out | refine bS_ ?_ GE267.out) | exact HB.out)⟩
   ·replace c38 := Bool.eq_false_iff.mpr c38
    subst c38
    have H1 : (if a0 ≥ 72 then ((value_matched.f kj3 a0 a1_0 a1_1 a1_2 a1_3 a2_0 a2_1 a2_2 a2_3).bind fun bt270 => (some (bt270.1, bt270.2.1, bt270.2.2.1, bt270.2.2.2.1, bt270.2.2.2.2))) else ((value_Integer.f kj3 a1_0 a1_1 a1_2 a1_3).bind fun bt275 => (if bt275.2 = 0 then ((value_Integer.f kj3 a2_0 a2_1 a2_2 a2_3).bind fun bt277 => (if bt277.2 = 0 then ((value_arithmetic.f a0 bt275.1 bt277.1).bind fun bt279 => (some (bt279.1, bt279.2.1, bt279.2.2.1, bt279.2.2.2.1, bt279.2.2.2.2))) else (some (0, 0, (⟨#[]⟩ : ByteArray), 0, bt277.2)))) else (some (0, 0, (⟨#[]⟩ : ByteArray), 0, bt275.2))))) = some (r1, r2, r3, r4, r5) := by rw [if_neg (show ¬ (false = true) by decide)] at H; exact H
    clear H
    have H := H1
    clear H1
    by_cases c42 : a0 ≥ 72
    ·rw [if_pos c42] at H
     have c42b0 : decide (72 ≤ a0) = true := decide_eq_true c42
     clear c42
     replace H := Option.bind_eq_some_iff.mp H
     obtain ⟨⟨t270, t271, t272, t273, t274⟩, A430, H⟩ := H
     replace H : (some (t270, t271, t272, t273, t274)) = some (r1, r2, r3, r4, r5) := H
     have A43 := Aside0.mk A430
     clear A430
     simp only [Option.some.injEq, Prod.mk.injEq] at H
     obtain ⟨rfl, rfl, rfl, rfl, rfl⟩ := H
     have hnb44 := NB265_266.out
     have hnc44 := NB266_265.out
     have hnb45 := NB265_267.out
     have hnc45 := NB267_265.out
     obtain ⟨hcz46_0, hcz46_1, hcz46_2, hcz46_3⟩ := cells4_ BK265.out
     obtain ⟨hfz46_0, hfz46_1, hfz46_2, hfz46_3⟩ := froz4_ BK265.out
     have hnb47 := NB266_267.out
     have hnc47 := NB267_266.out
     obtain ⟨hcz48_0, hcz48_1, hcz48_2, hcz48_3⟩ := cells4_ BK266.out
     obtain ⟨hfz48_0, hfz48_1, hfz48_2, hfz48_3⟩ := froz4_ BK266.out
     go_wp2_with (first | ((with_reducible refine gate_callee (f := 26) rfl ?_); refine goesL_ (some 35) rfl rfl Tryd.func26 (by kernel_rfl) rfl #[.int .i64 a0, .agg #[.int .i64 a1_0, .int .u64 a1_1, .string a1_2, .int .i64 a1_3], .agg #[.int .i64 a2_0, .int .u64 a2_1, .string a2_2, .int .i64 a2_3]] rfl (by (try simp only [List.map_toArray, List.map_cons, List.map_nil]); first | done | rfl) ?_; (with_reducible refine (value_matched.calls kj3 a0 a1_0 a1_1 a1_2 a1_3 a2_0 a2_1 a2_2 a2_3 t270 t271 t272 t273 t274 _ ?hTT_ A43.out).mono ?_); (case hTT_ => exact tb_below HTT_.out (by repeat (first | (with_reducible first | exact HB.out | apply bA_ | apply bN_ | apply bD_ | refine bS_ ?_ GE265.out | refine bS_ ?_ GE266.out | refine bS_ ?_ GE267.out) | exact HB.out))); rintro e w49 ⟨rfl, hb⟩; refine ⟨_, rfl, ?_⟩; replace BK265 := sqB_ BK265 (by (with_reducible repeat (first | apply kN_ | apply kD_ | apply kA_)); exact BK265.out) hb; replace BK266 := sqB_ BK266 (by (with_reducible repeat (first | apply kN_ | apply kD_ | apply kA_)); exact BK266.out) hb; replace BK267 := sqB_ BK267 (by (with_reducible repeat (first | apply kN_ | apply kD_ | apply kA_)); exact BK267.out) hb; replace HB := sqS_ (by repeat (first | (with_reducible first | exact HB.out | apply bA_ | apply bN_ | apply bD_ | refine bS_ ?_ GE265.out | refine bS_ ?_ GE266.out | refine bS_ ?_ GE267.out) | exact HB.out)) hb; (try clear hb); (try clear hb2); (try clear hk); (try clear hi); obtain ⟨hcz50_0, hcz50_1, hcz50_2, hcz50_3⟩ := cells4_ BK267.out; obtain ⟨hfz50_0, hfz50_1, hfz50_2, hfz50_3⟩ := froz4_ BK267.out))
     refine bodyPost_ret (results_ct rfl _ _ gb267 24 #[.int .i64 t270, .int .u64 t271, .string t272, .int .i64 t273] (0, 0) _ rfl (by (with_reducible repeat (first | apply kN_ | apply kD_ | apply kA_)); refine blk_put (cs := #[.int .i64 t270, .int .u64 t271, .string t272, .int .i64 0]) ?_ 3 _ rfl; (with_reducible repeat (first | apply kN_ | apply kD_ | apply kA_)); refine blk_put (cs := #[.int .i64 t270, .int .u64 t271, .string ⟨#[]⟩, .int .i64 0]) ?_ 2 _ rfl; (with_reducible repeat (first | apply kN_ | apply kD_ | apply kA_)); refine blk_put (cs := #[.int .i64 t270, .int .u64 0, .string ⟨#[]⟩, .int .i64 0]) ?_ 1 _ rfl; (with_reducible repeat (first | apply kN_ | apply kD_ | apply kA_)); refine blk_put (cs := #[.int .i64 0, .int .u64 0, .string ⟨#[]⟩, .int .i64 0]) ?_ 0 _ rfl; (with_reducible repeat (first | apply kN_ | apply kD_ | apply kA_)); exact BK267.out) Tryd.underlying24 rfl (by kernel_rfl)) rfl ?_
     exact ⟨by first | rfl | (simp [errW_none, errW_some] <;> rfl) | (simp [*, errW_none, errW_some] <;> rfl), by repeat (first | (with_reducible first | exact HB.out | apply bA_ | apply bN_ | apply bD_ | refine bS_ ?_ GE265.out | refine bS_ ?_ GE266.out | refine bS_ ?_ GE267.out) | exact HB.out)⟩
    ·rw [if_neg c42] at H
     have c42b0 : decide (72 ≤ a0) = false := decide_eq_false c42
     clear c42
     replace H := Option.bind_eq_some_iff.mp H
     obtain ⟨⟨t275, t276⟩, A510, H⟩ := H
     replace H : (if t276 = 0 then ((value_Integer.f kj3 a2_0 a2_1 a2_2 a2_3).bind fun bt277 => (if bt277.2 = 0 then ((value_arithmetic.f a0 t275 bt277.1).bind fun bt279 => (some (bt279.1, bt279.2.1, bt279.2.2.1, bt279.2.2.2.1, bt279.2.2.2.2))) else (some (0, 0, (⟨#[]⟩ : ByteArray), 0, bt277.2)))) else (some (0, 0, (⟨#[]⟩ : ByteArray), 0, t276))) = some (r1, r2, r3, r4, r5) := H
     have A51 := Aside0.mk A510
     clear A510
     by_cases c52 : t276 = 0
     ·rw [if_pos c52] at H
      have c52b0 : (t276 == 0) = true := beq_iff_eq.mpr c52
      have c52b1 : (t276 != 0) = false := bne_eq_false_iff_eq.mpr c52
      clear c52
      replace H := Option.bind_eq_some_iff.mp H
      obtain ⟨⟨t277, t278⟩, A530, H⟩ := H
      replace H : (if t278 = 0 then ((value_arithmetic.f a0 t275 t277).bind fun bt279 => (some (bt279.1, bt279.2.1, bt279.2.2.1, bt279.2.2.2.1, bt279.2.2.2.2))) else (some (0, 0, (⟨#[]⟩ : ByteArray), 0, t278))) = some (r1, r2, r3, r4, r5) := H
      have A53 := Aside0.mk A530
      clear A530
      by_cases c54 : t278 = 0
      ·rw [if_pos c54] at H
       have c54b0 : (t278 == 0) = true := beq_iff_eq.mpr c54
       have c54b1 : (t278 != 0) = false := bne_eq_false_iff_eq.mpr c54
       clear c54
       replace H := Option.bind_eq_some_iff.mp H
       obtain ⟨⟨t279, t280, t281, t282, t283⟩, A550, H⟩ := H
       replace H : (some (t279, t280, t281, t282, t283)) = some (r1, r2, r3, r4, r5) := H
       have A55 := Aside0.mk A550
       clear A550
       simp only [Option.some.injEq, Prod.mk.injEq] at H
       obtain ⟨rfl, rfl, rfl, rfl, rfl⟩ := H
       have hnb56 := NB265_266.out
       have hnc56 := NB266_265.out
       have hnb57 := NB265_267.out
       have hnc57 := NB267_265.out
       obtain ⟨hcz58_0, hcz58_1, hcz58_2, hcz58_3⟩ := cells4_ BK265.out
       obtain ⟨hfz58_0, hfz58_1, hfz58_2, hfz58_3⟩ := froz4_ BK265.out
       go_wp2_with (first | ((with_reducible refine gate_callee (f := 22) rfl ?_); refine goesL_ (some 40) rfl rfl Tryd.func22 (by kernel_rfl) rfl #[.agg #[.int .i64 a1_0, .int .u64 a1_1, .string a1_2, .int .i64 a1_3]] rfl (by (try simp only [List.map_toArray, List.map_cons, List.map_nil]); first | done | rfl) ?_; (with_reducible refine (value_Integer.calls kj3 a1_0 a1_1 a1_2 a1_3 t275 t276 _ A51.out).mono ?_); rintro e w59 ⟨rfl, hb⟩; refine ⟨_, rfl, ?_⟩; replace BK265 := sqB_ BK265 (by (with_reducible repeat (first | apply kN_ | apply kD_ | apply kA_)); exact BK265.out) hb; replace BK266 := sqB_ BK266 (by (with_reducible repeat (first | apply kN_ | apply kD_ | apply kA_)); exact BK266.out) hb; replace BK267 := sqB_ BK267 (by (with_reducible repeat (first | apply kN_ | apply kD_ | apply kA_)); exact BK267.out) hb; replace HB := sqS_ (by repeat (first | (with_reducible first | exact HB.out | apply bA_ | apply bN_ | apply bD_ | refine bS_ ?_ GE265.out | refine bS_ ?_ GE266.out | refine bS_ ?_ GE267.out) | exact HB.out)) hb; (try clear hb); (try clear hb2); (try clear hk); (try clear hi); have hnb60 := NB266_267.out; have hnc60 := NB267_266.out; obtain ⟨hcz61_0, hcz61_1, hcz61_2, hcz61_3⟩ := cells4_ BK266.out; obtain ⟨hfz61_0, hfz61_1, hfz61_2, hfz61_3⟩ := froz4_ BK266.out) | ((with_reducible refine gate_callee (f := 22) rfl ?_); refine goesL_ (some 49) rfl rfl Tryd.func22 (by kernel_rfl) rfl #[.agg #[.int .i64 a2_0, .int .u64 a2_1, .string a2_2, .int .i64 a2_3]] rfl (by (try simp only [List.map_toArray, List.map_cons, List.map_nil]); first | done | rfl) ?_; (with_reducible refine (value_Integer.calls kj3 a2_0 a2_1 a2_2 a2_3 t277 t278 _ A53.out).mono ?_); rintro e w62 ⟨rfl, hb⟩; refine ⟨_, rfl, ?_⟩; replace BK265 := sqB_ BK265 (by (with_reducible repeat (first | apply kN_ | apply kD_ | apply kA_)); exact BK265.out) hb; replace BK266 := sqB_ BK266 (by (with_reducible repeat (first | apply kN_ | apply kD_ | apply kA_)); exact BK266.out) hb; replace BK267 := sqB_ BK267 (by (with_reducible repeat (first | apply kN_ | apply kD_ | apply kA_)); exact BK267.out) hb; replace HB := sqS_ (by repeat (first | (with_reducible first | exact HB.out | apply bA_ | apply bN_ | apply bD_ | refine bS_ ?_ GE265.out | refine bS_ ?_ GE266.out | refine bS_ ?_ GE267.out) | exact HB.out)) hb; (try clear hb); (try clear hb2); (try clear hk); (try clear hi)) | ((with_reducible refine gate_callee (f := 27) rfl ?_); refine goesL_ (some 59) rfl rfl Tryd.func27 (by kernel_rfl) rfl #[.int .i64 a0, .int .u64 t275, .int .u64 t277] rfl (by (try simp only [List.map_toArray, List.map_cons, List.map_nil]); first | done | rfl) ?_; (with_reducible refine (value_arithmetic.calls a0 t275 t277 t279 t280 t281 t282 t283 _ A55.out).mono ?_); rintro e w63 ⟨rfl, hb⟩; refine ⟨_, rfl, ?_⟩; replace BK265 := sqB_ BK265 (by (with_reducible repeat (first | apply kN_ | apply kD_ | apply kA_)); exact BK265.out) hb; replace BK266 := sqB_ BK266 (by (with_reducible repeat (first | apply kN_ | apply kD_ | apply kA_)); exact BK266.out) hb; replace BK267 := sqB_ BK267 (by (with_reducible repeat (first | apply kN_ | apply kD_ | apply kA_)); exact BK267.out) hb; replace HB := sqS_ (by repeat (first | (with_reducible first | exact HB.out | apply bA_ | apply bN_ | apply bD_ | refine bS_ ?_ GE265.out | refine bS_ ?_ GE266.out | refine bS_ ?_ GE267.out) | exact HB.out)) hb; (try clear hb); (try clear hb2); (try clear hk); (try clear hi); obtain ⟨hcz64_0, hcz64_1, hcz64_2, hcz64_3⟩ := cells4_ BK267.out; obtain ⟨hfz64_0, hfz64_1, hfz64_2, hfz64_3⟩ := froz4_ BK267.out))
       refine bodyPost_ret (results_ct rfl _ _ gb267 24 #[.int .i64 t279, .int .u64 t280, .string t281, .int .i64 t282] (0, 0) _ rfl (by (with_reducible repeat (first | apply kN_ | apply kD_ | apply kA_)); refine blk_put (cs := #[.int .i64 t279, .int .u64 t280, .string t281, .int .i64 0]) ?_ 3 _ rfl; (with_reducible repeat (first | apply kN_ | apply kD_ | apply kA_)); refine blk_put (cs := #[.int .i64 t279, .int .u64 t280, .string ⟨#[]⟩, .int .i64 0]) ?_ 2 _ rfl; (with_reducible repeat (first | apply kN_ | apply kD_ | apply kA_)); refine blk_put (cs := #[.int .i64 t279, .int .u64 0, .string ⟨#[]⟩, .int .i64 0]) ?_ 1 _ rfl; (with_reducible repeat (first | apply kN_ | apply kD_ | apply kA_)); refine blk_put (cs := #[.int .i64 0, .int .u64 0, .string ⟨#[]⟩, .int .i64 0]) ?_ 0 _ rfl; (with_reducible repeat (first | apply kN_ | apply kD_ | apply kA_)); exact BK267.out) Tryd.underlying24 rfl (by kernel_rfl)) rfl ?_
       exact ⟨by first | rfl | (simp [errW_none, errW_some] <;> rfl) | (simp [*, errW_none, errW_some] <;> rfl), by repeat (first | (with_reducible first | exact HB.out | apply bA_ | apply bN_ | apply bD_ | refine bS_ ?_ GE265.out | refine bS_ ?_ GE266.out | refine bS_ ?_ GE267.out) | exact HB.out)⟩
      ·rw [if_neg c54] at H
       have c54b0 : (t278 == 0) = false := beq_eq_false_iff_ne.mpr c54
       have c54b1 : (t278 != 0) = true := bne_iff_ne.mpr c54
       simp only [Option.some.injEq, Prod.mk.injEq] at H
       obtain ⟨rfl, rfl, rfl, rfl, rfl⟩ := H
       have hnb65 := NB265_266.out
       have hnc65 := NB266_265.out
       have hnb66 := NB265_267.out
       have hnc66 := NB267_265.out
       obtain ⟨hcz67_0, hcz67_1, hcz67_2, hcz67_3⟩ := cells4_ BK265.out
       obtain ⟨hfz67_0, hfz67_1, hfz67_2, hfz67_3⟩ := froz4_ BK265.out
       go_wp2_with (first | ((with_reducible refine gate_callee (f := 22) rfl ?_); refine goesL_ (some 40) rfl rfl Tryd.func22 (by kernel_rfl) rfl #[.agg #[.int .i64 a1_0, .int .u64 a1_1, .string a1_2, .int .i64 a1_3]] rfl (by (try simp only [List.map_toArray, List.map_cons, List.map_nil]); first | done | rfl) ?_; (with_reducible refine (value_Integer.calls kj3 a1_0 a1_1 a1_2 a1_3 t275 t276 _ A51.out).mono ?_); rintro e w68 ⟨rfl, hb⟩; refine ⟨_, rfl, ?_⟩; replace BK265 := sqB_ BK265 (by (with_reducible repeat (first | apply kN_ | apply kD_ | apply kA_)); exact BK265.out) hb; replace BK266 := sqB_ BK266 (by (with_reducible repeat (first | apply kN_ | apply kD_ | apply kA_)); exact BK266.out) hb; replace BK267 := sqB_ BK267 (by (with_reducible repeat (first | apply kN_ | apply kD_ | apply kA_)); exact BK267.out) hb; replace HB := sqS_ (by repeat (first | (with_reducible first | exact HB.out | apply bA_ | apply bN_ | apply bD_ | refine bS_ ?_ GE265.out | refine bS_ ?_ GE266.out | refine bS_ ?_ GE267.out) | exact HB.out)) hb; (try clear hb); (try clear hb2); (try clear hk); (try clear hi); have hnb69 := NB266_267.out; have hnc69 := NB267_266.out; obtain ⟨hcz70_0, hcz70_1, hcz70_2, hcz70_3⟩ := cells4_ BK266.out; obtain ⟨hfz70_0, hfz70_1, hfz70_2, hfz70_3⟩ := froz4_ BK266.out) | ((with_reducible refine gate_callee (f := 22) rfl ?_); refine goesL_ (some 49) rfl rfl Tryd.func22 (by kernel_rfl) rfl #[.agg #[.int .i64 a2_0, .int .u64 a2_1, .string a2_2, .int .i64 a2_3]] rfl (by (try simp only [List.map_toArray, List.map_cons, List.map_nil]); first | done | rfl) ?_; (with_reducible refine (value_Integer.calls kj3 a2_0 a2_1 a2_2 a2_3 t277 t278 _ A53.out).mono ?_); rintro e w71 ⟨rfl, hb⟩; refine ⟨_, rfl, ?_⟩; replace BK265 := sqB_ BK265 (by (with_reducible repeat (first | apply kN_ | apply kD_ | apply kA_)); exact BK265.out) hb; replace BK266 := sqB_ BK266 (by (with_reducible repeat (first | apply kN_ | apply kD_ | apply kA_)); exact BK266.out) hb; replace BK267 := sqB_ BK267 (by (with_reducible repeat (first | apply kN_ | apply kD_ | apply kA_)); exact BK267.out) hb; replace HB := sqS_ (by repeat (first | (with_reducible first | exact HB.out | apply bA_ | apply bN_ | apply bD_ | refine bS_ ?_ GE265.out | refine bS_ ?_ GE266.out | refine bS_ ?_ GE267.out) | exact HB.out)) hb; (try clear hb); (try clear hb2); (try clear hk); (try clear hi); obtain ⟨hcz72_0, hcz72_1, hcz72_2, hcz72_3⟩ := cells4_ BK267.out; obtain ⟨hfz72_0, hfz72_1, hfz72_2, hfz72_3⟩ := froz4_ BK267.out))
       refine bodyPost_ret (results_ct rfl _ _ gb267 24 #[.int .i64 0, .int .u64 0, .string ⟨#[]⟩, .int .i64 0] (0, 0) _ rfl (by (with_reducible repeat (first | apply kN_ | apply kD_ | apply kA_)); refine blk_put (cs := #[.int .i64 0, .int .u64 0, .string ⟨#[]⟩, .int .i64 0]) ?_ 3 _ rfl; (with_reducible repeat (first | apply kN_ | apply kD_ | apply kA_)); refine blk_put (cs := #[.int .i64 0, .int .u64 0, .string ⟨#[]⟩, .int .i64 0]) ?_ 2 _ rfl; (with_reducible repeat (first | apply kN_ | apply kD_ | apply kA_)); refine blk_put (cs := #[.int .i64 0, .int .u64 0, .string ⟨#[]⟩, .int .i64 0]) ?_ 1 _ rfl; (with_reducible repeat (first | apply kN_ | apply kD_ | apply kA_)); refine blk_put (cs := #[.int .i64 0, .int .u64 0, .string ⟨#[]⟩, .int .i64 0]) ?_ 0 _ rfl; (with_reducible repeat (first | apply kN_ | apply kD_ | apply kA_)); exact BK267.out) Tryd.underlying24 rfl (by kernel_rfl)) rfl ?_
       exact ⟨by first | rfl | (simp [errW_none, errW_some] <;> rfl) | (simp [*, errW_none, errW_some] <;> rfl), by repeat (first | (with_reducible first | exact HB.out | apply bA_ | apply bN_ | apply bD_ | refine bS_ ?_ GE265.out | refine bS_ ?_ GE266.out | refine bS_ ?_ GE267.out) | exact HB.out)⟩
     ·rw [if_neg c52] at H
      have c52b0 : (t276 == 0) = false := beq_eq_false_iff_ne.mpr c52
      have c52b1 : (t276 != 0) = true := bne_iff_ne.mpr c52
      simp only [Option.some.injEq, Prod.mk.injEq] at H
      obtain ⟨rfl, rfl, rfl, rfl, rfl⟩ := H
      have hnb73 := NB265_266.out
      have hnc73 := NB266_265.out
      have hnb74 := NB265_267.out
      have hnc74 := NB267_265.out
      obtain ⟨hcz75_0, hcz75_1, hcz75_2, hcz75_3⟩ := cells4_ BK265.out
      obtain ⟨hfz75_0, hfz75_1, hfz75_2, hfz75_3⟩ := froz4_ BK265.out
      go_wp2_with (first | ((with_reducible refine gate_callee (f := 22) rfl ?_); refine goesL_ (some 40) rfl rfl Tryd.func22 (by kernel_rfl) rfl #[.agg #[.int .i64 a1_0, .int .u64 a1_1, .string a1_2, .int .i64 a1_3]] rfl (by (try simp only [List.map_toArray, List.map_cons, List.map_nil]); first | done | rfl) ?_; (with_reducible refine (value_Integer.calls kj3 a1_0 a1_1 a1_2 a1_3 t275 t276 _ A51.out).mono ?_); rintro e w76 ⟨rfl, hb⟩; refine ⟨_, rfl, ?_⟩; replace BK265 := sqB_ BK265 (by (with_reducible repeat (first | apply kN_ | apply kD_ | apply kA_)); exact BK265.out) hb; replace BK266 := sqB_ BK266 (by (with_reducible repeat (first | apply kN_ | apply kD_ | apply kA_)); exact BK266.out) hb; replace BK267 := sqB_ BK267 (by (with_reducible repeat (first | apply kN_ | apply kD_ | apply kA_)); exact BK267.out) hb; replace HB := sqS_ (by repeat (first | (with_reducible first | exact HB.out | apply bA_ | apply bN_ | apply bD_ | refine bS_ ?_ GE265.out | refine bS_ ?_ GE266.out | refine bS_ ?_ GE267.out) | exact HB.out)) hb; (try clear hb); (try clear hb2); (try clear hk); (try clear hi); have hnb77 := NB267_266.out; have hnc77 := NB266_267.out; obtain ⟨hcz78_0, hcz78_1, hcz78_2, hcz78_3⟩ := cells4_ BK267.out; obtain ⟨hfz78_0, hfz78_1, hfz78_2, hfz78_3⟩ := froz4_ BK267.out))
      refine bodyPost_ret (results_ct rfl _ _ gb267 24 #[.int .i64 0, .int .u64 0, .string ⟨#[]⟩, .int .i64 0] (0, 0) _ rfl (by (with_reducible repeat (first | apply kN_ | apply kD_ | apply kA_)); refine blk_put (cs := #[.int .i64 0, .int .u64 0, .string ⟨#[]⟩, .int .i64 0]) ?_ 3 _ rfl; (with_reducible repeat (first | apply kN_ | apply kD_ | apply kA_)); refine blk_put (cs := #[.int .i64 0, .int .u64 0, .string ⟨#[]⟩, .int .i64 0]) ?_ 2 _ rfl; (with_reducible repeat (first | apply kN_ | apply kD_ | apply kA_)); refine blk_put (cs := #[.int .i64 0, .int .u64 0, .string ⟨#[]⟩, .int .i64 0]) ?_ 1 _ rfl; (with_reducible repeat (first | apply kN_ | apply kD_ | apply kA_)); refine blk_put (cs := #[.int .i64 0, .int .u64 0, .string ⟨#[]⟩, .int .i64 0]) ?_ 0 _ rfl; (with_reducible repeat (first | apply kN_ | apply kD_ | apply kA_)); exact BK267.out) Tryd.underlying24 rfl (by kernel_rfl)) rfl ?_
      exact ⟨by first | rfl | (simp [errW_none, errW_some] <;> rfl) | (simp [*, errW_none, errW_some] <;> rfl), by repeat (first | (with_reducible first | exact HB.out | apply bA_ | apply bN_ | apply bD_ | refine bS_ ?_ GE265.out | refine bS_ ?_ GE266.out | refine bS_ ?_ GE267.out) | exact HB.out)⟩

/-! ### platformfwhelp_Mod: function 10 -/
def platformfwhelp_Mod.f (a0 : Int) (a1 : Int) : Option (Int) := if (IntKind.u64.wrap (a1)) = 0 then (none) else (some (wrap64 (Int.tmod (IntKind.u64.wrap (a0)) (IntKind.u64.wrap (a1)))))
set_option maxHeartbeats 8000000 in
set_option maxRecDepth 100000 in
theorem platformfwhelp_Mod.calls (a0 : Int) (a1 : Int) (r : Int) (w : World) (h : platformfwhelp_Mod.f a0 a1 = some r) :
  Calls Tryd.prog 10 #[.int .i64 a0, .int .i64 a1] w fun e w' => e = .returned (.int .i64 r) ∧ Drawn0 w w' := by
 have H : (if (IntKind.u64.wrap (a1)) = 0 then (none) else (some (wrap64 (Int.tmod (IntKind.u64.wrap (a0)) (IntKind.u64.wrap (a1)))))) = some r := h
 clear h
 by_cases c3 : (IntKind.u64.wrap (a1)) = 0
 ·rw [if_pos c3] at H
  exact absurd H (by simp)
 ·rw [if_neg c3] at H
  have c3b0 : ((IntKind.u64.wrap (a1)) == 0) = false := beq_eq_false_iff_ne.mpr c3
  have c3b1 : ((IntKind.u64.wrap (a1)) != 0) = true := bne_iff_ne.mpr c3
  obtain rfl := Option.some.inj H
  go_enter Tryd.func10, Tryd.ntmps10
  go_wp2
  go_ret
  exact ⟨by first | rfl | (simp; done) | (simp [*]; done), by repeat (first | exact Drawn0.refl _ | apply Drawn0.step)⟩

/-! ### platformfwref08_Number: function 19 -/
def platformfwref08_Number.f (a0 : Int) : Option (Int × Int × ByteArray × Int) := some (1, a0, (⟨#[]⟩ : ByteArray), 0)
set_option maxHeartbeats 8000000 in
set_option maxRecDepth 100000 in
theorem platformfwref08_Number.calls (a0 : Int) (r1 : Int) (r2 : Int) (r3 : ByteArray) (r4 : Int) (w : World) (h : platformfwref08_Number.f a0 = some (r1, r2, r3, r4)) :
  Calls Tryd.prog 19 #[.int .u64 a0] w fun e w' => e = .returned (.agg #[.int .i64 r1, .int .u64 r2, .string r3, .int .i64 r4]) ∧ Below w.heap.size w w' := by
 have hu24 := Tryd.underlying24
 have HB := Aside0.mk (Below.refl w.heap.size w)
 have H : (some (1, a0, (⟨#[]⟩ : ByteArray), 0)) = some (r1, r2, r3, r4) := h
 clear h
 simp only [Option.some.injEq, Prod.mk.injEq] at H
 obtain ⟨rfl, rfl, rfl, rfl⟩ := H
 go_enter Tryd.func19, Tryd.ntmps19
 go_wp2_with (first | ((with_reducible refine gate_dst (N := 2) rfl ?_); refine box_event ?hg (N := 2) ?hd (cs := #[.int .i64 0, .int .u64 0, .string ⟨#[]⟩, .int .i64 0]) (t := 24) ?hr ?_; (case hd => rfl); (case hg => rfl); (case hr => first | (go_simp; done) | (go_simp; rfl)); intro gb284 hg w2 hbox hb; replace HB := sqN_ (by repeat (first | (with_reducible first | exact HB.out | apply bA_ | apply bN_ | apply bD_) | exact HB.out)) hg hb; obtain ⟨HB, GE284⟩ := HB; have BK284 := Aside0.mk hbox; clear hb hbox hg; obtain ⟨hcz3_0, hcz3_1, hcz3_2, hcz3_3⟩ := cells4_ BK284.out; obtain ⟨hfz3_0, hfz3_1, hfz3_2, hfz3_3⟩ := froz4_ BK284.out))
 refine bodyPost_ret (results_cell_row rfl _ _ gb284 24 #[.int .i64 1, .int .u64 a0, .string ⟨#[]⟩, .int .i64 0] (0, 0) _ rfl (by (with_reducible repeat (first | apply kN_ | apply kD_ | apply kA_)); refine blk_put (cs := #[.int .i64 1, .int .u64 a0, .string ⟨#[]⟩, .int .i64 0]) ?_ 3 _ rfl; (with_reducible repeat (first | apply kN_ | apply kD_ | apply kA_)); refine blk_put (cs := #[.int .i64 1, .int .u64 a0, .string ⟨#[]⟩, .int .i64 0]) ?_ 2 _ rfl; (with_reducible repeat (first | apply kN_ | apply kD_ | apply kA_)); refine blk_put (cs := #[.int .i64 1, .int .u64 0, .string ⟨#[]⟩, .int .i64 0]) ?_ 1 _ rfl; (with_reducible repeat (first | apply kN_ | apply kD_ | apply kA_)); refine blk_put (cs := #[.int .i64 0, .int .u64 0, .string ⟨#[]⟩, .int .i64 0]) ?_ 0 _ rfl; (with_reducible repeat (first | apply kN_ | apply kD_ | apply kA_)); exact BK284.out) Tryd.underlying24 rfl (by kernel_rfl)) rfl ?_
 exact ⟨by first | rfl | (simp [errW_none, errW_some] <;> rfl) | (simp [*, errW_none, errW_some] <;> rfl), by repeat (first | (with_reducible first | exact HB.out | apply bA_ | apply bN_ | apply bD_ | refine bS_ ?_ GE284.out) | exact HB.out)⟩

end Go.Proofs.YtdmeglmmihaonaaDoor.PValueMid
