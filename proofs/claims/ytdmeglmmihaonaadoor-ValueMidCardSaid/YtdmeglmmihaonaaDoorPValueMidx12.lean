-- Written by a program of this session's (wip/print_patch.py over the kit's print) out of the translation; Lean checks it.
import Derived.Test.YtdmeglmmihaonaaDoorPValueMidx0
import Derived.Test.YtdmeglmmihaonaaDoorPValueMidx1
import Derived.Test.YtdmeglmmihaonaaDoorPValueMidx5
import Derived.Test.YtdmeglmmihaonaaDoorPValueMidx6
import Derived.Test.YtdmeglmmihaonaaDoorPValueMidx7
import Derived.Test.YtdmeglmmihaonaaDoorPValueMidx8
import Derived.Test.YtdmeglmmihaonaaDoorPValueMidx9
import Derived.Test.YtdmeglmmihaonaaDoorPValueMidx11
import Derived.Test.YtdmeglmmihaonaaDoorVValueMidExtP
namespace Go.Proofs.YtdmeglmmihaonaaDoor.PValueMid
open Go.RowKit Go.Proofs.YtdmeglmmihaonaaDoor.Ext Go.Proofs.YtdmeglmmihaonaaDoorW.PrintWords Go.Proofs.YtdmeglmmihaonaaDoorW.PrintLast Go.Proofs.YtdmeglmmihaonaaDoorW.PrintMore
attribute [local go_sem] max2_int min2_int max_two min_two max_three min_three max_four min_four   -- for this text's walks alone
set_option linter.unusedVariables false
set_option linter.unusedSimpArgs false

attribute [local go_sem high] eqA24
open Go.Value renaming int → I_
open Go.IntKind renaming i64 → S_, u64 → U_
/-! ### platformfwlaw08_ValueMid: function 5 -/
set_option maxHeartbeats 8000000 in
set_option maxRecDepth 100000 in
theorem platformfwlaw08_ValueMid.calls (k : Nat) (a0_0 : Int) (a0_1 : Int) (a0_2 : ByteArray) (a0_3 : Int) (a1_0 : Int) (a1_1 : Int) (a1_2 : ByteArray) (a1_3 : Int) (a2 : Int) (a3 : Int) (a4 : Bool) (r : Bool) (w : World) (hT_ : w.cell? ⟨6, 15, none⟩ = some (.int .u8 4)) (hr_ : Aside0 (r = true)) (h : platformfwlaw08_ValueMid.f k a0_0 a0_1 a0_2 a0_3 a1_0 a1_1 a1_2 a1_3 a2 a3 a4 = some r) :
  Calls Tryd.prog 5 #[.agg #[I_ S_ a0_0, I_ U_ a0_1, .string a0_2, I_ S_ a0_3], .agg #[I_ S_ a1_0, I_ U_ a1_1, .string a1_2, I_ S_ a1_3], I_ U_ a2, I_ U_ a3, .bool a4] w fun e w' => e = .returned (.bool r) ∧ Below w.heap.size w w' := by
 have HTT_ := Aside0.mk hT_
 clear hT_
 have hu24 := Tryd.underlying24
 have HB := Aside0.mk (Below.refl w.heap.size w)
 have H : (if a4 = true then (platformfwlaw08_ValueMid.j0 k (Int.tmod a2 40) (Int.tmod a3 40) a0_0 a0_1 a0_2 a0_3 a1_0 a1_1 a1_2 a1_3) else (platformfwlaw08_ValueMid.j0 k a2 a3 a0_0 a0_1 a0_2 a0_3 a1_0 a1_1 a1_2 a1_3)) = some r := h
 clear h
 have HC6 := Aside0.mk H
 clear H
 go_enter Tryd.func5, Tryd.ntmps5
 go_upto_if 29 with (first | ((with_reducible refine gate_dst (N := 5) rfl ?_); refine box_event ?hg (N := 5) ?hd (cs := #[I_ S_ a0_0, I_ U_ a0_1, .string a0_2, I_ S_ a0_3]) (t := 24) ?hr ?_; (case hd => rfl); (case hg => rfl); (case hr => first | (go_simp; done) | (go_simp; rfl)); intro gb377 hg w7 hbox hb; replace HB := sqN_ (by repeat (first | (with_reducible first | exact HB.out | apply bA_ | apply bN_ | apply bD_) | exact HB.out)) hg hb; obtain ⟨HB, GE377⟩ := HB; have BK377 := Aside0.mk hbox; clear hb hbox hg) | ((with_reducible refine gate_dst (N := 6) rfl ?_); refine box_event ?hg (N := 6) ?hd (cs := #[I_ S_ a1_0, I_ U_ a1_1, .string a1_2, I_ S_ a1_3]) (t := 24) ?hr ?_; (case hd => rfl); (case hg => rfl); (case hr => first | (go_simp; done) | (go_simp; rfl)); intro gb378 hg w8 hbox hb; replace BK377 := sqO_ BK377 (by (with_reducible repeat (first | apply kN_ | apply kD_ | apply kA_)); exact BK377.out) hg hb; obtain ⟨BK377, NB377_378, NB378_377⟩ := BK377; replace HB := sqN_ (by repeat (first | (with_reducible first | exact HB.out | apply bA_ | apply bN_ | apply bD_ | refine bS_ ?_ GE377.out) | exact HB.out)) hg hb; obtain ⟨HB, GE378⟩ := HB; have BK378 := Aside0.mk hbox; clear hb hbox hg))
 (try simp only [Act.put, sA_, sB_, sC_])
 go_cut [2, 3] (fun v2 v3 wc => ∃ (kq : Nat) (x2_5 : Int) (x3_5 : Int), v2 = I_ U_ x2_5 ∧ v3 = I_ U_ x3_5 ∧ Aside0 (platformfwlaw08_ValueMid.j0 kq x2_5 x3_5 a0_0 a0_1 a0_2 a0_3 a1_0 a1_1 a1_2 a1_3 = some r) ∧ Aside0 (kq ≤ k) ∧ Aside0 (wc.heap[gb377]? = some (.cells #[I_ S_ a0_0, I_ U_ a0_1, .string a0_2, I_ S_ a0_3] 24 (0, 0))) ∧ Aside0 (wc.heap[gb378]? = some (.cells #[I_ S_ a1_0, I_ U_ a1_1, .string a1_2, I_ S_ a1_3] 24 (0, 0))) ∧ Aside0 (Below w.heap.size w wc))
 case first =>
  have H := HC6.out
  clear HC6
  by_cases c9 : a4 = true
  ·subst c9
   have H1 : (platformfwlaw08_ValueMid.j0 k (Int.tmod a2 40) (Int.tmod a3 40) a0_0 a0_1 a0_2 a0_3 a1_0 a1_1 a1_2 a1_3) = some r := by rw [if_pos rfl] at H; exact H
   clear H
   have H := H1
   clear H1
   have H' := Aside0.mk H
   clear H
   go_wp2
   go_meet
   case rel => exact ⟨_, (Int.tmod a2 40), (Int.tmod a3 40), (by first | rfl | (simp; done) | (simp [*]; done)), (by first | rfl | (simp; done) | (simp [*]; done)), H', ⟨by first | omega | exact Nat.le_refl _⟩, ⟨by (with_reducible repeat (first | apply kN_ | apply kD_ | apply kA_)); exact BK377.out⟩, ⟨by (with_reducible repeat (first | apply kN_ | apply kD_ | apply kA_)); exact BK378.out⟩, ⟨by repeat (first | (with_reducible first | exact HB.out | apply bA_ | apply bN_ | apply bD_ | refine bS_ ?_ ‹Aside0 _›.out) | exact HB.out)⟩⟩
  replace c9 := Bool.eq_false_iff.mpr c9
  subst c9
  have H1 : (platformfwlaw08_ValueMid.j0 k a2 a3 a0_0 a0_1 a0_2 a0_3 a1_0 a1_1 a1_2 a1_3) = some r := by rw [if_neg (show ¬ (false = true) by decide)] at H; exact H
  clear H
  have H := H1
  clear H1
  have H' := Aside0.mk H
  clear H
  go_wp2
  go_meet
  case rel => exact ⟨_, (a2), (a3), (by first | rfl | (simp; done) | (simp [*]; done)), (by first | rfl | (simp; done) | (simp [*]; done)), H', ⟨by first | omega | exact Nat.le_refl _⟩, ⟨by (with_reducible repeat (first | apply kN_ | apply kD_ | apply kA_)); exact BK377.out⟩, ⟨by (with_reducible repeat (first | apply kN_ | apply kD_ | apply kA_)); exact BK378.out⟩, ⟨by repeat (first | (with_reducible first | exact HB.out | apply bA_ | apply bN_ | apply bD_ | refine bS_ ?_ ‹Aside0 _›.out) | exact HB.out)⟩⟩
 case rest =>
  clear HC6
  try clear p2
  try clear c5
  try clear c9
  obtain ⟨kq, x2_5, x3_5, rfl, rfl, HA, HJ5, BK377, BK378, HB⟩ := hcut
  cases kq with
  | zero => exact absurd HA.out (by simp [platformfwlaw08_ValueMid.j0])
  | succ kj5 =>
   have H := HA.out
   clear HA
   simp only [platformfwlaw08_ValueMid.j0] at H
   replace H := Option.bind_eq_some_iff.mp H
   obtain ⟨⟨t379, t380, t381, t382, t383⟩, A100, H⟩ := H
   replace H : ((platformfwref08_Mid.f kj5 a0_0 a0_1 a0_2 a0_3 x2_5 x3_5).bind fun bt385 => ((platformfwlaw08_some.f kj5 a0_0 a0_1 a0_2 a0_3).bind fun bt391 => ((platformfwlaw08_some.f kj5 a1_0 a1_1 a1_2 a1_3).bind fun bt395 => ((value_Mid.f kj5 bt391.1 bt391.2.1 bt391.2.2.1 bt391.2.2.2 x2_5 x3_5).bind fun bt401 => ((platformfwref08_Mid.f kj5 bt391.1 bt391.2.1 bt391.2.2.1 bt391.2.2.2 x2_5 x3_5).bind fun bt407 => ((platformfwlaw08_awake.f kj5).bind fun t413 => (if t413 = true then (if (!(t379 == bt385.1) || (!(t380 == bt385.2.1) || (!(t381.toList == bt385.2.2.1.toList) || (!(t382 == bt385.2.2.2.1))))) = true then (platformfwlaw08_ValueMid.j1 kj5 true bt391.1 bt391.2.1 bt391.2.2.1 bt391.2.2.2 bt395.1 bt395.2.1 bt395.2.2.1 bt395.2.2.2) else (if t383 = bt385.2.2.2.2 then (if (!(bt401.1 == bt407.1) || (!(bt401.2.1 == bt407.2.1) || (!(bt401.2.2.1.toList == bt407.2.2.1.toList) || (!(bt401.2.2.2.1 == bt407.2.2.2.1))))) = true then (platformfwlaw08_ValueMid.j1 kj5 true bt391.1 bt391.2.1 bt391.2.2.1 bt391.2.2.2 bt395.1 bt395.2.1 bt395.2.2.1 bt395.2.2.2) else (platformfwlaw08_ValueMid.j1 kj5 (bt401.2.2.2.2 != bt407.2.2.2.2) bt391.1 bt391.2.1 bt391.2.2.1 bt391.2.2.2 bt395.1 bt395.2.1 bt395.2.2.1 bt395.2.2.2)) else (platformfwlaw08_ValueMid.j1 kj5 true bt391.1 bt391.2.1 bt391.2.2.1 bt391.2.2.2 bt395.1 bt395.2.1 bt395.2.2.1 bt395.2.2.2))) else (platformfwlaw08_ValueMid.j1 kj5 true bt391.1 bt391.2.1 bt391.2.2.1 bt391.2.2.2 bt395.1 bt395.2.1 bt395.2.2.1 bt395.2.2.2)))))))) = some r := H
   have A10 := Aside0.mk A100
   clear A100
   replace H := Option.bind_eq_some_iff.mp H
   obtain ⟨⟨t385, t386, t387, t388, t389⟩, A110, H⟩ := H
   replace H : ((platformfwlaw08_some.f kj5 a0_0 a0_1 a0_2 a0_3).bind fun bt391 => ((platformfwlaw08_some.f kj5 a1_0 a1_1 a1_2 a1_3).bind fun bt395 => ((value_Mid.f kj5 bt391.1 bt391.2.1 bt391.2.2.1 bt391.2.2.2 x2_5 x3_5).bind fun bt401 => ((platformfwref08_Mid.f kj5 bt391.1 bt391.2.1 bt391.2.2.1 bt391.2.2.2 x2_5 x3_5).bind fun bt407 => ((platformfwlaw08_awake.f kj5).bind fun t413 => (if t413 = true then (if (!(t379 == t385) || (!(t380 == t386) || (!(t381.toList == t387.toList) || (!(t382 == t388))))) = true then (platformfwlaw08_ValueMid.j1 kj5 true bt391.1 bt391.2.1 bt391.2.2.1 bt391.2.2.2 bt395.1 bt395.2.1 bt395.2.2.1 bt395.2.2.2) else (if t383 = t389 then (if (!(bt401.1 == bt407.1) || (!(bt401.2.1 == bt407.2.1) || (!(bt401.2.2.1.toList == bt407.2.2.1.toList) || (!(bt401.2.2.2.1 == bt407.2.2.2.1))))) = true then (platformfwlaw08_ValueMid.j1 kj5 true bt391.1 bt391.2.1 bt391.2.2.1 bt391.2.2.2 bt395.1 bt395.2.1 bt395.2.2.1 bt395.2.2.2) else (platformfwlaw08_ValueMid.j1 kj5 (bt401.2.2.2.2 != bt407.2.2.2.2) bt391.1 bt391.2.1 bt391.2.2.1 bt391.2.2.2 bt395.1 bt395.2.1 bt395.2.2.1 bt395.2.2.2)) else (platformfwlaw08_ValueMid.j1 kj5 true bt391.1 bt391.2.1 bt391.2.2.1 bt391.2.2.2 bt395.1 bt395.2.1 bt395.2.2.1 bt395.2.2.2))) else (platformfwlaw08_ValueMid.j1 kj5 true bt391.1 bt391.2.1 bt391.2.2.1 bt391.2.2.2 bt395.1 bt395.2.1 bt395.2.2.1 bt395.2.2.2))))))) = some r := H
   have A11 := Aside0.mk A110
   clear A110
   replace H := Option.bind_eq_some_iff.mp H
   obtain ⟨⟨t391, t392, t393, t394⟩, A120, H⟩ := H
   replace H : ((platformfwlaw08_some.f kj5 a1_0 a1_1 a1_2 a1_3).bind fun bt395 => ((value_Mid.f kj5 t391 t392 t393 t394 x2_5 x3_5).bind fun bt401 => ((platformfwref08_Mid.f kj5 t391 t392 t393 t394 x2_5 x3_5).bind fun bt407 => ((platformfwlaw08_awake.f kj5).bind fun t413 => (if t413 = true then (if (!(t379 == t385) || (!(t380 == t386) || (!(t381.toList == t387.toList) || (!(t382 == t388))))) = true then (platformfwlaw08_ValueMid.j1 kj5 true t391 t392 t393 t394 bt395.1 bt395.2.1 bt395.2.2.1 bt395.2.2.2) else (if t383 = t389 then (if (!(bt401.1 == bt407.1) || (!(bt401.2.1 == bt407.2.1) || (!(bt401.2.2.1.toList == bt407.2.2.1.toList) || (!(bt401.2.2.2.1 == bt407.2.2.2.1))))) = true then (platformfwlaw08_ValueMid.j1 kj5 true t391 t392 t393 t394 bt395.1 bt395.2.1 bt395.2.2.1 bt395.2.2.2) else (platformfwlaw08_ValueMid.j1 kj5 (bt401.2.2.2.2 != bt407.2.2.2.2) t391 t392 t393 t394 bt395.1 bt395.2.1 bt395.2.2.1 bt395.2.2.2)) else (platformfwlaw08_ValueMid.j1 kj5 true t391 t392 t393 t394 bt395.1 bt395.2.1 bt395.2.2.1 bt395.2.2.2))) else (platformfwlaw08_ValueMid.j1 kj5 true t391 t392 t393 t394 bt395.1 bt395.2.1 bt395.2.2.1 bt395.2.2.2)))))) = some r := H
   have A12 := Aside0.mk A120
   clear A120
   replace H := Option.bind_eq_some_iff.mp H
   obtain ⟨⟨t395, t396, t397, t398⟩, A130, H⟩ := H
   replace H : ((value_Mid.f kj5 t391 t392 t393 t394 x2_5 x3_5).bind fun bt401 => ((platformfwref08_Mid.f kj5 t391 t392 t393 t394 x2_5 x3_5).bind fun bt407 => ((platformfwlaw08_awake.f kj5).bind fun t413 => (if t413 = true then (if (!(t379 == t385) || (!(t380 == t386) || (!(t381.toList == t387.toList) || (!(t382 == t388))))) = true then (platformfwlaw08_ValueMid.j1 kj5 true t391 t392 t393 t394 t395 t396 t397 t398) else (if t383 = t389 then (if (!(bt401.1 == bt407.1) || (!(bt401.2.1 == bt407.2.1) || (!(bt401.2.2.1.toList == bt407.2.2.1.toList) || (!(bt401.2.2.2.1 == bt407.2.2.2.1))))) = true then (platformfwlaw08_ValueMid.j1 kj5 true t391 t392 t393 t394 t395 t396 t397 t398) else (platformfwlaw08_ValueMid.j1 kj5 (bt401.2.2.2.2 != bt407.2.2.2.2) t391 t392 t393 t394 t395 t396 t397 t398)) else (platformfwlaw08_ValueMid.j1 kj5 true t391 t392 t393 t394 t395 t396 t397 t398))) else (platformfwlaw08_ValueMid.j1 kj5 true t391 t392 t393 t394 t395 t396 t397 t398))))) = some r := H
   have A13 := Aside0.mk A130
   clear A130
   replace H := Option.bind_eq_some_iff.mp H
   obtain ⟨⟨t401, t402, t403, t404, t405⟩, A140, H⟩ := H
   replace H : ((platformfwref08_Mid.f kj5 t391 t392 t393 t394 x2_5 x3_5).bind fun bt407 => ((platformfwlaw08_awake.f kj5).bind fun t413 => (if t413 = true then (if (!(t379 == t385) || (!(t380 == t386) || (!(t381.toList == t387.toList) || (!(t382 == t388))))) = true then (platformfwlaw08_ValueMid.j1 kj5 true t391 t392 t393 t394 t395 t396 t397 t398) else (if t383 = t389 then (if (!(t401 == bt407.1) || (!(t402 == bt407.2.1) || (!(t403.toList == bt407.2.2.1.toList) || (!(t404 == bt407.2.2.2.1))))) = true then (platformfwlaw08_ValueMid.j1 kj5 true t391 t392 t393 t394 t395 t396 t397 t398) else (platformfwlaw08_ValueMid.j1 kj5 (t405 != bt407.2.2.2.2) t391 t392 t393 t394 t395 t396 t397 t398)) else (platformfwlaw08_ValueMid.j1 kj5 true t391 t392 t393 t394 t395 t396 t397 t398))) else (platformfwlaw08_ValueMid.j1 kj5 true t391 t392 t393 t394 t395 t396 t397 t398)))) = some r := H
   have A14 := Aside0.mk A140
   clear A140
   replace H := Option.bind_eq_some_iff.mp H
   obtain ⟨⟨t407, t408, t409, t410, t411⟩, A150, H⟩ := H
   replace H : ((platformfwlaw08_awake.f kj5).bind fun t413 => (if t413 = true then (if (!(t379 == t385) || (!(t380 == t386) || (!(t381.toList == t387.toList) || (!(t382 == t388))))) = true then (platformfwlaw08_ValueMid.j1 kj5 true t391 t392 t393 t394 t395 t396 t397 t398) else (if t383 = t389 then (if (!(t401 == t407) || (!(t402 == t408) || (!(t403.toList == t409.toList) || (!(t404 == t410))))) = true then (platformfwlaw08_ValueMid.j1 kj5 true t391 t392 t393 t394 t395 t396 t397 t398) else (platformfwlaw08_ValueMid.j1 kj5 (t405 != t411) t391 t392 t393 t394 t395 t396 t397 t398)) else (platformfwlaw08_ValueMid.j1 kj5 true t391 t392 t393 t394 t395 t396 t397 t398))) else (platformfwlaw08_ValueMid.j1 kj5 true t391 t392 t393 t394 t395 t396 t397 t398))) = some r := H
   have A15 := Aside0.mk A150
   clear A150
   have HC16 := Aside0.mk H
   clear H
   have hnb17 := NB377_378.out
   have hnc17 := NB378_377.out
   obtain ⟨hcz18_0, hcz18_1, hcz18_2, hcz18_3⟩ := cells4_ BK377.out
   obtain ⟨hfz18_0, hfz18_1, hfz18_2, hfz18_3⟩ := froz4_ BK377.out
   try go_wp2_with (first | ((with_reducible refine gate_callee (f := 15) rfl ?_); refine goesL_ (some 38) rfl rfl Tryd.func15 (by kernel_rfl) rfl #[.agg #[I_ S_ a0_0, I_ U_ a0_1, .string a0_2, I_ S_ a0_3], I_ U_ x2_5, I_ U_ x3_5] rfl (by (try simp only [List.map_toArray, List.map_cons, List.map_nil]); first | done | rfl) ?_; (with_reducible refine (value_Mid.calls kj5 a0_0 a0_1 a0_2 a0_3 x2_5 x3_5 t379 t380 t381 t382 t383 _ A10.out).mono ?_); rintro e w19 ⟨rfl, hb⟩; refine ⟨_, rfl, ?_⟩; replace BK377 := sqB_ BK377 (by (with_reducible repeat (first | apply kN_ | apply kD_ | apply kA_)); exact BK377.out) hb; replace BK378 := sqB_ BK378 (by (with_reducible repeat (first | apply kN_ | apply kD_ | apply kA_)); exact BK378.out) hb; replace HB := sqS_ (by repeat (first | (with_reducible first | exact HB.out | apply bA_ | apply bN_ | apply bD_ | refine bS_ ?_ ‹Aside0 _›.out) | exact HB.out)) hb; (try clear hb); (try clear hb2); (try clear hk); (try clear hi)) | ((with_reducible refine gate_dst (N := 11) rfl ?_); refine box_event ?hg (N := 11) ?hd (cs := #[I_ S_ 0, I_ U_ 0, .string ⟨#[]⟩, I_ S_ 0]) (t := 24) ?hr ?_; (case hd => rfl); (case hg => rfl); (case hr => first | (go_simp; done) | (go_simp; rfl)); intro gb384 hg w20 hbox hb; replace BK377 := sqO_ BK377 (by (with_reducible repeat (first | apply kN_ | apply kD_ | apply kA_)); exact BK377.out) hg hb; obtain ⟨BK377, NB377_384, NB384_377⟩ := BK377; replace BK378 := sqO_ BK378 (by (with_reducible repeat (first | apply kN_ | apply kD_ | apply kA_)); exact BK378.out) hg hb; obtain ⟨BK378, NB378_384, NB384_378⟩ := BK378; replace HB := sqN_ (by repeat (first | (with_reducible first | exact HB.out | apply bA_ | apply bN_ | apply bD_ | refine bS_ ?_ ‹Aside0 _›.out) | exact HB.out)) hg hb; obtain ⟨HB, GE384⟩ := HB; have BK384 := Aside0.mk hbox; clear hb hbox hg; have hnb21 := NB384_377.out; have hnc21 := NB377_384.out; have hnb22 := NB384_378.out; have hnc22 := NB378_384.out; obtain ⟨hcz23_0, hcz23_1, hcz23_2, hcz23_3⟩ := cells4_ BK384.out; obtain ⟨hfz23_0, hfz23_1, hfz23_2, hfz23_3⟩ := froz4_ BK384.out; obtain ⟨hcz24_0, hcz24_1, hcz24_2, hcz24_3⟩ := cells4_ BK377.out; obtain ⟨hfz24_0, hfz24_1, hfz24_2, hfz24_3⟩ := froz4_ BK377.out) | ((with_reducible refine gate_callee (f := 16) rfl ?_); refine goesL_ (some 45) rfl rfl Tryd.func16 (by kernel_rfl) rfl #[.agg #[I_ S_ a0_0, I_ U_ a0_1, .string a0_2, I_ S_ a0_3], I_ U_ x2_5, I_ U_ x3_5] rfl (by (try simp only [List.map_toArray, List.map_cons, List.map_nil]); first | done | rfl) ?_; (with_reducible refine (platformfwref08_Mid.calls kj5 a0_0 a0_1 a0_2 a0_3 x2_5 x3_5 t385 t386 t387 t388 t389 _ A11.out).mono ?_); rintro e w25 ⟨rfl, hb⟩; refine ⟨_, rfl, ?_⟩; replace BK377 := sqB_ BK377 (by (with_reducible repeat (first | apply kN_ | apply kD_ | apply kA_)); refine blk_far ?_ NB377_384.out _; (with_reducible repeat (first | apply kN_ | apply kD_ | apply kA_)); refine blk_far ?_ NB377_384.out _; (with_reducible repeat (first | apply kN_ | apply kD_ | apply kA_)); refine blk_far ?_ NB377_384.out _; (with_reducible repeat (first | apply kN_ | apply kD_ | apply kA_)); refine blk_far ?_ NB377_384.out _; (with_reducible repeat (first | apply kN_ | apply kD_ | apply kA_)); exact BK377.out) hb; replace BK378 := sqB_ BK378 (by (with_reducible repeat (first | apply kN_ | apply kD_ | apply kA_)); refine blk_far ?_ NB378_384.out _; (with_reducible repeat (first | apply kN_ | apply kD_ | apply kA_)); refine blk_far ?_ NB378_384.out _; (with_reducible repeat (first | apply kN_ | apply kD_ | apply kA_)); refine blk_far ?_ NB378_384.out _; (with_reducible repeat (first | apply kN_ | apply kD_ | apply kA_)); refine blk_far ?_ NB378_384.out _; (with_reducible repeat (first | apply kN_ | apply kD_ | apply kA_)); exact BK378.out) hb; replace BK384 := sqQ_ (g := gb384) (o := .cells #[I_ S_ t379, I_ U_ t380, .string t381, I_ S_ t382] 24 (0, 0)) (by (with_reducible repeat (first | apply kN_ | apply kD_ | apply kA_)); refine blk_put (cs := #[I_ S_ t379, I_ U_ t380, .string t381, I_ S_ 0]) ?_ 3 _ rfl; (with_reducible repeat (first | apply kN_ | apply kD_ | apply kA_)); refine blk_put (cs := #[I_ S_ t379, I_ U_ t380, .string ⟨#[]⟩, I_ S_ 0]) ?_ 2 _ rfl; (with_reducible repeat (first | apply kN_ | apply kD_ | apply kA_)); refine blk_put (cs := #[I_ S_ t379, I_ U_ 0, .string ⟨#[]⟩, I_ S_ 0]) ?_ 1 _ rfl; (with_reducible repeat (first | apply kN_ | apply kD_ | apply kA_)); refine blk_put (cs := #[I_ S_ 0, I_ U_ 0, .string ⟨#[]⟩, I_ S_ 0]) ?_ 0 _ rfl; (with_reducible repeat (first | apply kN_ | apply kD_ | apply kA_)); exact BK384.out) hb; replace HB := sqS_ (by repeat (first | (with_reducible first | exact HB.out | apply bA_ | apply bN_ | apply bD_ | refine bS_ ?_ ‹Aside0 _›.out) | exact HB.out)) hb; (try clear hb); (try clear hb2); (try clear hk); (try clear hi)) | ((with_reducible refine gate_dst (N := 13) rfl ?_); refine box_event ?hg (N := 13) ?hd (cs := #[I_ S_ 0, I_ U_ 0, .string ⟨#[]⟩, I_ S_ 0]) (t := 24) ?hr ?_; (case hd => rfl); (case hg => rfl); (case hr => first | (go_simp; done) | (go_simp; rfl)); intro gb390 hg w26 hbox hb; replace BK377 := sqO_ BK377 (by (with_reducible repeat (first | apply kN_ | apply kD_ | apply kA_)); exact BK377.out) hg hb; obtain ⟨BK377, NB377_390, NB390_377⟩ := BK377; replace BK378 := sqO_ BK378 (by (with_reducible repeat (first | apply kN_ | apply kD_ | apply kA_)); exact BK378.out) hg hb; obtain ⟨BK378, NB378_390, NB390_378⟩ := BK378; replace BK384 := sqO_ BK384 (by (with_reducible repeat (first | apply kN_ | apply kD_ | apply kA_)); exact BK384.out) hg hb; obtain ⟨BK384, NB384_390, NB390_384⟩ := BK384; replace HB := sqN_ (by repeat (first | (with_reducible first | exact HB.out | apply bA_ | apply bN_ | apply bD_ | refine bS_ ?_ ‹Aside0 _›.out) | exact HB.out)) hg hb; obtain ⟨HB, GE390⟩ := HB; have BK390 := Aside0.mk hbox; clear hb hbox hg; have hnb27 := NB390_377.out; have hnc27 := NB377_390.out; have hnb28 := NB390_378.out; have hnc28 := NB378_390.out; have hnb29 := NB390_384.out; have hnc29 := NB384_390.out; obtain ⟨hcz30_0, hcz30_1, hcz30_2, hcz30_3⟩ := cells4_ BK390.out; obtain ⟨hfz30_0, hfz30_1, hfz30_2, hfz30_3⟩ := froz4_ BK390.out))
   have n0_ : Aside0 (((((w26.setCell ⟨gb390, 0, none⟩ (I_ S_ t385)).setCell ⟨gb390, 1, none⟩ (I_ U_ t386)).setCell ⟨gb390, 2, none⟩ (.string t387)).setCell ⟨gb390, 3, none⟩ (I_ S_ t388)).heap[gb377]? = some (.cells #[I_ S_ a0_0, I_ U_ a0_1, .string a0_2, I_ S_ a0_3] 24 (0, 0))) := ⟨by (with_reducible repeat (first | apply kN_ | apply kD_ | apply kA_)); refine blk_far ?_ NB377_390.out _; (with_reducible repeat (first | apply kN_ | apply kD_ | apply kA_)); refine blk_far ?_ NB377_390.out _; (with_reducible repeat (first | apply kN_ | apply kD_ | apply kA_)); refine blk_far ?_ NB377_390.out _; (with_reducible repeat (first | apply kN_ | apply kD_ | apply kA_)); refine blk_far ?_ NB377_390.out _; (with_reducible repeat (first | apply kN_ | apply kD_ | apply kA_)); exact BK377.out⟩
   have n1_ : Aside0 (((((w26.setCell ⟨gb390, 0, none⟩ (I_ S_ t385)).setCell ⟨gb390, 1, none⟩ (I_ U_ t386)).setCell ⟨gb390, 2, none⟩ (.string t387)).setCell ⟨gb390, 3, none⟩ (I_ S_ t388)).heap[gb378]? = some (.cells #[I_ S_ a1_0, I_ U_ a1_1, .string a1_2, I_ S_ a1_3] 24 (0, 0))) := ⟨by (with_reducible repeat (first | apply kN_ | apply kD_ | apply kA_)); refine blk_far ?_ NB378_390.out _; (with_reducible repeat (first | apply kN_ | apply kD_ | apply kA_)); refine blk_far ?_ NB378_390.out _; (with_reducible repeat (first | apply kN_ | apply kD_ | apply kA_)); refine blk_far ?_ NB378_390.out _; (with_reducible repeat (first | apply kN_ | apply kD_ | apply kA_)); refine blk_far ?_ NB378_390.out _; (with_reducible repeat (first | apply kN_ | apply kD_ | apply kA_)); exact BK378.out⟩
   have n2_ : Aside0 (((((w26.setCell ⟨gb390, 0, none⟩ (I_ S_ t385)).setCell ⟨gb390, 1, none⟩ (I_ U_ t386)).setCell ⟨gb390, 2, none⟩ (.string t387)).setCell ⟨gb390, 3, none⟩ (I_ S_ t388)).heap[gb384]? = some (.cells #[I_ S_ t379, I_ U_ t380, .string t381, I_ S_ t382] 24 (0, 0))) := ⟨by (with_reducible repeat (first | apply kN_ | apply kD_ | apply kA_)); refine blk_far ?_ NB384_390.out _; (with_reducible repeat (first | apply kN_ | apply kD_ | apply kA_)); refine blk_far ?_ NB384_390.out _; (with_reducible repeat (first | apply kN_ | apply kD_ | apply kA_)); refine blk_far ?_ NB384_390.out _; (with_reducible repeat (first | apply kN_ | apply kD_ | apply kA_)); refine blk_far ?_ NB384_390.out _; (with_reducible repeat (first | apply kN_ | apply kD_ | apply kA_)); exact BK384.out⟩
   have n3_ : Aside0 (((((w26.setCell ⟨gb390, 0, none⟩ (I_ S_ t385)).setCell ⟨gb390, 1, none⟩ (I_ U_ t386)).setCell ⟨gb390, 2, none⟩ (.string t387)).setCell ⟨gb390, 3, none⟩ (I_ S_ t388)).heap[gb390]? = some (.cells #[I_ S_ t385, I_ U_ t386, .string t387, I_ S_ t388] 24 (0, 0))) := ⟨by (with_reducible repeat (first | apply kN_ | apply kD_ | apply kA_)); refine blk_put (cs := #[I_ S_ t385, I_ U_ t386, .string t387, I_ S_ 0]) ?_ 3 _ rfl; (with_reducible repeat (first | apply kN_ | apply kD_ | apply kA_)); refine blk_put (cs := #[I_ S_ t385, I_ U_ t386, .string ⟨#[]⟩, I_ S_ 0]) ?_ 2 _ rfl; (with_reducible repeat (first | apply kN_ | apply kD_ | apply kA_)); refine blk_put (cs := #[I_ S_ t385, I_ U_ 0, .string ⟨#[]⟩, I_ S_ 0]) ?_ 1 _ rfl; (with_reducible repeat (first | apply kN_ | apply kD_ | apply kA_)); refine blk_put (cs := #[I_ S_ 0, I_ U_ 0, .string ⟨#[]⟩, I_ S_ 0]) ?_ 0 _ rfl; (with_reducible repeat (first | apply kN_ | apply kD_ | apply kA_)); exact BK390.out⟩
   have n4_ : Aside0 (Below w.heap.size w ((((w26.setCell ⟨gb390, 0, none⟩ (I_ S_ t385)).setCell ⟨gb390, 1, none⟩ (I_ U_ t386)).setCell ⟨gb390, 2, none⟩ (.string t387)).setCell ⟨gb390, 3, none⟩ (I_ S_ t388))) := ⟨by repeat (first | (with_reducible first | exact HB.out | apply bA_ | apply bN_ | apply bD_ | refine bS_ ?_ ‹Aside0 _›.out) | exact HB.out)⟩
   (try clear BK377)
   (try clear BK378)
   (try clear BK384)
   (try clear BK390)
   (try clear HB)
   generalize ((((w26.setCell ⟨gb390, 0, none⟩ (I_ S_ t385)).setCell ⟨gb390, 1, none⟩ (I_ U_ t386)).setCell ⟨gb390, 2, none⟩ (.string t387)).setCell ⟨gb390, 3, none⟩ (I_ S_ t388)) = w31 at n0_ n1_ n2_ n3_ n4_ ⊢
   have BK377 := n0_
   have BK378 := n1_
   have BK384 := n2_
   have BK390 := n3_
   have HB := n4_
   clear n0_ n1_ n2_ n3_ n4_
   replace BK377 := Aside0.mk (kD_ BK377.out)
   replace BK378 := Aside0.mk (kD_ BK378.out)
   replace BK384 := Aside0.mk (kD_ BK384.out)
   replace BK390 := Aside0.mk (kD_ BK390.out)
   replace HB := Aside0.mk (bD_ HB.out)
   refine start_ (n := 8) (S := fun w' => w'.cell? ⟨gb377, 0, none⟩ = some (I_ S_ a0_0) ∧ w'.cell? ⟨gb377, 1, none⟩ = some (I_ U_ a0_1) ∧ w'.cell? ⟨gb377, 2, none⟩ = some (.string a0_2) ∧ w'.cell? ⟨gb377, 3, none⟩ = some (I_ S_ a0_3) ∧ w'.cell? ⟨gb378, 0, none⟩ = some (I_ S_ a1_0) ∧ w'.cell? ⟨gb378, 1, none⟩ = some (I_ U_ a1_1) ∧ w'.cell? ⟨gb378, 2, none⟩ = some (.string a1_2) ∧ w'.cell? ⟨gb378, 3, none⟩ = some (I_ S_ a1_3)) (ds := []) #[false, false, false, false, false, false, false, false] (by kernel_rfl) rfl rfl ⟨(blk_cell BK377.out 0).trans rfl, (blk_cell BK377.out 1).trans rfl, (blk_cell BK377.out 2).trans rfl, (blk_cell BK377.out 3).trans rfl, (blk_cell BK378.out 0).trans rfl, (blk_cell BK378.out 1).trans rfl, (blk_cell BK378.out 2).trans rfl, (blk_cell BK378.out 3).trans rfl⟩ (fun hHeld => ?_); refine with_tabW platformfwlaw08_ValueMid.tab5 platformfwlaw08_ValueMid.bits5 (fun HT_ HW_ => ?_)
   generalize w31.drew = w32 at BK377 BK378 BK384 BK390 HB hHeld ⊢
   refine take_ (i := 0) (N := some 48) (v := ?_) (a' := ?_) (tf 8 1) rfl rfl (take_ofW HT_.out HW_.out (by kernel_rfl)) (fun _ _ _ h => h) (Or.inl ⟨by rfl, ?_⟩) hHeld ?_ ?_
   rotate_left
   ·rintro w' ⟨s0, s1, s2, s3, s4, s5, s6, s7⟩
    go_simp
    with_reducible rfl
   rotate_left
   ·simp only [Act.put, sA_, sB_, sC_, i64_w, i32_w]
    rfl
   refine take_ (i := 2) (N := some 50) (v := ?_) (a' := ?_) (tf 8 5) rfl rfl (take_ofW HT_.out HW_.out (by kernel_rfl)) (fun _ _ _ h => h) (Or.inl ⟨by rfl, ?_⟩) hHeld ?_ ?_
   rotate_left
   ·rintro w' ⟨s0, s1, s2, s3, s4, s5, s6, s7⟩
    go_simp
    with_reducible rfl
   rotate_left
   ·simp only [Act.put, sA_, sB_, sC_, i64_w, i32_w]
    rfl
   refine join_ (σ := Nat × Nat) 2 #[true, true, true, true, true, true, false, false] (fun s_ => [(49, .agg #[I_ S_ t391, I_ U_ t392, .string t393, I_ S_ t394]), (51, .agg #[I_ S_ t395, I_ U_ t396, .string t397, I_ S_ t398]), (15, .pointer (some ⟨s_.1, 0, none⟩)), (16, .pointer (some ⟨s_.2, 0, none⟩))]) (fun s_ w' => (w'.cell? ⟨gb377, 0, none⟩ = some (I_ S_ a0_0) ∧ w'.cell? ⟨gb377, 1, none⟩ = some (I_ U_ a0_1) ∧ w'.cell? ⟨gb377, 2, none⟩ = some (.string a0_2) ∧ w'.cell? ⟨gb377, 3, none⟩ = some (I_ S_ a0_3) ∧ w'.cell? ⟨gb378, 0, none⟩ = some (I_ S_ a1_0) ∧ w'.cell? ⟨gb378, 1, none⟩ = some (I_ U_ a1_1) ∧ w'.cell? ⟨gb378, 2, none⟩ = some (.string a1_2) ∧ w'.cell? ⟨gb378, 3, none⟩ = some (I_ S_ a1_3)) ∧ (w'.heap[gb377]? = some (.cells #[I_ S_ a0_0, I_ U_ a0_1, .string a0_2, I_ S_ a0_3] 24 (0, 0))) ∧ (w'.heap[gb378]? = some (.cells #[I_ S_ a1_0, I_ U_ a1_1, .string a1_2, I_ S_ a1_3] 24 (0, 0))) ∧ (w'.heap[gb384]? = some (.cells #[I_ S_ t379, I_ U_ t380, .string t381, I_ S_ t382] 24 (0, 0))) ∧ (w'.heap[gb390]? = some (.cells #[I_ S_ t385, I_ U_ t386, .string t387, I_ S_ t388] 24 (0, 0))) ∧ (w'.heap[s_.1]? = some (.cells #[I_ S_ 0, I_ U_ 0, .string ⟨#[]⟩, I_ S_ 0] 24 (0, 0))) ∧ (w'.heap[s_.2]? = some (.cells #[I_ S_ 0, I_ U_ 0, .string ⟨#[]⟩, I_ S_ 0] 24 (0, 0))) ∧ (w.heap.size ≤ s_.1) ∧ (w.heap.size ≤ s_.1) ∧ (gb377 ≠ s_.1) ∧ (s_.1 ≠ gb377) ∧ (gb378 ≠ s_.1) ∧ (s_.1 ≠ gb378) ∧ (gb384 ≠ s_.1) ∧ (s_.1 ≠ gb384) ∧ (gb390 ≠ s_.1) ∧ (s_.1 ≠ gb390) ∧ (s_.2 ≠ s_.1) ∧ (s_.1 ≠ s_.2) ∧ (w.heap.size ≤ s_.2) ∧ (w.heap.size ≤ s_.2) ∧ (gb377 ≠ s_.2) ∧ (s_.2 ≠ gb377) ∧ (gb378 ≠ s_.2) ∧ (s_.2 ≠ gb378) ∧ (gb384 ≠ s_.2) ∧ (s_.2 ≠ gb384) ∧ (gb390 ≠ s_.2) ∧ (s_.2 ≠ gb390) ∧ (Below w.heap.size w w')) ?_ ?_
   rotate_left
   ·intro hJ1_3_4_5
    refine join_ (σ := Nat) 3 #[true, true, true, true, true, false, false, false] (fun s_ => [(49, .agg #[I_ S_ t391, I_ U_ t392, .string t393, I_ S_ t394]), (51, .agg #[I_ S_ t395, I_ U_ t396, .string t397, I_ S_ t398]), (15, .pointer (some ⟨s_, 0, none⟩))]) (fun s_ w' => (w'.cell? ⟨gb377, 0, none⟩ = some (I_ S_ a0_0) ∧ w'.cell? ⟨gb377, 1, none⟩ = some (I_ U_ a0_1) ∧ w'.cell? ⟨gb377, 2, none⟩ = some (.string a0_2) ∧ w'.cell? ⟨gb377, 3, none⟩ = some (I_ S_ a0_3) ∧ w'.cell? ⟨gb378, 0, none⟩ = some (I_ S_ a1_0) ∧ w'.cell? ⟨gb378, 1, none⟩ = some (I_ U_ a1_1) ∧ w'.cell? ⟨gb378, 2, none⟩ = some (.string a1_2) ∧ w'.cell? ⟨gb378, 3, none⟩ = some (I_ S_ a1_3)) ∧ (w'.heap[gb377]? = some (.cells #[I_ S_ a0_0, I_ U_ a0_1, .string a0_2, I_ S_ a0_3] 24 (0, 0))) ∧ (w'.heap[gb378]? = some (.cells #[I_ S_ a1_0, I_ U_ a1_1, .string a1_2, I_ S_ a1_3] 24 (0, 0))) ∧ (w'.heap[gb384]? = some (.cells #[I_ S_ t379, I_ U_ t380, .string t381, I_ S_ t382] 24 (0, 0))) ∧ (w'.heap[gb390]? = some (.cells #[I_ S_ t385, I_ U_ t386, .string t387, I_ S_ t388] 24 (0, 0))) ∧ (w'.heap[s_]? = some (.cells #[I_ S_ 0, I_ U_ 0, .string ⟨#[]⟩, I_ S_ 0] 24 (0, 0))) ∧ (w.heap.size ≤ s_) ∧ (w.heap.size ≤ s_) ∧ (gb377 ≠ s_) ∧ (s_ ≠ gb377) ∧ (gb378 ≠ s_) ∧ (s_ ≠ gb378) ∧ (gb384 ≠ s_) ∧ (s_ ≠ gb384) ∧ (gb390 ≠ s_) ∧ (s_ ≠ gb390) ∧ (Below w.heap.size w w')) ?_ ?_
    rotate_left
    ·intro hJ1_3_4
     refine join_ (σ := Nat) 3 #[true, true, true, true, false, true, false, false] (fun s_ => [(49, .agg #[I_ S_ t391, I_ U_ t392, .string t393, I_ S_ t394]), (51, .agg #[I_ S_ t395, I_ U_ t396, .string t397, I_ S_ t398]), (16, .pointer (some ⟨s_, 0, none⟩))]) (fun s_ w' => (w'.cell? ⟨gb377, 0, none⟩ = some (I_ S_ a0_0) ∧ w'.cell? ⟨gb377, 1, none⟩ = some (I_ U_ a0_1) ∧ w'.cell? ⟨gb377, 2, none⟩ = some (.string a0_2) ∧ w'.cell? ⟨gb377, 3, none⟩ = some (I_ S_ a0_3) ∧ w'.cell? ⟨gb378, 0, none⟩ = some (I_ S_ a1_0) ∧ w'.cell? ⟨gb378, 1, none⟩ = some (I_ U_ a1_1) ∧ w'.cell? ⟨gb378, 2, none⟩ = some (.string a1_2) ∧ w'.cell? ⟨gb378, 3, none⟩ = some (I_ S_ a1_3)) ∧ (w'.heap[gb377]? = some (.cells #[I_ S_ a0_0, I_ U_ a0_1, .string a0_2, I_ S_ a0_3] 24 (0, 0))) ∧ (w'.heap[gb378]? = some (.cells #[I_ S_ a1_0, I_ U_ a1_1, .string a1_2, I_ S_ a1_3] 24 (0, 0))) ∧ (w'.heap[gb384]? = some (.cells #[I_ S_ t379, I_ U_ t380, .string t381, I_ S_ t382] 24 (0, 0))) ∧ (w'.heap[gb390]? = some (.cells #[I_ S_ t385, I_ U_ t386, .string t387, I_ S_ t388] 24 (0, 0))) ∧ (w'.heap[s_]? = some (.cells #[I_ S_ 0, I_ U_ 0, .string ⟨#[]⟩, I_ S_ 0] 24 (0, 0))) ∧ (w.heap.size ≤ s_) ∧ (w.heap.size ≤ s_) ∧ (gb377 ≠ s_) ∧ (s_ ≠ gb377) ∧ (gb378 ≠ s_) ∧ (s_ ≠ gb378) ∧ (gb384 ≠ s_) ∧ (s_ ≠ gb384) ∧ (gb390 ≠ s_) ∧ (s_ ≠ gb390) ∧ (Below w.heap.size w w')) ?_ ?_
     rotate_left
     ·intro hJ1_3_5
      refine join_ (σ := Nat × Nat) 3 #[true, true, true, false, true, true, false, false] (fun s_ => [(49, .agg #[I_ S_ t391, I_ U_ t392, .string t393, I_ S_ t394]), (15, .pointer (some ⟨s_.1, 0, none⟩)), (16, .pointer (some ⟨s_.2, 0, none⟩))]) (fun s_ w' => (w'.cell? ⟨gb377, 0, none⟩ = some (I_ S_ a0_0) ∧ w'.cell? ⟨gb377, 1, none⟩ = some (I_ U_ a0_1) ∧ w'.cell? ⟨gb377, 2, none⟩ = some (.string a0_2) ∧ w'.cell? ⟨gb377, 3, none⟩ = some (I_ S_ a0_3) ∧ w'.cell? ⟨gb378, 0, none⟩ = some (I_ S_ a1_0) ∧ w'.cell? ⟨gb378, 1, none⟩ = some (I_ U_ a1_1) ∧ w'.cell? ⟨gb378, 2, none⟩ = some (.string a1_2) ∧ w'.cell? ⟨gb378, 3, none⟩ = some (I_ S_ a1_3)) ∧ (w'.heap[gb377]? = some (.cells #[I_ S_ a0_0, I_ U_ a0_1, .string a0_2, I_ S_ a0_3] 24 (0, 0))) ∧ (w'.heap[gb378]? = some (.cells #[I_ S_ a1_0, I_ U_ a1_1, .string a1_2, I_ S_ a1_3] 24 (0, 0))) ∧ (w'.heap[gb384]? = some (.cells #[I_ S_ t379, I_ U_ t380, .string t381, I_ S_ t382] 24 (0, 0))) ∧ (w'.heap[gb390]? = some (.cells #[I_ S_ t385, I_ U_ t386, .string t387, I_ S_ t388] 24 (0, 0))) ∧ (w'.heap[s_.1]? = some (.cells #[I_ S_ 0, I_ U_ 0, .string ⟨#[]⟩, I_ S_ 0] 24 (0, 0))) ∧ (w'.heap[s_.2]? = some (.cells #[I_ S_ 0, I_ U_ 0, .string ⟨#[]⟩, I_ S_ 0] 24 (0, 0))) ∧ (w.heap.size ≤ s_.1) ∧ (w.heap.size ≤ s_.1) ∧ (gb377 ≠ s_.1) ∧ (s_.1 ≠ gb377) ∧ (gb378 ≠ s_.1) ∧ (s_.1 ≠ gb378) ∧ (gb384 ≠ s_.1) ∧ (s_.1 ≠ gb384) ∧ (gb390 ≠ s_.1) ∧ (s_.1 ≠ gb390) ∧ (s_.2 ≠ s_.1) ∧ (s_.1 ≠ s_.2) ∧ (w.heap.size ≤ s_.2) ∧ (w.heap.size ≤ s_.2) ∧ (gb377 ≠ s_.2) ∧ (s_.2 ≠ gb377) ∧ (gb378 ≠ s_.2) ∧ (s_.2 ≠ gb378) ∧ (gb384 ≠ s_.2) ∧ (s_.2 ≠ gb384) ∧ (gb390 ≠ s_.2) ∧ (s_.2 ≠ gb390) ∧ (Below w.heap.size w w')) ?_ ?_
      rotate_left
      ·intro hJ1_4_5
       refine join_ (σ := Unit) 4 #[true, true, true, true, false, false, false, false] (fun s_ => [(49, .agg #[I_ S_ t391, I_ U_ t392, .string t393, I_ S_ t394]), (51, .agg #[I_ S_ t395, I_ U_ t396, .string t397, I_ S_ t398])]) (fun s_ w' => (w'.cell? ⟨gb377, 0, none⟩ = some (I_ S_ a0_0) ∧ w'.cell? ⟨gb377, 1, none⟩ = some (I_ U_ a0_1) ∧ w'.cell? ⟨gb377, 2, none⟩ = some (.string a0_2) ∧ w'.cell? ⟨gb377, 3, none⟩ = some (I_ S_ a0_3) ∧ w'.cell? ⟨gb378, 0, none⟩ = some (I_ S_ a1_0) ∧ w'.cell? ⟨gb378, 1, none⟩ = some (I_ U_ a1_1) ∧ w'.cell? ⟨gb378, 2, none⟩ = some (.string a1_2) ∧ w'.cell? ⟨gb378, 3, none⟩ = some (I_ S_ a1_3)) ∧ (w'.heap[gb377]? = some (.cells #[I_ S_ a0_0, I_ U_ a0_1, .string a0_2, I_ S_ a0_3] 24 (0, 0))) ∧ (w'.heap[gb378]? = some (.cells #[I_ S_ a1_0, I_ U_ a1_1, .string a1_2, I_ S_ a1_3] 24 (0, 0))) ∧ (w'.heap[gb384]? = some (.cells #[I_ S_ t379, I_ U_ t380, .string t381, I_ S_ t382] 24 (0, 0))) ∧ (w'.heap[gb390]? = some (.cells #[I_ S_ t385, I_ U_ t386, .string t387, I_ S_ t388] 24 (0, 0))) ∧ (Below w.heap.size w w')) ?_ ?_
       rotate_left
       ·intro hJ1_3
        refine join_ (σ := Nat) 4 #[true, true, true, false, true, false, false, false] (fun s_ => [(49, .agg #[I_ S_ t391, I_ U_ t392, .string t393, I_ S_ t394]), (15, .pointer (some ⟨s_, 0, none⟩))]) (fun s_ w' => (w'.cell? ⟨gb377, 0, none⟩ = some (I_ S_ a0_0) ∧ w'.cell? ⟨gb377, 1, none⟩ = some (I_ U_ a0_1) ∧ w'.cell? ⟨gb377, 2, none⟩ = some (.string a0_2) ∧ w'.cell? ⟨gb377, 3, none⟩ = some (I_ S_ a0_3) ∧ w'.cell? ⟨gb378, 0, none⟩ = some (I_ S_ a1_0) ∧ w'.cell? ⟨gb378, 1, none⟩ = some (I_ U_ a1_1) ∧ w'.cell? ⟨gb378, 2, none⟩ = some (.string a1_2) ∧ w'.cell? ⟨gb378, 3, none⟩ = some (I_ S_ a1_3)) ∧ (w'.heap[gb377]? = some (.cells #[I_ S_ a0_0, I_ U_ a0_1, .string a0_2, I_ S_ a0_3] 24 (0, 0))) ∧ (w'.heap[gb378]? = some (.cells #[I_ S_ a1_0, I_ U_ a1_1, .string a1_2, I_ S_ a1_3] 24 (0, 0))) ∧ (w'.heap[gb384]? = some (.cells #[I_ S_ t379, I_ U_ t380, .string t381, I_ S_ t382] 24 (0, 0))) ∧ (w'.heap[gb390]? = some (.cells #[I_ S_ t385, I_ U_ t386, .string t387, I_ S_ t388] 24 (0, 0))) ∧ (w'.heap[s_]? = some (.cells #[I_ S_ 0, I_ U_ 0, .string ⟨#[]⟩, I_ S_ 0] 24 (0, 0))) ∧ (w.heap.size ≤ s_) ∧ (w.heap.size ≤ s_) ∧ (gb377 ≠ s_) ∧ (s_ ≠ gb377) ∧ (gb378 ≠ s_) ∧ (s_ ≠ gb378) ∧ (gb384 ≠ s_) ∧ (s_ ≠ gb384) ∧ (gb390 ≠ s_) ∧ (s_ ≠ gb390) ∧ (Below w.heap.size w w')) ?_ ?_
        rotate_left
        ·intro hJ1_4
         refine join_ (σ := Nat) 4 #[true, true, true, false, false, true, false, false] (fun s_ => [(49, .agg #[I_ S_ t391, I_ U_ t392, .string t393, I_ S_ t394]), (16, .pointer (some ⟨s_, 0, none⟩))]) (fun s_ w' => (w'.cell? ⟨gb377, 0, none⟩ = some (I_ S_ a0_0) ∧ w'.cell? ⟨gb377, 1, none⟩ = some (I_ U_ a0_1) ∧ w'.cell? ⟨gb377, 2, none⟩ = some (.string a0_2) ∧ w'.cell? ⟨gb377, 3, none⟩ = some (I_ S_ a0_3) ∧ w'.cell? ⟨gb378, 0, none⟩ = some (I_ S_ a1_0) ∧ w'.cell? ⟨gb378, 1, none⟩ = some (I_ U_ a1_1) ∧ w'.cell? ⟨gb378, 2, none⟩ = some (.string a1_2) ∧ w'.cell? ⟨gb378, 3, none⟩ = some (I_ S_ a1_3)) ∧ (w'.heap[gb377]? = some (.cells #[I_ S_ a0_0, I_ U_ a0_1, .string a0_2, I_ S_ a0_3] 24 (0, 0))) ∧ (w'.heap[gb378]? = some (.cells #[I_ S_ a1_0, I_ U_ a1_1, .string a1_2, I_ S_ a1_3] 24 (0, 0))) ∧ (w'.heap[gb384]? = some (.cells #[I_ S_ t379, I_ U_ t380, .string t381, I_ S_ t382] 24 (0, 0))) ∧ (w'.heap[gb390]? = some (.cells #[I_ S_ t385, I_ U_ t386, .string t387, I_ S_ t388] 24 (0, 0))) ∧ (w'.heap[s_]? = some (.cells #[I_ S_ 0, I_ U_ 0, .string ⟨#[]⟩, I_ S_ 0] 24 (0, 0))) ∧ (w.heap.size ≤ s_) ∧ (w.heap.size ≤ s_) ∧ (gb377 ≠ s_) ∧ (s_ ≠ gb377) ∧ (gb378 ≠ s_) ∧ (s_ ≠ gb378) ∧ (gb384 ≠ s_) ∧ (s_ ≠ gb384) ∧ (gb390 ≠ s_) ∧ (s_ ≠ gb390) ∧ (Below w.heap.size w w')) ?_ ?_
         rotate_left
         ·intro hJ1_5
          refine join_ (σ := Nat × Nat) 4 #[true, false, true, false, true, true, false, false] (fun s_ => [(15, .pointer (some ⟨s_.1, 0, none⟩)), (16, .pointer (some ⟨s_.2, 0, none⟩))]) (fun s_ w' => (w'.cell? ⟨gb377, 0, none⟩ = some (I_ S_ a0_0) ∧ w'.cell? ⟨gb377, 1, none⟩ = some (I_ U_ a0_1) ∧ w'.cell? ⟨gb377, 2, none⟩ = some (.string a0_2) ∧ w'.cell? ⟨gb377, 3, none⟩ = some (I_ S_ a0_3) ∧ w'.cell? ⟨gb378, 0, none⟩ = some (I_ S_ a1_0) ∧ w'.cell? ⟨gb378, 1, none⟩ = some (I_ U_ a1_1) ∧ w'.cell? ⟨gb378, 2, none⟩ = some (.string a1_2) ∧ w'.cell? ⟨gb378, 3, none⟩ = some (I_ S_ a1_3)) ∧ (w'.heap[gb377]? = some (.cells #[I_ S_ a0_0, I_ U_ a0_1, .string a0_2, I_ S_ a0_3] 24 (0, 0))) ∧ (w'.heap[gb378]? = some (.cells #[I_ S_ a1_0, I_ U_ a1_1, .string a1_2, I_ S_ a1_3] 24 (0, 0))) ∧ (w'.heap[gb384]? = some (.cells #[I_ S_ t379, I_ U_ t380, .string t381, I_ S_ t382] 24 (0, 0))) ∧ (w'.heap[gb390]? = some (.cells #[I_ S_ t385, I_ U_ t386, .string t387, I_ S_ t388] 24 (0, 0))) ∧ (w'.heap[s_.1]? = some (.cells #[I_ S_ 0, I_ U_ 0, .string ⟨#[]⟩, I_ S_ 0] 24 (0, 0))) ∧ (w'.heap[s_.2]? = some (.cells #[I_ S_ 0, I_ U_ 0, .string ⟨#[]⟩, I_ S_ 0] 24 (0, 0))) ∧ (w.heap.size ≤ s_.1) ∧ (w.heap.size ≤ s_.1) ∧ (gb377 ≠ s_.1) ∧ (s_.1 ≠ gb377) ∧ (gb378 ≠ s_.1) ∧ (s_.1 ≠ gb378) ∧ (gb384 ≠ s_.1) ∧ (s_.1 ≠ gb384) ∧ (gb390 ≠ s_.1) ∧ (s_.1 ≠ gb390) ∧ (s_.2 ≠ s_.1) ∧ (s_.1 ≠ s_.2) ∧ (w.heap.size ≤ s_.2) ∧ (w.heap.size ≤ s_.2) ∧ (gb377 ≠ s_.2) ∧ (s_.2 ≠ gb377) ∧ (gb378 ≠ s_.2) ∧ (s_.2 ≠ gb378) ∧ (gb384 ≠ s_.2) ∧ (s_.2 ≠ gb384) ∧ (gb390 ≠ s_.2) ∧ (s_.2 ≠ gb390) ∧ (Below w.heap.size w w')) ?_ ?_
          rotate_left
          ·intro hJ4_5
           refine join_ (σ := Unit) 5 #[true, true, true, false, false, false, false, false] (fun s_ => [(49, .agg #[I_ S_ t391, I_ U_ t392, .string t393, I_ S_ t394])]) (fun s_ w' => (w'.cell? ⟨gb377, 0, none⟩ = some (I_ S_ a0_0) ∧ w'.cell? ⟨gb377, 1, none⟩ = some (I_ U_ a0_1) ∧ w'.cell? ⟨gb377, 2, none⟩ = some (.string a0_2) ∧ w'.cell? ⟨gb377, 3, none⟩ = some (I_ S_ a0_3) ∧ w'.cell? ⟨gb378, 0, none⟩ = some (I_ S_ a1_0) ∧ w'.cell? ⟨gb378, 1, none⟩ = some (I_ U_ a1_1) ∧ w'.cell? ⟨gb378, 2, none⟩ = some (.string a1_2) ∧ w'.cell? ⟨gb378, 3, none⟩ = some (I_ S_ a1_3)) ∧ (w'.heap[gb377]? = some (.cells #[I_ S_ a0_0, I_ U_ a0_1, .string a0_2, I_ S_ a0_3] 24 (0, 0))) ∧ (w'.heap[gb378]? = some (.cells #[I_ S_ a1_0, I_ U_ a1_1, .string a1_2, I_ S_ a1_3] 24 (0, 0))) ∧ (w'.heap[gb384]? = some (.cells #[I_ S_ t379, I_ U_ t380, .string t381, I_ S_ t382] 24 (0, 0))) ∧ (w'.heap[gb390]? = some (.cells #[I_ S_ t385, I_ U_ t386, .string t387, I_ S_ t388] 24 (0, 0))) ∧ (Below w.heap.size w w')) ?_ ?_
           rotate_left
           ·intro hJ1
            refine join_ (σ := Nat) 5 #[true, false, true, false, true, false, false, false] (fun s_ => [(15, .pointer (some ⟨s_, 0, none⟩))]) (fun s_ w' => (w'.cell? ⟨gb377, 0, none⟩ = some (I_ S_ a0_0) ∧ w'.cell? ⟨gb377, 1, none⟩ = some (I_ U_ a0_1) ∧ w'.cell? ⟨gb377, 2, none⟩ = some (.string a0_2) ∧ w'.cell? ⟨gb377, 3, none⟩ = some (I_ S_ a0_3) ∧ w'.cell? ⟨gb378, 0, none⟩ = some (I_ S_ a1_0) ∧ w'.cell? ⟨gb378, 1, none⟩ = some (I_ U_ a1_1) ∧ w'.cell? ⟨gb378, 2, none⟩ = some (.string a1_2) ∧ w'.cell? ⟨gb378, 3, none⟩ = some (I_ S_ a1_3)) ∧ (w'.heap[gb377]? = some (.cells #[I_ S_ a0_0, I_ U_ a0_1, .string a0_2, I_ S_ a0_3] 24 (0, 0))) ∧ (w'.heap[gb378]? = some (.cells #[I_ S_ a1_0, I_ U_ a1_1, .string a1_2, I_ S_ a1_3] 24 (0, 0))) ∧ (w'.heap[gb384]? = some (.cells #[I_ S_ t379, I_ U_ t380, .string t381, I_ S_ t382] 24 (0, 0))) ∧ (w'.heap[gb390]? = some (.cells #[I_ S_ t385, I_ U_ t386, .string t387, I_ S_ t388] 24 (0, 0))) ∧ (w'.heap[s_]? = some (.cells #[I_ S_ 0, I_ U_ 0, .string ⟨#[]⟩, I_ S_ 0] 24 (0, 0))) ∧ (w.heap.size ≤ s_) ∧ (w.heap.size ≤ s_) ∧ (gb377 ≠ s_) ∧ (s_ ≠ gb377) ∧ (gb378 ≠ s_) ∧ (s_ ≠ gb378) ∧ (gb384 ≠ s_) ∧ (s_ ≠ gb384) ∧ (gb390 ≠ s_) ∧ (s_ ≠ gb390) ∧ (Below w.heap.size w w')) ?_ ?_
            rotate_left
            ·intro hJ4
             refine join_ (σ := Nat) 5 #[true, false, true, false, false, true, false, false] (fun s_ => [(16, .pointer (some ⟨s_, 0, none⟩))]) (fun s_ w' => (w'.cell? ⟨gb377, 0, none⟩ = some (I_ S_ a0_0) ∧ w'.cell? ⟨gb377, 1, none⟩ = some (I_ U_ a0_1) ∧ w'.cell? ⟨gb377, 2, none⟩ = some (.string a0_2) ∧ w'.cell? ⟨gb377, 3, none⟩ = some (I_ S_ a0_3) ∧ w'.cell? ⟨gb378, 0, none⟩ = some (I_ S_ a1_0) ∧ w'.cell? ⟨gb378, 1, none⟩ = some (I_ U_ a1_1) ∧ w'.cell? ⟨gb378, 2, none⟩ = some (.string a1_2) ∧ w'.cell? ⟨gb378, 3, none⟩ = some (I_ S_ a1_3)) ∧ (w'.heap[gb377]? = some (.cells #[I_ S_ a0_0, I_ U_ a0_1, .string a0_2, I_ S_ a0_3] 24 (0, 0))) ∧ (w'.heap[gb378]? = some (.cells #[I_ S_ a1_0, I_ U_ a1_1, .string a1_2, I_ S_ a1_3] 24 (0, 0))) ∧ (w'.heap[gb384]? = some (.cells #[I_ S_ t379, I_ U_ t380, .string t381, I_ S_ t382] 24 (0, 0))) ∧ (w'.heap[gb390]? = some (.cells #[I_ S_ t385, I_ U_ t386, .string t387, I_ S_ t388] 24 (0, 0))) ∧ (w'.heap[s_]? = some (.cells #[I_ S_ 0, I_ U_ 0, .string ⟨#[]⟩, I_ S_ 0] 24 (0, 0))) ∧ (w.heap.size ≤ s_) ∧ (w.heap.size ≤ s_) ∧ (gb377 ≠ s_) ∧ (s_ ≠ gb377) ∧ (gb378 ≠ s_) ∧ (s_ ≠ gb378) ∧ (gb384 ≠ s_) ∧ (s_ ≠ gb384) ∧ (gb390 ≠ s_) ∧ (s_ ≠ gb390) ∧ (Below w.heap.size w w')) ?_ ?_
             rotate_left
             ·intro hJ5
              refine three_ (i := 1) (j := 4) (k := 5) (Ni := some 49) (Nj := some 15) (Nk := some 16) #[true, true, true, false, false, false, false, false] #[true, false, true, false, true, false, false, false] #[true, false, true, false, false, true, false, false] rfl rfl rfl rfl rfl rfl (three_of HT_.out (by kernel_rfl)) (by decide) (by decide) (by decide) (fun K hK => ?_) (fun K hK => ?_) (fun K hK => ?_)
              ·skip
               refine goes_ Tryd.func11 (by kernel_rfl) rfl #[.agg #[I_ S_ a0_0, I_ U_ a0_1, .string a0_2, I_ S_ a0_3]] (by rfl) rfl rfl (by (try simp only [List.map_toArray, List.map_cons, List.map_nil]); first | done | rfl) ?_
               with_reducible refine (platformfwlaw08_some.calls kj5 a0_0 a0_1 a0_2 a0_3 t391 t392 t393 t394 _ A12.out).mono ?_
               rintro e w33 ⟨rfl, hb⟩
               refine ⟨_, rfl, ?_⟩
               replace BK377 := sqB_ BK377 (by (with_reducible repeat (first | apply kN_ | apply kD_ | apply kA_)); exact BK377.out) hb
               replace BK378 := sqB_ BK378 (by (with_reducible repeat (first | apply kN_ | apply kD_ | apply kA_)); exact BK378.out) hb
               replace BK384 := sqB_ BK384 (by (with_reducible repeat (first | apply kN_ | apply kD_ | apply kA_)); exact BK384.out) hb
               replace BK390 := sqB_ BK390 (by (with_reducible repeat (first | apply kN_ | apply kD_ | apply kA_)); exact BK390.out) hb
               replace HB := sqS_ (by repeat (first | (with_reducible first | exact HB.out | apply bA_ | apply bN_ | apply bD_ | refine bS_ ?_ ‹Aside0 _›.out) | exact HB.out)) hb
               (try clear hb)
               (try clear hb2)
               (try clear hk)
               (try clear hi)
               refine hK.out _ _ ⟨(blk_cell BK377.out 0).trans rfl, (blk_cell BK377.out 1).trans rfl, (blk_cell BK377.out 2).trans rfl, (blk_cell BK377.out 3).trans rfl, (blk_cell BK378.out 0).trans rfl, (blk_cell BK378.out 1).trans rfl, (blk_cell BK378.out 2).trans rfl, (blk_cell BK378.out 3).trans rfl⟩ (fun hHeld => ?_)
               clear hK K
               refine norm_ (a' := ?_) ?_ ?_
               rotate_left
               ·show Act.put _ (some 49) _ = _
                simp only [Act.put, sA_, sB_, sC_, i64_w, i32_w]
                rfl
               exact norm_ (by first | (simp only [putAll, Act.put, sA_, sB_, sC_]; done) | (simp only [putAll, Act.put, sA_, sB_, sC_]; rfl)) (hJ1 () _ ⟨hHeld, (by (with_reducible repeat (first | apply kN_ | apply kD_ | apply kA_)); exact BK377.out), (by (with_reducible repeat (first | apply kN_ | apply kD_ | apply kA_)); exact BK378.out), (by (with_reducible repeat (first | apply kN_ | apply kD_ | apply kA_)); exact BK384.out), (by (with_reducible repeat (first | apply kN_ | apply kD_ | apply kA_)); exact BK390.out), (by repeat (first | (with_reducible first | exact HB.out | apply bA_ | apply bN_ | apply bD_ | refine bS_ ?_ ‹Aside0 _›.out) | exact HB.out))⟩)
              ·skip
               refine box_step ?hg (N := 15) ?hd (cs := #[I_ S_ 0, I_ U_ 0, .string ⟨#[]⟩, I_ S_ 0]) (t := 24) ?hr ?_; (case hd => rfl); (case hg => rfl); (case hr => first | (go_simp; done) | (go_simp; rfl))
               intro gb399 hg w33 hbox hb
               replace BK377 := sqO_ BK377 (by (with_reducible repeat (first | apply kN_ | apply kD_ | apply kA_)); exact BK377.out) hg hb
               obtain ⟨BK377, NB377_399, NB399_377⟩ := BK377
               replace BK378 := sqO_ BK378 (by (with_reducible repeat (first | apply kN_ | apply kD_ | apply kA_)); exact BK378.out) hg hb
               obtain ⟨BK378, NB378_399, NB399_378⟩ := BK378
               replace BK384 := sqO_ BK384 (by (with_reducible repeat (first | apply kN_ | apply kD_ | apply kA_)); exact BK384.out) hg hb
               obtain ⟨BK384, NB384_399, NB399_384⟩ := BK384
               replace BK390 := sqO_ BK390 (by (with_reducible repeat (first | apply kN_ | apply kD_ | apply kA_)); exact BK390.out) hg hb
               obtain ⟨BK390, NB390_399, NB399_390⟩ := BK390
               replace HB := sqN_ (by repeat (first | (with_reducible first | exact HB.out | apply bA_ | apply bN_ | apply bD_ | refine bS_ ?_ ‹Aside0 _›.out) | exact HB.out)) hg hb
               obtain ⟨HB, GE399⟩ := HB
               have GW399 := GE399
               have BK399 := Aside0.mk hbox
               clear hb hbox hg
               refine hK.out _ _ ⟨(blk_cell BK377.out 0).trans rfl, (blk_cell BK377.out 1).trans rfl, (blk_cell BK377.out 2).trans rfl, (blk_cell BK377.out 3).trans rfl, (blk_cell BK378.out 0).trans rfl, (blk_cell BK378.out 1).trans rfl, (blk_cell BK378.out 2).trans rfl, (blk_cell BK378.out 3).trans rfl⟩ (fun hHeld => ?_)
               clear hK K
               refine norm_ (a' := ?_) ?_ ?_
               rotate_left
               ·show Act.put _ (some 15) _ = _
                simp only [Act.put, sA_, sB_, sC_, i64_w, i32_w]
                rfl
               exact norm_ (by first | (simp only [putAll, Act.put, sA_, sB_, sC_]; done) | (simp only [putAll, Act.put, sA_, sB_, sC_]; rfl)) (hJ4 (gb399) _ ⟨hHeld, (by (with_reducible repeat (first | apply kN_ | apply kD_ | apply kA_)); exact BK377.out), (by (with_reducible repeat (first | apply kN_ | apply kD_ | apply kA_)); exact BK378.out), (by (with_reducible repeat (first | apply kN_ | apply kD_ | apply kA_)); exact BK384.out), (by (with_reducible repeat (first | apply kN_ | apply kD_ | apply kA_)); exact BK390.out), (by (with_reducible repeat (first | apply kN_ | apply kD_ | apply kA_)); exact BK399.out), GW399.out, GE399.out, NB377_399.out, NB399_377.out, NB378_399.out, NB399_378.out, NB384_399.out, NB399_384.out, NB390_399.out, NB399_390.out, (by repeat (first | (with_reducible first | exact HB.out | apply bA_ | apply bN_ | apply bD_ | refine bS_ ?_ ‹Aside0 _›.out) | exact HB.out))⟩)
              skip
              refine box_step ?hg (N := 16) ?hd (cs := #[I_ S_ 0, I_ U_ 0, .string ⟨#[]⟩, I_ S_ 0]) (t := 24) ?hr ?_; (case hd => rfl); (case hg => rfl); (case hr => first | (go_simp; done) | (go_simp; rfl))
              intro gb400 hg w33 hbox hb
              replace BK377 := sqO_ BK377 (by (with_reducible repeat (first | apply kN_ | apply kD_ | apply kA_)); exact BK377.out) hg hb
              obtain ⟨BK377, NB377_400, NB400_377⟩ := BK377
              replace BK378 := sqO_ BK378 (by (with_reducible repeat (first | apply kN_ | apply kD_ | apply kA_)); exact BK378.out) hg hb
              obtain ⟨BK378, NB378_400, NB400_378⟩ := BK378
              replace BK384 := sqO_ BK384 (by (with_reducible repeat (first | apply kN_ | apply kD_ | apply kA_)); exact BK384.out) hg hb
              obtain ⟨BK384, NB384_400, NB400_384⟩ := BK384
              replace BK390 := sqO_ BK390 (by (with_reducible repeat (first | apply kN_ | apply kD_ | apply kA_)); exact BK390.out) hg hb
              obtain ⟨BK390, NB390_400, NB400_390⟩ := BK390
              replace HB := sqN_ (by repeat (first | (with_reducible first | exact HB.out | apply bA_ | apply bN_ | apply bD_ | refine bS_ ?_ ‹Aside0 _›.out) | exact HB.out)) hg hb
              obtain ⟨HB, GE400⟩ := HB
              have GW400 := GE400
              have BK400 := Aside0.mk hbox
              clear hb hbox hg
              refine hK.out _ _ ⟨(blk_cell BK377.out 0).trans rfl, (blk_cell BK377.out 1).trans rfl, (blk_cell BK377.out 2).trans rfl, (blk_cell BK377.out 3).trans rfl, (blk_cell BK378.out 0).trans rfl, (blk_cell BK378.out 1).trans rfl, (blk_cell BK378.out 2).trans rfl, (blk_cell BK378.out 3).trans rfl⟩ (fun hHeld => ?_)
              clear hK K
              refine norm_ (a' := ?_) ?_ ?_
              rotate_left
              ·show Act.put _ (some 16) _ = _
               simp only [Act.put, sA_, sB_, sC_, i64_w, i32_w]
               rfl
              exact norm_ (by first | (simp only [putAll, Act.put, sA_, sB_, sC_]; done) | (simp only [putAll, Act.put, sA_, sB_, sC_]; rfl)) (hJ5 (gb400) _ ⟨hHeld, (by (with_reducible repeat (first | apply kN_ | apply kD_ | apply kA_)); exact BK377.out), (by (with_reducible repeat (first | apply kN_ | apply kD_ | apply kA_)); exact BK378.out), (by (with_reducible repeat (first | apply kN_ | apply kD_ | apply kA_)); exact BK384.out), (by (with_reducible repeat (first | apply kN_ | apply kD_ | apply kA_)); exact BK390.out), (by (with_reducible repeat (first | apply kN_ | apply kD_ | apply kA_)); exact BK400.out), GW400.out, GE400.out, NB377_400.out, NB400_377.out, NB378_400.out, NB400_378.out, NB384_400.out, NB400_384.out, NB390_400.out, NB400_390.out, (by repeat (first | (with_reducible first | exact HB.out | apply bA_ | apply bN_ | apply bD_ | refine bS_ ?_ ‹Aside0 _›.out) | exact HB.out))⟩)
             skip
             rintro gb400 w34 ⟨hS_, h0_, h1_, h2_, h3_, h4_, h5_, h6_, h7_, h8_, h9_, h10_, h11_, h12_, h13_, h14_, h15_⟩
             have n0_ : Aside0 (w34.heap[gb377]? = some (.cells #[I_ S_ a0_0, I_ U_ a0_1, .string a0_2, I_ S_ a0_3] 24 (0, 0))) := ⟨h0_⟩
             have n1_ : Aside0 (w34.heap[gb378]? = some (.cells #[I_ S_ a1_0, I_ U_ a1_1, .string a1_2, I_ S_ a1_3] 24 (0, 0))) := ⟨h1_⟩
             have n2_ : Aside0 (w34.heap[gb384]? = some (.cells #[I_ S_ t379, I_ U_ t380, .string t381, I_ S_ t382] 24 (0, 0))) := ⟨h2_⟩
             have n3_ : Aside0 (w34.heap[gb390]? = some (.cells #[I_ S_ t385, I_ U_ t386, .string t387, I_ S_ t388] 24 (0, 0))) := ⟨h3_⟩
             have n4_ : Aside0 (w34.heap[gb400]? = some (.cells #[I_ S_ 0, I_ U_ 0, .string ⟨#[]⟩, I_ S_ 0] 24 (0, 0))) := ⟨h4_⟩
             have n5_ : Aside0 (w.heap.size ≤ gb400) := ⟨h5_⟩
             have n6_ : Aside0 (w.heap.size ≤ gb400) := ⟨h6_⟩
             have n7_ : Aside0 (gb377 ≠ gb400) := ⟨h7_⟩
             have n8_ : Aside0 (gb400 ≠ gb377) := ⟨h8_⟩
             have n9_ : Aside0 (gb378 ≠ gb400) := ⟨h9_⟩
             have n10_ : Aside0 (gb400 ≠ gb378) := ⟨h10_⟩
             have n11_ : Aside0 (gb384 ≠ gb400) := ⟨h11_⟩
             have n12_ : Aside0 (gb400 ≠ gb384) := ⟨h12_⟩
             have n13_ : Aside0 (gb390 ≠ gb400) := ⟨h13_⟩
             have n14_ : Aside0 (gb400 ≠ gb390) := ⟨h14_⟩
             have n15_ : Aside0 (Below w.heap.size w w34) := ⟨h15_⟩
             clear BK377
             clear BK378
             clear BK384
             clear BK390
             clear HB
             clear h0_ h1_ h2_ h3_ h4_ h5_ h6_ h7_ h8_ h9_ h10_ h11_ h12_ h13_ h14_ h15_
             have BK377 := n0_
             have BK378 := n1_
             have BK384 := n2_
             have BK390 := n3_
             have BK400 := n4_
             have GW400 := n5_
             have GE400 := n6_
             have NB377_400 := n7_
             have NB400_377 := n8_
             have NB378_400 := n9_
             have NB400_378 := n10_
             have NB384_400 := n11_
             have NB400_384 := n12_
             have NB390_400 := n13_
             have NB400_390 := n14_
             have HB := n15_
             clear n0_ n1_ n2_ n3_ n4_ n5_ n6_ n7_ n8_ n9_ n10_ n11_ n12_ n13_ n14_ n15_
             have hHeld : w34.cell? ⟨gb377, 0, none⟩ = some (I_ S_ a0_0) ∧ w34.cell? ⟨gb377, 1, none⟩ = some (I_ U_ a0_1) ∧ w34.cell? ⟨gb377, 2, none⟩ = some (.string a0_2) ∧ w34.cell? ⟨gb377, 3, none⟩ = some (I_ S_ a0_3) ∧ w34.cell? ⟨gb378, 0, none⟩ = some (I_ S_ a1_0) ∧ w34.cell? ⟨gb378, 1, none⟩ = some (I_ U_ a1_1) ∧ w34.cell? ⟨gb378, 2, none⟩ = some (.string a1_2) ∧ w34.cell? ⟨gb378, 3, none⟩ = some (I_ S_ a1_3) := hS_
             refine norm_ (a' := ?_) ?_ ?_
             rotate_left
             ·simp only [putAll, Act.put, sA_, sB_, sC_]
              rfl
             refine two_ (i := 1) (j := 4) (Ni := some 49) (Nj := some 15) #[true, true, true, false, false, true, false, false] #[true, false, true, false, true, true, false, false] rfl rfl rfl rfl (two_of HT_.out (by kernel_rfl)) (by decide) (by decide) (fun K hK => ?_) (fun K hK => ?_)
             ·skip
              refine goes_ Tryd.func11 (by kernel_rfl) rfl #[.agg #[I_ S_ a0_0, I_ U_ a0_1, .string a0_2, I_ S_ a0_3]] (by rfl) rfl rfl (by (try simp only [List.map_toArray, List.map_cons, List.map_nil]); first | done | rfl) ?_
              with_reducible refine (platformfwlaw08_some.calls kj5 a0_0 a0_1 a0_2 a0_3 t391 t392 t393 t394 _ A12.out).mono ?_
              rintro e w35 ⟨rfl, hb⟩
              refine ⟨_, rfl, ?_⟩
              replace BK377 := sqB_ BK377 (by (with_reducible repeat (first | apply kN_ | apply kD_ | apply kA_)); exact BK377.out) hb
              replace BK378 := sqB_ BK378 (by (with_reducible repeat (first | apply kN_ | apply kD_ | apply kA_)); exact BK378.out) hb
              replace BK384 := sqB_ BK384 (by (with_reducible repeat (first | apply kN_ | apply kD_ | apply kA_)); exact BK384.out) hb
              replace BK390 := sqB_ BK390 (by (with_reducible repeat (first | apply kN_ | apply kD_ | apply kA_)); exact BK390.out) hb
              replace BK400 := sqB_ BK400 (by (with_reducible repeat (first | apply kN_ | apply kD_ | apply kA_)); exact BK400.out) hb
              replace HB := sqS_ (by repeat (first | (with_reducible first | exact HB.out | apply bA_ | apply bN_ | apply bD_ | refine bS_ ?_ ‹Aside0 _›.out) | exact HB.out)) hb
              (try clear hb)
              (try clear hb2)
              (try clear hk)
              (try clear hi)
              refine hK.out _ _ ⟨(blk_cell BK377.out 0).trans rfl, (blk_cell BK377.out 1).trans rfl, (blk_cell BK377.out 2).trans rfl, (blk_cell BK377.out 3).trans rfl, (blk_cell BK378.out 0).trans rfl, (blk_cell BK378.out 1).trans rfl, (blk_cell BK378.out 2).trans rfl, (blk_cell BK378.out 3).trans rfl⟩ (fun hHeld => ?_)
              clear hK K
              refine norm_ (a' := ?_) ?_ ?_
              rotate_left
              ·show Act.put _ (some 49) _ = _
               simp only [Act.put, sA_, sB_, sC_, i64_w, i32_w]
               rfl
              exact norm_ (by first | (simp only [putAll, Act.put, sA_, sB_, sC_]; done) | (simp only [putAll, Act.put, sA_, sB_, sC_]; rfl)) (hJ1_5 (gb400) _ ⟨hHeld, (by (with_reducible repeat (first | apply kN_ | apply kD_ | apply kA_)); exact BK377.out), (by (with_reducible repeat (first | apply kN_ | apply kD_ | apply kA_)); exact BK378.out), (by (with_reducible repeat (first | apply kN_ | apply kD_ | apply kA_)); exact BK384.out), (by (with_reducible repeat (first | apply kN_ | apply kD_ | apply kA_)); exact BK390.out), (by (with_reducible repeat (first | apply kN_ | apply kD_ | apply kA_)); exact BK400.out), GW400.out, GE400.out, NB377_400.out, NB400_377.out, NB378_400.out, NB400_378.out, NB384_400.out, NB400_384.out, NB390_400.out, NB400_390.out, (by repeat (first | (with_reducible first | exact HB.out | apply bA_ | apply bN_ | apply bD_ | refine bS_ ?_ ‹Aside0 _›.out) | exact HB.out))⟩)
             skip
             refine box_step ?hg (N := 15) ?hd (cs := #[I_ S_ 0, I_ U_ 0, .string ⟨#[]⟩, I_ S_ 0]) (t := 24) ?hr ?_; (case hd => rfl); (case hg => rfl); (case hr => first | (go_simp; done) | (go_simp; rfl))
             intro gb399 hg w35 hbox hb
             replace BK377 := sqO_ BK377 (by (with_reducible repeat (first | apply kN_ | apply kD_ | apply kA_)); exact BK377.out) hg hb
             obtain ⟨BK377, NB377_399, NB399_377⟩ := BK377
             replace BK378 := sqO_ BK378 (by (with_reducible repeat (first | apply kN_ | apply kD_ | apply kA_)); exact BK378.out) hg hb
             obtain ⟨BK378, NB378_399, NB399_378⟩ := BK378
             replace BK384 := sqO_ BK384 (by (with_reducible repeat (first | apply kN_ | apply kD_ | apply kA_)); exact BK384.out) hg hb
             obtain ⟨BK384, NB384_399, NB399_384⟩ := BK384
             replace BK390 := sqO_ BK390 (by (with_reducible repeat (first | apply kN_ | apply kD_ | apply kA_)); exact BK390.out) hg hb
             obtain ⟨BK390, NB390_399, NB399_390⟩ := BK390
             replace BK400 := sqO_ BK400 (by (with_reducible repeat (first | apply kN_ | apply kD_ | apply kA_)); exact BK400.out) hg hb
             obtain ⟨BK400, NB400_399, NB399_400⟩ := BK400
             replace HB := sqN_ (by repeat (first | (with_reducible first | exact HB.out | apply bA_ | apply bN_ | apply bD_ | refine bS_ ?_ ‹Aside0 _›.out) | exact HB.out)) hg hb
             obtain ⟨HB, GE399⟩ := HB
             have GW399 := GE399
             have BK399 := Aside0.mk hbox
             clear hb hbox hg
             refine hK.out _ _ ⟨(blk_cell BK377.out 0).trans rfl, (blk_cell BK377.out 1).trans rfl, (blk_cell BK377.out 2).trans rfl, (blk_cell BK377.out 3).trans rfl, (blk_cell BK378.out 0).trans rfl, (blk_cell BK378.out 1).trans rfl, (blk_cell BK378.out 2).trans rfl, (blk_cell BK378.out 3).trans rfl⟩ (fun hHeld => ?_)
             clear hK K
             refine norm_ (a' := ?_) ?_ ?_
             rotate_left
             ·show Act.put _ (some 15) _ = _
              simp only [Act.put, sA_, sB_, sC_, i64_w, i32_w]
              rfl
             exact norm_ (by first | (simp only [putAll, Act.put, sA_, sB_, sC_]; done) | (simp only [putAll, Act.put, sA_, sB_, sC_]; rfl)) (hJ4_5 (gb399, gb400) _ ⟨hHeld, (by (with_reducible repeat (first | apply kN_ | apply kD_ | apply kA_)); exact BK377.out), (by (with_reducible repeat (first | apply kN_ | apply kD_ | apply kA_)); exact BK378.out), (by (with_reducible repeat (first | apply kN_ | apply kD_ | apply kA_)); exact BK384.out), (by (with_reducible repeat (first | apply kN_ | apply kD_ | apply kA_)); exact BK390.out), (by (with_reducible repeat (first | apply kN_ | apply kD_ | apply kA_)); exact BK399.out), (by (with_reducible repeat (first | apply kN_ | apply kD_ | apply kA_)); exact BK400.out), GW399.out, GE399.out, NB377_399.out, NB399_377.out, NB378_399.out, NB399_378.out, NB384_399.out, NB399_384.out, NB390_399.out, NB399_390.out, NB400_399.out, NB399_400.out, GW400.out, GE400.out, NB377_400.out, NB400_377.out, NB378_400.out, NB400_378.out, NB384_400.out, NB400_384.out, NB390_400.out, NB400_390.out, (by repeat (first | (with_reducible first | exact HB.out | apply bA_ | apply bN_ | apply bD_ | refine bS_ ?_ ‹Aside0 _›.out) | exact HB.out))⟩)
            skip
            rintro gb399 w34 ⟨hS_, h0_, h1_, h2_, h3_, h4_, h5_, h6_, h7_, h8_, h9_, h10_, h11_, h12_, h13_, h14_, h15_⟩
            have n0_ : Aside0 (w34.heap[gb377]? = some (.cells #[I_ S_ a0_0, I_ U_ a0_1, .string a0_2, I_ S_ a0_3] 24 (0, 0))) := ⟨h0_⟩
            have n1_ : Aside0 (w34.heap[gb378]? = some (.cells #[I_ S_ a1_0, I_ U_ a1_1, .string a1_2, I_ S_ a1_3] 24 (0, 0))) := ⟨h1_⟩
            have n2_ : Aside0 (w34.heap[gb384]? = some (.cells #[I_ S_ t379, I_ U_ t380, .string t381, I_ S_ t382] 24 (0, 0))) := ⟨h2_⟩
            have n3_ : Aside0 (w34.heap[gb390]? = some (.cells #[I_ S_ t385, I_ U_ t386, .string t387, I_ S_ t388] 24 (0, 0))) := ⟨h3_⟩
            have n4_ : Aside0 (w34.heap[gb399]? = some (.cells #[I_ S_ 0, I_ U_ 0, .string ⟨#[]⟩, I_ S_ 0] 24 (0, 0))) := ⟨h4_⟩
            have n5_ : Aside0 (w.heap.size ≤ gb399) := ⟨h5_⟩
            have n6_ : Aside0 (w.heap.size ≤ gb399) := ⟨h6_⟩
            have n7_ : Aside0 (gb377 ≠ gb399) := ⟨h7_⟩
            have n8_ : Aside0 (gb399 ≠ gb377) := ⟨h8_⟩
            have n9_ : Aside0 (gb378 ≠ gb399) := ⟨h9_⟩
            have n10_ : Aside0 (gb399 ≠ gb378) := ⟨h10_⟩
            have n11_ : Aside0 (gb384 ≠ gb399) := ⟨h11_⟩
            have n12_ : Aside0 (gb399 ≠ gb384) := ⟨h12_⟩
            have n13_ : Aside0 (gb390 ≠ gb399) := ⟨h13_⟩
            have n14_ : Aside0 (gb399 ≠ gb390) := ⟨h14_⟩
            have n15_ : Aside0 (Below w.heap.size w w34) := ⟨h15_⟩
            clear BK377
            clear BK378
            clear BK384
            clear BK390
            clear HB
            clear h0_ h1_ h2_ h3_ h4_ h5_ h6_ h7_ h8_ h9_ h10_ h11_ h12_ h13_ h14_ h15_
            have BK377 := n0_
            have BK378 := n1_
            have BK384 := n2_
            have BK390 := n3_
            have BK399 := n4_
            have GW399 := n5_
            have GE399 := n6_
            have NB377_399 := n7_
            have NB399_377 := n8_
            have NB378_399 := n9_
            have NB399_378 := n10_
            have NB384_399 := n11_
            have NB399_384 := n12_
            have NB390_399 := n13_
            have NB399_390 := n14_
            have HB := n15_
            clear n0_ n1_ n2_ n3_ n4_ n5_ n6_ n7_ n8_ n9_ n10_ n11_ n12_ n13_ n14_ n15_
            have hHeld : w34.cell? ⟨gb377, 0, none⟩ = some (I_ S_ a0_0) ∧ w34.cell? ⟨gb377, 1, none⟩ = some (I_ U_ a0_1) ∧ w34.cell? ⟨gb377, 2, none⟩ = some (.string a0_2) ∧ w34.cell? ⟨gb377, 3, none⟩ = some (I_ S_ a0_3) ∧ w34.cell? ⟨gb378, 0, none⟩ = some (I_ S_ a1_0) ∧ w34.cell? ⟨gb378, 1, none⟩ = some (I_ U_ a1_1) ∧ w34.cell? ⟨gb378, 2, none⟩ = some (.string a1_2) ∧ w34.cell? ⟨gb378, 3, none⟩ = some (I_ S_ a1_3) := hS_
            refine norm_ (a' := ?_) ?_ ?_
            rotate_left
            ·simp only [putAll, Act.put, sA_, sB_, sC_]
             rfl
            refine two_ (i := 1) (j := 5) (Ni := some 49) (Nj := some 16) #[true, true, true, false, true, false, false, false] #[true, false, true, false, true, true, false, false] rfl rfl rfl rfl (two_of HT_.out (by kernel_rfl)) (by decide) (by decide) (fun K hK => ?_) (fun K hK => ?_)
            ·skip
             refine goes_ Tryd.func11 (by kernel_rfl) rfl #[.agg #[I_ S_ a0_0, I_ U_ a0_1, .string a0_2, I_ S_ a0_3]] (by rfl) rfl rfl (by (try simp only [List.map_toArray, List.map_cons, List.map_nil]); first | done | rfl) ?_
             with_reducible refine (platformfwlaw08_some.calls kj5 a0_0 a0_1 a0_2 a0_3 t391 t392 t393 t394 _ A12.out).mono ?_
             rintro e w35 ⟨rfl, hb⟩
             refine ⟨_, rfl, ?_⟩
             replace BK377 := sqB_ BK377 (by (with_reducible repeat (first | apply kN_ | apply kD_ | apply kA_)); exact BK377.out) hb
             replace BK378 := sqB_ BK378 (by (with_reducible repeat (first | apply kN_ | apply kD_ | apply kA_)); exact BK378.out) hb
             replace BK384 := sqB_ BK384 (by (with_reducible repeat (first | apply kN_ | apply kD_ | apply kA_)); exact BK384.out) hb
             replace BK390 := sqB_ BK390 (by (with_reducible repeat (first | apply kN_ | apply kD_ | apply kA_)); exact BK390.out) hb
             replace BK399 := sqB_ BK399 (by (with_reducible repeat (first | apply kN_ | apply kD_ | apply kA_)); exact BK399.out) hb
             replace HB := sqS_ (by repeat (first | (with_reducible first | exact HB.out | apply bA_ | apply bN_ | apply bD_ | refine bS_ ?_ ‹Aside0 _›.out) | exact HB.out)) hb
             (try clear hb)
             (try clear hb2)
             (try clear hk)
             (try clear hi)
             refine hK.out _ _ ⟨(blk_cell BK377.out 0).trans rfl, (blk_cell BK377.out 1).trans rfl, (blk_cell BK377.out 2).trans rfl, (blk_cell BK377.out 3).trans rfl, (blk_cell BK378.out 0).trans rfl, (blk_cell BK378.out 1).trans rfl, (blk_cell BK378.out 2).trans rfl, (blk_cell BK378.out 3).trans rfl⟩ (fun hHeld => ?_)
             clear hK K
             refine norm_ (a' := ?_) ?_ ?_
             rotate_left
             ·show Act.put _ (some 49) _ = _
              simp only [Act.put, sA_, sB_, sC_, i64_w, i32_w]
              rfl
             exact norm_ (by first | (simp only [putAll, Act.put, sA_, sB_, sC_]; done) | (simp only [putAll, Act.put, sA_, sB_, sC_]; rfl)) (hJ1_4 (gb399) _ ⟨hHeld, (by (with_reducible repeat (first | apply kN_ | apply kD_ | apply kA_)); exact BK377.out), (by (with_reducible repeat (first | apply kN_ | apply kD_ | apply kA_)); exact BK378.out), (by (with_reducible repeat (first | apply kN_ | apply kD_ | apply kA_)); exact BK384.out), (by (with_reducible repeat (first | apply kN_ | apply kD_ | apply kA_)); exact BK390.out), (by (with_reducible repeat (first | apply kN_ | apply kD_ | apply kA_)); exact BK399.out), GW399.out, GE399.out, NB377_399.out, NB399_377.out, NB378_399.out, NB399_378.out, NB384_399.out, NB399_384.out, NB390_399.out, NB399_390.out, (by repeat (first | (with_reducible first | exact HB.out | apply bA_ | apply bN_ | apply bD_ | refine bS_ ?_ ‹Aside0 _›.out) | exact HB.out))⟩)
            skip
            refine box_step ?hg (N := 16) ?hd (cs := #[I_ S_ 0, I_ U_ 0, .string ⟨#[]⟩, I_ S_ 0]) (t := 24) ?hr ?_; (case hd => rfl); (case hg => rfl); (case hr => first | (go_simp; done) | (go_simp; rfl))
            intro gb400 hg w35 hbox hb
            replace BK377 := sqO_ BK377 (by (with_reducible repeat (first | apply kN_ | apply kD_ | apply kA_)); exact BK377.out) hg hb
            obtain ⟨BK377, NB377_400, NB400_377⟩ := BK377
            replace BK378 := sqO_ BK378 (by (with_reducible repeat (first | apply kN_ | apply kD_ | apply kA_)); exact BK378.out) hg hb
            obtain ⟨BK378, NB378_400, NB400_378⟩ := BK378
            replace BK384 := sqO_ BK384 (by (with_reducible repeat (first | apply kN_ | apply kD_ | apply kA_)); exact BK384.out) hg hb
            obtain ⟨BK384, NB384_400, NB400_384⟩ := BK384
            replace BK390 := sqO_ BK390 (by (with_reducible repeat (first | apply kN_ | apply kD_ | apply kA_)); exact BK390.out) hg hb
            obtain ⟨BK390, NB390_400, NB400_390⟩ := BK390
            replace BK399 := sqO_ BK399 (by (with_reducible repeat (first | apply kN_ | apply kD_ | apply kA_)); exact BK399.out) hg hb
            obtain ⟨BK399, NB399_400, NB400_399⟩ := BK399
            replace HB := sqN_ (by repeat (first | (with_reducible first | exact HB.out | apply bA_ | apply bN_ | apply bD_ | refine bS_ ?_ ‹Aside0 _›.out) | exact HB.out)) hg hb
            obtain ⟨HB, GE400⟩ := HB
            have GW400 := GE400
            have BK400 := Aside0.mk hbox
            clear hb hbox hg
            refine hK.out _ _ ⟨(blk_cell BK377.out 0).trans rfl, (blk_cell BK377.out 1).trans rfl, (blk_cell BK377.out 2).trans rfl, (blk_cell BK377.out 3).trans rfl, (blk_cell BK378.out 0).trans rfl, (blk_cell BK378.out 1).trans rfl, (blk_cell BK378.out 2).trans rfl, (blk_cell BK378.out 3).trans rfl⟩ (fun hHeld => ?_)
            clear hK K
            refine norm_ (a' := ?_) ?_ ?_
            rotate_left
            ·show Act.put _ (some 16) _ = _
             simp only [Act.put, sA_, sB_, sC_, i64_w, i32_w]
             rfl
            exact norm_ (by first | (simp only [putAll, Act.put, sA_, sB_, sC_]; done) | (simp only [putAll, Act.put, sA_, sB_, sC_]; rfl)) (hJ4_5 (gb399, gb400) _ ⟨hHeld, (by (with_reducible repeat (first | apply kN_ | apply kD_ | apply kA_)); exact BK377.out), (by (with_reducible repeat (first | apply kN_ | apply kD_ | apply kA_)); exact BK378.out), (by (with_reducible repeat (first | apply kN_ | apply kD_ | apply kA_)); exact BK384.out), (by (with_reducible repeat (first | apply kN_ | apply kD_ | apply kA_)); exact BK390.out), (by (with_reducible repeat (first | apply kN_ | apply kD_ | apply kA_)); exact BK399.out), (by (with_reducible repeat (first | apply kN_ | apply kD_ | apply kA_)); exact BK400.out), GW399.out, GE399.out, NB377_399.out, NB399_377.out, NB378_399.out, NB399_378.out, NB384_399.out, NB399_384.out, NB390_399.out, NB399_390.out, NB400_399.out, NB399_400.out, GW400.out, GE400.out, NB377_400.out, NB400_377.out, NB378_400.out, NB400_378.out, NB384_400.out, NB400_384.out, NB390_400.out, NB400_390.out, (by repeat (first | (with_reducible first | exact HB.out | apply bA_ | apply bN_ | apply bD_ | refine bS_ ?_ ‹Aside0 _›.out) | exact HB.out))⟩)
           skip
           rintro _ w34 ⟨hS_, h0_, h1_, h2_, h3_, h4_⟩
           have n0_ : Aside0 (w34.heap[gb377]? = some (.cells #[I_ S_ a0_0, I_ U_ a0_1, .string a0_2, I_ S_ a0_3] 24 (0, 0))) := ⟨h0_⟩
           have n1_ : Aside0 (w34.heap[gb378]? = some (.cells #[I_ S_ a1_0, I_ U_ a1_1, .string a1_2, I_ S_ a1_3] 24 (0, 0))) := ⟨h1_⟩
           have n2_ : Aside0 (w34.heap[gb384]? = some (.cells #[I_ S_ t379, I_ U_ t380, .string t381, I_ S_ t382] 24 (0, 0))) := ⟨h2_⟩
           have n3_ : Aside0 (w34.heap[gb390]? = some (.cells #[I_ S_ t385, I_ U_ t386, .string t387, I_ S_ t388] 24 (0, 0))) := ⟨h3_⟩
           have n4_ : Aside0 (Below w.heap.size w w34) := ⟨h4_⟩
           clear BK377
           clear BK378
           clear BK384
           clear BK390
           clear HB
           clear h0_ h1_ h2_ h3_ h4_
           have BK377 := n0_
           have BK378 := n1_
           have BK384 := n2_
           have BK390 := n3_
           have HB := n4_
           clear n0_ n1_ n2_ n3_ n4_
           have hHeld : w34.cell? ⟨gb377, 0, none⟩ = some (I_ S_ a0_0) ∧ w34.cell? ⟨gb377, 1, none⟩ = some (I_ U_ a0_1) ∧ w34.cell? ⟨gb377, 2, none⟩ = some (.string a0_2) ∧ w34.cell? ⟨gb377, 3, none⟩ = some (I_ S_ a0_3) ∧ w34.cell? ⟨gb378, 0, none⟩ = some (I_ S_ a1_0) ∧ w34.cell? ⟨gb378, 1, none⟩ = some (I_ U_ a1_1) ∧ w34.cell? ⟨gb378, 2, none⟩ = some (.string a1_2) ∧ w34.cell? ⟨gb378, 3, none⟩ = some (I_ S_ a1_3) := hS_
           refine norm_ (a' := ?_) ?_ ?_
           rotate_left
           ·simp only [putAll, Act.put, sA_, sB_, sC_]
            rfl
           refine three_ (i := 3) (j := 4) (k := 5) (Ni := some 51) (Nj := some 15) (Nk := some 16) #[true, true, true, true, false, false, false, false] #[true, true, true, false, true, false, false, false] #[true, true, true, false, false, true, false, false] rfl rfl rfl rfl rfl rfl (three_of HT_.out (by kernel_rfl)) (by decide) (by decide) (by decide) (fun K hK => ?_) (fun K hK => ?_) (fun K hK => ?_)
           ·skip
            refine goes_ Tryd.func11 (by kernel_rfl) rfl #[.agg #[I_ S_ a1_0, I_ U_ a1_1, .string a1_2, I_ S_ a1_3]] (by rfl) rfl rfl (by (try simp only [List.map_toArray, List.map_cons, List.map_nil]); first | done | rfl) ?_
            with_reducible refine (platformfwlaw08_some.calls kj5 a1_0 a1_1 a1_2 a1_3 t395 t396 t397 t398 _ A13.out).mono ?_
            rintro e w35 ⟨rfl, hb⟩
            refine ⟨_, rfl, ?_⟩
            replace BK377 := sqB_ BK377 (by (with_reducible repeat (first | apply kN_ | apply kD_ | apply kA_)); exact BK377.out) hb
            replace BK378 := sqB_ BK378 (by (with_reducible repeat (first | apply kN_ | apply kD_ | apply kA_)); exact BK378.out) hb
            replace BK384 := sqB_ BK384 (by (with_reducible repeat (first | apply kN_ | apply kD_ | apply kA_)); exact BK384.out) hb
            replace BK390 := sqB_ BK390 (by (with_reducible repeat (first | apply kN_ | apply kD_ | apply kA_)); exact BK390.out) hb
            replace HB := sqS_ (by repeat (first | (with_reducible first | exact HB.out | apply bA_ | apply bN_ | apply bD_ | refine bS_ ?_ ‹Aside0 _›.out) | exact HB.out)) hb
            (try clear hb)
            (try clear hb2)
            (try clear hk)
            (try clear hi)
            refine hK.out _ _ ⟨(blk_cell BK377.out 0).trans rfl, (blk_cell BK377.out 1).trans rfl, (blk_cell BK377.out 2).trans rfl, (blk_cell BK377.out 3).trans rfl, (blk_cell BK378.out 0).trans rfl, (blk_cell BK378.out 1).trans rfl, (blk_cell BK378.out 2).trans rfl, (blk_cell BK378.out 3).trans rfl⟩ (fun hHeld => ?_)
            clear hK K
            refine norm_ (a' := ?_) ?_ ?_
            rotate_left
            ·show Act.put _ (some 51) _ = _
             simp only [Act.put, sA_, sB_, sC_, i64_w, i32_w]
             rfl
            exact norm_ (by first | (simp only [putAll, Act.put, sA_, sB_, sC_]; done) | (simp only [putAll, Act.put, sA_, sB_, sC_]; rfl)) (hJ1_3 () _ ⟨hHeld, (by (with_reducible repeat (first | apply kN_ | apply kD_ | apply kA_)); exact BK377.out), (by (with_reducible repeat (first | apply kN_ | apply kD_ | apply kA_)); exact BK378.out), (by (with_reducible repeat (first | apply kN_ | apply kD_ | apply kA_)); exact BK384.out), (by (with_reducible repeat (first | apply kN_ | apply kD_ | apply kA_)); exact BK390.out), (by repeat (first | (with_reducible first | exact HB.out | apply bA_ | apply bN_ | apply bD_ | refine bS_ ?_ ‹Aside0 _›.out) | exact HB.out))⟩)
           ·skip
            refine box_step ?hg (N := 15) ?hd (cs := #[I_ S_ 0, I_ U_ 0, .string ⟨#[]⟩, I_ S_ 0]) (t := 24) ?hr ?_; (case hd => rfl); (case hg => rfl); (case hr => first | (go_simp; done) | (go_simp; rfl))
            intro gb399 hg w35 hbox hb
            replace BK377 := sqO_ BK377 (by (with_reducible repeat (first | apply kN_ | apply kD_ | apply kA_)); exact BK377.out) hg hb
            obtain ⟨BK377, NB377_399, NB399_377⟩ := BK377
            replace BK378 := sqO_ BK378 (by (with_reducible repeat (first | apply kN_ | apply kD_ | apply kA_)); exact BK378.out) hg hb
            obtain ⟨BK378, NB378_399, NB399_378⟩ := BK378
            replace BK384 := sqO_ BK384 (by (with_reducible repeat (first | apply kN_ | apply kD_ | apply kA_)); exact BK384.out) hg hb
            obtain ⟨BK384, NB384_399, NB399_384⟩ := BK384
            replace BK390 := sqO_ BK390 (by (with_reducible repeat (first | apply kN_ | apply kD_ | apply kA_)); exact BK390.out) hg hb
            obtain ⟨BK390, NB390_399, NB399_390⟩ := BK390
            replace HB := sqN_ (by repeat (first | (with_reducible first | exact HB.out | apply bA_ | apply bN_ | apply bD_ | refine bS_ ?_ ‹Aside0 _›.out) | exact HB.out)) hg hb
            obtain ⟨HB, GE399⟩ := HB
            have GW399 := GE399
            have BK399 := Aside0.mk hbox
            clear hb hbox hg
            refine hK.out _ _ ⟨(blk_cell BK377.out 0).trans rfl, (blk_cell BK377.out 1).trans rfl, (blk_cell BK377.out 2).trans rfl, (blk_cell BK377.out 3).trans rfl, (blk_cell BK378.out 0).trans rfl, (blk_cell BK378.out 1).trans rfl, (blk_cell BK378.out 2).trans rfl, (blk_cell BK378.out 3).trans rfl⟩ (fun hHeld => ?_)
            clear hK K
            refine norm_ (a' := ?_) ?_ ?_
            rotate_left
            ·show Act.put _ (some 15) _ = _
             simp only [Act.put, sA_, sB_, sC_, i64_w, i32_w]
             rfl
            exact norm_ (by first | (simp only [putAll, Act.put, sA_, sB_, sC_]; done) | (simp only [putAll, Act.put, sA_, sB_, sC_]; rfl)) (hJ1_4 (gb399) _ ⟨hHeld, (by (with_reducible repeat (first | apply kN_ | apply kD_ | apply kA_)); exact BK377.out), (by (with_reducible repeat (first | apply kN_ | apply kD_ | apply kA_)); exact BK378.out), (by (with_reducible repeat (first | apply kN_ | apply kD_ | apply kA_)); exact BK384.out), (by (with_reducible repeat (first | apply kN_ | apply kD_ | apply kA_)); exact BK390.out), (by (with_reducible repeat (first | apply kN_ | apply kD_ | apply kA_)); exact BK399.out), GW399.out, GE399.out, NB377_399.out, NB399_377.out, NB378_399.out, NB399_378.out, NB384_399.out, NB399_384.out, NB390_399.out, NB399_390.out, (by repeat (first | (with_reducible first | exact HB.out | apply bA_ | apply bN_ | apply bD_ | refine bS_ ?_ ‹Aside0 _›.out) | exact HB.out))⟩)
           skip
           refine box_step ?hg (N := 16) ?hd (cs := #[I_ S_ 0, I_ U_ 0, .string ⟨#[]⟩, I_ S_ 0]) (t := 24) ?hr ?_; (case hd => rfl); (case hg => rfl); (case hr => first | (go_simp; done) | (go_simp; rfl))
           intro gb400 hg w35 hbox hb
           replace BK377 := sqO_ BK377 (by (with_reducible repeat (first | apply kN_ | apply kD_ | apply kA_)); exact BK377.out) hg hb
           obtain ⟨BK377, NB377_400, NB400_377⟩ := BK377
           replace BK378 := sqO_ BK378 (by (with_reducible repeat (first | apply kN_ | apply kD_ | apply kA_)); exact BK378.out) hg hb
           obtain ⟨BK378, NB378_400, NB400_378⟩ := BK378
           replace BK384 := sqO_ BK384 (by (with_reducible repeat (first | apply kN_ | apply kD_ | apply kA_)); exact BK384.out) hg hb
           obtain ⟨BK384, NB384_400, NB400_384⟩ := BK384
           replace BK390 := sqO_ BK390 (by (with_reducible repeat (first | apply kN_ | apply kD_ | apply kA_)); exact BK390.out) hg hb
           obtain ⟨BK390, NB390_400, NB400_390⟩ := BK390
           replace HB := sqN_ (by repeat (first | (with_reducible first | exact HB.out | apply bA_ | apply bN_ | apply bD_ | refine bS_ ?_ ‹Aside0 _›.out) | exact HB.out)) hg hb
           obtain ⟨HB, GE400⟩ := HB
           have GW400 := GE400
           have BK400 := Aside0.mk hbox
           clear hb hbox hg
           refine hK.out _ _ ⟨(blk_cell BK377.out 0).trans rfl, (blk_cell BK377.out 1).trans rfl, (blk_cell BK377.out 2).trans rfl, (blk_cell BK377.out 3).trans rfl, (blk_cell BK378.out 0).trans rfl, (blk_cell BK378.out 1).trans rfl, (blk_cell BK378.out 2).trans rfl, (blk_cell BK378.out 3).trans rfl⟩ (fun hHeld => ?_)
           clear hK K
           refine norm_ (a' := ?_) ?_ ?_
           rotate_left
           ·show Act.put _ (some 16) _ = _
            simp only [Act.put, sA_, sB_, sC_, i64_w, i32_w]
            rfl
           exact norm_ (by first | (simp only [putAll, Act.put, sA_, sB_, sC_]; done) | (simp only [putAll, Act.put, sA_, sB_, sC_]; rfl)) (hJ1_5 (gb400) _ ⟨hHeld, (by (with_reducible repeat (first | apply kN_ | apply kD_ | apply kA_)); exact BK377.out), (by (with_reducible repeat (first | apply kN_ | apply kD_ | apply kA_)); exact BK378.out), (by (with_reducible repeat (first | apply kN_ | apply kD_ | apply kA_)); exact BK384.out), (by (with_reducible repeat (first | apply kN_ | apply kD_ | apply kA_)); exact BK390.out), (by (with_reducible repeat (first | apply kN_ | apply kD_ | apply kA_)); exact BK400.out), GW400.out, GE400.out, NB377_400.out, NB400_377.out, NB378_400.out, NB400_378.out, NB384_400.out, NB400_384.out, NB390_400.out, NB400_390.out, (by repeat (first | (with_reducible first | exact HB.out | apply bA_ | apply bN_ | apply bD_ | refine bS_ ?_ ‹Aside0 _›.out) | exact HB.out))⟩)
          skip
          rintro ⟨gb399, gb400⟩ w35 ⟨hS_, h0_, h1_, h2_, h3_, h4_, h5_, h6_, h7_, h8_, h9_, h10_, h11_, h12_, h13_, h14_, h15_, h16_, h17_, h18_, h19_, h20_, h21_, h22_, h23_, h24_, h25_, h26_, h27_, h28_⟩
          have n0_ : Aside0 (w35.heap[gb377]? = some (.cells #[I_ S_ a0_0, I_ U_ a0_1, .string a0_2, I_ S_ a0_3] 24 (0, 0))) := ⟨h0_⟩
          have n1_ : Aside0 (w35.heap[gb378]? = some (.cells #[I_ S_ a1_0, I_ U_ a1_1, .string a1_2, I_ S_ a1_3] 24 (0, 0))) := ⟨h1_⟩
          have n2_ : Aside0 (w35.heap[gb384]? = some (.cells #[I_ S_ t379, I_ U_ t380, .string t381, I_ S_ t382] 24 (0, 0))) := ⟨h2_⟩
          have n3_ : Aside0 (w35.heap[gb390]? = some (.cells #[I_ S_ t385, I_ U_ t386, .string t387, I_ S_ t388] 24 (0, 0))) := ⟨h3_⟩
          have n4_ : Aside0 (w35.heap[gb399]? = some (.cells #[I_ S_ 0, I_ U_ 0, .string ⟨#[]⟩, I_ S_ 0] 24 (0, 0))) := ⟨h4_⟩
          have n5_ : Aside0 (w35.heap[gb400]? = some (.cells #[I_ S_ 0, I_ U_ 0, .string ⟨#[]⟩, I_ S_ 0] 24 (0, 0))) := ⟨h5_⟩
          have n6_ : Aside0 (w.heap.size ≤ gb399) := ⟨h6_⟩
          have n7_ : Aside0 (w.heap.size ≤ gb399) := ⟨h7_⟩
          have n8_ : Aside0 (gb377 ≠ gb399) := ⟨h8_⟩
          have n9_ : Aside0 (gb399 ≠ gb377) := ⟨h9_⟩
          have n10_ : Aside0 (gb378 ≠ gb399) := ⟨h10_⟩
          have n11_ : Aside0 (gb399 ≠ gb378) := ⟨h11_⟩
          have n12_ : Aside0 (gb384 ≠ gb399) := ⟨h12_⟩
          have n13_ : Aside0 (gb399 ≠ gb384) := ⟨h13_⟩
          have n14_ : Aside0 (gb390 ≠ gb399) := ⟨h14_⟩
          have n15_ : Aside0 (gb399 ≠ gb390) := ⟨h15_⟩
          have n16_ : Aside0 (gb400 ≠ gb399) := ⟨h16_⟩
          have n17_ : Aside0 (gb399 ≠ gb400) := ⟨h17_⟩
          have n18_ : Aside0 (w.heap.size ≤ gb400) := ⟨h18_⟩
          have n19_ : Aside0 (w.heap.size ≤ gb400) := ⟨h19_⟩
          have n20_ : Aside0 (gb377 ≠ gb400) := ⟨h20_⟩
          have n21_ : Aside0 (gb400 ≠ gb377) := ⟨h21_⟩
          have n22_ : Aside0 (gb378 ≠ gb400) := ⟨h22_⟩
          have n23_ : Aside0 (gb400 ≠ gb378) := ⟨h23_⟩
          have n24_ : Aside0 (gb384 ≠ gb400) := ⟨h24_⟩
          have n25_ : Aside0 (gb400 ≠ gb384) := ⟨h25_⟩
          have n26_ : Aside0 (gb390 ≠ gb400) := ⟨h26_⟩
          have n27_ : Aside0 (gb400 ≠ gb390) := ⟨h27_⟩
          have n28_ : Aside0 (Below w.heap.size w w35) := ⟨h28_⟩
          clear BK377
          clear BK378
          clear BK384
          clear BK390
          clear HB
          clear h0_ h1_ h2_ h3_ h4_ h5_ h6_ h7_ h8_ h9_ h10_ h11_ h12_ h13_ h14_ h15_ h16_ h17_ h18_ h19_ h20_ h21_ h22_ h23_ h24_ h25_ h26_ h27_ h28_
          have BK377 := n0_
          have BK378 := n1_
          have BK384 := n2_
          have BK390 := n3_
          have BK399 := n4_
          have BK400 := n5_
          have GW399 := n6_
          have GE399 := n7_
          have NB377_399 := n8_
          have NB399_377 := n9_
          have NB378_399 := n10_
          have NB399_378 := n11_
          have NB384_399 := n12_
          have NB399_384 := n13_
          have NB390_399 := n14_
          have NB399_390 := n15_
          have NB400_399 := n16_
          have NB399_400 := n17_
          have GW400 := n18_
          have GE400 := n19_
          have NB377_400 := n20_
          have NB400_377 := n21_
          have NB378_400 := n22_
          have NB400_378 := n23_
          have NB384_400 := n24_
          have NB400_384 := n25_
          have NB390_400 := n26_
          have NB400_390 := n27_
          have HB := n28_
          clear n0_ n1_ n2_ n3_ n4_ n5_ n6_ n7_ n8_ n9_ n10_ n11_ n12_ n13_ n14_ n15_ n16_ n17_ n18_ n19_ n20_ n21_ n22_ n23_ n24_ n25_ n26_ n27_ n28_
          have hHeld : w35.cell? ⟨gb377, 0, none⟩ = some (I_ S_ a0_0) ∧ w35.cell? ⟨gb377, 1, none⟩ = some (I_ U_ a0_1) ∧ w35.cell? ⟨gb377, 2, none⟩ = some (.string a0_2) ∧ w35.cell? ⟨gb377, 3, none⟩ = some (I_ S_ a0_3) ∧ w35.cell? ⟨gb378, 0, none⟩ = some (I_ S_ a1_0) ∧ w35.cell? ⟨gb378, 1, none⟩ = some (I_ U_ a1_1) ∧ w35.cell? ⟨gb378, 2, none⟩ = some (.string a1_2) ∧ w35.cell? ⟨gb378, 3, none⟩ = some (I_ S_ a1_3) := hS_
          refine norm_ (a' := ?_) ?_ ?_
          rotate_left
          ·simp only [putAll, Act.put, sA_, sB_, sC_]
           rfl
          refine one_ (i := 1) (N := some 49) (tf 8 55) rfl rfl (one_of HT_.out (by kernel_rfl)) (by decide) (fun K hK => ?_)
          refine goes_ Tryd.func11 (by kernel_rfl) rfl #[.agg #[I_ S_ a0_0, I_ U_ a0_1, .string a0_2, I_ S_ a0_3]] (by rfl) rfl rfl (by (try simp only [List.map_toArray, List.map_cons, List.map_nil]); first | done | rfl) ?_
          with_reducible refine (platformfwlaw08_some.calls kj5 a0_0 a0_1 a0_2 a0_3 t391 t392 t393 t394 _ A12.out).mono ?_
          rintro e w36 ⟨rfl, hb⟩
          refine ⟨_, rfl, ?_⟩
          replace BK377 := sqB_ BK377 (by (with_reducible repeat (first | apply kN_ | apply kD_ | apply kA_)); exact BK377.out) hb
          replace BK378 := sqB_ BK378 (by (with_reducible repeat (first | apply kN_ | apply kD_ | apply kA_)); exact BK378.out) hb
          replace BK384 := sqB_ BK384 (by (with_reducible repeat (first | apply kN_ | apply kD_ | apply kA_)); exact BK384.out) hb
          replace BK390 := sqB_ BK390 (by (with_reducible repeat (first | apply kN_ | apply kD_ | apply kA_)); exact BK390.out) hb
          replace BK399 := sqB_ BK399 (by (with_reducible repeat (first | apply kN_ | apply kD_ | apply kA_)); exact BK399.out) hb
          replace BK400 := sqB_ BK400 (by (with_reducible repeat (first | apply kN_ | apply kD_ | apply kA_)); exact BK400.out) hb
          replace HB := sqS_ (by repeat (first | (with_reducible first | exact HB.out | apply bA_ | apply bN_ | apply bD_ | refine bS_ ?_ ‹Aside0 _›.out) | exact HB.out)) hb
          (try clear hb)
          (try clear hb2)
          (try clear hk)
          (try clear hi)
          refine hK.out _ _ ⟨(blk_cell BK377.out 0).trans rfl, (blk_cell BK377.out 1).trans rfl, (blk_cell BK377.out 2).trans rfl, (blk_cell BK377.out 3).trans rfl, (blk_cell BK378.out 0).trans rfl, (blk_cell BK378.out 1).trans rfl, (blk_cell BK378.out 2).trans rfl, (blk_cell BK378.out 3).trans rfl⟩ (fun hHeld => ?_)
          clear hK K
          refine norm_ (a' := ?_) ?_ ?_
          rotate_left
          ·show Act.put _ (some 49) _ = _
           simp only [Act.put, sA_, sB_, sC_, i64_w, i32_w]
           rfl
          exact norm_ (by first | (simp only [putAll, Act.put, sA_, sB_, sC_]; done) | (simp only [putAll, Act.put, sA_, sB_, sC_]; rfl)) (hJ1_4_5 (gb399, gb400) _ ⟨hHeld, (by (with_reducible repeat (first | apply kN_ | apply kD_ | apply kA_)); exact BK377.out), (by (with_reducible repeat (first | apply kN_ | apply kD_ | apply kA_)); exact BK378.out), (by (with_reducible repeat (first | apply kN_ | apply kD_ | apply kA_)); exact BK384.out), (by (with_reducible repeat (first | apply kN_ | apply kD_ | apply kA_)); exact BK390.out), (by (with_reducible repeat (first | apply kN_ | apply kD_ | apply kA_)); exact BK399.out), (by (with_reducible repeat (first | apply kN_ | apply kD_ | apply kA_)); exact BK400.out), GW399.out, GE399.out, NB377_399.out, NB399_377.out, NB378_399.out, NB399_378.out, NB384_399.out, NB399_384.out, NB390_399.out, NB399_390.out, NB400_399.out, NB399_400.out, GW400.out, GE400.out, NB377_400.out, NB400_377.out, NB378_400.out, NB400_378.out, NB384_400.out, NB400_384.out, NB390_400.out, NB400_390.out, (by repeat (first | (with_reducible first | exact HB.out | apply bA_ | apply bN_ | apply bD_ | refine bS_ ?_ ‹Aside0 _›.out) | exact HB.out))⟩)
         skip
         rintro gb400 w35 ⟨hS_, h0_, h1_, h2_, h3_, h4_, h5_, h6_, h7_, h8_, h9_, h10_, h11_, h12_, h13_, h14_, h15_⟩
         have n0_ : Aside0 (w35.heap[gb377]? = some (.cells #[I_ S_ a0_0, I_ U_ a0_1, .string a0_2, I_ S_ a0_3] 24 (0, 0))) := ⟨h0_⟩
         have n1_ : Aside0 (w35.heap[gb378]? = some (.cells #[I_ S_ a1_0, I_ U_ a1_1, .string a1_2, I_ S_ a1_3] 24 (0, 0))) := ⟨h1_⟩
         have n2_ : Aside0 (w35.heap[gb384]? = some (.cells #[I_ S_ t379, I_ U_ t380, .string t381, I_ S_ t382] 24 (0, 0))) := ⟨h2_⟩
         have n3_ : Aside0 (w35.heap[gb390]? = some (.cells #[I_ S_ t385, I_ U_ t386, .string t387, I_ S_ t388] 24 (0, 0))) := ⟨h3_⟩
         have n4_ : Aside0 (w35.heap[gb400]? = some (.cells #[I_ S_ 0, I_ U_ 0, .string ⟨#[]⟩, I_ S_ 0] 24 (0, 0))) := ⟨h4_⟩
         have n5_ : Aside0 (w.heap.size ≤ gb400) := ⟨h5_⟩
         have n6_ : Aside0 (w.heap.size ≤ gb400) := ⟨h6_⟩
         have n7_ : Aside0 (gb377 ≠ gb400) := ⟨h7_⟩
         have n8_ : Aside0 (gb400 ≠ gb377) := ⟨h8_⟩
         have n9_ : Aside0 (gb378 ≠ gb400) := ⟨h9_⟩
         have n10_ : Aside0 (gb400 ≠ gb378) := ⟨h10_⟩
         have n11_ : Aside0 (gb384 ≠ gb400) := ⟨h11_⟩
         have n12_ : Aside0 (gb400 ≠ gb384) := ⟨h12_⟩
         have n13_ : Aside0 (gb390 ≠ gb400) := ⟨h13_⟩
         have n14_ : Aside0 (gb400 ≠ gb390) := ⟨h14_⟩
         have n15_ : Aside0 (Below w.heap.size w w35) := ⟨h15_⟩
         clear BK377
         clear BK378
         clear BK384
         clear BK390
         clear HB
         clear h0_ h1_ h2_ h3_ h4_ h5_ h6_ h7_ h8_ h9_ h10_ h11_ h12_ h13_ h14_ h15_
         have BK377 := n0_
         have BK378 := n1_
         have BK384 := n2_
         have BK390 := n3_
         have BK400 := n4_
         have GW400 := n5_
         have GE400 := n6_
         have NB377_400 := n7_
         have NB400_377 := n8_
         have NB378_400 := n9_
         have NB400_378 := n10_
         have NB384_400 := n11_
         have NB400_384 := n12_
         have NB390_400 := n13_
         have NB400_390 := n14_
         have HB := n15_
         clear n0_ n1_ n2_ n3_ n4_ n5_ n6_ n7_ n8_ n9_ n10_ n11_ n12_ n13_ n14_ n15_
         have hHeld : w35.cell? ⟨gb377, 0, none⟩ = some (I_ S_ a0_0) ∧ w35.cell? ⟨gb377, 1, none⟩ = some (I_ U_ a0_1) ∧ w35.cell? ⟨gb377, 2, none⟩ = some (.string a0_2) ∧ w35.cell? ⟨gb377, 3, none⟩ = some (I_ S_ a0_3) ∧ w35.cell? ⟨gb378, 0, none⟩ = some (I_ S_ a1_0) ∧ w35.cell? ⟨gb378, 1, none⟩ = some (I_ U_ a1_1) ∧ w35.cell? ⟨gb378, 2, none⟩ = some (.string a1_2) ∧ w35.cell? ⟨gb378, 3, none⟩ = some (I_ S_ a1_3) := hS_
         refine norm_ (a' := ?_) ?_ ?_
         rotate_left
         ·simp only [putAll, Act.put, sA_, sB_, sC_]
          rfl
         refine two_ (i := 3) (j := 4) (Ni := some 51) (Nj := some 15) #[true, true, true, true, false, true, false, false] #[true, true, true, false, true, true, false, false] rfl rfl rfl rfl (two_of HT_.out (by kernel_rfl)) (by decide) (by decide) (fun K hK => ?_) (fun K hK => ?_)
         ·skip
          refine goes_ Tryd.func11 (by kernel_rfl) rfl #[.agg #[I_ S_ a1_0, I_ U_ a1_1, .string a1_2, I_ S_ a1_3]] (by rfl) rfl rfl (by (try simp only [List.map_toArray, List.map_cons, List.map_nil]); first | done | rfl) ?_
          with_reducible refine (platformfwlaw08_some.calls kj5 a1_0 a1_1 a1_2 a1_3 t395 t396 t397 t398 _ A13.out).mono ?_
          rintro e w36 ⟨rfl, hb⟩
          refine ⟨_, rfl, ?_⟩
          replace BK377 := sqB_ BK377 (by (with_reducible repeat (first | apply kN_ | apply kD_ | apply kA_)); exact BK377.out) hb
          replace BK378 := sqB_ BK378 (by (with_reducible repeat (first | apply kN_ | apply kD_ | apply kA_)); exact BK378.out) hb
          replace BK384 := sqB_ BK384 (by (with_reducible repeat (first | apply kN_ | apply kD_ | apply kA_)); exact BK384.out) hb
          replace BK390 := sqB_ BK390 (by (with_reducible repeat (first | apply kN_ | apply kD_ | apply kA_)); exact BK390.out) hb
          replace BK400 := sqB_ BK400 (by (with_reducible repeat (first | apply kN_ | apply kD_ | apply kA_)); exact BK400.out) hb
          replace HB := sqS_ (by repeat (first | (with_reducible first | exact HB.out | apply bA_ | apply bN_ | apply bD_ | refine bS_ ?_ ‹Aside0 _›.out) | exact HB.out)) hb
          (try clear hb)
          (try clear hb2)
          (try clear hk)
          (try clear hi)
          refine hK.out _ _ ⟨(blk_cell BK377.out 0).trans rfl, (blk_cell BK377.out 1).trans rfl, (blk_cell BK377.out 2).trans rfl, (blk_cell BK377.out 3).trans rfl, (blk_cell BK378.out 0).trans rfl, (blk_cell BK378.out 1).trans rfl, (blk_cell BK378.out 2).trans rfl, (blk_cell BK378.out 3).trans rfl⟩ (fun hHeld => ?_)
          clear hK K
          refine norm_ (a' := ?_) ?_ ?_
          rotate_left
          ·show Act.put _ (some 51) _ = _
           simp only [Act.put, sA_, sB_, sC_, i64_w, i32_w]
           rfl
          exact norm_ (by first | (simp only [putAll, Act.put, sA_, sB_, sC_]; done) | (simp only [putAll, Act.put, sA_, sB_, sC_]; rfl)) (hJ1_3_5 (gb400) _ ⟨hHeld, (by (with_reducible repeat (first | apply kN_ | apply kD_ | apply kA_)); exact BK377.out), (by (with_reducible repeat (first | apply kN_ | apply kD_ | apply kA_)); exact BK378.out), (by (with_reducible repeat (first | apply kN_ | apply kD_ | apply kA_)); exact BK384.out), (by (with_reducible repeat (first | apply kN_ | apply kD_ | apply kA_)); exact BK390.out), (by (with_reducible repeat (first | apply kN_ | apply kD_ | apply kA_)); exact BK400.out), GW400.out, GE400.out, NB377_400.out, NB400_377.out, NB378_400.out, NB400_378.out, NB384_400.out, NB400_384.out, NB390_400.out, NB400_390.out, (by repeat (first | (with_reducible first | exact HB.out | apply bA_ | apply bN_ | apply bD_ | refine bS_ ?_ ‹Aside0 _›.out) | exact HB.out))⟩)
         skip
         refine box_step ?hg (N := 15) ?hd (cs := #[I_ S_ 0, I_ U_ 0, .string ⟨#[]⟩, I_ S_ 0]) (t := 24) ?hr ?_; (case hd => rfl); (case hg => rfl); (case hr => first | (go_simp; done) | (go_simp; rfl))
         intro gb399 hg w36 hbox hb
         replace BK377 := sqO_ BK377 (by (with_reducible repeat (first | apply kN_ | apply kD_ | apply kA_)); exact BK377.out) hg hb
         obtain ⟨BK377, NB377_399, NB399_377⟩ := BK377
         replace BK378 := sqO_ BK378 (by (with_reducible repeat (first | apply kN_ | apply kD_ | apply kA_)); exact BK378.out) hg hb
         obtain ⟨BK378, NB378_399, NB399_378⟩ := BK378
         replace BK384 := sqO_ BK384 (by (with_reducible repeat (first | apply kN_ | apply kD_ | apply kA_)); exact BK384.out) hg hb
         obtain ⟨BK384, NB384_399, NB399_384⟩ := BK384
         replace BK390 := sqO_ BK390 (by (with_reducible repeat (first | apply kN_ | apply kD_ | apply kA_)); exact BK390.out) hg hb
         obtain ⟨BK390, NB390_399, NB399_390⟩ := BK390
         replace BK400 := sqO_ BK400 (by (with_reducible repeat (first | apply kN_ | apply kD_ | apply kA_)); exact BK400.out) hg hb
         obtain ⟨BK400, NB400_399, NB399_400⟩ := BK400
         replace HB := sqN_ (by repeat (first | (with_reducible first | exact HB.out | apply bA_ | apply bN_ | apply bD_ | refine bS_ ?_ ‹Aside0 _›.out) | exact HB.out)) hg hb
         obtain ⟨HB, GE399⟩ := HB
         have GW399 := GE399
         have BK399 := Aside0.mk hbox
         clear hb hbox hg
         refine hK.out _ _ ⟨(blk_cell BK377.out 0).trans rfl, (blk_cell BK377.out 1).trans rfl, (blk_cell BK377.out 2).trans rfl, (blk_cell BK377.out 3).trans rfl, (blk_cell BK378.out 0).trans rfl, (blk_cell BK378.out 1).trans rfl, (blk_cell BK378.out 2).trans rfl, (blk_cell BK378.out 3).trans rfl⟩ (fun hHeld => ?_)
         clear hK K
         refine norm_ (a' := ?_) ?_ ?_
         rotate_left
         ·show Act.put _ (some 15) _ = _
          simp only [Act.put, sA_, sB_, sC_, i64_w, i32_w]
          rfl
         exact norm_ (by first | (simp only [putAll, Act.put, sA_, sB_, sC_]; done) | (simp only [putAll, Act.put, sA_, sB_, sC_]; rfl)) (hJ1_4_5 (gb399, gb400) _ ⟨hHeld, (by (with_reducible repeat (first | apply kN_ | apply kD_ | apply kA_)); exact BK377.out), (by (with_reducible repeat (first | apply kN_ | apply kD_ | apply kA_)); exact BK378.out), (by (with_reducible repeat (first | apply kN_ | apply kD_ | apply kA_)); exact BK384.out), (by (with_reducible repeat (first | apply kN_ | apply kD_ | apply kA_)); exact BK390.out), (by (with_reducible repeat (first | apply kN_ | apply kD_ | apply kA_)); exact BK399.out), (by (with_reducible repeat (first | apply kN_ | apply kD_ | apply kA_)); exact BK400.out), GW399.out, GE399.out, NB377_399.out, NB399_377.out, NB378_399.out, NB399_378.out, NB384_399.out, NB399_384.out, NB390_399.out, NB399_390.out, NB400_399.out, NB399_400.out, GW400.out, GE400.out, NB377_400.out, NB400_377.out, NB378_400.out, NB400_378.out, NB384_400.out, NB400_384.out, NB390_400.out, NB400_390.out, (by repeat (first | (with_reducible first | exact HB.out | apply bA_ | apply bN_ | apply bD_ | refine bS_ ?_ ‹Aside0 _›.out) | exact HB.out))⟩)
        skip
        rintro gb399 w35 ⟨hS_, h0_, h1_, h2_, h3_, h4_, h5_, h6_, h7_, h8_, h9_, h10_, h11_, h12_, h13_, h14_, h15_⟩
        have n0_ : Aside0 (w35.heap[gb377]? = some (.cells #[I_ S_ a0_0, I_ U_ a0_1, .string a0_2, I_ S_ a0_3] 24 (0, 0))) := ⟨h0_⟩
        have n1_ : Aside0 (w35.heap[gb378]? = some (.cells #[I_ S_ a1_0, I_ U_ a1_1, .string a1_2, I_ S_ a1_3] 24 (0, 0))) := ⟨h1_⟩
        have n2_ : Aside0 (w35.heap[gb384]? = some (.cells #[I_ S_ t379, I_ U_ t380, .string t381, I_ S_ t382] 24 (0, 0))) := ⟨h2_⟩
        have n3_ : Aside0 (w35.heap[gb390]? = some (.cells #[I_ S_ t385, I_ U_ t386, .string t387, I_ S_ t388] 24 (0, 0))) := ⟨h3_⟩
        have n4_ : Aside0 (w35.heap[gb399]? = some (.cells #[I_ S_ 0, I_ U_ 0, .string ⟨#[]⟩, I_ S_ 0] 24 (0, 0))) := ⟨h4_⟩
        have n5_ : Aside0 (w.heap.size ≤ gb399) := ⟨h5_⟩
        have n6_ : Aside0 (w.heap.size ≤ gb399) := ⟨h6_⟩
        have n7_ : Aside0 (gb377 ≠ gb399) := ⟨h7_⟩
        have n8_ : Aside0 (gb399 ≠ gb377) := ⟨h8_⟩
        have n9_ : Aside0 (gb378 ≠ gb399) := ⟨h9_⟩
        have n10_ : Aside0 (gb399 ≠ gb378) := ⟨h10_⟩
        have n11_ : Aside0 (gb384 ≠ gb399) := ⟨h11_⟩
        have n12_ : Aside0 (gb399 ≠ gb384) := ⟨h12_⟩
        have n13_ : Aside0 (gb390 ≠ gb399) := ⟨h13_⟩
        have n14_ : Aside0 (gb399 ≠ gb390) := ⟨h14_⟩
        have n15_ : Aside0 (Below w.heap.size w w35) := ⟨h15_⟩
        clear BK377
        clear BK378
        clear BK384
        clear BK390
        clear HB
        clear h0_ h1_ h2_ h3_ h4_ h5_ h6_ h7_ h8_ h9_ h10_ h11_ h12_ h13_ h14_ h15_
        have BK377 := n0_
        have BK378 := n1_
        have BK384 := n2_
        have BK390 := n3_
        have BK399 := n4_
        have GW399 := n5_
        have GE399 := n6_
        have NB377_399 := n7_
        have NB399_377 := n8_
        have NB378_399 := n9_
        have NB399_378 := n10_
        have NB384_399 := n11_
        have NB399_384 := n12_
        have NB390_399 := n13_
        have NB399_390 := n14_
        have HB := n15_
        clear n0_ n1_ n2_ n3_ n4_ n5_ n6_ n7_ n8_ n9_ n10_ n11_ n12_ n13_ n14_ n15_
        have hHeld : w35.cell? ⟨gb377, 0, none⟩ = some (I_ S_ a0_0) ∧ w35.cell? ⟨gb377, 1, none⟩ = some (I_ U_ a0_1) ∧ w35.cell? ⟨gb377, 2, none⟩ = some (.string a0_2) ∧ w35.cell? ⟨gb377, 3, none⟩ = some (I_ S_ a0_3) ∧ w35.cell? ⟨gb378, 0, none⟩ = some (I_ S_ a1_0) ∧ w35.cell? ⟨gb378, 1, none⟩ = some (I_ U_ a1_1) ∧ w35.cell? ⟨gb378, 2, none⟩ = some (.string a1_2) ∧ w35.cell? ⟨gb378, 3, none⟩ = some (I_ S_ a1_3) := hS_
        refine norm_ (a' := ?_) ?_ ?_
        rotate_left
        ·simp only [putAll, Act.put, sA_, sB_, sC_]
         rfl
        refine two_ (i := 3) (j := 5) (Ni := some 51) (Nj := some 16) #[true, true, true, true, true, false, false, false] #[true, true, true, false, true, true, false, false] rfl rfl rfl rfl (two_of HT_.out (by kernel_rfl)) (by decide) (by decide) (fun K hK => ?_) (fun K hK => ?_)
        ·skip
         refine goes_ Tryd.func11 (by kernel_rfl) rfl #[.agg #[I_ S_ a1_0, I_ U_ a1_1, .string a1_2, I_ S_ a1_3]] (by rfl) rfl rfl (by (try simp only [List.map_toArray, List.map_cons, List.map_nil]); first | done | rfl) ?_
         with_reducible refine (platformfwlaw08_some.calls kj5 a1_0 a1_1 a1_2 a1_3 t395 t396 t397 t398 _ A13.out).mono ?_
         rintro e w36 ⟨rfl, hb⟩
         refine ⟨_, rfl, ?_⟩
         replace BK377 := sqB_ BK377 (by (with_reducible repeat (first | apply kN_ | apply kD_ | apply kA_)); exact BK377.out) hb
         replace BK378 := sqB_ BK378 (by (with_reducible repeat (first | apply kN_ | apply kD_ | apply kA_)); exact BK378.out) hb
         replace BK384 := sqB_ BK384 (by (with_reducible repeat (first | apply kN_ | apply kD_ | apply kA_)); exact BK384.out) hb
         replace BK390 := sqB_ BK390 (by (with_reducible repeat (first | apply kN_ | apply kD_ | apply kA_)); exact BK390.out) hb
         replace BK399 := sqB_ BK399 (by (with_reducible repeat (first | apply kN_ | apply kD_ | apply kA_)); exact BK399.out) hb
         replace HB := sqS_ (by repeat (first | (with_reducible first | exact HB.out | apply bA_ | apply bN_ | apply bD_ | refine bS_ ?_ ‹Aside0 _›.out) | exact HB.out)) hb
         (try clear hb)
         (try clear hb2)
         (try clear hk)
         (try clear hi)
         refine hK.out _ _ ⟨(blk_cell BK377.out 0).trans rfl, (blk_cell BK377.out 1).trans rfl, (blk_cell BK377.out 2).trans rfl, (blk_cell BK377.out 3).trans rfl, (blk_cell BK378.out 0).trans rfl, (blk_cell BK378.out 1).trans rfl, (blk_cell BK378.out 2).trans rfl, (blk_cell BK378.out 3).trans rfl⟩ (fun hHeld => ?_)
         clear hK K
         refine norm_ (a' := ?_) ?_ ?_
         rotate_left
         ·show Act.put _ (some 51) _ = _
          simp only [Act.put, sA_, sB_, sC_, i64_w, i32_w]
          rfl
         exact norm_ (by first | (simp only [putAll, Act.put, sA_, sB_, sC_]; done) | (simp only [putAll, Act.put, sA_, sB_, sC_]; rfl)) (hJ1_3_4 (gb399) _ ⟨hHeld, (by (with_reducible repeat (first | apply kN_ | apply kD_ | apply kA_)); exact BK377.out), (by (with_reducible repeat (first | apply kN_ | apply kD_ | apply kA_)); exact BK378.out), (by (with_reducible repeat (first | apply kN_ | apply kD_ | apply kA_)); exact BK384.out), (by (with_reducible repeat (first | apply kN_ | apply kD_ | apply kA_)); exact BK390.out), (by (with_reducible repeat (first | apply kN_ | apply kD_ | apply kA_)); exact BK399.out), GW399.out, GE399.out, NB377_399.out, NB399_377.out, NB378_399.out, NB399_378.out, NB384_399.out, NB399_384.out, NB390_399.out, NB399_390.out, (by repeat (first | (with_reducible first | exact HB.out | apply bA_ | apply bN_ | apply bD_ | refine bS_ ?_ ‹Aside0 _›.out) | exact HB.out))⟩)
        skip
        refine box_step ?hg (N := 16) ?hd (cs := #[I_ S_ 0, I_ U_ 0, .string ⟨#[]⟩, I_ S_ 0]) (t := 24) ?hr ?_; (case hd => rfl); (case hg => rfl); (case hr => first | (go_simp; done) | (go_simp; rfl))
        intro gb400 hg w36 hbox hb
        replace BK377 := sqO_ BK377 (by (with_reducible repeat (first | apply kN_ | apply kD_ | apply kA_)); exact BK377.out) hg hb
        obtain ⟨BK377, NB377_400, NB400_377⟩ := BK377
        replace BK378 := sqO_ BK378 (by (with_reducible repeat (first | apply kN_ | apply kD_ | apply kA_)); exact BK378.out) hg hb
        obtain ⟨BK378, NB378_400, NB400_378⟩ := BK378
        replace BK384 := sqO_ BK384 (by (with_reducible repeat (first | apply kN_ | apply kD_ | apply kA_)); exact BK384.out) hg hb
        obtain ⟨BK384, NB384_400, NB400_384⟩ := BK384
        replace BK390 := sqO_ BK390 (by (with_reducible repeat (first | apply kN_ | apply kD_ | apply kA_)); exact BK390.out) hg hb
        obtain ⟨BK390, NB390_400, NB400_390⟩ := BK390
        replace BK399 := sqO_ BK399 (by (with_reducible repeat (first | apply kN_ | apply kD_ | apply kA_)); exact BK399.out) hg hb
        obtain ⟨BK399, NB399_400, NB400_399⟩ := BK399
        replace HB := sqN_ (by repeat (first | (with_reducible first | exact HB.out | apply bA_ | apply bN_ | apply bD_ | refine bS_ ?_ ‹Aside0 _›.out) | exact HB.out)) hg hb
        obtain ⟨HB, GE400⟩ := HB
        have GW400 := GE400
        have BK400 := Aside0.mk hbox
        clear hb hbox hg
        refine hK.out _ _ ⟨(blk_cell BK377.out 0).trans rfl, (blk_cell BK377.out 1).trans rfl, (blk_cell BK377.out 2).trans rfl, (blk_cell BK377.out 3).trans rfl, (blk_cell BK378.out 0).trans rfl, (blk_cell BK378.out 1).trans rfl, (blk_cell BK378.out 2).trans rfl, (blk_cell BK378.out 3).trans rfl⟩ (fun hHeld => ?_)
        clear hK K
        refine norm_ (a' := ?_) ?_ ?_
        rotate_left
        ·show Act.put _ (some 16) _ = _
         simp only [Act.put, sA_, sB_, sC_, i64_w, i32_w]
         rfl
        exact norm_ (by first | (simp only [putAll, Act.put, sA_, sB_, sC_]; done) | (simp only [putAll, Act.put, sA_, sB_, sC_]; rfl)) (hJ1_4_5 (gb399, gb400) _ ⟨hHeld, (by (with_reducible repeat (first | apply kN_ | apply kD_ | apply kA_)); exact BK377.out), (by (with_reducible repeat (first | apply kN_ | apply kD_ | apply kA_)); exact BK378.out), (by (with_reducible repeat (first | apply kN_ | apply kD_ | apply kA_)); exact BK384.out), (by (with_reducible repeat (first | apply kN_ | apply kD_ | apply kA_)); exact BK390.out), (by (with_reducible repeat (first | apply kN_ | apply kD_ | apply kA_)); exact BK399.out), (by (with_reducible repeat (first | apply kN_ | apply kD_ | apply kA_)); exact BK400.out), GW399.out, GE399.out, NB377_399.out, NB399_377.out, NB378_399.out, NB399_378.out, NB384_399.out, NB399_384.out, NB390_399.out, NB399_390.out, NB400_399.out, NB399_400.out, GW400.out, GE400.out, NB377_400.out, NB400_377.out, NB378_400.out, NB400_378.out, NB384_400.out, NB400_384.out, NB390_400.out, NB400_390.out, (by repeat (first | (with_reducible first | exact HB.out | apply bA_ | apply bN_ | apply bD_ | refine bS_ ?_ ‹Aside0 _›.out) | exact HB.out))⟩)
       skip
       rintro _ w35 ⟨hS_, h0_, h1_, h2_, h3_, h4_⟩
       have n0_ : Aside0 (w35.heap[gb377]? = some (.cells #[I_ S_ a0_0, I_ U_ a0_1, .string a0_2, I_ S_ a0_3] 24 (0, 0))) := ⟨h0_⟩
       have n1_ : Aside0 (w35.heap[gb378]? = some (.cells #[I_ S_ a1_0, I_ U_ a1_1, .string a1_2, I_ S_ a1_3] 24 (0, 0))) := ⟨h1_⟩
       have n2_ : Aside0 (w35.heap[gb384]? = some (.cells #[I_ S_ t379, I_ U_ t380, .string t381, I_ S_ t382] 24 (0, 0))) := ⟨h2_⟩
       have n3_ : Aside0 (w35.heap[gb390]? = some (.cells #[I_ S_ t385, I_ U_ t386, .string t387, I_ S_ t388] 24 (0, 0))) := ⟨h3_⟩
       have n4_ : Aside0 (Below w.heap.size w w35) := ⟨h4_⟩
       clear BK377
       clear BK378
       clear BK384
       clear BK390
       clear HB
       clear h0_ h1_ h2_ h3_ h4_
       have BK377 := n0_
       have BK378 := n1_
       have BK384 := n2_
       have BK390 := n3_
       have HB := n4_
       clear n0_ n1_ n2_ n3_ n4_
       have hHeld : w35.cell? ⟨gb377, 0, none⟩ = some (I_ S_ a0_0) ∧ w35.cell? ⟨gb377, 1, none⟩ = some (I_ U_ a0_1) ∧ w35.cell? ⟨gb377, 2, none⟩ = some (.string a0_2) ∧ w35.cell? ⟨gb377, 3, none⟩ = some (I_ S_ a0_3) ∧ w35.cell? ⟨gb378, 0, none⟩ = some (I_ S_ a1_0) ∧ w35.cell? ⟨gb378, 1, none⟩ = some (I_ U_ a1_1) ∧ w35.cell? ⟨gb378, 2, none⟩ = some (.string a1_2) ∧ w35.cell? ⟨gb378, 3, none⟩ = some (I_ S_ a1_3) := hS_
       refine norm_ (a' := ?_) ?_ ?_
       rotate_left
       ·simp only [putAll, Act.put, sA_, sB_, sC_]
        rfl
       refine two_ (i := 4) (j := 5) (Ni := some 15) (Nj := some 16) #[true, true, true, true, true, false, false, false] #[true, true, true, true, false, true, false, false] rfl rfl rfl rfl (two_of HT_.out (by kernel_rfl)) (by decide) (by decide) (fun K hK => ?_) (fun K hK => ?_)
       ·skip
        refine box_step ?hg (N := 15) ?hd (cs := #[I_ S_ 0, I_ U_ 0, .string ⟨#[]⟩, I_ S_ 0]) (t := 24) ?hr ?_; (case hd => rfl); (case hg => rfl); (case hr => first | (go_simp; done) | (go_simp; rfl))
        intro gb399 hg w36 hbox hb
        replace BK377 := sqO_ BK377 (by (with_reducible repeat (first | apply kN_ | apply kD_ | apply kA_)); exact BK377.out) hg hb
        obtain ⟨BK377, NB377_399, NB399_377⟩ := BK377
        replace BK378 := sqO_ BK378 (by (with_reducible repeat (first | apply kN_ | apply kD_ | apply kA_)); exact BK378.out) hg hb
        obtain ⟨BK378, NB378_399, NB399_378⟩ := BK378
        replace BK384 := sqO_ BK384 (by (with_reducible repeat (first | apply kN_ | apply kD_ | apply kA_)); exact BK384.out) hg hb
        obtain ⟨BK384, NB384_399, NB399_384⟩ := BK384
        replace BK390 := sqO_ BK390 (by (with_reducible repeat (first | apply kN_ | apply kD_ | apply kA_)); exact BK390.out) hg hb
        obtain ⟨BK390, NB390_399, NB399_390⟩ := BK390
        replace HB := sqN_ (by repeat (first | (with_reducible first | exact HB.out | apply bA_ | apply bN_ | apply bD_ | refine bS_ ?_ ‹Aside0 _›.out) | exact HB.out)) hg hb
        obtain ⟨HB, GE399⟩ := HB
        have GW399 := GE399
        have BK399 := Aside0.mk hbox
        clear hb hbox hg
        refine hK.out _ _ ⟨(blk_cell BK377.out 0).trans rfl, (blk_cell BK377.out 1).trans rfl, (blk_cell BK377.out 2).trans rfl, (blk_cell BK377.out 3).trans rfl, (blk_cell BK378.out 0).trans rfl, (blk_cell BK378.out 1).trans rfl, (blk_cell BK378.out 2).trans rfl, (blk_cell BK378.out 3).trans rfl⟩ (fun hHeld => ?_)
        clear hK K
        refine norm_ (a' := ?_) ?_ ?_
        rotate_left
        ·show Act.put _ (some 15) _ = _
         simp only [Act.put, sA_, sB_, sC_, i64_w, i32_w]
         rfl
        exact norm_ (by first | (simp only [putAll, Act.put, sA_, sB_, sC_]; done) | (simp only [putAll, Act.put, sA_, sB_, sC_]; rfl)) (hJ1_3_4 (gb399) _ ⟨hHeld, (by (with_reducible repeat (first | apply kN_ | apply kD_ | apply kA_)); exact BK377.out), (by (with_reducible repeat (first | apply kN_ | apply kD_ | apply kA_)); exact BK378.out), (by (with_reducible repeat (first | apply kN_ | apply kD_ | apply kA_)); exact BK384.out), (by (with_reducible repeat (first | apply kN_ | apply kD_ | apply kA_)); exact BK390.out), (by (with_reducible repeat (first | apply kN_ | apply kD_ | apply kA_)); exact BK399.out), GW399.out, GE399.out, NB377_399.out, NB399_377.out, NB378_399.out, NB399_378.out, NB384_399.out, NB399_384.out, NB390_399.out, NB399_390.out, (by repeat (first | (with_reducible first | exact HB.out | apply bA_ | apply bN_ | apply bD_ | refine bS_ ?_ ‹Aside0 _›.out) | exact HB.out))⟩)
       skip
       refine box_step ?hg (N := 16) ?hd (cs := #[I_ S_ 0, I_ U_ 0, .string ⟨#[]⟩, I_ S_ 0]) (t := 24) ?hr ?_; (case hd => rfl); (case hg => rfl); (case hr => first | (go_simp; done) | (go_simp; rfl))
       intro gb400 hg w36 hbox hb
       replace BK377 := sqO_ BK377 (by (with_reducible repeat (first | apply kN_ | apply kD_ | apply kA_)); exact BK377.out) hg hb
       obtain ⟨BK377, NB377_400, NB400_377⟩ := BK377
       replace BK378 := sqO_ BK378 (by (with_reducible repeat (first | apply kN_ | apply kD_ | apply kA_)); exact BK378.out) hg hb
       obtain ⟨BK378, NB378_400, NB400_378⟩ := BK378
       replace BK384 := sqO_ BK384 (by (with_reducible repeat (first | apply kN_ | apply kD_ | apply kA_)); exact BK384.out) hg hb
       obtain ⟨BK384, NB384_400, NB400_384⟩ := BK384
       replace BK390 := sqO_ BK390 (by (with_reducible repeat (first | apply kN_ | apply kD_ | apply kA_)); exact BK390.out) hg hb
       obtain ⟨BK390, NB390_400, NB400_390⟩ := BK390
       replace HB := sqN_ (by repeat (first | (with_reducible first | exact HB.out | apply bA_ | apply bN_ | apply bD_ | refine bS_ ?_ ‹Aside0 _›.out) | exact HB.out)) hg hb
       obtain ⟨HB, GE400⟩ := HB
       have GW400 := GE400
       have BK400 := Aside0.mk hbox
       clear hb hbox hg
       refine hK.out _ _ ⟨(blk_cell BK377.out 0).trans rfl, (blk_cell BK377.out 1).trans rfl, (blk_cell BK377.out 2).trans rfl, (blk_cell BK377.out 3).trans rfl, (blk_cell BK378.out 0).trans rfl, (blk_cell BK378.out 1).trans rfl, (blk_cell BK378.out 2).trans rfl, (blk_cell BK378.out 3).trans rfl⟩ (fun hHeld => ?_)
       clear hK K
       refine norm_ (a' := ?_) ?_ ?_
       rotate_left
       ·show Act.put _ (some 16) _ = _
        simp only [Act.put, sA_, sB_, sC_, i64_w, i32_w]
        rfl
       exact norm_ (by first | (simp only [putAll, Act.put, sA_, sB_, sC_]; done) | (simp only [putAll, Act.put, sA_, sB_, sC_]; rfl)) (hJ1_3_5 (gb400) _ ⟨hHeld, (by (with_reducible repeat (first | apply kN_ | apply kD_ | apply kA_)); exact BK377.out), (by (with_reducible repeat (first | apply kN_ | apply kD_ | apply kA_)); exact BK378.out), (by (with_reducible repeat (first | apply kN_ | apply kD_ | apply kA_)); exact BK384.out), (by (with_reducible repeat (first | apply kN_ | apply kD_ | apply kA_)); exact BK390.out), (by (with_reducible repeat (first | apply kN_ | apply kD_ | apply kA_)); exact BK400.out), GW400.out, GE400.out, NB377_400.out, NB400_377.out, NB378_400.out, NB400_378.out, NB384_400.out, NB400_384.out, NB390_400.out, NB400_390.out, (by repeat (first | (with_reducible first | exact HB.out | apply bA_ | apply bN_ | apply bD_ | refine bS_ ?_ ‹Aside0 _›.out) | exact HB.out))⟩)
      skip
      rintro ⟨gb399, gb400⟩ w36 ⟨hS_, h0_, h1_, h2_, h3_, h4_, h5_, h6_, h7_, h8_, h9_, h10_, h11_, h12_, h13_, h14_, h15_, h16_, h17_, h18_, h19_, h20_, h21_, h22_, h23_, h24_, h25_, h26_, h27_, h28_⟩
      have n0_ : Aside0 (w36.heap[gb377]? = some (.cells #[I_ S_ a0_0, I_ U_ a0_1, .string a0_2, I_ S_ a0_3] 24 (0, 0))) := ⟨h0_⟩
      have n1_ : Aside0 (w36.heap[gb378]? = some (.cells #[I_ S_ a1_0, I_ U_ a1_1, .string a1_2, I_ S_ a1_3] 24 (0, 0))) := ⟨h1_⟩
      have n2_ : Aside0 (w36.heap[gb384]? = some (.cells #[I_ S_ t379, I_ U_ t380, .string t381, I_ S_ t382] 24 (0, 0))) := ⟨h2_⟩
      have n3_ : Aside0 (w36.heap[gb390]? = some (.cells #[I_ S_ t385, I_ U_ t386, .string t387, I_ S_ t388] 24 (0, 0))) := ⟨h3_⟩
      have n4_ : Aside0 (w36.heap[gb399]? = some (.cells #[I_ S_ 0, I_ U_ 0, .string ⟨#[]⟩, I_ S_ 0] 24 (0, 0))) := ⟨h4_⟩
      have n5_ : Aside0 (w36.heap[gb400]? = some (.cells #[I_ S_ 0, I_ U_ 0, .string ⟨#[]⟩, I_ S_ 0] 24 (0, 0))) := ⟨h5_⟩
      have n6_ : Aside0 (w.heap.size ≤ gb399) := ⟨h6_⟩
      have n7_ : Aside0 (w.heap.size ≤ gb399) := ⟨h7_⟩
      have n8_ : Aside0 (gb377 ≠ gb399) := ⟨h8_⟩
      have n9_ : Aside0 (gb399 ≠ gb377) := ⟨h9_⟩
      have n10_ : Aside0 (gb378 ≠ gb399) := ⟨h10_⟩
      have n11_ : Aside0 (gb399 ≠ gb378) := ⟨h11_⟩
      have n12_ : Aside0 (gb384 ≠ gb399) := ⟨h12_⟩
      have n13_ : Aside0 (gb399 ≠ gb384) := ⟨h13_⟩
      have n14_ : Aside0 (gb390 ≠ gb399) := ⟨h14_⟩
      have n15_ : Aside0 (gb399 ≠ gb390) := ⟨h15_⟩
      have n16_ : Aside0 (gb400 ≠ gb399) := ⟨h16_⟩
      have n17_ : Aside0 (gb399 ≠ gb400) := ⟨h17_⟩
      have n18_ : Aside0 (w.heap.size ≤ gb400) := ⟨h18_⟩
      have n19_ : Aside0 (w.heap.size ≤ gb400) := ⟨h19_⟩
      have n20_ : Aside0 (gb377 ≠ gb400) := ⟨h20_⟩
      have n21_ : Aside0 (gb400 ≠ gb377) := ⟨h21_⟩
      have n22_ : Aside0 (gb378 ≠ gb400) := ⟨h22_⟩
      have n23_ : Aside0 (gb400 ≠ gb378) := ⟨h23_⟩
      have n24_ : Aside0 (gb384 ≠ gb400) := ⟨h24_⟩
      have n25_ : Aside0 (gb400 ≠ gb384) := ⟨h25_⟩
      have n26_ : Aside0 (gb390 ≠ gb400) := ⟨h26_⟩
      have n27_ : Aside0 (gb400 ≠ gb390) := ⟨h27_⟩
      have n28_ : Aside0 (Below w.heap.size w w36) := ⟨h28_⟩
      clear BK377
      clear BK378
      clear BK384
      clear BK390
      clear HB
      clear h0_ h1_ h2_ h3_ h4_ h5_ h6_ h7_ h8_ h9_ h10_ h11_ h12_ h13_ h14_ h15_ h16_ h17_ h18_ h19_ h20_ h21_ h22_ h23_ h24_ h25_ h26_ h27_ h28_
      have BK377 := n0_
      have BK378 := n1_
      have BK384 := n2_
      have BK390 := n3_
      have BK399 := n4_
      have BK400 := n5_
      have GW399 := n6_
      have GE399 := n7_
      have NB377_399 := n8_
      have NB399_377 := n9_
      have NB378_399 := n10_
      have NB399_378 := n11_
      have NB384_399 := n12_
      have NB399_384 := n13_
      have NB390_399 := n14_
      have NB399_390 := n15_
      have NB400_399 := n16_
      have NB399_400 := n17_
      have GW400 := n18_
      have GE400 := n19_
      have NB377_400 := n20_
      have NB400_377 := n21_
      have NB378_400 := n22_
      have NB400_378 := n23_
      have NB384_400 := n24_
      have NB400_384 := n25_
      have NB390_400 := n26_
      have NB400_390 := n27_
      have HB := n28_
      clear n0_ n1_ n2_ n3_ n4_ n5_ n6_ n7_ n8_ n9_ n10_ n11_ n12_ n13_ n14_ n15_ n16_ n17_ n18_ n19_ n20_ n21_ n22_ n23_ n24_ n25_ n26_ n27_ n28_
      have hHeld : w36.cell? ⟨gb377, 0, none⟩ = some (I_ S_ a0_0) ∧ w36.cell? ⟨gb377, 1, none⟩ = some (I_ U_ a0_1) ∧ w36.cell? ⟨gb377, 2, none⟩ = some (.string a0_2) ∧ w36.cell? ⟨gb377, 3, none⟩ = some (I_ S_ a0_3) ∧ w36.cell? ⟨gb378, 0, none⟩ = some (I_ S_ a1_0) ∧ w36.cell? ⟨gb378, 1, none⟩ = some (I_ U_ a1_1) ∧ w36.cell? ⟨gb378, 2, none⟩ = some (.string a1_2) ∧ w36.cell? ⟨gb378, 3, none⟩ = some (I_ S_ a1_3) := hS_
      refine norm_ (a' := ?_) ?_ ?_
      rotate_left
      ·simp only [putAll, Act.put, sA_, sB_, sC_]
       rfl
      refine one_ (i := 3) (N := some 51) (tf 8 63) rfl rfl (one_of HT_.out (by kernel_rfl)) (by decide) (fun K hK => ?_)
      refine goes_ Tryd.func11 (by kernel_rfl) rfl #[.agg #[I_ S_ a1_0, I_ U_ a1_1, .string a1_2, I_ S_ a1_3]] (by rfl) rfl rfl (by (try simp only [List.map_toArray, List.map_cons, List.map_nil]); first | done | rfl) ?_
      with_reducible refine (platformfwlaw08_some.calls kj5 a1_0 a1_1 a1_2 a1_3 t395 t396 t397 t398 _ A13.out).mono ?_
      rintro e w37 ⟨rfl, hb⟩
      refine ⟨_, rfl, ?_⟩
      replace BK377 := sqB_ BK377 (by (with_reducible repeat (first | apply kN_ | apply kD_ | apply kA_)); exact BK377.out) hb
      replace BK378 := sqB_ BK378 (by (with_reducible repeat (first | apply kN_ | apply kD_ | apply kA_)); exact BK378.out) hb
      replace BK384 := sqB_ BK384 (by (with_reducible repeat (first | apply kN_ | apply kD_ | apply kA_)); exact BK384.out) hb
      replace BK390 := sqB_ BK390 (by (with_reducible repeat (first | apply kN_ | apply kD_ | apply kA_)); exact BK390.out) hb
      replace BK399 := sqB_ BK399 (by (with_reducible repeat (first | apply kN_ | apply kD_ | apply kA_)); exact BK399.out) hb
      replace BK400 := sqB_ BK400 (by (with_reducible repeat (first | apply kN_ | apply kD_ | apply kA_)); exact BK400.out) hb
      replace HB := sqS_ (by repeat (first | (with_reducible first | exact HB.out | apply bA_ | apply bN_ | apply bD_ | refine bS_ ?_ ‹Aside0 _›.out) | exact HB.out)) hb
      (try clear hb)
      (try clear hb2)
      (try clear hk)
      (try clear hi)
      refine hK.out _ _ ⟨(blk_cell BK377.out 0).trans rfl, (blk_cell BK377.out 1).trans rfl, (blk_cell BK377.out 2).trans rfl, (blk_cell BK377.out 3).trans rfl, (blk_cell BK378.out 0).trans rfl, (blk_cell BK378.out 1).trans rfl, (blk_cell BK378.out 2).trans rfl, (blk_cell BK378.out 3).trans rfl⟩ (fun hHeld => ?_)
      clear hK K
      refine norm_ (a' := ?_) ?_ ?_
      rotate_left
      ·show Act.put _ (some 51) _ = _
       simp only [Act.put, sA_, sB_, sC_, i64_w, i32_w]
       rfl
      exact norm_ (by first | (simp only [putAll, Act.put, sA_, sB_, sC_]; done) | (simp only [putAll, Act.put, sA_, sB_, sC_]; rfl)) (hJ1_3_4_5 (gb399, gb400) _ ⟨hHeld, (by (with_reducible repeat (first | apply kN_ | apply kD_ | apply kA_)); exact BK377.out), (by (with_reducible repeat (first | apply kN_ | apply kD_ | apply kA_)); exact BK378.out), (by (with_reducible repeat (first | apply kN_ | apply kD_ | apply kA_)); exact BK384.out), (by (with_reducible repeat (first | apply kN_ | apply kD_ | apply kA_)); exact BK390.out), (by (with_reducible repeat (first | apply kN_ | apply kD_ | apply kA_)); exact BK399.out), (by (with_reducible repeat (first | apply kN_ | apply kD_ | apply kA_)); exact BK400.out), GW399.out, GE399.out, NB377_399.out, NB399_377.out, NB378_399.out, NB399_378.out, NB384_399.out, NB399_384.out, NB390_399.out, NB399_390.out, NB400_399.out, NB399_400.out, GW400.out, GE400.out, NB377_400.out, NB400_377.out, NB378_400.out, NB400_378.out, NB384_400.out, NB400_384.out, NB390_400.out, NB400_390.out, (by repeat (first | (with_reducible first | exact HB.out | apply bA_ | apply bN_ | apply bD_ | refine bS_ ?_ ‹Aside0 _›.out) | exact HB.out))⟩)
     skip
     rintro gb400 w36 ⟨hS_, h0_, h1_, h2_, h3_, h4_, h5_, h6_, h7_, h8_, h9_, h10_, h11_, h12_, h13_, h14_, h15_⟩
     have n0_ : Aside0 (w36.heap[gb377]? = some (.cells #[I_ S_ a0_0, I_ U_ a0_1, .string a0_2, I_ S_ a0_3] 24 (0, 0))) := ⟨h0_⟩
     have n1_ : Aside0 (w36.heap[gb378]? = some (.cells #[I_ S_ a1_0, I_ U_ a1_1, .string a1_2, I_ S_ a1_3] 24 (0, 0))) := ⟨h1_⟩
     have n2_ : Aside0 (w36.heap[gb384]? = some (.cells #[I_ S_ t379, I_ U_ t380, .string t381, I_ S_ t382] 24 (0, 0))) := ⟨h2_⟩
     have n3_ : Aside0 (w36.heap[gb390]? = some (.cells #[I_ S_ t385, I_ U_ t386, .string t387, I_ S_ t388] 24 (0, 0))) := ⟨h3_⟩
     have n4_ : Aside0 (w36.heap[gb400]? = some (.cells #[I_ S_ 0, I_ U_ 0, .string ⟨#[]⟩, I_ S_ 0] 24 (0, 0))) := ⟨h4_⟩
     have n5_ : Aside0 (w.heap.size ≤ gb400) := ⟨h5_⟩
     have n6_ : Aside0 (w.heap.size ≤ gb400) := ⟨h6_⟩
     have n7_ : Aside0 (gb377 ≠ gb400) := ⟨h7_⟩
     have n8_ : Aside0 (gb400 ≠ gb377) := ⟨h8_⟩
     have n9_ : Aside0 (gb378 ≠ gb400) := ⟨h9_⟩
     have n10_ : Aside0 (gb400 ≠ gb378) := ⟨h10_⟩
     have n11_ : Aside0 (gb384 ≠ gb400) := ⟨h11_⟩
     have n12_ : Aside0 (gb400 ≠ gb384) := ⟨h12_⟩
     have n13_ : Aside0 (gb390 ≠ gb400) := ⟨h13_⟩
     have n14_ : Aside0 (gb400 ≠ gb390) := ⟨h14_⟩
     have n15_ : Aside0 (Below w.heap.size w w36) := ⟨h15_⟩
     clear BK377
     clear BK378
     clear BK384
     clear BK390
     clear HB
     clear h0_ h1_ h2_ h3_ h4_ h5_ h6_ h7_ h8_ h9_ h10_ h11_ h12_ h13_ h14_ h15_
     have BK377 := n0_
     have BK378 := n1_
     have BK384 := n2_
     have BK390 := n3_
     have BK400 := n4_
     have GW400 := n5_
     have GE400 := n6_
     have NB377_400 := n7_
     have NB400_377 := n8_
     have NB378_400 := n9_
     have NB400_378 := n10_
     have NB384_400 := n11_
     have NB400_384 := n12_
     have NB390_400 := n13_
     have NB400_390 := n14_
     have HB := n15_
     clear n0_ n1_ n2_ n3_ n4_ n5_ n6_ n7_ n8_ n9_ n10_ n11_ n12_ n13_ n14_ n15_
     have hHeld : w36.cell? ⟨gb377, 0, none⟩ = some (I_ S_ a0_0) ∧ w36.cell? ⟨gb377, 1, none⟩ = some (I_ U_ a0_1) ∧ w36.cell? ⟨gb377, 2, none⟩ = some (.string a0_2) ∧ w36.cell? ⟨gb377, 3, none⟩ = some (I_ S_ a0_3) ∧ w36.cell? ⟨gb378, 0, none⟩ = some (I_ S_ a1_0) ∧ w36.cell? ⟨gb378, 1, none⟩ = some (I_ U_ a1_1) ∧ w36.cell? ⟨gb378, 2, none⟩ = some (.string a1_2) ∧ w36.cell? ⟨gb378, 3, none⟩ = some (I_ S_ a1_3) := hS_
     refine norm_ (a' := ?_) ?_ ?_
     rotate_left
     ·simp only [putAll, Act.put, sA_, sB_, sC_]
      rfl
     refine one_ (i := 4) (N := some 15) (tf 8 63) rfl rfl (one_of HT_.out (by kernel_rfl)) (by decide) (fun K hK => ?_)
     refine box_step ?hg (N := 15) ?hd (cs := #[I_ S_ 0, I_ U_ 0, .string ⟨#[]⟩, I_ S_ 0]) (t := 24) ?hr ?_; (case hd => rfl); (case hg => rfl); (case hr => first | (go_simp; done) | (go_simp; rfl))
     intro gb399 hg w37 hbox hb
     replace BK377 := sqO_ BK377 (by (with_reducible repeat (first | apply kN_ | apply kD_ | apply kA_)); exact BK377.out) hg hb
     obtain ⟨BK377, NB377_399, NB399_377⟩ := BK377
     replace BK378 := sqO_ BK378 (by (with_reducible repeat (first | apply kN_ | apply kD_ | apply kA_)); exact BK378.out) hg hb
     obtain ⟨BK378, NB378_399, NB399_378⟩ := BK378
     replace BK384 := sqO_ BK384 (by (with_reducible repeat (first | apply kN_ | apply kD_ | apply kA_)); exact BK384.out) hg hb
     obtain ⟨BK384, NB384_399, NB399_384⟩ := BK384
     replace BK390 := sqO_ BK390 (by (with_reducible repeat (first | apply kN_ | apply kD_ | apply kA_)); exact BK390.out) hg hb
     obtain ⟨BK390, NB390_399, NB399_390⟩ := BK390
     replace BK400 := sqO_ BK400 (by (with_reducible repeat (first | apply kN_ | apply kD_ | apply kA_)); exact BK400.out) hg hb
     obtain ⟨BK400, NB400_399, NB399_400⟩ := BK400
     replace HB := sqN_ (by repeat (first | (with_reducible first | exact HB.out | apply bA_ | apply bN_ | apply bD_ | refine bS_ ?_ ‹Aside0 _›.out) | exact HB.out)) hg hb
     obtain ⟨HB, GE399⟩ := HB
     have GW399 := GE399
     have BK399 := Aside0.mk hbox
     clear hb hbox hg
     refine hK.out _ _ ⟨(blk_cell BK377.out 0).trans rfl, (blk_cell BK377.out 1).trans rfl, (blk_cell BK377.out 2).trans rfl, (blk_cell BK377.out 3).trans rfl, (blk_cell BK378.out 0).trans rfl, (blk_cell BK378.out 1).trans rfl, (blk_cell BK378.out 2).trans rfl, (blk_cell BK378.out 3).trans rfl⟩ (fun hHeld => ?_)
     clear hK K
     refine norm_ (a' := ?_) ?_ ?_
     rotate_left
     ·show Act.put _ (some 15) _ = _
      simp only [Act.put, sA_, sB_, sC_, i64_w, i32_w]
      rfl
     exact norm_ (by first | (simp only [putAll, Act.put, sA_, sB_, sC_]; done) | (simp only [putAll, Act.put, sA_, sB_, sC_]; rfl)) (hJ1_3_4_5 (gb399, gb400) _ ⟨hHeld, (by (with_reducible repeat (first | apply kN_ | apply kD_ | apply kA_)); exact BK377.out), (by (with_reducible repeat (first | apply kN_ | apply kD_ | apply kA_)); exact BK378.out), (by (with_reducible repeat (first | apply kN_ | apply kD_ | apply kA_)); exact BK384.out), (by (with_reducible repeat (first | apply kN_ | apply kD_ | apply kA_)); exact BK390.out), (by (with_reducible repeat (first | apply kN_ | apply kD_ | apply kA_)); exact BK399.out), (by (with_reducible repeat (first | apply kN_ | apply kD_ | apply kA_)); exact BK400.out), GW399.out, GE399.out, NB377_399.out, NB399_377.out, NB378_399.out, NB399_378.out, NB384_399.out, NB399_384.out, NB390_399.out, NB399_390.out, NB400_399.out, NB399_400.out, GW400.out, GE400.out, NB377_400.out, NB400_377.out, NB378_400.out, NB400_378.out, NB384_400.out, NB400_384.out, NB390_400.out, NB400_390.out, (by repeat (first | (with_reducible first | exact HB.out | apply bA_ | apply bN_ | apply bD_ | refine bS_ ?_ ‹Aside0 _›.out) | exact HB.out))⟩)
    skip
    rintro gb399 w36 ⟨hS_, h0_, h1_, h2_, h3_, h4_, h5_, h6_, h7_, h8_, h9_, h10_, h11_, h12_, h13_, h14_, h15_⟩
    have n0_ : Aside0 (w36.heap[gb377]? = some (.cells #[I_ S_ a0_0, I_ U_ a0_1, .string a0_2, I_ S_ a0_3] 24 (0, 0))) := ⟨h0_⟩
    have n1_ : Aside0 (w36.heap[gb378]? = some (.cells #[I_ S_ a1_0, I_ U_ a1_1, .string a1_2, I_ S_ a1_3] 24 (0, 0))) := ⟨h1_⟩
    have n2_ : Aside0 (w36.heap[gb384]? = some (.cells #[I_ S_ t379, I_ U_ t380, .string t381, I_ S_ t382] 24 (0, 0))) := ⟨h2_⟩
    have n3_ : Aside0 (w36.heap[gb390]? = some (.cells #[I_ S_ t385, I_ U_ t386, .string t387, I_ S_ t388] 24 (0, 0))) := ⟨h3_⟩
    have n4_ : Aside0 (w36.heap[gb399]? = some (.cells #[I_ S_ 0, I_ U_ 0, .string ⟨#[]⟩, I_ S_ 0] 24 (0, 0))) := ⟨h4_⟩
    have n5_ : Aside0 (w.heap.size ≤ gb399) := ⟨h5_⟩
    have n6_ : Aside0 (w.heap.size ≤ gb399) := ⟨h6_⟩
    have n7_ : Aside0 (gb377 ≠ gb399) := ⟨h7_⟩
    have n8_ : Aside0 (gb399 ≠ gb377) := ⟨h8_⟩
    have n9_ : Aside0 (gb378 ≠ gb399) := ⟨h9_⟩
    have n10_ : Aside0 (gb399 ≠ gb378) := ⟨h10_⟩
    have n11_ : Aside0 (gb384 ≠ gb399) := ⟨h11_⟩
    have n12_ : Aside0 (gb399 ≠ gb384) := ⟨h12_⟩
    have n13_ : Aside0 (gb390 ≠ gb399) := ⟨h13_⟩
    have n14_ : Aside0 (gb399 ≠ gb390) := ⟨h14_⟩
    have n15_ : Aside0 (Below w.heap.size w w36) := ⟨h15_⟩
    clear BK377
    clear BK378
    clear BK384
    clear BK390
    clear HB
    clear h0_ h1_ h2_ h3_ h4_ h5_ h6_ h7_ h8_ h9_ h10_ h11_ h12_ h13_ h14_ h15_
    have BK377 := n0_
    have BK378 := n1_
    have BK384 := n2_
    have BK390 := n3_
    have BK399 := n4_
    have GW399 := n5_
    have GE399 := n6_
    have NB377_399 := n7_
    have NB399_377 := n8_
    have NB378_399 := n9_
    have NB399_378 := n10_
    have NB384_399 := n11_
    have NB399_384 := n12_
    have NB390_399 := n13_
    have NB399_390 := n14_
    have HB := n15_
    clear n0_ n1_ n2_ n3_ n4_ n5_ n6_ n7_ n8_ n9_ n10_ n11_ n12_ n13_ n14_ n15_
    have hHeld : w36.cell? ⟨gb377, 0, none⟩ = some (I_ S_ a0_0) ∧ w36.cell? ⟨gb377, 1, none⟩ = some (I_ U_ a0_1) ∧ w36.cell? ⟨gb377, 2, none⟩ = some (.string a0_2) ∧ w36.cell? ⟨gb377, 3, none⟩ = some (I_ S_ a0_3) ∧ w36.cell? ⟨gb378, 0, none⟩ = some (I_ S_ a1_0) ∧ w36.cell? ⟨gb378, 1, none⟩ = some (I_ U_ a1_1) ∧ w36.cell? ⟨gb378, 2, none⟩ = some (.string a1_2) ∧ w36.cell? ⟨gb378, 3, none⟩ = some (I_ S_ a1_3) := hS_
    refine norm_ (a' := ?_) ?_ ?_
    rotate_left
    ·simp only [putAll, Act.put, sA_, sB_, sC_]
     rfl
    refine one_ (i := 5) (N := some 16) (tf 8 63) rfl rfl (one_of HT_.out (by kernel_rfl)) (by decide) (fun K hK => ?_)
    refine box_step ?hg (N := 16) ?hd (cs := #[I_ S_ 0, I_ U_ 0, .string ⟨#[]⟩, I_ S_ 0]) (t := 24) ?hr ?_; (case hd => rfl); (case hg => rfl); (case hr => first | (go_simp; done) | (go_simp; rfl))
    intro gb400 hg w37 hbox hb
    replace BK377 := sqO_ BK377 (by (with_reducible repeat (first | apply kN_ | apply kD_ | apply kA_)); exact BK377.out) hg hb
    obtain ⟨BK377, NB377_400, NB400_377⟩ := BK377
    replace BK378 := sqO_ BK378 (by (with_reducible repeat (first | apply kN_ | apply kD_ | apply kA_)); exact BK378.out) hg hb
    obtain ⟨BK378, NB378_400, NB400_378⟩ := BK378
    replace BK384 := sqO_ BK384 (by (with_reducible repeat (first | apply kN_ | apply kD_ | apply kA_)); exact BK384.out) hg hb
    obtain ⟨BK384, NB384_400, NB400_384⟩ := BK384
    replace BK390 := sqO_ BK390 (by (with_reducible repeat (first | apply kN_ | apply kD_ | apply kA_)); exact BK390.out) hg hb
    obtain ⟨BK390, NB390_400, NB400_390⟩ := BK390
    replace BK399 := sqO_ BK399 (by (with_reducible repeat (first | apply kN_ | apply kD_ | apply kA_)); exact BK399.out) hg hb
    obtain ⟨BK399, NB399_400, NB400_399⟩ := BK399
    replace HB := sqN_ (by repeat (first | (with_reducible first | exact HB.out | apply bA_ | apply bN_ | apply bD_ | refine bS_ ?_ ‹Aside0 _›.out) | exact HB.out)) hg hb
    obtain ⟨HB, GE400⟩ := HB
    have GW400 := GE400
    have BK400 := Aside0.mk hbox
    clear hb hbox hg
    refine hK.out _ _ ⟨(blk_cell BK377.out 0).trans rfl, (blk_cell BK377.out 1).trans rfl, (blk_cell BK377.out 2).trans rfl, (blk_cell BK377.out 3).trans rfl, (blk_cell BK378.out 0).trans rfl, (blk_cell BK378.out 1).trans rfl, (blk_cell BK378.out 2).trans rfl, (blk_cell BK378.out 3).trans rfl⟩ (fun hHeld => ?_)
    clear hK K
    refine norm_ (a' := ?_) ?_ ?_
    rotate_left
    ·show Act.put _ (some 16) _ = _
     simp only [Act.put, sA_, sB_, sC_, i64_w, i32_w]
     rfl
    exact norm_ (by first | (simp only [putAll, Act.put, sA_, sB_, sC_]; done) | (simp only [putAll, Act.put, sA_, sB_, sC_]; rfl)) (hJ1_3_4_5 (gb399, gb400) _ ⟨hHeld, (by (with_reducible repeat (first | apply kN_ | apply kD_ | apply kA_)); exact BK377.out), (by (with_reducible repeat (first | apply kN_ | apply kD_ | apply kA_)); exact BK378.out), (by (with_reducible repeat (first | apply kN_ | apply kD_ | apply kA_)); exact BK384.out), (by (with_reducible repeat (first | apply kN_ | apply kD_ | apply kA_)); exact BK390.out), (by (with_reducible repeat (first | apply kN_ | apply kD_ | apply kA_)); exact BK399.out), (by (with_reducible repeat (first | apply kN_ | apply kD_ | apply kA_)); exact BK400.out), GW399.out, GE399.out, NB377_399.out, NB399_377.out, NB378_399.out, NB399_378.out, NB384_399.out, NB399_384.out, NB390_399.out, NB399_390.out, NB400_399.out, NB399_400.out, GW400.out, GE400.out, NB377_400.out, NB400_377.out, NB378_400.out, NB400_378.out, NB384_400.out, NB400_384.out, NB390_400.out, NB400_390.out, (by repeat (first | (with_reducible first | exact HB.out | apply bA_ | apply bN_ | apply bD_ | refine bS_ ?_ ‹Aside0 _›.out) | exact HB.out))⟩)
   rintro ⟨gb399, gb400⟩ w37 ⟨hS_, h0_, h1_, h2_, h3_, h4_, h5_, h6_, h7_, h8_, h9_, h10_, h11_, h12_, h13_, h14_, h15_, h16_, h17_, h18_, h19_, h20_, h21_, h22_, h23_, h24_, h25_, h26_, h27_, h28_⟩
   have n0_ : Aside0 (w37.heap[gb377]? = some (.cells #[I_ S_ a0_0, I_ U_ a0_1, .string a0_2, I_ S_ a0_3] 24 (0, 0))) := ⟨h0_⟩
   have n1_ : Aside0 (w37.heap[gb378]? = some (.cells #[I_ S_ a1_0, I_ U_ a1_1, .string a1_2, I_ S_ a1_3] 24 (0, 0))) := ⟨h1_⟩
   have n2_ : Aside0 (w37.heap[gb384]? = some (.cells #[I_ S_ t379, I_ U_ t380, .string t381, I_ S_ t382] 24 (0, 0))) := ⟨h2_⟩
   have n3_ : Aside0 (w37.heap[gb390]? = some (.cells #[I_ S_ t385, I_ U_ t386, .string t387, I_ S_ t388] 24 (0, 0))) := ⟨h3_⟩
   have n4_ : Aside0 (w37.heap[gb399]? = some (.cells #[I_ S_ 0, I_ U_ 0, .string ⟨#[]⟩, I_ S_ 0] 24 (0, 0))) := ⟨h4_⟩
   have n5_ : Aside0 (w37.heap[gb400]? = some (.cells #[I_ S_ 0, I_ U_ 0, .string ⟨#[]⟩, I_ S_ 0] 24 (0, 0))) := ⟨h5_⟩
   have n6_ : Aside0 (w.heap.size ≤ gb399) := ⟨h6_⟩
   have n7_ : Aside0 (w.heap.size ≤ gb399) := ⟨h7_⟩
   have n8_ : Aside0 (gb377 ≠ gb399) := ⟨h8_⟩
   have n9_ : Aside0 (gb399 ≠ gb377) := ⟨h9_⟩
   have n10_ : Aside0 (gb378 ≠ gb399) := ⟨h10_⟩
   have n11_ : Aside0 (gb399 ≠ gb378) := ⟨h11_⟩
   have n12_ : Aside0 (gb384 ≠ gb399) := ⟨h12_⟩
   have n13_ : Aside0 (gb399 ≠ gb384) := ⟨h13_⟩
   have n14_ : Aside0 (gb390 ≠ gb399) := ⟨h14_⟩
   have n15_ : Aside0 (gb399 ≠ gb390) := ⟨h15_⟩
   have n16_ : Aside0 (gb400 ≠ gb399) := ⟨h16_⟩
   have n17_ : Aside0 (gb399 ≠ gb400) := ⟨h17_⟩
   have n18_ : Aside0 (w.heap.size ≤ gb400) := ⟨h18_⟩
   have n19_ : Aside0 (w.heap.size ≤ gb400) := ⟨h19_⟩
   have n20_ : Aside0 (gb377 ≠ gb400) := ⟨h20_⟩
   have n21_ : Aside0 (gb400 ≠ gb377) := ⟨h21_⟩
   have n22_ : Aside0 (gb378 ≠ gb400) := ⟨h22_⟩
   have n23_ : Aside0 (gb400 ≠ gb378) := ⟨h23_⟩
   have n24_ : Aside0 (gb384 ≠ gb400) := ⟨h24_⟩
   have n25_ : Aside0 (gb400 ≠ gb384) := ⟨h25_⟩
   have n26_ : Aside0 (gb390 ≠ gb400) := ⟨h26_⟩
   have n27_ : Aside0 (gb400 ≠ gb390) := ⟨h27_⟩
   have n28_ : Aside0 (Below w.heap.size w w37) := ⟨h28_⟩
   clear BK377
   clear BK378
   clear BK384
   clear BK390
   clear HB
   clear h0_ h1_ h2_ h3_ h4_ h5_ h6_ h7_ h8_ h9_ h10_ h11_ h12_ h13_ h14_ h15_ h16_ h17_ h18_ h19_ h20_ h21_ h22_ h23_ h24_ h25_ h26_ h27_ h28_
   have BK377 := n0_
   have BK378 := n1_
   have BK384 := n2_
   have BK390 := n3_
   have BK399 := n4_
   have BK400 := n5_
   have GW399 := n6_
   have GE399 := n7_
   have NB377_399 := n8_
   have NB399_377 := n9_
   have NB378_399 := n10_
   have NB399_378 := n11_
   have NB384_399 := n12_
   have NB399_384 := n13_
   have NB390_399 := n14_
   have NB399_390 := n15_
   have NB400_399 := n16_
   have NB399_400 := n17_
   have GW400 := n18_
   have GE400 := n19_
   have NB377_400 := n20_
   have NB400_377 := n21_
   have NB378_400 := n22_
   have NB400_378 := n23_
   have NB384_400 := n24_
   have NB400_384 := n25_
   have NB390_400 := n26_
   have NB400_390 := n27_
   have HB := n28_
   clear n0_ n1_ n2_ n3_ n4_ n5_ n6_ n7_ n8_ n9_ n10_ n11_ n12_ n13_ n14_ n15_ n16_ n17_ n18_ n19_ n20_ n21_ n22_ n23_ n24_ n25_ n26_ n27_ n28_
   have hHeld : w37.cell? ⟨gb377, 0, none⟩ = some (I_ S_ a0_0) ∧ w37.cell? ⟨gb377, 1, none⟩ = some (I_ U_ a0_1) ∧ w37.cell? ⟨gb377, 2, none⟩ = some (.string a0_2) ∧ w37.cell? ⟨gb377, 3, none⟩ = some (I_ S_ a0_3) ∧ w37.cell? ⟨gb378, 0, none⟩ = some (I_ S_ a1_0) ∧ w37.cell? ⟨gb378, 1, none⟩ = some (I_ U_ a1_1) ∧ w37.cell? ⟨gb378, 2, none⟩ = some (.string a1_2) ∧ w37.cell? ⟨gb378, 3, none⟩ = some (I_ S_ a1_3) := hS_
   refine norm_ (a' := ?_) ?_ ?_
   rotate_left
   ·simp only [putAll, Act.put, sA_, sB_, sC_]
    rfl
   refine one_ (i := 6) (N := none) (tf 8 127) rfl rfl (one_of HT_.out (by kernel_rfl)) (by decide) (fun K hK => ?_)
   have hs38 : w37.cell? ⟨gb399, 0, none⟩ = some (I_ S_ 0) := (blk_cell BK399.out 0).trans rfl
   have hfs38 := blk_frozen BK399.out 0
   have hns38_0 := NB377_399.out
   have hns38_1 := NB378_399.out
   have hns38_2 := NB384_399.out
   have hns38_3 := NB390_399.out
   have hns38_5 := NB400_399.out
   have hms38_0 := NB399_377.out
   have hms38_1 := NB399_378.out
   have hms38_2 := NB399_384.out
   have hms38_3 := NB399_390.out
   have hms38_5 := NB399_400.out
   have hs39 : w37.cell? ⟨gb399, 1, none⟩ = some (I_ U_ 0) := (blk_cell BK399.out 1).trans rfl
   have hfs39 := blk_frozen BK399.out 1
   have hns39_0 := NB377_399.out
   have hns39_1 := NB378_399.out
   have hns39_2 := NB384_399.out
   have hns39_3 := NB390_399.out
   have hns39_5 := NB400_399.out
   have hms39_0 := NB399_377.out
   have hms39_1 := NB399_378.out
   have hms39_2 := NB399_384.out
   have hms39_3 := NB399_390.out
   have hms39_5 := NB399_400.out
   have hs40 : w37.cell? ⟨gb399, 2, none⟩ = some (.string ⟨#[]⟩) := (blk_cell BK399.out 2).trans rfl
   have hfs40 := blk_frozen BK399.out 2
   have hns40_0 := NB377_399.out
   have hns40_1 := NB378_399.out
   have hns40_2 := NB384_399.out
   have hns40_3 := NB390_399.out
   have hns40_5 := NB400_399.out
   have hms40_0 := NB399_377.out
   have hms40_1 := NB399_378.out
   have hms40_2 := NB399_384.out
   have hms40_3 := NB399_390.out
   have hms40_5 := NB399_400.out
   have hs41 : w37.cell? ⟨gb399, 3, none⟩ = some (I_ S_ 0) := (blk_cell BK399.out 3).trans rfl
   have hfs41 := blk_frozen BK399.out 3
   have hns41_0 := NB377_399.out
   have hns41_1 := NB378_399.out
   have hns41_2 := NB384_399.out
   have hns41_3 := NB390_399.out
   have hns41_5 := NB400_399.out
   have hms41_0 := NB399_377.out
   have hms41_1 := NB399_378.out
   have hms41_2 := NB399_384.out
   have hms41_3 := NB399_390.out
   have hms41_5 := NB399_400.out
   refine skip_ (w1 := ?_) (by rfl) rfl ?_ ?_
   rotate_left
   ·go_simp
    rfl
   refine hK.out _ _ ⟨((cell_far (p := ⟨gb399, _, none⟩) NB377_399.out _).trans (((cell_far (p := ⟨gb399, _, none⟩) NB377_399.out _).trans (((cell_far (p := ⟨gb399, _, none⟩) NB377_399.out _).trans (((cell_far (p := ⟨gb399, _, none⟩) NB377_399.out _).trans (hHeld.1)))))))), ((cell_far (p := ⟨gb399, _, none⟩) NB377_399.out _).trans (((cell_far (p := ⟨gb399, _, none⟩) NB377_399.out _).trans (((cell_far (p := ⟨gb399, _, none⟩) NB377_399.out _).trans (((cell_far (p := ⟨gb399, _, none⟩) NB377_399.out _).trans (hHeld.2.1)))))))), ((cell_far (p := ⟨gb399, _, none⟩) NB377_399.out _).trans (((cell_far (p := ⟨gb399, _, none⟩) NB377_399.out _).trans (((cell_far (p := ⟨gb399, _, none⟩) NB377_399.out _).trans (((cell_far (p := ⟨gb399, _, none⟩) NB377_399.out _).trans (hHeld.2.2.1)))))))), ((cell_far (p := ⟨gb399, _, none⟩) NB377_399.out _).trans (((cell_far (p := ⟨gb399, _, none⟩) NB377_399.out _).trans (((cell_far (p := ⟨gb399, _, none⟩) NB377_399.out _).trans (((cell_far (p := ⟨gb399, _, none⟩) NB377_399.out _).trans (hHeld.2.2.2.1)))))))), ((cell_far (p := ⟨gb399, _, none⟩) NB378_399.out _).trans (((cell_far (p := ⟨gb399, _, none⟩) NB378_399.out _).trans (((cell_far (p := ⟨gb399, _, none⟩) NB378_399.out _).trans (((cell_far (p := ⟨gb399, _, none⟩) NB378_399.out _).trans (hHeld.2.2.2.2.1)))))))), ((cell_far (p := ⟨gb399, _, none⟩) NB378_399.out _).trans (((cell_far (p := ⟨gb399, _, none⟩) NB378_399.out _).trans (((cell_far (p := ⟨gb399, _, none⟩) NB378_399.out _).trans (((cell_far (p := ⟨gb399, _, none⟩) NB378_399.out _).trans (hHeld.2.2.2.2.2.1)))))))), ((cell_far (p := ⟨gb399, _, none⟩) NB378_399.out _).trans (((cell_far (p := ⟨gb399, _, none⟩) NB378_399.out _).trans (((cell_far (p := ⟨gb399, _, none⟩) NB378_399.out _).trans (((cell_far (p := ⟨gb399, _, none⟩) NB378_399.out _).trans (hHeld.2.2.2.2.2.2.1)))))))), ((cell_far (p := ⟨gb399, _, none⟩) NB378_399.out _).trans (((cell_far (p := ⟨gb399, _, none⟩) NB378_399.out _).trans (((cell_far (p := ⟨gb399, _, none⟩) NB378_399.out _).trans (((cell_far (p := ⟨gb399, _, none⟩) NB378_399.out _).trans (hHeld.2.2.2.2.2.2.2))))))))⟩ (fun hHeld => ?_)
   clear hK K
   refine one_ (i := 7) (N := none) (tf 8 255) rfl rfl (one_of HT_.out (by kernel_rfl)) (by decide) (fun K hK => ?_)
   have hs42 : w37.cell? ⟨gb400, 0, none⟩ = some (I_ S_ 0) := (blk_cell BK400.out 0).trans rfl
   have hfs42 := blk_frozen BK400.out 0
   have hns42_0 := NB377_400.out
   have hns42_1 := NB378_400.out
   have hns42_2 := NB384_400.out
   have hns42_3 := NB390_400.out
   have hns42_4 := NB399_400.out
   have hms42_0 := NB400_377.out
   have hms42_1 := NB400_378.out
   have hms42_2 := NB400_384.out
   have hms42_3 := NB400_390.out
   have hms42_4 := NB400_399.out
   have hs43 : w37.cell? ⟨gb400, 1, none⟩ = some (I_ U_ 0) := (blk_cell BK400.out 1).trans rfl
   have hfs43 := blk_frozen BK400.out 1
   have hns43_0 := NB377_400.out
   have hns43_1 := NB378_400.out
   have hns43_2 := NB384_400.out
   have hns43_3 := NB390_400.out
   have hns43_4 := NB399_400.out
   have hms43_0 := NB400_377.out
   have hms43_1 := NB400_378.out
   have hms43_2 := NB400_384.out
   have hms43_3 := NB400_390.out
   have hms43_4 := NB400_399.out
   have hs44 : w37.cell? ⟨gb400, 2, none⟩ = some (.string ⟨#[]⟩) := (blk_cell BK400.out 2).trans rfl
   have hfs44 := blk_frozen BK400.out 2
   have hns44_0 := NB377_400.out
   have hns44_1 := NB378_400.out
   have hns44_2 := NB384_400.out
   have hns44_3 := NB390_400.out
   have hns44_4 := NB399_400.out
   have hms44_0 := NB400_377.out
   have hms44_1 := NB400_378.out
   have hms44_2 := NB400_384.out
   have hms44_3 := NB400_390.out
   have hms44_4 := NB400_399.out
   have hs45 : w37.cell? ⟨gb400, 3, none⟩ = some (I_ S_ 0) := (blk_cell BK400.out 3).trans rfl
   have hfs45 := blk_frozen BK400.out 3
   have hns45_0 := NB377_400.out
   have hns45_1 := NB378_400.out
   have hns45_2 := NB384_400.out
   have hns45_3 := NB390_400.out
   have hns45_4 := NB399_400.out
   have hms45_0 := NB400_377.out
   have hms45_1 := NB400_378.out
   have hms45_2 := NB400_384.out
   have hms45_3 := NB400_390.out
   have hms45_4 := NB400_399.out
   refine skip_ (w1 := ?_) (by rfl) rfl ?_ ?_
   rotate_left
   ·go_simp
    rfl
   refine hK.out _ _ ⟨((cell_far (p := ⟨gb400, _, none⟩) NB377_400.out _).trans (((cell_far (p := ⟨gb400, _, none⟩) NB377_400.out _).trans (((cell_far (p := ⟨gb400, _, none⟩) NB377_400.out _).trans (((cell_far (p := ⟨gb400, _, none⟩) NB377_400.out _).trans (hHeld.1)))))))), ((cell_far (p := ⟨gb400, _, none⟩) NB377_400.out _).trans (((cell_far (p := ⟨gb400, _, none⟩) NB377_400.out _).trans (((cell_far (p := ⟨gb400, _, none⟩) NB377_400.out _).trans (((cell_far (p := ⟨gb400, _, none⟩) NB377_400.out _).trans (hHeld.2.1)))))))), ((cell_far (p := ⟨gb400, _, none⟩) NB377_400.out _).trans (((cell_far (p := ⟨gb400, _, none⟩) NB377_400.out _).trans (((cell_far (p := ⟨gb400, _, none⟩) NB377_400.out _).trans (((cell_far (p := ⟨gb400, _, none⟩) NB377_400.out _).trans (hHeld.2.2.1)))))))), ((cell_far (p := ⟨gb400, _, none⟩) NB377_400.out _).trans (((cell_far (p := ⟨gb400, _, none⟩) NB377_400.out _).trans (((cell_far (p := ⟨gb400, _, none⟩) NB377_400.out _).trans (((cell_far (p := ⟨gb400, _, none⟩) NB377_400.out _).trans (hHeld.2.2.2.1)))))))), ((cell_far (p := ⟨gb400, _, none⟩) NB378_400.out _).trans (((cell_far (p := ⟨gb400, _, none⟩) NB378_400.out _).trans (((cell_far (p := ⟨gb400, _, none⟩) NB378_400.out _).trans (((cell_far (p := ⟨gb400, _, none⟩) NB378_400.out _).trans (hHeld.2.2.2.2.1)))))))), ((cell_far (p := ⟨gb400, _, none⟩) NB378_400.out _).trans (((cell_far (p := ⟨gb400, _, none⟩) NB378_400.out _).trans (((cell_far (p := ⟨gb400, _, none⟩) NB378_400.out _).trans (((cell_far (p := ⟨gb400, _, none⟩) NB378_400.out _).trans (hHeld.2.2.2.2.2.1)))))))), ((cell_far (p := ⟨gb400, _, none⟩) NB378_400.out _).trans (((cell_far (p := ⟨gb400, _, none⟩) NB378_400.out _).trans (((cell_far (p := ⟨gb400, _, none⟩) NB378_400.out _).trans (((cell_far (p := ⟨gb400, _, none⟩) NB378_400.out _).trans (hHeld.2.2.2.2.2.2.1)))))))), ((cell_far (p := ⟨gb400, _, none⟩) NB378_400.out _).trans (((cell_far (p := ⟨gb400, _, none⟩) NB378_400.out _).trans (((cell_far (p := ⟨gb400, _, none⟩) NB378_400.out _).trans (((cell_far (p := ⟨gb400, _, none⟩) NB378_400.out _).trans (hHeld.2.2.2.2.2.2.2))))))))⟩ (fun hHeld => ?_)
   clear hK K
   refine done_ (done_of HT_.out (by kernel_rfl)) ?_
   have hnb46 := NB399_377.out
   have hnc46 := NB377_399.out
   have hnb47 := NB399_378.out
   have hnc47 := NB378_399.out
   have hnb48 := NB399_384.out
   have hnc48 := NB384_399.out
   have hnb49 := NB399_390.out
   have hnc49 := NB390_399.out
   have hnb50 := NB399_400.out
   have hnc50 := NB400_399.out
   have hcz51_0 : w37.cell? ⟨gb399, 0, none⟩ = some (I_ S_ 0) := (blk_cell BK399.out 0).trans rfl
   have hcz51_1 : w37.cell? ⟨gb399, 1, none⟩ = some (I_ U_ 0) := (blk_cell BK399.out 1).trans rfl
   have hcz51_2 : w37.cell? ⟨gb399, 2, none⟩ = some (.string ⟨#[]⟩) := (blk_cell BK399.out 2).trans rfl
   have hcz51_3 : w37.cell? ⟨gb399, 3, none⟩ = some (I_ S_ 0) := (blk_cell BK399.out 3).trans rfl
   have hfz51_0 := blk_frozen BK399.out 0
   have hfz51_1 := blk_frozen BK399.out 1
   have hfz51_2 := blk_frozen BK399.out 2
   have hfz51_3 := blk_frozen BK399.out 3
   go_upto_region 8 with (first | ((with_reducible refine gate_callee (f := 15) rfl ?_); refine goesL_ (some 56) rfl rfl Tryd.func15 (by kernel_rfl) rfl #[.agg #[I_ S_ t391, I_ U_ t392, .string t393, I_ S_ t394], I_ U_ x2_5, I_ U_ x3_5] rfl (by (try simp only [List.map_toArray, List.map_cons, List.map_nil]); first | done | rfl) ?_; (with_reducible refine (value_Mid.calls kj5 t391 t392 t393 t394 x2_5 x3_5 t401 t402 t403 t404 t405 _ A14.out).mono ?_); rintro e w52 ⟨rfl, hb⟩; refine ⟨_, rfl, ?_⟩; replace BK377 := sqB_ BK377 (by (with_reducible repeat (first | apply kN_ | apply kD_ | apply kA_)); refine blk_far ?_ NB377_400.out _; (with_reducible repeat (first | apply kN_ | apply kD_ | apply kA_)); refine blk_far ?_ NB377_400.out _; (with_reducible repeat (first | apply kN_ | apply kD_ | apply kA_)); refine blk_far ?_ NB377_400.out _; (with_reducible repeat (first | apply kN_ | apply kD_ | apply kA_)); refine blk_far ?_ NB377_400.out _; (with_reducible repeat (first | apply kN_ | apply kD_ | apply kA_)); refine blk_far ?_ NB377_399.out _; (with_reducible repeat (first | apply kN_ | apply kD_ | apply kA_)); refine blk_far ?_ NB377_399.out _; (with_reducible repeat (first | apply kN_ | apply kD_ | apply kA_)); refine blk_far ?_ NB377_399.out _; (with_reducible repeat (first | apply kN_ | apply kD_ | apply kA_)); refine blk_far ?_ NB377_399.out _; (with_reducible repeat (first | apply kN_ | apply kD_ | apply kA_)); exact BK377.out) hb; replace BK378 := sqB_ BK378 (by (with_reducible repeat (first | apply kN_ | apply kD_ | apply kA_)); refine blk_far ?_ NB378_400.out _; (with_reducible repeat (first | apply kN_ | apply kD_ | apply kA_)); refine blk_far ?_ NB378_400.out _; (with_reducible repeat (first | apply kN_ | apply kD_ | apply kA_)); refine blk_far ?_ NB378_400.out _; (with_reducible repeat (first | apply kN_ | apply kD_ | apply kA_)); refine blk_far ?_ NB378_400.out _; (with_reducible repeat (first | apply kN_ | apply kD_ | apply kA_)); refine blk_far ?_ NB378_399.out _; (with_reducible repeat (first | apply kN_ | apply kD_ | apply kA_)); refine blk_far ?_ NB378_399.out _; (with_reducible repeat (first | apply kN_ | apply kD_ | apply kA_)); refine blk_far ?_ NB378_399.out _; (with_reducible repeat (first | apply kN_ | apply kD_ | apply kA_)); refine blk_far ?_ NB378_399.out _; (with_reducible repeat (first | apply kN_ | apply kD_ | apply kA_)); exact BK378.out) hb; replace BK384 := sqB_ BK384 (by (with_reducible repeat (first | apply kN_ | apply kD_ | apply kA_)); refine blk_far ?_ NB384_400.out _; (with_reducible repeat (first | apply kN_ | apply kD_ | apply kA_)); refine blk_far ?_ NB384_400.out _; (with_reducible repeat (first | apply kN_ | apply kD_ | apply kA_)); refine blk_far ?_ NB384_400.out _; (with_reducible repeat (first | apply kN_ | apply kD_ | apply kA_)); refine blk_far ?_ NB384_400.out _; (with_reducible repeat (first | apply kN_ | apply kD_ | apply kA_)); refine blk_far ?_ NB384_399.out _; (with_reducible repeat (first | apply kN_ | apply kD_ | apply kA_)); refine blk_far ?_ NB384_399.out _; (with_reducible repeat (first | apply kN_ | apply kD_ | apply kA_)); refine blk_far ?_ NB384_399.out _; (with_reducible repeat (first | apply kN_ | apply kD_ | apply kA_)); refine blk_far ?_ NB384_399.out _; (with_reducible repeat (first | apply kN_ | apply kD_ | apply kA_)); exact BK384.out) hb; replace BK390 := sqB_ BK390 (by (with_reducible repeat (first | apply kN_ | apply kD_ | apply kA_)); refine blk_far ?_ NB390_400.out _; (with_reducible repeat (first | apply kN_ | apply kD_ | apply kA_)); refine blk_far ?_ NB390_400.out _; (with_reducible repeat (first | apply kN_ | apply kD_ | apply kA_)); refine blk_far ?_ NB390_400.out _; (with_reducible repeat (first | apply kN_ | apply kD_ | apply kA_)); refine blk_far ?_ NB390_400.out _; (with_reducible repeat (first | apply kN_ | apply kD_ | apply kA_)); refine blk_far ?_ NB390_399.out _; (with_reducible repeat (first | apply kN_ | apply kD_ | apply kA_)); refine blk_far ?_ NB390_399.out _; (with_reducible repeat (first | apply kN_ | apply kD_ | apply kA_)); refine blk_far ?_ NB390_399.out _; (with_reducible repeat (first | apply kN_ | apply kD_ | apply kA_)); refine blk_far ?_ NB390_399.out _; (with_reducible repeat (first | apply kN_ | apply kD_ | apply kA_)); exact BK390.out) hb; replace BK399 := sqQ_ (g := gb399) (o := .cells #[I_ S_ t391, I_ U_ t392, .string t393, I_ S_ t394] 24 (0, 0)) (by (with_reducible repeat (first | apply kN_ | apply kD_ | apply kA_)); refine blk_far ?_ NB399_400.out _; (with_reducible repeat (first | apply kN_ | apply kD_ | apply kA_)); refine blk_far ?_ NB399_400.out _; (with_reducible repeat (first | apply kN_ | apply kD_ | apply kA_)); refine blk_far ?_ NB399_400.out _; (with_reducible repeat (first | apply kN_ | apply kD_ | apply kA_)); refine blk_far ?_ NB399_400.out _; (with_reducible repeat (first | apply kN_ | apply kD_ | apply kA_)); refine blk_put (cs := #[I_ S_ t391, I_ U_ t392, .string t393, I_ S_ 0]) ?_ 3 _ rfl; (with_reducible repeat (first | apply kN_ | apply kD_ | apply kA_)); refine blk_put (cs := #[I_ S_ t391, I_ U_ t392, .string ⟨#[]⟩, I_ S_ 0]) ?_ 2 _ rfl; (with_reducible repeat (first | apply kN_ | apply kD_ | apply kA_)); refine blk_put (cs := #[I_ S_ t391, I_ U_ 0, .string ⟨#[]⟩, I_ S_ 0]) ?_ 1 _ rfl; (with_reducible repeat (first | apply kN_ | apply kD_ | apply kA_)); refine blk_put (cs := #[I_ S_ 0, I_ U_ 0, .string ⟨#[]⟩, I_ S_ 0]) ?_ 0 _ rfl; (with_reducible repeat (first | apply kN_ | apply kD_ | apply kA_)); exact BK399.out) hb; replace BK400 := sqQ_ (g := gb400) (o := .cells #[I_ S_ t395, I_ U_ t396, .string t397, I_ S_ t398] 24 (0, 0)) (by (with_reducible repeat (first | apply kN_ | apply kD_ | apply kA_)); refine blk_put (cs := #[I_ S_ t395, I_ U_ t396, .string t397, I_ S_ 0]) ?_ 3 _ rfl; (with_reducible repeat (first | apply kN_ | apply kD_ | apply kA_)); refine blk_put (cs := #[I_ S_ t395, I_ U_ t396, .string ⟨#[]⟩, I_ S_ 0]) ?_ 2 _ rfl; (with_reducible repeat (first | apply kN_ | apply kD_ | apply kA_)); refine blk_put (cs := #[I_ S_ t395, I_ U_ 0, .string ⟨#[]⟩, I_ S_ 0]) ?_ 1 _ rfl; (with_reducible repeat (first | apply kN_ | apply kD_ | apply kA_)); refine blk_put (cs := #[I_ S_ 0, I_ U_ 0, .string ⟨#[]⟩, I_ S_ 0]) ?_ 0 _ rfl; (with_reducible repeat (first | apply kN_ | apply kD_ | apply kA_)); refine blk_far ?_ NB400_399.out _; (with_reducible repeat (first | apply kN_ | apply kD_ | apply kA_)); refine blk_far ?_ NB400_399.out _; (with_reducible repeat (first | apply kN_ | apply kD_ | apply kA_)); refine blk_far ?_ NB400_399.out _; (with_reducible repeat (first | apply kN_ | apply kD_ | apply kA_)); refine blk_far ?_ NB400_399.out _; (with_reducible repeat (first | apply kN_ | apply kD_ | apply kA_)); exact BK400.out) hb; replace HB := sqS_ (by repeat (first | (with_reducible first | exact HB.out | apply bA_ | apply bN_ | apply bD_ | refine bS_ ?_ ‹Aside0 _›.out) | exact HB.out)) hb; (try clear hb); (try clear hb2); (try clear hk); (try clear hi)) | ((with_reducible refine gate_dst (N := 17) rfl ?_); refine box_event ?hg (N := 17) ?hd (cs := #[I_ S_ 0, I_ U_ 0, .string ⟨#[]⟩, I_ S_ 0]) (t := 24) ?hr ?_; (case hd => rfl); (case hg => rfl); (case hr => first | (go_simp; done) | (go_simp; rfl)); intro gb406 hg w53 hbox hb; replace BK377 := sqO_ BK377 (by (with_reducible repeat (first | apply kN_ | apply kD_ | apply kA_)); exact BK377.out) hg hb; obtain ⟨BK377, NB377_406, NB406_377⟩ := BK377; replace BK378 := sqO_ BK378 (by (with_reducible repeat (first | apply kN_ | apply kD_ | apply kA_)); exact BK378.out) hg hb; obtain ⟨BK378, NB378_406, NB406_378⟩ := BK378; replace BK384 := sqO_ BK384 (by (with_reducible repeat (first | apply kN_ | apply kD_ | apply kA_)); exact BK384.out) hg hb; obtain ⟨BK384, NB384_406, NB406_384⟩ := BK384; replace BK390 := sqO_ BK390 (by (with_reducible repeat (first | apply kN_ | apply kD_ | apply kA_)); exact BK390.out) hg hb; obtain ⟨BK390, NB390_406, NB406_390⟩ := BK390; replace BK399 := sqO_ BK399 (by (with_reducible repeat (first | apply kN_ | apply kD_ | apply kA_)); exact BK399.out) hg hb; obtain ⟨BK399, NB399_406, NB406_399⟩ := BK399; replace BK400 := sqO_ BK400 (by (with_reducible repeat (first | apply kN_ | apply kD_ | apply kA_)); exact BK400.out) hg hb; obtain ⟨BK400, NB400_406, NB406_400⟩ := BK400; replace HB := sqN_ (by repeat (first | (with_reducible first | exact HB.out | apply bA_ | apply bN_ | apply bD_ | refine bS_ ?_ ‹Aside0 _›.out) | exact HB.out)) hg hb; obtain ⟨HB, GE406⟩ := HB; have BK406 := Aside0.mk hbox; clear hb hbox hg; have hnb54 := NB406_377.out; have hnc54 := NB377_406.out; have hnb55 := NB406_378.out; have hnc55 := NB378_406.out; have hnb56 := NB406_384.out; have hnc56 := NB384_406.out; have hnb57 := NB406_390.out; have hnc57 := NB390_406.out; have hnb58 := NB406_399.out; have hnc58 := NB399_406.out; have hnb59 := NB406_400.out; have hnc59 := NB400_406.out; obtain ⟨hcz60_0, hcz60_1, hcz60_2, hcz60_3⟩ := cells4_ BK406.out; obtain ⟨hfz60_0, hfz60_1, hfz60_2, hfz60_3⟩ := froz4_ BK406.out; obtain ⟨hcz61_0, hcz61_1, hcz61_2, hcz61_3⟩ := cells4_ BK399.out; obtain ⟨hfz61_0, hfz61_1, hfz61_2, hfz61_3⟩ := froz4_ BK399.out) | ((with_reducible refine gate_callee (f := 16) rfl ?_); refine goesL_ (some 63) rfl rfl Tryd.func16 (by kernel_rfl) rfl #[.agg #[I_ S_ t391, I_ U_ t392, .string t393, I_ S_ t394], I_ U_ x2_5, I_ U_ x3_5] rfl (by (try simp only [List.map_toArray, List.map_cons, List.map_nil]); first | done | rfl) ?_; (with_reducible refine (platformfwref08_Mid.calls kj5 t391 t392 t393 t394 x2_5 x3_5 t407 t408 t409 t410 t411 _ A15.out).mono ?_); rintro e w62 ⟨rfl, hb⟩; refine ⟨_, rfl, ?_⟩; replace BK377 := sqB_ BK377 (by (with_reducible repeat (first | apply kN_ | apply kD_ | apply kA_)); refine blk_far ?_ NB377_406.out _; (with_reducible repeat (first | apply kN_ | apply kD_ | apply kA_)); refine blk_far ?_ NB377_406.out _; (with_reducible repeat (first | apply kN_ | apply kD_ | apply kA_)); refine blk_far ?_ NB377_406.out _; (with_reducible repeat (first | apply kN_ | apply kD_ | apply kA_)); refine blk_far ?_ NB377_406.out _; (with_reducible repeat (first | apply kN_ | apply kD_ | apply kA_)); exact BK377.out) hb; replace BK378 := sqB_ BK378 (by (with_reducible repeat (first | apply kN_ | apply kD_ | apply kA_)); refine blk_far ?_ NB378_406.out _; (with_reducible repeat (first | apply kN_ | apply kD_ | apply kA_)); refine blk_far ?_ NB378_406.out _; (with_reducible repeat (first | apply kN_ | apply kD_ | apply kA_)); refine blk_far ?_ NB378_406.out _; (with_reducible repeat (first | apply kN_ | apply kD_ | apply kA_)); refine blk_far ?_ NB378_406.out _; (with_reducible repeat (first | apply kN_ | apply kD_ | apply kA_)); exact BK378.out) hb; replace BK384 := sqB_ BK384 (by (with_reducible repeat (first | apply kN_ | apply kD_ | apply kA_)); refine blk_far ?_ NB384_406.out _; (with_reducible repeat (first | apply kN_ | apply kD_ | apply kA_)); refine blk_far ?_ NB384_406.out _; (with_reducible repeat (first | apply kN_ | apply kD_ | apply kA_)); refine blk_far ?_ NB384_406.out _; (with_reducible repeat (first | apply kN_ | apply kD_ | apply kA_)); refine blk_far ?_ NB384_406.out _; (with_reducible repeat (first | apply kN_ | apply kD_ | apply kA_)); exact BK384.out) hb; replace BK390 := sqB_ BK390 (by (with_reducible repeat (first | apply kN_ | apply kD_ | apply kA_)); refine blk_far ?_ NB390_406.out _; (with_reducible repeat (first | apply kN_ | apply kD_ | apply kA_)); refine blk_far ?_ NB390_406.out _; (with_reducible repeat (first | apply kN_ | apply kD_ | apply kA_)); refine blk_far ?_ NB390_406.out _; (with_reducible repeat (first | apply kN_ | apply kD_ | apply kA_)); refine blk_far ?_ NB390_406.out _; (with_reducible repeat (first | apply kN_ | apply kD_ | apply kA_)); exact BK390.out) hb; replace BK399 := sqB_ BK399 (by (with_reducible repeat (first | apply kN_ | apply kD_ | apply kA_)); refine blk_far ?_ NB399_406.out _; (with_reducible repeat (first | apply kN_ | apply kD_ | apply kA_)); refine blk_far ?_ NB399_406.out _; (with_reducible repeat (first | apply kN_ | apply kD_ | apply kA_)); refine blk_far ?_ NB399_406.out _; (with_reducible repeat (first | apply kN_ | apply kD_ | apply kA_)); refine blk_far ?_ NB399_406.out _; (with_reducible repeat (first | apply kN_ | apply kD_ | apply kA_)); exact BK399.out) hb; replace BK400 := sqB_ BK400 (by (with_reducible repeat (first | apply kN_ | apply kD_ | apply kA_)); refine blk_far ?_ NB400_406.out _; (with_reducible repeat (first | apply kN_ | apply kD_ | apply kA_)); refine blk_far ?_ NB400_406.out _; (with_reducible repeat (first | apply kN_ | apply kD_ | apply kA_)); refine blk_far ?_ NB400_406.out _; (with_reducible repeat (first | apply kN_ | apply kD_ | apply kA_)); refine blk_far ?_ NB400_406.out _; (with_reducible repeat (first | apply kN_ | apply kD_ | apply kA_)); exact BK400.out) hb; replace BK406 := sqQ_ (g := gb406) (o := .cells #[I_ S_ t401, I_ U_ t402, .string t403, I_ S_ t404] 24 (0, 0)) (by (with_reducible repeat (first | apply kN_ | apply kD_ | apply kA_)); refine blk_put (cs := #[I_ S_ t401, I_ U_ t402, .string t403, I_ S_ 0]) ?_ 3 _ rfl; (with_reducible repeat (first | apply kN_ | apply kD_ | apply kA_)); refine blk_put (cs := #[I_ S_ t401, I_ U_ t402, .string ⟨#[]⟩, I_ S_ 0]) ?_ 2 _ rfl; (with_reducible repeat (first | apply kN_ | apply kD_ | apply kA_)); refine blk_put (cs := #[I_ S_ t401, I_ U_ 0, .string ⟨#[]⟩, I_ S_ 0]) ?_ 1 _ rfl; (with_reducible repeat (first | apply kN_ | apply kD_ | apply kA_)); refine blk_put (cs := #[I_ S_ 0, I_ U_ 0, .string ⟨#[]⟩, I_ S_ 0]) ?_ 0 _ rfl; (with_reducible repeat (first | apply kN_ | apply kD_ | apply kA_)); exact BK406.out) hb; replace HB := sqS_ (by repeat (first | (with_reducible first | exact HB.out | apply bA_ | apply bN_ | apply bD_ | refine bS_ ?_ ‹Aside0 _›.out) | exact HB.out)) hb; (try clear hb); (try clear hb2); (try clear hk); (try clear hi)) | ((with_reducible refine gate_dst (N := 19) rfl ?_); refine box_event ?hg (N := 19) ?hd (cs := #[I_ S_ 0, I_ U_ 0, .string ⟨#[]⟩, I_ S_ 0]) (t := 24) ?hr ?_; (case hd => rfl); (case hg => rfl); (case hr => first | (go_simp; done) | (go_simp; rfl)); intro gb412 hg w63 hbox hb; replace BK377 := sqO_ BK377 (by (with_reducible repeat (first | apply kN_ | apply kD_ | apply kA_)); exact BK377.out) hg hb; obtain ⟨BK377, NB377_412, NB412_377⟩ := BK377; replace BK378 := sqO_ BK378 (by (with_reducible repeat (first | apply kN_ | apply kD_ | apply kA_)); exact BK378.out) hg hb; obtain ⟨BK378, NB378_412, NB412_378⟩ := BK378; replace BK384 := sqO_ BK384 (by (with_reducible repeat (first | apply kN_ | apply kD_ | apply kA_)); exact BK384.out) hg hb; obtain ⟨BK384, NB384_412, NB412_384⟩ := BK384; replace BK390 := sqO_ BK390 (by (with_reducible repeat (first | apply kN_ | apply kD_ | apply kA_)); exact BK390.out) hg hb; obtain ⟨BK390, NB390_412, NB412_390⟩ := BK390; replace BK399 := sqO_ BK399 (by (with_reducible repeat (first | apply kN_ | apply kD_ | apply kA_)); exact BK399.out) hg hb; obtain ⟨BK399, NB399_412, NB412_399⟩ := BK399; replace BK400 := sqO_ BK400 (by (with_reducible repeat (first | apply kN_ | apply kD_ | apply kA_)); exact BK400.out) hg hb; obtain ⟨BK400, NB400_412, NB412_400⟩ := BK400; replace BK406 := sqO_ BK406 (by (with_reducible repeat (first | apply kN_ | apply kD_ | apply kA_)); exact BK406.out) hg hb; obtain ⟨BK406, NB406_412, NB412_406⟩ := BK406; replace HB := sqN_ (by repeat (first | (with_reducible first | exact HB.out | apply bA_ | apply bN_ | apply bD_ | refine bS_ ?_ ‹Aside0 _›.out) | exact HB.out)) hg hb; obtain ⟨HB, GE412⟩ := HB; have BK412 := Aside0.mk hbox; clear hb hbox hg; have hnb64 := NB412_377.out; have hnc64 := NB377_412.out; have hnb65 := NB412_378.out; have hnc65 := NB378_412.out; have hnb66 := NB412_384.out; have hnc66 := NB384_412.out; have hnb67 := NB412_390.out; have hnc67 := NB390_412.out; have hnb68 := NB412_399.out; have hnc68 := NB399_412.out; have hnb69 := NB412_400.out; have hnc69 := NB400_412.out; have hnb70 := NB412_406.out; have hnc70 := NB406_412.out; obtain ⟨hcz71_0, hcz71_1, hcz71_2, hcz71_3⟩ := cells4_ BK412.out; obtain ⟨hfz71_0, hfz71_1, hfz71_2, hfz71_3⟩ := froz4_ BK412.out))
   (try simp only [Act.put, sA_, sB_, sC_])
   go_cut [87] (fun v87 wc => ∃ (kq : Nat) (x87_15 : Bool), v87 = .bool x87_15 ∧ Aside0 (platformfwlaw08_ValueMid.j1 kq x87_15 t391 t392 t393 t394 t395 t396 t397 t398 = some r) ∧ Aside0 (kq ≤ kj5) ∧ Aside0 (wc.heap[gb377]? = some (.cells #[I_ S_ a0_0, I_ U_ a0_1, .string a0_2, I_ S_ a0_3] 24 (0, 0))) ∧ Aside0 (wc.heap[gb378]? = some (.cells #[I_ S_ a1_0, I_ U_ a1_1, .string a1_2, I_ S_ a1_3] 24 (0, 0))) ∧ Aside0 (wc.heap[gb384]? = some (.cells #[I_ S_ t379, I_ U_ t380, .string t381, I_ S_ t382] 24 (0, 0))) ∧ Aside0 (wc.heap[gb390]? = some (.cells #[I_ S_ t385, I_ U_ t386, .string t387, I_ S_ t388] 24 (0, 0))) ∧ Aside0 (wc.heap[gb399]? = some (.cells #[I_ S_ t391, I_ U_ t392, .string t393, I_ S_ t394] 24 (0, 0))) ∧ Aside0 (wc.heap[gb400]? = some (.cells #[I_ S_ t395, I_ U_ t396, .string t397, I_ S_ t398] 24 (0, 0))) ∧ Aside0 (wc.heap[gb406]? = some (.cells #[I_ S_ t401, I_ U_ t402, .string t403, I_ S_ t404] 24 (0, 0))) ∧ Aside0 (wc.heap[gb412]? = some (.cells #[I_ S_ t407, I_ U_ t408, .string t409, I_ S_ t410] 24 (0, 0))) ∧ Aside0 (Below w.heap.size w wc))
   case first =>
    have H := HC16.out
    clear HC16
    replace H := Option.bind_eq_some_iff.mp H
    obtain ⟨t413, A720, H⟩ := H
    replace H : (if t413 = true then (if (!(t379 == t385) || (!(t380 == t386) || (!(t381.toList == t387.toList) || (!(t382 == t388))))) = true then (platformfwlaw08_ValueMid.j1 kj5 true t391 t392 t393 t394 t395 t396 t397 t398) else (if t383 = t389 then (if (!(t401 == t407) || (!(t402 == t408) || (!(t403.toList == t409.toList) || (!(t404 == t410))))) = true then (platformfwlaw08_ValueMid.j1 kj5 true t391 t392 t393 t394 t395 t396 t397 t398) else (platformfwlaw08_ValueMid.j1 kj5 (t405 != t411) t391 t392 t393 t394 t395 t396 t397 t398)) else (platformfwlaw08_ValueMid.j1 kj5 true t391 t392 t393 t394 t395 t396 t397 t398))) else (platformfwlaw08_ValueMid.j1 kj5 true t391 t392 t393 t394 t395 t396 t397 t398)) = some r := H
    have A72 := Aside0.mk A720
    clear A720
    by_cases c73 : t413 = true
    ·subst c73
     have H1 : (if (!(t379 == t385) || (!(t380 == t386) || (!(t381.toList == t387.toList) || (!(t382 == t388))))) = true then (platformfwlaw08_ValueMid.j1 kj5 true t391 t392 t393 t394 t395 t396 t397 t398) else (if t383 = t389 then (if (!(t401 == t407) || (!(t402 == t408) || (!(t403.toList == t409.toList) || (!(t404 == t410))))) = true then (platformfwlaw08_ValueMid.j1 kj5 true t391 t392 t393 t394 t395 t396 t397 t398) else (platformfwlaw08_ValueMid.j1 kj5 (t405 != t411) t391 t392 t393 t394 t395 t396 t397 t398)) else (platformfwlaw08_ValueMid.j1 kj5 true t391 t392 t393 t394 t395 t396 t397 t398))) = some r := by rw [if_pos rfl] at H; exact H
     clear H
     have H := H1
     clear H1
     by_cases c74 : (!(t379 == t385) || (!(t380 == t386) || (!(t381.toList == t387.toList) || (!(t382 == t388))))) = true
     ·rw [if_pos c74] at H
      have c74b0 : (!(t379 == t385) || (!(t380 == t386) || (!(t381.toList == t387.toList) || (!(t382 == t388))))) = true := c74
      clear c74
      (first | rw [c74b0] | (simp only [i64_w, i32_w]; rw [c74b0]) | skip)
      have H' := Aside0.mk H
      clear H
      go_wp2_with (first | ((with_reducible refine gate_callee (f := 12) rfl ?_); refine goesL_ (some 66) rfl rfl Tryd.func12 (by kernel_rfl) rfl #[] rfl (by (try simp only [List.map_toArray, List.map_cons, List.map_nil]); first | done | rfl) ?_; (with_reducible refine (platformfwlaw08_awake.calls kj5  true _ ?hTT_ (by first | exact hr_ | exact ⟨rfl⟩) A72.out).mono ?_); (case hTT_ => exact tb_below HTT_.out (by repeat (first | (with_reducible first | exact HB.out | apply bA_ | apply bN_ | apply bD_ | refine bS_ ?_ ‹Aside0 _›.out) | exact HB.out))); rintro e w75 ⟨rfl, hb⟩; refine ⟨_, rfl, ?_⟩; replace BK377 := sqB_ BK377 (by (with_reducible repeat (first | apply kN_ | apply kD_ | apply kA_)); refine blk_far ?_ NB377_412.out _; (with_reducible repeat (first | apply kN_ | apply kD_ | apply kA_)); refine blk_far ?_ NB377_412.out _; (with_reducible repeat (first | apply kN_ | apply kD_ | apply kA_)); refine blk_far ?_ NB377_412.out _; (with_reducible repeat (first | apply kN_ | apply kD_ | apply kA_)); refine blk_far ?_ NB377_412.out _; (with_reducible repeat (first | apply kN_ | apply kD_ | apply kA_)); exact BK377.out) hb; replace BK378 := sqB_ BK378 (by (with_reducible repeat (first | apply kN_ | apply kD_ | apply kA_)); refine blk_far ?_ NB378_412.out _; (with_reducible repeat (first | apply kN_ | apply kD_ | apply kA_)); refine blk_far ?_ NB378_412.out _; (with_reducible repeat (first | apply kN_ | apply kD_ | apply kA_)); refine blk_far ?_ NB378_412.out _; (with_reducible repeat (first | apply kN_ | apply kD_ | apply kA_)); refine blk_far ?_ NB378_412.out _; (with_reducible repeat (first | apply kN_ | apply kD_ | apply kA_)); exact BK378.out) hb; replace BK384 := sqB_ BK384 (by (with_reducible repeat (first | apply kN_ | apply kD_ | apply kA_)); refine blk_far ?_ NB384_412.out _; (with_reducible repeat (first | apply kN_ | apply kD_ | apply kA_)); refine blk_far ?_ NB384_412.out _; (with_reducible repeat (first | apply kN_ | apply kD_ | apply kA_)); refine blk_far ?_ NB384_412.out _; (with_reducible repeat (first | apply kN_ | apply kD_ | apply kA_)); refine blk_far ?_ NB384_412.out _; (with_reducible repeat (first | apply kN_ | apply kD_ | apply kA_)); exact BK384.out) hb; replace BK390 := sqB_ BK390 (by (with_reducible repeat (first | apply kN_ | apply kD_ | apply kA_)); refine blk_far ?_ NB390_412.out _; (with_reducible repeat (first | apply kN_ | apply kD_ | apply kA_)); refine blk_far ?_ NB390_412.out _; (with_reducible repeat (first | apply kN_ | apply kD_ | apply kA_)); refine blk_far ?_ NB390_412.out _; (with_reducible repeat (first | apply kN_ | apply kD_ | apply kA_)); refine blk_far ?_ NB390_412.out _; (with_reducible repeat (first | apply kN_ | apply kD_ | apply kA_)); exact BK390.out) hb; replace BK399 := sqB_ BK399 (by (with_reducible repeat (first | apply kN_ | apply kD_ | apply kA_)); refine blk_far ?_ NB399_412.out _; (with_reducible repeat (first | apply kN_ | apply kD_ | apply kA_)); refine blk_far ?_ NB399_412.out _; (with_reducible repeat (first | apply kN_ | apply kD_ | apply kA_)); refine blk_far ?_ NB399_412.out _; (with_reducible repeat (first | apply kN_ | apply kD_ | apply kA_)); refine blk_far ?_ NB399_412.out _; (with_reducible repeat (first | apply kN_ | apply kD_ | apply kA_)); exact BK399.out) hb; replace BK400 := sqB_ BK400 (by (with_reducible repeat (first | apply kN_ | apply kD_ | apply kA_)); refine blk_far ?_ NB400_412.out _; (with_reducible repeat (first | apply kN_ | apply kD_ | apply kA_)); refine blk_far ?_ NB400_412.out _; (with_reducible repeat (first | apply kN_ | apply kD_ | apply kA_)); refine blk_far ?_ NB400_412.out _; (with_reducible repeat (first | apply kN_ | apply kD_ | apply kA_)); refine blk_far ?_ NB400_412.out _; (with_reducible repeat (first | apply kN_ | apply kD_ | apply kA_)); exact BK400.out) hb; replace BK406 := sqB_ BK406 (by (with_reducible repeat (first | apply kN_ | apply kD_ | apply kA_)); refine blk_far ?_ NB406_412.out _; (with_reducible repeat (first | apply kN_ | apply kD_ | apply kA_)); refine blk_far ?_ NB406_412.out _; (with_reducible repeat (first | apply kN_ | apply kD_ | apply kA_)); refine blk_far ?_ NB406_412.out _; (with_reducible repeat (first | apply kN_ | apply kD_ | apply kA_)); refine blk_far ?_ NB406_412.out _; (with_reducible repeat (first | apply kN_ | apply kD_ | apply kA_)); exact BK406.out) hb; replace BK412 := sqQ_ (g := gb412) (o := .cells #[I_ S_ t407, I_ U_ t408, .string t409, I_ S_ t410] 24 (0, 0)) (by (with_reducible repeat (first | apply kN_ | apply kD_ | apply kA_)); refine blk_put (cs := #[I_ S_ t407, I_ U_ t408, .string t409, I_ S_ 0]) ?_ 3 _ rfl; (with_reducible repeat (first | apply kN_ | apply kD_ | apply kA_)); refine blk_put (cs := #[I_ S_ t407, I_ U_ t408, .string ⟨#[]⟩, I_ S_ 0]) ?_ 2 _ rfl; (with_reducible repeat (first | apply kN_ | apply kD_ | apply kA_)); refine blk_put (cs := #[I_ S_ t407, I_ U_ 0, .string ⟨#[]⟩, I_ S_ 0]) ?_ 1 _ rfl; (with_reducible repeat (first | apply kN_ | apply kD_ | apply kA_)); refine blk_put (cs := #[I_ S_ 0, I_ U_ 0, .string ⟨#[]⟩, I_ S_ 0]) ?_ 0 _ rfl; (with_reducible repeat (first | apply kN_ | apply kD_ | apply kA_)); exact BK412.out) hb; replace HB := sqS_ (by repeat (first | (with_reducible first | exact HB.out | apply bA_ | apply bN_ | apply bD_ | refine bS_ ?_ ‹Aside0 _›.out) | exact HB.out)) hb; (try clear hb); (try clear hb2); (try clear hk); (try clear hi); have hnb76 := NB384_377.out; have hnc76 := NB377_384.out; have hnb77 := NB384_378.out; have hnc77 := NB378_384.out; have hnb78 := NB384_390.out; have hnc78 := NB390_384.out; have hnb79 := NB384_399.out; have hnc79 := NB399_384.out; have hnb80 := NB384_400.out; have hnc80 := NB400_384.out; have hnb81 := NB384_406.out; have hnc81 := NB406_384.out; have hnb82 := NB384_412.out; have hnc82 := NB412_384.out; obtain ⟨hcz83_0, hcz83_1, hcz83_2, hcz83_3⟩ := cells4_ BK384.out; obtain ⟨hfz83_0, hfz83_1, hfz83_2, hfz83_3⟩ := froz4_ BK384.out; have hnb84 := NB390_377.out; have hnc84 := NB377_390.out; have hnb85 := NB390_378.out; have hnc85 := NB378_390.out; have hnb86 := NB390_399.out; have hnc86 := NB399_390.out; have hnb87 := NB390_400.out; have hnc87 := NB400_390.out; have hnb88 := NB390_406.out; have hnc88 := NB406_390.out; have hnb89 := NB390_412.out; have hnc89 := NB412_390.out; obtain ⟨hcz90_0, hcz90_1, hcz90_2, hcz90_3⟩ := cells4_ BK390.out; obtain ⟨hfz90_0, hfz90_1, hfz90_2, hfz90_3⟩ := froz4_ BK390.out))
      go_meet
      case rel => exact ⟨_, (true), (by first | rfl | (simp; done) | (simp [*]; done)), H', ⟨by have := HJ5.out; first | omega | exact Nat.le_refl _⟩, ⟨by (with_reducible repeat (first | apply kN_ | apply kD_ | apply kA_)); exact BK377.out⟩, ⟨by (with_reducible repeat (first | apply kN_ | apply kD_ | apply kA_)); exact BK378.out⟩, ⟨by (with_reducible repeat (first | apply kN_ | apply kD_ | apply kA_)); exact BK384.out⟩, ⟨by (with_reducible repeat (first | apply kN_ | apply kD_ | apply kA_)); exact BK390.out⟩, ⟨by (with_reducible repeat (first | apply kN_ | apply kD_ | apply kA_)); exact BK399.out⟩, ⟨by (with_reducible repeat (first | apply kN_ | apply kD_ | apply kA_)); exact BK400.out⟩, ⟨by (with_reducible repeat (first | apply kN_ | apply kD_ | apply kA_)); exact BK406.out⟩, ⟨by (with_reducible repeat (first | apply kN_ | apply kD_ | apply kA_)); exact BK412.out⟩, ⟨by repeat (first | (with_reducible first | exact HB.out | apply bA_ | apply bN_ | apply bD_ | refine bS_ ?_ ‹Aside0 _›.out) | exact HB.out)⟩⟩
     rw [if_neg c74] at H
     have c74b0 : (!(t379 == t385) || (!(t380 == t386) || (!(t381.toList == t387.toList) || (!(t382 == t388))))) = false := by simpa using c74
     clear c74
     (first | rw [c74b0] | (simp only [i64_w, i32_w]; rw [c74b0]) | skip)
     by_cases c91 : t383 = t389
     ·rw [if_pos c91] at H
      have c91b0 : (t383 == t389) = true := beq_iff_eq.mpr c91
      have c91b1 : (t383 != t389) = false := bne_eq_false_iff_eq.mpr c91
      clear c91
      by_cases c92 : (!(t401 == t407) || (!(t402 == t408) || (!(t403.toList == t409.toList) || (!(t404 == t410))))) = true
      ·rw [if_pos c92] at H
       have c92b0 : (!(t401 == t407) || (!(t402 == t408) || (!(t403.toList == t409.toList) || (!(t404 == t410))))) = true := c92
       clear c92
       have H' := Aside0.mk H
       clear H
       go_wp2_with (first | ((with_reducible refine gate_callee (f := 12) rfl ?_); refine goesL_ (some 66) rfl rfl Tryd.func12 (by kernel_rfl) rfl #[] rfl (by (try simp only [List.map_toArray, List.map_cons, List.map_nil]); first | done | rfl) ?_; (with_reducible refine (platformfwlaw08_awake.calls kj5  true _ ?hTT_ (by first | exact hr_ | exact ⟨rfl⟩) A72.out).mono ?_); (case hTT_ => exact tb_below HTT_.out (by repeat (first | (with_reducible first | exact HB.out | apply bA_ | apply bN_ | apply bD_ | refine bS_ ?_ ‹Aside0 _›.out) | exact HB.out))); rintro e w93 ⟨rfl, hb⟩; refine ⟨_, rfl, ?_⟩; replace BK377 := sqB_ BK377 (by (with_reducible repeat (first | apply kN_ | apply kD_ | apply kA_)); refine blk_far ?_ NB377_412.out _; (with_reducible repeat (first | apply kN_ | apply kD_ | apply kA_)); refine blk_far ?_ NB377_412.out _; (with_reducible repeat (first | apply kN_ | apply kD_ | apply kA_)); refine blk_far ?_ NB377_412.out _; (with_reducible repeat (first | apply kN_ | apply kD_ | apply kA_)); refine blk_far ?_ NB377_412.out _; (with_reducible repeat (first | apply kN_ | apply kD_ | apply kA_)); exact BK377.out) hb; replace BK378 := sqB_ BK378 (by (with_reducible repeat (first | apply kN_ | apply kD_ | apply kA_)); refine blk_far ?_ NB378_412.out _; (with_reducible repeat (first | apply kN_ | apply kD_ | apply kA_)); refine blk_far ?_ NB378_412.out _; (with_reducible repeat (first | apply kN_ | apply kD_ | apply kA_)); refine blk_far ?_ NB378_412.out _; (with_reducible repeat (first | apply kN_ | apply kD_ | apply kA_)); refine blk_far ?_ NB378_412.out _; (with_reducible repeat (first | apply kN_ | apply kD_ | apply kA_)); exact BK378.out) hb; replace BK384 := sqB_ BK384 (by (with_reducible repeat (first | apply kN_ | apply kD_ | apply kA_)); refine blk_far ?_ NB384_412.out _; (with_reducible repeat (first | apply kN_ | apply kD_ | apply kA_)); refine blk_far ?_ NB384_412.out _; (with_reducible repeat (first | apply kN_ | apply kD_ | apply kA_)); refine blk_far ?_ NB384_412.out _; (with_reducible repeat (first | apply kN_ | apply kD_ | apply kA_)); refine blk_far ?_ NB384_412.out _; (with_reducible repeat (first | apply kN_ | apply kD_ | apply kA_)); exact BK384.out) hb; replace BK390 := sqB_ BK390 (by (with_reducible repeat (first | apply kN_ | apply kD_ | apply kA_)); refine blk_far ?_ NB390_412.out _; (with_reducible repeat (first | apply kN_ | apply kD_ | apply kA_)); refine blk_far ?_ NB390_412.out _; (with_reducible repeat (first | apply kN_ | apply kD_ | apply kA_)); refine blk_far ?_ NB390_412.out _; (with_reducible repeat (first | apply kN_ | apply kD_ | apply kA_)); refine blk_far ?_ NB390_412.out _; (with_reducible repeat (first | apply kN_ | apply kD_ | apply kA_)); exact BK390.out) hb; replace BK399 := sqB_ BK399 (by (with_reducible repeat (first | apply kN_ | apply kD_ | apply kA_)); refine blk_far ?_ NB399_412.out _; (with_reducible repeat (first | apply kN_ | apply kD_ | apply kA_)); refine blk_far ?_ NB399_412.out _; (with_reducible repeat (first | apply kN_ | apply kD_ | apply kA_)); refine blk_far ?_ NB399_412.out _; (with_reducible repeat (first | apply kN_ | apply kD_ | apply kA_)); refine blk_far ?_ NB399_412.out _; (with_reducible repeat (first | apply kN_ | apply kD_ | apply kA_)); exact BK399.out) hb; replace BK400 := sqB_ BK400 (by (with_reducible repeat (first | apply kN_ | apply kD_ | apply kA_)); refine blk_far ?_ NB400_412.out _; (with_reducible repeat (first | apply kN_ | apply kD_ | apply kA_)); refine blk_far ?_ NB400_412.out _; (with_reducible repeat (first | apply kN_ | apply kD_ | apply kA_)); refine blk_far ?_ NB400_412.out _; (with_reducible repeat (first | apply kN_ | apply kD_ | apply kA_)); refine blk_far ?_ NB400_412.out _; (with_reducible repeat (first | apply kN_ | apply kD_ | apply kA_)); exact BK400.out) hb; replace BK406 := sqB_ BK406 (by (with_reducible repeat (first | apply kN_ | apply kD_ | apply kA_)); refine blk_far ?_ NB406_412.out _; (with_reducible repeat (first | apply kN_ | apply kD_ | apply kA_)); refine blk_far ?_ NB406_412.out _; (with_reducible repeat (first | apply kN_ | apply kD_ | apply kA_)); refine blk_far ?_ NB406_412.out _; (with_reducible repeat (first | apply kN_ | apply kD_ | apply kA_)); refine blk_far ?_ NB406_412.out _; (with_reducible repeat (first | apply kN_ | apply kD_ | apply kA_)); exact BK406.out) hb; replace BK412 := sqQ_ (g := gb412) (o := .cells #[I_ S_ t407, I_ U_ t408, .string t409, I_ S_ t410] 24 (0, 0)) (by (with_reducible repeat (first | apply kN_ | apply kD_ | apply kA_)); refine blk_put (cs := #[I_ S_ t407, I_ U_ t408, .string t409, I_ S_ 0]) ?_ 3 _ rfl; (with_reducible repeat (first | apply kN_ | apply kD_ | apply kA_)); refine blk_put (cs := #[I_ S_ t407, I_ U_ t408, .string ⟨#[]⟩, I_ S_ 0]) ?_ 2 _ rfl; (with_reducible repeat (first | apply kN_ | apply kD_ | apply kA_)); refine blk_put (cs := #[I_ S_ t407, I_ U_ 0, .string ⟨#[]⟩, I_ S_ 0]) ?_ 1 _ rfl; (with_reducible repeat (first | apply kN_ | apply kD_ | apply kA_)); refine blk_put (cs := #[I_ S_ 0, I_ U_ 0, .string ⟨#[]⟩, I_ S_ 0]) ?_ 0 _ rfl; (with_reducible repeat (first | apply kN_ | apply kD_ | apply kA_)); exact BK412.out) hb; replace HB := sqS_ (by repeat (first | (with_reducible first | exact HB.out | apply bA_ | apply bN_ | apply bD_ | refine bS_ ?_ ‹Aside0 _›.out) | exact HB.out)) hb; (try clear hb); (try clear hb2); (try clear hk); (try clear hi); have hnb94 := NB384_377.out; have hnc94 := NB377_384.out; have hnb95 := NB384_378.out; have hnc95 := NB378_384.out; have hnb96 := NB384_390.out; have hnc96 := NB390_384.out; have hnb97 := NB384_399.out; have hnc97 := NB399_384.out; have hnb98 := NB384_400.out; have hnc98 := NB400_384.out; have hnb99 := NB384_406.out; have hnc99 := NB406_384.out; have hnb100 := NB384_412.out; have hnc100 := NB412_384.out; obtain ⟨hcz101_0, hcz101_1, hcz101_2, hcz101_3⟩ := cells4_ BK384.out; obtain ⟨hfz101_0, hfz101_1, hfz101_2, hfz101_3⟩ := froz4_ BK384.out; have hnb102 := NB390_377.out; have hnc102 := NB377_390.out; have hnb103 := NB390_378.out; have hnc103 := NB378_390.out; have hnb104 := NB390_399.out; have hnc104 := NB399_390.out; have hnb105 := NB390_400.out; have hnc105 := NB400_390.out; have hnb106 := NB390_406.out; have hnc106 := NB406_390.out; have hnb107 := NB390_412.out; have hnc107 := NB412_390.out; obtain ⟨hcz108_0, hcz108_1, hcz108_2, hcz108_3⟩ := cells4_ BK390.out; obtain ⟨hfz108_0, hfz108_1, hfz108_2, hfz108_3⟩ := froz4_ BK390.out; have hnb109 := NB406_377.out; have hnc109 := NB377_406.out; have hnb110 := NB406_378.out; have hnc110 := NB378_406.out; have hnb111 := NB406_399.out; have hnc111 := NB399_406.out; have hnb112 := NB406_400.out; have hnc112 := NB400_406.out; have hnb113 := NB406_412.out; have hnc113 := NB412_406.out; obtain ⟨hcz114_0, hcz114_1, hcz114_2, hcz114_3⟩ := cells4_ BK406.out; obtain ⟨hfz114_0, hfz114_1, hfz114_2, hfz114_3⟩ := froz4_ BK406.out; have hnb115 := NB412_377.out; have hnc115 := NB377_412.out; have hnb116 := NB412_378.out; have hnc116 := NB378_412.out; have hnb117 := NB412_399.out; have hnc117 := NB399_412.out; have hnb118 := NB412_400.out; have hnc118 := NB400_412.out; obtain ⟨hcz119_0, hcz119_1, hcz119_2, hcz119_3⟩ := cells4_ BK412.out; obtain ⟨hfz119_0, hfz119_1, hfz119_2, hfz119_3⟩ := froz4_ BK412.out))
       go_meet
       case rel => exact ⟨_, (true), (by first | rfl | (simp; done) | (simp [*]; done)), H', ⟨by have := HJ5.out; first | omega | exact Nat.le_refl _⟩, ⟨by (with_reducible repeat (first | apply kN_ | apply kD_ | apply kA_)); exact BK377.out⟩, ⟨by (with_reducible repeat (first | apply kN_ | apply kD_ | apply kA_)); exact BK378.out⟩, ⟨by (with_reducible repeat (first | apply kN_ | apply kD_ | apply kA_)); exact BK384.out⟩, ⟨by (with_reducible repeat (first | apply kN_ | apply kD_ | apply kA_)); exact BK390.out⟩, ⟨by (with_reducible repeat (first | apply kN_ | apply kD_ | apply kA_)); exact BK399.out⟩, ⟨by (with_reducible repeat (first | apply kN_ | apply kD_ | apply kA_)); exact BK400.out⟩, ⟨by (with_reducible repeat (first | apply kN_ | apply kD_ | apply kA_)); exact BK406.out⟩, ⟨by (with_reducible repeat (first | apply kN_ | apply kD_ | apply kA_)); exact BK412.out⟩, ⟨by repeat (first | (with_reducible first | exact HB.out | apply bA_ | apply bN_ | apply bD_ | refine bS_ ?_ ‹Aside0 _›.out) | exact HB.out)⟩⟩
      rw [if_neg c92] at H
      have c92b0 : (!(t401 == t407) || (!(t402 == t408) || (!(t403.toList == t409.toList) || (!(t404 == t410))))) = false := by simpa using c92
      clear c92
      have H' := Aside0.mk H
      clear H
      go_wp2_with (first | ((with_reducible refine gate_callee (f := 12) rfl ?_); refine goesL_ (some 66) rfl rfl Tryd.func12 (by kernel_rfl) rfl #[] rfl (by (try simp only [List.map_toArray, List.map_cons, List.map_nil]); first | done | rfl) ?_; (with_reducible refine (platformfwlaw08_awake.calls kj5  true _ ?hTT_ (by first | exact hr_ | exact ⟨rfl⟩) A72.out).mono ?_); (case hTT_ => exact tb_below HTT_.out (by repeat (first | (with_reducible first | exact HB.out | apply bA_ | apply bN_ | apply bD_ | refine bS_ ?_ ‹Aside0 _›.out) | exact HB.out))); rintro e w120 ⟨rfl, hb⟩; refine ⟨_, rfl, ?_⟩; replace BK377 := sqB_ BK377 (by (with_reducible repeat (first | apply kN_ | apply kD_ | apply kA_)); refine blk_far ?_ NB377_412.out _; (with_reducible repeat (first | apply kN_ | apply kD_ | apply kA_)); refine blk_far ?_ NB377_412.out _; (with_reducible repeat (first | apply kN_ | apply kD_ | apply kA_)); refine blk_far ?_ NB377_412.out _; (with_reducible repeat (first | apply kN_ | apply kD_ | apply kA_)); refine blk_far ?_ NB377_412.out _; (with_reducible repeat (first | apply kN_ | apply kD_ | apply kA_)); exact BK377.out) hb; replace BK378 := sqB_ BK378 (by (with_reducible repeat (first | apply kN_ | apply kD_ | apply kA_)); refine blk_far ?_ NB378_412.out _; (with_reducible repeat (first | apply kN_ | apply kD_ | apply kA_)); refine blk_far ?_ NB378_412.out _; (with_reducible repeat (first | apply kN_ | apply kD_ | apply kA_)); refine blk_far ?_ NB378_412.out _; (with_reducible repeat (first | apply kN_ | apply kD_ | apply kA_)); refine blk_far ?_ NB378_412.out _; (with_reducible repeat (first | apply kN_ | apply kD_ | apply kA_)); exact BK378.out) hb; replace BK384 := sqB_ BK384 (by (with_reducible repeat (first | apply kN_ | apply kD_ | apply kA_)); refine blk_far ?_ NB384_412.out _; (with_reducible repeat (first | apply kN_ | apply kD_ | apply kA_)); refine blk_far ?_ NB384_412.out _; (with_reducible repeat (first | apply kN_ | apply kD_ | apply kA_)); refine blk_far ?_ NB384_412.out _; (with_reducible repeat (first | apply kN_ | apply kD_ | apply kA_)); refine blk_far ?_ NB384_412.out _; (with_reducible repeat (first | apply kN_ | apply kD_ | apply kA_)); exact BK384.out) hb; replace BK390 := sqB_ BK390 (by (with_reducible repeat (first | apply kN_ | apply kD_ | apply kA_)); refine blk_far ?_ NB390_412.out _; (with_reducible repeat (first | apply kN_ | apply kD_ | apply kA_)); refine blk_far ?_ NB390_412.out _; (with_reducible repeat (first | apply kN_ | apply kD_ | apply kA_)); refine blk_far ?_ NB390_412.out _; (with_reducible repeat (first | apply kN_ | apply kD_ | apply kA_)); refine blk_far ?_ NB390_412.out _; (with_reducible repeat (first | apply kN_ | apply kD_ | apply kA_)); exact BK390.out) hb; replace BK399 := sqB_ BK399 (by (with_reducible repeat (first | apply kN_ | apply kD_ | apply kA_)); refine blk_far ?_ NB399_412.out _; (with_reducible repeat (first | apply kN_ | apply kD_ | apply kA_)); refine blk_far ?_ NB399_412.out _; (with_reducible repeat (first | apply kN_ | apply kD_ | apply kA_)); refine blk_far ?_ NB399_412.out _; (with_reducible repeat (first | apply kN_ | apply kD_ | apply kA_)); refine blk_far ?_ NB399_412.out _; (with_reducible repeat (first | apply kN_ | apply kD_ | apply kA_)); exact BK399.out) hb; replace BK400 := sqB_ BK400 (by (with_reducible repeat (first | apply kN_ | apply kD_ | apply kA_)); refine blk_far ?_ NB400_412.out _; (with_reducible repeat (first | apply kN_ | apply kD_ | apply kA_)); refine blk_far ?_ NB400_412.out _; (with_reducible repeat (first | apply kN_ | apply kD_ | apply kA_)); refine blk_far ?_ NB400_412.out _; (with_reducible repeat (first | apply kN_ | apply kD_ | apply kA_)); refine blk_far ?_ NB400_412.out _; (with_reducible repeat (first | apply kN_ | apply kD_ | apply kA_)); exact BK400.out) hb; replace BK406 := sqB_ BK406 (by (with_reducible repeat (first | apply kN_ | apply kD_ | apply kA_)); refine blk_far ?_ NB406_412.out _; (with_reducible repeat (first | apply kN_ | apply kD_ | apply kA_)); refine blk_far ?_ NB406_412.out _; (with_reducible repeat (first | apply kN_ | apply kD_ | apply kA_)); refine blk_far ?_ NB406_412.out _; (with_reducible repeat (first | apply kN_ | apply kD_ | apply kA_)); refine blk_far ?_ NB406_412.out _; (with_reducible repeat (first | apply kN_ | apply kD_ | apply kA_)); exact BK406.out) hb; replace BK412 := sqQ_ (g := gb412) (o := .cells #[I_ S_ t407, I_ U_ t408, .string t409, I_ S_ t410] 24 (0, 0)) (by (with_reducible repeat (first | apply kN_ | apply kD_ | apply kA_)); refine blk_put (cs := #[I_ S_ t407, I_ U_ t408, .string t409, I_ S_ 0]) ?_ 3 _ rfl; (with_reducible repeat (first | apply kN_ | apply kD_ | apply kA_)); refine blk_put (cs := #[I_ S_ t407, I_ U_ t408, .string ⟨#[]⟩, I_ S_ 0]) ?_ 2 _ rfl; (with_reducible repeat (first | apply kN_ | apply kD_ | apply kA_)); refine blk_put (cs := #[I_ S_ t407, I_ U_ 0, .string ⟨#[]⟩, I_ S_ 0]) ?_ 1 _ rfl; (with_reducible repeat (first | apply kN_ | apply kD_ | apply kA_)); refine blk_put (cs := #[I_ S_ 0, I_ U_ 0, .string ⟨#[]⟩, I_ S_ 0]) ?_ 0 _ rfl; (with_reducible repeat (first | apply kN_ | apply kD_ | apply kA_)); exact BK412.out) hb; replace HB := sqS_ (by repeat (first | (with_reducible first | exact HB.out | apply bA_ | apply bN_ | apply bD_ | refine bS_ ?_ ‹Aside0 _›.out) | exact HB.out)) hb; (try clear hb); (try clear hb2); (try clear hk); (try clear hi); have hnb121 := NB384_377.out; have hnc121 := NB377_384.out; have hnb122 := NB384_378.out; have hnc122 := NB378_384.out; have hnb123 := NB384_390.out; have hnc123 := NB390_384.out; have hnb124 := NB384_399.out; have hnc124 := NB399_384.out; have hnb125 := NB384_400.out; have hnc125 := NB400_384.out; have hnb126 := NB384_406.out; have hnc126 := NB406_384.out; have hnb127 := NB384_412.out; have hnc127 := NB412_384.out; obtain ⟨hcz128_0, hcz128_1, hcz128_2, hcz128_3⟩ := cells4_ BK384.out; obtain ⟨hfz128_0, hfz128_1, hfz128_2, hfz128_3⟩ := froz4_ BK384.out; have hnb129 := NB390_377.out; have hnc129 := NB377_390.out; have hnb130 := NB390_378.out; have hnc130 := NB378_390.out; have hnb131 := NB390_399.out; have hnc131 := NB399_390.out; have hnb132 := NB390_400.out; have hnc132 := NB400_390.out; have hnb133 := NB390_406.out; have hnc133 := NB406_390.out; have hnb134 := NB390_412.out; have hnc134 := NB412_390.out; obtain ⟨hcz135_0, hcz135_1, hcz135_2, hcz135_3⟩ := cells4_ BK390.out; obtain ⟨hfz135_0, hfz135_1, hfz135_2, hfz135_3⟩ := froz4_ BK390.out; have hnb136 := NB406_377.out; have hnc136 := NB377_406.out; have hnb137 := NB406_378.out; have hnc137 := NB378_406.out; have hnb138 := NB406_399.out; have hnc138 := NB399_406.out; have hnb139 := NB406_400.out; have hnc139 := NB400_406.out; have hnb140 := NB406_412.out; have hnc140 := NB412_406.out; obtain ⟨hcz141_0, hcz141_1, hcz141_2, hcz141_3⟩ := cells4_ BK406.out; obtain ⟨hfz141_0, hfz141_1, hfz141_2, hfz141_3⟩ := froz4_ BK406.out; have hnb142 := NB412_377.out; have hnc142 := NB377_412.out; have hnb143 := NB412_378.out; have hnc143 := NB378_412.out; have hnb144 := NB412_399.out; have hnc144 := NB399_412.out; have hnb145 := NB412_400.out; have hnc145 := NB400_412.out; obtain ⟨hcz146_0, hcz146_1, hcz146_2, hcz146_3⟩ := cells4_ BK412.out; obtain ⟨hfz146_0, hfz146_1, hfz146_2, hfz146_3⟩ := froz4_ BK412.out))
      go_meet
      case rel => exact ⟨_, ((t405 != t411)), (by first | rfl | (simp; done) | (simp [*]; done)), H', ⟨by have := HJ5.out; first | omega | exact Nat.le_refl _⟩, ⟨by (with_reducible repeat (first | apply kN_ | apply kD_ | apply kA_)); exact BK377.out⟩, ⟨by (with_reducible repeat (first | apply kN_ | apply kD_ | apply kA_)); exact BK378.out⟩, ⟨by (with_reducible repeat (first | apply kN_ | apply kD_ | apply kA_)); exact BK384.out⟩, ⟨by (with_reducible repeat (first | apply kN_ | apply kD_ | apply kA_)); exact BK390.out⟩, ⟨by (with_reducible repeat (first | apply kN_ | apply kD_ | apply kA_)); exact BK399.out⟩, ⟨by (with_reducible repeat (first | apply kN_ | apply kD_ | apply kA_)); exact BK400.out⟩, ⟨by (with_reducible repeat (first | apply kN_ | apply kD_ | apply kA_)); exact BK406.out⟩, ⟨by (with_reducible repeat (first | apply kN_ | apply kD_ | apply kA_)); exact BK412.out⟩, ⟨by repeat (first | (with_reducible first | exact HB.out | apply bA_ | apply bN_ | apply bD_ | refine bS_ ?_ ‹Aside0 _›.out) | exact HB.out)⟩⟩
     rw [if_neg c91] at H
     have c91b0 : (t383 == t389) = false := beq_eq_false_iff_ne.mpr c91
     have c91b1 : (t383 != t389) = true := bne_iff_ne.mpr c91
     have H' := Aside0.mk H
     clear H
     go_wp2_with (first | ((with_reducible refine gate_callee (f := 12) rfl ?_); refine goesL_ (some 66) rfl rfl Tryd.func12 (by kernel_rfl) rfl #[] rfl (by (try simp only [List.map_toArray, List.map_cons, List.map_nil]); first | done | rfl) ?_; (with_reducible refine (platformfwlaw08_awake.calls kj5  true _ ?hTT_ (by first | exact hr_ | exact ⟨rfl⟩) A72.out).mono ?_); (case hTT_ => exact tb_below HTT_.out (by repeat (first | (with_reducible first | exact HB.out | apply bA_ | apply bN_ | apply bD_ | refine bS_ ?_ ‹Aside0 _›.out) | exact HB.out))); rintro e w147 ⟨rfl, hb⟩; refine ⟨_, rfl, ?_⟩; replace BK377 := sqB_ BK377 (by (with_reducible repeat (first | apply kN_ | apply kD_ | apply kA_)); refine blk_far ?_ NB377_412.out _; (with_reducible repeat (first | apply kN_ | apply kD_ | apply kA_)); refine blk_far ?_ NB377_412.out _; (with_reducible repeat (first | apply kN_ | apply kD_ | apply kA_)); refine blk_far ?_ NB377_412.out _; (with_reducible repeat (first | apply kN_ | apply kD_ | apply kA_)); refine blk_far ?_ NB377_412.out _; (with_reducible repeat (first | apply kN_ | apply kD_ | apply kA_)); exact BK377.out) hb; replace BK378 := sqB_ BK378 (by (with_reducible repeat (first | apply kN_ | apply kD_ | apply kA_)); refine blk_far ?_ NB378_412.out _; (with_reducible repeat (first | apply kN_ | apply kD_ | apply kA_)); refine blk_far ?_ NB378_412.out _; (with_reducible repeat (first | apply kN_ | apply kD_ | apply kA_)); refine blk_far ?_ NB378_412.out _; (with_reducible repeat (first | apply kN_ | apply kD_ | apply kA_)); refine blk_far ?_ NB378_412.out _; (with_reducible repeat (first | apply kN_ | apply kD_ | apply kA_)); exact BK378.out) hb; replace BK384 := sqB_ BK384 (by (with_reducible repeat (first | apply kN_ | apply kD_ | apply kA_)); refine blk_far ?_ NB384_412.out _; (with_reducible repeat (first | apply kN_ | apply kD_ | apply kA_)); refine blk_far ?_ NB384_412.out _; (with_reducible repeat (first | apply kN_ | apply kD_ | apply kA_)); refine blk_far ?_ NB384_412.out _; (with_reducible repeat (first | apply kN_ | apply kD_ | apply kA_)); refine blk_far ?_ NB384_412.out _; (with_reducible repeat (first | apply kN_ | apply kD_ | apply kA_)); exact BK384.out) hb; replace BK390 := sqB_ BK390 (by (with_reducible repeat (first | apply kN_ | apply kD_ | apply kA_)); refine blk_far ?_ NB390_412.out _; (with_reducible repeat (first | apply kN_ | apply kD_ | apply kA_)); refine blk_far ?_ NB390_412.out _; (with_reducible repeat (first | apply kN_ | apply kD_ | apply kA_)); refine blk_far ?_ NB390_412.out _; (with_reducible repeat (first | apply kN_ | apply kD_ | apply kA_)); refine blk_far ?_ NB390_412.out _; (with_reducible repeat (first | apply kN_ | apply kD_ | apply kA_)); exact BK390.out) hb; replace BK399 := sqB_ BK399 (by (with_reducible repeat (first | apply kN_ | apply kD_ | apply kA_)); refine blk_far ?_ NB399_412.out _; (with_reducible repeat (first | apply kN_ | apply kD_ | apply kA_)); refine blk_far ?_ NB399_412.out _; (with_reducible repeat (first | apply kN_ | apply kD_ | apply kA_)); refine blk_far ?_ NB399_412.out _; (with_reducible repeat (first | apply kN_ | apply kD_ | apply kA_)); refine blk_far ?_ NB399_412.out _; (with_reducible repeat (first | apply kN_ | apply kD_ | apply kA_)); exact BK399.out) hb; replace BK400 := sqB_ BK400 (by (with_reducible repeat (first | apply kN_ | apply kD_ | apply kA_)); refine blk_far ?_ NB400_412.out _; (with_reducible repeat (first | apply kN_ | apply kD_ | apply kA_)); refine blk_far ?_ NB400_412.out _; (with_reducible repeat (first | apply kN_ | apply kD_ | apply kA_)); refine blk_far ?_ NB400_412.out _; (with_reducible repeat (first | apply kN_ | apply kD_ | apply kA_)); refine blk_far ?_ NB400_412.out _; (with_reducible repeat (first | apply kN_ | apply kD_ | apply kA_)); exact BK400.out) hb; replace BK406 := sqB_ BK406 (by (with_reducible repeat (first | apply kN_ | apply kD_ | apply kA_)); refine blk_far ?_ NB406_412.out _; (with_reducible repeat (first | apply kN_ | apply kD_ | apply kA_)); refine blk_far ?_ NB406_412.out _; (with_reducible repeat (first | apply kN_ | apply kD_ | apply kA_)); refine blk_far ?_ NB406_412.out _; (with_reducible repeat (first | apply kN_ | apply kD_ | apply kA_)); refine blk_far ?_ NB406_412.out _; (with_reducible repeat (first | apply kN_ | apply kD_ | apply kA_)); exact BK406.out) hb; replace BK412 := sqQ_ (g := gb412) (o := .cells #[I_ S_ t407, I_ U_ t408, .string t409, I_ S_ t410] 24 (0, 0)) (by (with_reducible repeat (first | apply kN_ | apply kD_ | apply kA_)); refine blk_put (cs := #[I_ S_ t407, I_ U_ t408, .string t409, I_ S_ 0]) ?_ 3 _ rfl; (with_reducible repeat (first | apply kN_ | apply kD_ | apply kA_)); refine blk_put (cs := #[I_ S_ t407, I_ U_ t408, .string ⟨#[]⟩, I_ S_ 0]) ?_ 2 _ rfl; (with_reducible repeat (first | apply kN_ | apply kD_ | apply kA_)); refine blk_put (cs := #[I_ S_ t407, I_ U_ 0, .string ⟨#[]⟩, I_ S_ 0]) ?_ 1 _ rfl; (with_reducible repeat (first | apply kN_ | apply kD_ | apply kA_)); refine blk_put (cs := #[I_ S_ 0, I_ U_ 0, .string ⟨#[]⟩, I_ S_ 0]) ?_ 0 _ rfl; (with_reducible repeat (first | apply kN_ | apply kD_ | apply kA_)); exact BK412.out) hb; replace HB := sqS_ (by repeat (first | (with_reducible first | exact HB.out | apply bA_ | apply bN_ | apply bD_ | refine bS_ ?_ ‹Aside0 _›.out) | exact HB.out)) hb; (try clear hb); (try clear hb2); (try clear hk); (try clear hi); have hnb148 := NB384_377.out; have hnc148 := NB377_384.out; have hnb149 := NB384_378.out; have hnc149 := NB378_384.out; have hnb150 := NB384_390.out; have hnc150 := NB390_384.out; have hnb151 := NB384_399.out; have hnc151 := NB399_384.out; have hnb152 := NB384_400.out; have hnc152 := NB400_384.out; have hnb153 := NB384_406.out; have hnc153 := NB406_384.out; have hnb154 := NB384_412.out; have hnc154 := NB412_384.out; obtain ⟨hcz155_0, hcz155_1, hcz155_2, hcz155_3⟩ := cells4_ BK384.out; obtain ⟨hfz155_0, hfz155_1, hfz155_2, hfz155_3⟩ := froz4_ BK384.out; have hnb156 := NB390_377.out; have hnc156 := NB377_390.out; have hnb157 := NB390_378.out; have hnc157 := NB378_390.out; have hnb158 := NB390_399.out; have hnc158 := NB399_390.out; have hnb159 := NB390_400.out; have hnc159 := NB400_390.out; have hnb160 := NB390_406.out; have hnc160 := NB406_390.out; have hnb161 := NB390_412.out; have hnc161 := NB412_390.out; obtain ⟨hcz162_0, hcz162_1, hcz162_2, hcz162_3⟩ := cells4_ BK390.out; obtain ⟨hfz162_0, hfz162_1, hfz162_2, hfz162_3⟩ := froz4_ BK390.out))
     go_meet
     case rel => exact ⟨_, (true), (by first | rfl | (simp; done) | (simp [*]; done)), H', ⟨by have := HJ5.out; first | omega | exact Nat.le_refl _⟩, ⟨by (with_reducible repeat (first | apply kN_ | apply kD_ | apply kA_)); exact BK377.out⟩, ⟨by (with_reducible repeat (first | apply kN_ | apply kD_ | apply kA_)); exact BK378.out⟩, ⟨by (with_reducible repeat (first | apply kN_ | apply kD_ | apply kA_)); exact BK384.out⟩, ⟨by (with_reducible repeat (first | apply kN_ | apply kD_ | apply kA_)); exact BK390.out⟩, ⟨by (with_reducible repeat (first | apply kN_ | apply kD_ | apply kA_)); exact BK399.out⟩, ⟨by (with_reducible repeat (first | apply kN_ | apply kD_ | apply kA_)); exact BK400.out⟩, ⟨by (with_reducible repeat (first | apply kN_ | apply kD_ | apply kA_)); exact BK406.out⟩, ⟨by (with_reducible repeat (first | apply kN_ | apply kD_ | apply kA_)); exact BK412.out⟩, ⟨by repeat (first | (with_reducible first | exact HB.out | apply bA_ | apply bN_ | apply bD_ | refine bS_ ?_ ‹Aside0 _›.out) | exact HB.out)⟩⟩
    replace c73 := Bool.eq_false_iff.mpr c73
    subst c73
    have H1 : (platformfwlaw08_ValueMid.j1 kj5 true t391 t392 t393 t394 t395 t396 t397 t398) = some r := by rw [if_neg (show ¬ (false = true) by decide)] at H; exact H
    clear H
    have H := H1
    clear H1
    exfalso
    have hq_ := hr_.out
    rw [hq_] at H
    cases kj5 with
    | zero => exact absurd H (by simp [platformfwlaw08_ValueMid.j1])
    | succ n => exact absurd H (by simp [platformfwlaw08_ValueMid.j1])
   case rest =>
    clear HC16
    try clear c1
    try clear p2
    try clear c4
    try clear c5
    try clear c6
    try clear c7
    try clear c8
    try clear c9
    try clear c10
    try clear c11
    try clear c12
    try clear c13
    try clear c14
    try clear c15
    try clear c16
    try clear c46
    try clear c47
    try clear c48
    try clear c49
    try clear c50
    try clear c54
    try clear c55
    try clear c56
    try clear c57
    try clear c58
    try clear c59
    try clear c64
    try clear c65
    try clear c66
    try clear c67
    try clear c68
    try clear c69
    try clear c70
    try clear c73
    try clear c74
    try clear c74b0
    try clear c76
    try clear c77
    try clear c78
    try clear c79
    try clear c80
    try clear c81
    try clear c82
    try clear c84
    try clear c85
    try clear c86
    try clear c87
    try clear c88
    try clear c89
    try clear c91
    try clear c91b0
    try clear c91b1
    try clear c92
    try clear c92b0
    try clear c94
    try clear c95
    try clear c96
    try clear c97
    try clear c98
    try clear c99
    try clear c100
    try clear c102
    try clear c103
    try clear c104
    try clear c105
    try clear c106
    try clear c107
    try clear c109
    try clear c110
    try clear c111
    try clear c112
    try clear c113
    try clear c115
    try clear c116
    try clear c117
    try clear c118
    try clear c121
    try clear c122
    try clear c123
    try clear c124
    try clear c125
    try clear c126
    try clear c127
    try clear c129
    try clear c130
    try clear c131
    try clear c132
    try clear c133
    try clear c134
    try clear c136
    try clear c137
    try clear c138
    try clear c139
    try clear c140
    try clear c142
    try clear c143
    try clear c144
    try clear c145
    try clear c148
    try clear c149
    try clear c150
    try clear c151
    try clear c152
    try clear c153
    try clear c154
    try clear c156
    try clear c157
    try clear c158
    try clear c159
    try clear c160
    try clear c161
    try clear hcz101_0 hcz101_1 hcz101_2 hcz101_3
    try clear hcz108_0 hcz108_1 hcz108_2 hcz108_3
    try clear hcz114_0 hcz114_1 hcz114_2 hcz114_3
    try clear hcz119_0 hcz119_1 hcz119_2 hcz119_3
    try clear hcz128_0 hcz128_1 hcz128_2 hcz128_3
    try clear hcz135_0 hcz135_1 hcz135_2 hcz135_3
    try clear hcz141_0 hcz141_1 hcz141_2 hcz141_3
    try clear hcz146_0 hcz146_1 hcz146_2 hcz146_3
    try clear hcz155_0 hcz155_1 hcz155_2 hcz155_3
    try clear hcz162_0 hcz162_1 hcz162_2 hcz162_3
    try clear hcz51_0 hcz51_1 hcz51_2 hcz51_3
    try clear hcz60_0 hcz60_1 hcz60_2 hcz60_3
    try clear hcz61_0 hcz61_1 hcz61_2 hcz61_3
    try clear hcz71_0 hcz71_1 hcz71_2 hcz71_3
    try clear hcz83_0 hcz83_1 hcz83_2 hcz83_3
    try clear hcz90_0 hcz90_1 hcz90_2 hcz90_3
    try clear hfz101_0 hfz101_1 hfz101_2 hfz101_3
    try clear hfz108_0 hfz108_1 hfz108_2 hfz108_3
    try clear hfz114_0 hfz114_1 hfz114_2 hfz114_3
    try clear hfz119_0 hfz119_1 hfz119_2 hfz119_3
    try clear hfz128_0 hfz128_1 hfz128_2 hfz128_3
    try clear hfz135_0 hfz135_1 hfz135_2 hfz135_3
    try clear hfz141_0 hfz141_1 hfz141_2 hfz141_3
    try clear hfz146_0 hfz146_1 hfz146_2 hfz146_3
    try clear hfz155_0 hfz155_1 hfz155_2 hfz155_3
    try clear hfz162_0 hfz162_1 hfz162_2 hfz162_3
    try clear hfz51_0 hfz51_1 hfz51_2 hfz51_3
    try clear hfz60_0 hfz60_1 hfz60_2 hfz60_3
    try clear hfz61_0 hfz61_1 hfz61_2 hfz61_3
    try clear hfz71_0 hfz71_1 hfz71_2 hfz71_3
    try clear hfz83_0 hfz83_1 hfz83_2 hfz83_3
    try clear hfz90_0 hfz90_1 hfz90_2 hfz90_3
    obtain ⟨kq, x87_15, rfl, HA, HJ15, BK377, BK378, BK384, BK390, BK399, BK400, BK406, BK412, HB⟩ := hcut
    cases kq with
    | zero => exact absurd HA.out (by simp [platformfwlaw08_ValueMid.j1])
    | succ kj15 =>
     have H := HA.out
     clear HA
     simp only [platformfwlaw08_ValueMid.j1] at H
     by_cases c164 : x87_15 = true
     ·subst c164
      have H1 : (some false) = some r := by rw [if_pos rfl] at H; exact H
      clear H
      have H := H1
      clear H1
      obtain rfl := Option.some.inj H
      exact absurd hr_.out (by simp)
     replace c164 := Bool.eq_false_iff.mpr c164
     subst c164
     have H1 : (if t391 = 2 then ((platformfwref08_Valid.f t391 t392 t393 t394).bind fun t414 => (platformfwlaw08_ValueMid.j2 kj15 (!t414) t391 t392 t393 t394 t395 t396 t397 t398)) else (if t391 = 3 then ((platformfwref08_Valid.f t391 t392 t393 t394).bind fun t415 => (platformfwlaw08_ValueMid.j2 kj15 (!t415) t391 t392 t393 t394 t395 t396 t397 t398)) else (platformfwlaw08_ValueMid.j2 kj15 true t391 t392 t393 t394 t395 t396 t397 t398))) = some r := by rw [if_neg (show ¬ (false = true) by decide)] at H; exact H
     clear H
     have H := H1
     clear H1
     have HC165 := Aside0.mk H
     clear H
     go_upto_region 10 with (fail)
     go_cut [100] (fun v100 wc => ∃ (kq : Nat) (x100_164 : Bool), v100 = .bool x100_164 ∧ Aside0 (platformfwlaw08_ValueMid.j2 kq x100_164 t391 t392 t393 t394 t395 t396 t397 t398 = some r) ∧ Aside0 (kq ≤ kj15) ∧ Aside0 (wc.heap[gb377]? = some (.cells #[I_ S_ a0_0, I_ U_ a0_1, .string a0_2, I_ S_ a0_3] 24 (0, 0))) ∧ Aside0 (wc.heap[gb378]? = some (.cells #[I_ S_ a1_0, I_ U_ a1_1, .string a1_2, I_ S_ a1_3] 24 (0, 0))) ∧ Aside0 (wc.heap[gb384]? = some (.cells #[I_ S_ t379, I_ U_ t380, .string t381, I_ S_ t382] 24 (0, 0))) ∧ Aside0 (wc.heap[gb390]? = some (.cells #[I_ S_ t385, I_ U_ t386, .string t387, I_ S_ t388] 24 (0, 0))) ∧ Aside0 (wc.heap[gb399]? = some (.cells #[I_ S_ t391, I_ U_ t392, .string t393, I_ S_ t394] 24 (0, 0))) ∧ Aside0 (wc.heap[gb400]? = some (.cells #[I_ S_ t395, I_ U_ t396, .string t397, I_ S_ t398] 24 (0, 0))) ∧ Aside0 (wc.heap[gb406]? = some (.cells #[I_ S_ t401, I_ U_ t402, .string t403, I_ S_ t404] 24 (0, 0))) ∧ Aside0 (wc.heap[gb412]? = some (.cells #[I_ S_ t407, I_ U_ t408, .string t409, I_ S_ t410] 24 (0, 0))) ∧ Aside0 (Below w.heap.size w wc))
     case first =>
      have H := HC165.out
      clear HC165
      by_cases c166 : t391 = 2
      ·rw [if_pos c166] at H
       have c166b0 : (t391 == 2) = true := beq_iff_eq.mpr c166
       have c166b1 : (t391 != 2) = false := bne_eq_false_iff_eq.mpr c166
       clear c166
       (first | rw [c166b0] | (simp only [i64_w, i32_w]; rw [c166b0]) | skip)
       replace H := Option.bind_eq_some_iff.mp H
       obtain ⟨t414, A1670, H⟩ := H
       replace H : (platformfwlaw08_ValueMid.j2 kj15 (!t414) t391 t392 t393 t394 t395 t396 t397 t398) = some r := H
       have A167 := Aside0.mk A1670
       clear A1670
       have H' := Aside0.mk H
       clear H
       have hnb168 := NB399_377.out
       have hnc168 := NB377_399.out
       have hnb169 := NB399_378.out
       have hnc169 := NB378_399.out
       have hnb170 := NB399_384.out
       have hnc170 := NB384_399.out
       have hnb171 := NB399_390.out
       have hnc171 := NB390_399.out
       have hnb172 := NB399_400.out
       have hnc172 := NB400_399.out
       have hnb173 := NB399_406.out
       have hnc173 := NB406_399.out
       have hnb174 := NB399_412.out
       have hnc174 := NB412_399.out
       obtain ⟨hcz175_0, hcz175_1, hcz175_2, hcz175_3⟩ := cells4_ BK399.out
       obtain ⟨hfz175_0, hfz175_1, hfz175_2, hfz175_3⟩ := froz4_ BK399.out
       go_wp2_with (first | (go_at_call 13; (with_reducible refine (platformfwref08_Valid.calls t391 t392 t393 t394 t414 _ A167.out).mono ?_); rintro e w176 ⟨rfl, hb⟩; replace BK377 := sqB_ BK377 (by (with_reducible repeat (first | apply kN_ | apply kD_ | apply kA_)); exact BK377.out) hb; replace BK378 := sqB_ BK378 (by (with_reducible repeat (first | apply kN_ | apply kD_ | apply kA_)); exact BK378.out) hb; replace BK384 := sqB_ BK384 (by (with_reducible repeat (first | apply kN_ | apply kD_ | apply kA_)); exact BK384.out) hb; replace BK390 := sqB_ BK390 (by (with_reducible repeat (first | apply kN_ | apply kD_ | apply kA_)); exact BK390.out) hb; replace BK399 := sqB_ BK399 (by (with_reducible repeat (first | apply kN_ | apply kD_ | apply kA_)); exact BK399.out) hb; replace BK400 := sqB_ BK400 (by (with_reducible repeat (first | apply kN_ | apply kD_ | apply kA_)); exact BK400.out) hb; replace BK406 := sqB_ BK406 (by (with_reducible repeat (first | apply kN_ | apply kD_ | apply kA_)); exact BK406.out) hb; replace BK412 := sqB_ BK412 (by (with_reducible repeat (first | apply kN_ | apply kD_ | apply kA_)); exact BK412.out) hb; replace HB := sqS_ (by repeat (first | (with_reducible first | exact HB.out | apply bA_ | apply bN_ | apply bD_ | refine bS_ ?_ ‹Aside0 _›.out) | exact HB.out)) hb; (try clear hb); (try clear hb2); (try clear hk); (try clear hi)))
       go_meet
       case rel => exact ⟨_, (!t414), (by first | rfl | (simp; done) | (simp [*]; done)), H', ⟨by have := HJ5.out; have := HJ15.out; first | omega | exact Nat.le_refl _⟩, ⟨by (with_reducible repeat (first | apply kN_ | apply kD_ | apply kA_)); exact BK377.out⟩, ⟨by (with_reducible repeat (first | apply kN_ | apply kD_ | apply kA_)); exact BK378.out⟩, ⟨by (with_reducible repeat (first | apply kN_ | apply kD_ | apply kA_)); exact BK384.out⟩, ⟨by (with_reducible repeat (first | apply kN_ | apply kD_ | apply kA_)); exact BK390.out⟩, ⟨by (with_reducible repeat (first | apply kN_ | apply kD_ | apply kA_)); exact BK399.out⟩, ⟨by (with_reducible repeat (first | apply kN_ | apply kD_ | apply kA_)); exact BK400.out⟩, ⟨by (with_reducible repeat (first | apply kN_ | apply kD_ | apply kA_)); exact BK406.out⟩, ⟨by (with_reducible repeat (first | apply kN_ | apply kD_ | apply kA_)); exact BK412.out⟩, ⟨by repeat (first | (with_reducible first | exact HB.out | apply bA_ | apply bN_ | apply bD_ | refine bS_ ?_ ‹Aside0 _›.out) | exact HB.out)⟩⟩
      rw [if_neg c166] at H
      have c166b0 : (t391 == 2) = false := beq_eq_false_iff_ne.mpr c166
      have c166b1 : (t391 != 2) = true := bne_iff_ne.mpr c166
      (first | rw [c166b0] | (simp only [i64_w, i32_w]; rw [c166b0]) | skip)
      by_cases c177 : t391 = 3
      ·rw [if_pos c177] at H
       have c177b0 : (t391 == 3) = true := beq_iff_eq.mpr c177
       have c177b1 : (t391 != 3) = false := bne_eq_false_iff_eq.mpr c177
       clear c177
       replace H := Option.bind_eq_some_iff.mp H
       obtain ⟨t415, A1780, H⟩ := H
       replace H : (platformfwlaw08_ValueMid.j2 kj15 (!t415) t391 t392 t393 t394 t395 t396 t397 t398) = some r := H
       have A178 := Aside0.mk A1780
       clear A1780
       have H' := Aside0.mk H
       clear H
       have hnb179 := NB399_377.out
       have hnc179 := NB377_399.out
       have hnb180 := NB399_378.out
       have hnc180 := NB378_399.out
       have hnb181 := NB399_384.out
       have hnc181 := NB384_399.out
       have hnb182 := NB399_390.out
       have hnc182 := NB390_399.out
       have hnb183 := NB399_400.out
       have hnc183 := NB400_399.out
       have hnb184 := NB399_406.out
       have hnc184 := NB406_399.out
       have hnb185 := NB399_412.out
       have hnc185 := NB412_399.out
       obtain ⟨hcz186_0, hcz186_1, hcz186_2, hcz186_3⟩ := cells4_ BK399.out
       obtain ⟨hfz186_0, hfz186_1, hfz186_2, hfz186_3⟩ := froz4_ BK399.out
       go_wp2_with (first | (go_at_call 13; (with_reducible refine (platformfwref08_Valid.calls t391 t392 t393 t394 t415 _ A178.out).mono ?_); rintro e w187 ⟨rfl, hb⟩; replace BK377 := sqB_ BK377 (by (with_reducible repeat (first | apply kN_ | apply kD_ | apply kA_)); exact BK377.out) hb; replace BK378 := sqB_ BK378 (by (with_reducible repeat (first | apply kN_ | apply kD_ | apply kA_)); exact BK378.out) hb; replace BK384 := sqB_ BK384 (by (with_reducible repeat (first | apply kN_ | apply kD_ | apply kA_)); exact BK384.out) hb; replace BK390 := sqB_ BK390 (by (with_reducible repeat (first | apply kN_ | apply kD_ | apply kA_)); exact BK390.out) hb; replace BK399 := sqB_ BK399 (by (with_reducible repeat (first | apply kN_ | apply kD_ | apply kA_)); exact BK399.out) hb; replace BK400 := sqB_ BK400 (by (with_reducible repeat (first | apply kN_ | apply kD_ | apply kA_)); exact BK400.out) hb; replace BK406 := sqB_ BK406 (by (with_reducible repeat (first | apply kN_ | apply kD_ | apply kA_)); exact BK406.out) hb; replace BK412 := sqB_ BK412 (by (with_reducible repeat (first | apply kN_ | apply kD_ | apply kA_)); exact BK412.out) hb; replace HB := sqS_ (by repeat (first | (with_reducible first | exact HB.out | apply bA_ | apply bN_ | apply bD_ | refine bS_ ?_ ‹Aside0 _›.out) | exact HB.out)) hb; (try clear hb); (try clear hb2); (try clear hk); (try clear hi)))
       go_meet
       case rel => exact ⟨_, (!t415), (by first | rfl | (simp; done) | (simp [*]; done)), H', ⟨by have := HJ5.out; have := HJ15.out; first | omega | exact Nat.le_refl _⟩, ⟨by (with_reducible repeat (first | apply kN_ | apply kD_ | apply kA_)); exact BK377.out⟩, ⟨by (with_reducible repeat (first | apply kN_ | apply kD_ | apply kA_)); exact BK378.out⟩, ⟨by (with_reducible repeat (first | apply kN_ | apply kD_ | apply kA_)); exact BK384.out⟩, ⟨by (with_reducible repeat (first | apply kN_ | apply kD_ | apply kA_)); exact BK390.out⟩, ⟨by (with_reducible repeat (first | apply kN_ | apply kD_ | apply kA_)); exact BK399.out⟩, ⟨by (with_reducible repeat (first | apply kN_ | apply kD_ | apply kA_)); exact BK400.out⟩, ⟨by (with_reducible repeat (first | apply kN_ | apply kD_ | apply kA_)); exact BK406.out⟩, ⟨by (with_reducible repeat (first | apply kN_ | apply kD_ | apply kA_)); exact BK412.out⟩, ⟨by repeat (first | (with_reducible first | exact HB.out | apply bA_ | apply bN_ | apply bD_ | refine bS_ ?_ ‹Aside0 _›.out) | exact HB.out)⟩⟩
      rw [if_neg c177] at H
      have c177b0 : (t391 == 3) = false := beq_eq_false_iff_ne.mpr c177
      have c177b1 : (t391 != 3) = true := bne_iff_ne.mpr c177
      have H' := Aside0.mk H
      clear H
      have hnb188 := NB399_377.out
      have hnc188 := NB377_399.out
      have hnb189 := NB399_378.out
      have hnc189 := NB378_399.out
      have hnb190 := NB399_384.out
      have hnc190 := NB384_399.out
      have hnb191 := NB399_390.out
      have hnc191 := NB390_399.out
      have hnb192 := NB399_400.out
      have hnc192 := NB400_399.out
      have hnb193 := NB399_406.out
      have hnc193 := NB406_399.out
      have hnb194 := NB399_412.out
      have hnc194 := NB412_399.out
      obtain ⟨hcz195_0, hcz195_1, hcz195_2, hcz195_3⟩ := cells4_ BK399.out
      obtain ⟨hfz195_0, hfz195_1, hfz195_2, hfz195_3⟩ := froz4_ BK399.out
      go_wp2
      go_meet
      case rel => exact ⟨_, (true), (by first | rfl | (simp; done) | (simp [*]; done)), H', ⟨by have := HJ5.out; have := HJ15.out; first | omega | exact Nat.le_refl _⟩, ⟨by (with_reducible repeat (first | apply kN_ | apply kD_ | apply kA_)); exact BK377.out⟩, ⟨by (with_reducible repeat (first | apply kN_ | apply kD_ | apply kA_)); exact BK378.out⟩, ⟨by (with_reducible repeat (first | apply kN_ | apply kD_ | apply kA_)); exact BK384.out⟩, ⟨by (with_reducible repeat (first | apply kN_ | apply kD_ | apply kA_)); exact BK390.out⟩, ⟨by (with_reducible repeat (first | apply kN_ | apply kD_ | apply kA_)); exact BK399.out⟩, ⟨by (with_reducible repeat (first | apply kN_ | apply kD_ | apply kA_)); exact BK400.out⟩, ⟨by (with_reducible repeat (first | apply kN_ | apply kD_ | apply kA_)); exact BK406.out⟩, ⟨by (with_reducible repeat (first | apply kN_ | apply kD_ | apply kA_)); exact BK412.out⟩, ⟨by repeat (first | (with_reducible first | exact HB.out | apply bA_ | apply bN_ | apply bD_ | refine bS_ ?_ ‹Aside0 _›.out) | exact HB.out)⟩⟩
     case rest =>
      clear HC165
      try clear c1
      try clear p2
      try clear c4
      try clear c5
      try clear c6
      try clear c7
      try clear c8
      try clear c9
      try clear c10
      try clear c11
      try clear c12
      try clear c13
      try clear c14
      try clear c15
      try clear c16
      try clear c17
      try clear c18
      try clear c19
      try clear c46
      try clear c47
      try clear c48
      try clear c49
      try clear c50
      try clear c54
      try clear c55
      try clear c56
      try clear c57
      try clear c58
      try clear c59
      try clear c64
      try clear c65
      try clear c66
      try clear c67
      try clear c68
      try clear c69
      try clear c70
      try clear c73
      try clear c74
      try clear c74b0
      try clear c76
      try clear c77
      try clear c78
      try clear c79
      try clear c80
      try clear c81
      try clear c82
      try clear c84
      try clear c85
      try clear c86
      try clear c87
      try clear c88
      try clear c89
      try clear c91
      try clear c91b0
      try clear c91b1
      try clear c92
      try clear c92b0
      try clear c94
      try clear c95
      try clear c96
      try clear c97
      try clear c98
      try clear c99
      try clear c100
      try clear c102
      try clear c103
      try clear c104
      try clear c105
      try clear c106
      try clear c107
      try clear c109
      try clear c110
      try clear c111
      try clear c112
      try clear c113
      try clear c115
      try clear c116
      try clear c117
      try clear c118
      try clear c121
      try clear c122
      try clear c123
      try clear c124
      try clear c125
      try clear c126
      try clear c127
      try clear c129
      try clear c130
      try clear c131
      try clear c132
      try clear c133
      try clear c134
      try clear c136
      try clear c137
      try clear c138
      try clear c139
      try clear c140
      try clear c142
      try clear c143
      try clear c144
      try clear c145
      try clear c148
      try clear c149
      try clear c150
      try clear c151
      try clear c152
      try clear c153
      try clear c154
      try clear c156
      try clear c157
      try clear c158
      try clear c159
      try clear c160
      try clear c161
      try clear c164
      try clear c166
      try clear c166b0
      try clear c166b1
      try clear c168
      try clear c169
      try clear c170
      try clear c171
      try clear c172
      try clear c173
      try clear c174
      try clear c177
      try clear c177b0
      try clear c177b1
      try clear c179
      try clear c180
      try clear c181
      try clear c182
      try clear c183
      try clear c184
      try clear c185
      try clear c188
      try clear c189
      try clear c190
      try clear c191
      try clear c192
      try clear c193
      try clear c194
      try clear hcz101_0 hcz101_1 hcz101_2 hcz101_3
      try clear hcz108_0 hcz108_1 hcz108_2 hcz108_3
      try clear hcz114_0 hcz114_1 hcz114_2 hcz114_3
      try clear hcz119_0 hcz119_1 hcz119_2 hcz119_3
      try clear hcz128_0 hcz128_1 hcz128_2 hcz128_3
      try clear hcz135_0 hcz135_1 hcz135_2 hcz135_3
      try clear hcz141_0 hcz141_1 hcz141_2 hcz141_3
      try clear hcz146_0 hcz146_1 hcz146_2 hcz146_3
      try clear hcz155_0 hcz155_1 hcz155_2 hcz155_3
      try clear hcz162_0 hcz162_1 hcz162_2 hcz162_3
      try clear hcz175_0 hcz175_1 hcz175_2 hcz175_3
      try clear hcz186_0 hcz186_1 hcz186_2 hcz186_3
      try clear hcz195_0 hcz195_1 hcz195_2 hcz195_3
      try clear hcz51_0 hcz51_1 hcz51_2 hcz51_3
      try clear hcz60_0 hcz60_1 hcz60_2 hcz60_3
      try clear hcz61_0 hcz61_1 hcz61_2 hcz61_3
      try clear hcz71_0 hcz71_1 hcz71_2 hcz71_3
      try clear hcz83_0 hcz83_1 hcz83_2 hcz83_3
      try clear hcz90_0 hcz90_1 hcz90_2 hcz90_3
      try clear hfz101_0 hfz101_1 hfz101_2 hfz101_3
      try clear hfz108_0 hfz108_1 hfz108_2 hfz108_3
      try clear hfz114_0 hfz114_1 hfz114_2 hfz114_3
      try clear hfz119_0 hfz119_1 hfz119_2 hfz119_3
      try clear hfz128_0 hfz128_1 hfz128_2 hfz128_3
      try clear hfz135_0 hfz135_1 hfz135_2 hfz135_3
      try clear hfz141_0 hfz141_1 hfz141_2 hfz141_3
      try clear hfz146_0 hfz146_1 hfz146_2 hfz146_3
      try clear hfz155_0 hfz155_1 hfz155_2 hfz155_3
      try clear hfz162_0 hfz162_1 hfz162_2 hfz162_3
      try clear hfz175_0 hfz175_1 hfz175_2 hfz175_3
      try clear hfz186_0 hfz186_1 hfz186_2 hfz186_3
      try clear hfz195_0 hfz195_1 hfz195_2 hfz195_3
      try clear hfz51_0 hfz51_1 hfz51_2 hfz51_3
      try clear hfz60_0 hfz60_1 hfz60_2 hfz60_3
      try clear hfz61_0 hfz61_1 hfz61_2 hfz61_3
      try clear hfz71_0 hfz71_1 hfz71_2 hfz71_3
      try clear hfz83_0 hfz83_1 hfz83_2 hfz83_3
      try clear hfz90_0 hfz90_1 hfz90_2 hfz90_3
      try clear p2
      obtain ⟨kq, x100_164, rfl, HA, HJ164, BK377, BK378, BK384, BK390, BK399, BK400, BK406, BK412, HB⟩ := hcut
      cases kq with
      | zero => exact absurd HA.out (by simp [platformfwlaw08_ValueMid.j2])
      | succ kj164 =>
       have H := HA.out
       clear HA
       simp only [platformfwlaw08_ValueMid.j2] at H
       by_cases c196 : x100_164 = true
       ·subst c196
        have H1 : (some true) = some r := by rw [if_pos rfl] at H; exact H
        clear H
        have H := H1
        clear H1
        obtain rfl := Option.some.inj H
        go_wp2
        go_ret
        exact ⟨by first | rfl | (simp [errW_none, errW_some] <;> rfl) | (simp [*, errW_none, errW_some] <;> rfl), by repeat (first | (with_reducible first | exact HB.out | apply bA_ | apply bN_ | apply bD_ | refine bS_ ?_ ‹Aside0 _›.out) | exact HB.out)⟩
       replace c196 := Bool.eq_false_iff.mpr c196
       subst c196
       have H1 : ((value_Binary.f kj164 75 t391 t392 t393 t394 t395 t396 t397 t398).bind fun bt416 => (if bt416.2.2.2.2 = 0 then ((value_Mid.f kj164 bt416.1 bt416.2.1 bt416.2.2.1 bt416.2.2.2.1 0 (IntKind.u64.wrap ((t393.size : Int)))).bind fun bt422 => ((value_Mid.f kj164 bt416.1 bt416.2.1 bt416.2.2.1 bt416.2.2.2.1 (IntKind.u64.wrap ((t393.size : Int))) 1000).bind fun bt428 => ((platformfwref08_Convert.f kj164 t395 t396 t397 t398 t391).bind fun bt434 => ((platformfwref08_Clean.f kj164 t391 t392 t393 t394).bind fun bt440 => (if (bt422.1 == bt440.1 && (bt422.2.1 == bt440.2.1 && (bt422.2.2.1.toList == bt440.2.2.1.toList && (bt422.2.2.2.1 == bt440.2.2.2)))) = true then (some (bt428.1 == bt434.1 && (bt428.2.1 == bt434.2.1 && (bt428.2.2.1.toList == bt434.2.2.1.toList && (bt428.2.2.2.1 == bt434.2.2.2.1))))) else (some false)))))) else (some true))) = some r := by rw [if_neg (show ¬ (false = true) by decide)] at H; exact H
       clear H
       have H := H1
       clear H1
       replace H := Option.bind_eq_some_iff.mp H
       obtain ⟨⟨t416, t417, t418, t419, t420⟩, A1970, H⟩ := H
       replace H : (if t420 = 0 then ((value_Mid.f kj164 t416 t417 t418 t419 0 (IntKind.u64.wrap ((t393.size : Int)))).bind fun bt422 => ((value_Mid.f kj164 t416 t417 t418 t419 (IntKind.u64.wrap ((t393.size : Int))) 1000).bind fun bt428 => ((platformfwref08_Convert.f kj164 t395 t396 t397 t398 t391).bind fun bt434 => ((platformfwref08_Clean.f kj164 t391 t392 t393 t394).bind fun bt440 => (if (bt422.1 == bt440.1 && (bt422.2.1 == bt440.2.1 && (bt422.2.2.1.toList == bt440.2.2.1.toList && (bt422.2.2.2.1 == bt440.2.2.2)))) = true then (some (bt428.1 == bt434.1 && (bt428.2.1 == bt434.2.1 && (bt428.2.2.1.toList == bt434.2.2.1.toList && (bt428.2.2.2.1 == bt434.2.2.2.1))))) else (some false)))))) else (some true)) = some r := H
       have A197 := Aside0.mk A1970
       clear A1970
       by_cases c198 : t420 = 0
       ·rw [if_pos c198] at H
        have c198b0 : (t420 == 0) = true := beq_iff_eq.mpr c198
        have c198b1 : (t420 != 0) = false := bne_eq_false_iff_eq.mpr c198
        clear c198
        replace H := Option.bind_eq_some_iff.mp H
        obtain ⟨⟨t422, t423, t424, t425, t426⟩, A1990, H⟩ := H
        replace H : ((value_Mid.f kj164 t416 t417 t418 t419 (IntKind.u64.wrap ((t393.size : Int))) 1000).bind fun bt428 => ((platformfwref08_Convert.f kj164 t395 t396 t397 t398 t391).bind fun bt434 => ((platformfwref08_Clean.f kj164 t391 t392 t393 t394).bind fun bt440 => (if (t422 == bt440.1 && (t423 == bt440.2.1 && (t424.toList == bt440.2.2.1.toList && (t425 == bt440.2.2.2)))) = true then (some (bt428.1 == bt434.1 && (bt428.2.1 == bt434.2.1 && (bt428.2.2.1.toList == bt434.2.2.1.toList && (bt428.2.2.2.1 == bt434.2.2.2.1))))) else (some false))))) = some r := H
        have A199 := Aside0.mk A1990
        clear A1990
        replace H := Option.bind_eq_some_iff.mp H
        obtain ⟨⟨t428, t429, t430, t431, t432⟩, A2000, H⟩ := H
        replace H : ((platformfwref08_Convert.f kj164 t395 t396 t397 t398 t391).bind fun bt434 => ((platformfwref08_Clean.f kj164 t391 t392 t393 t394).bind fun bt440 => (if (t422 == bt440.1 && (t423 == bt440.2.1 && (t424.toList == bt440.2.2.1.toList && (t425 == bt440.2.2.2)))) = true then (some (t428 == bt434.1 && (t429 == bt434.2.1 && (t430.toList == bt434.2.2.1.toList && (t431 == bt434.2.2.2.1))))) else (some false)))) = some r := H
        have A200 := Aside0.mk A2000
        clear A2000
        replace H := Option.bind_eq_some_iff.mp H
        obtain ⟨⟨t434, t435, t436, t437, t438⟩, A2010, H⟩ := H
        replace H : ((platformfwref08_Clean.f kj164 t391 t392 t393 t394).bind fun bt440 => (if (t422 == bt440.1 && (t423 == bt440.2.1 && (t424.toList == bt440.2.2.1.toList && (t425 == bt440.2.2.2)))) = true then (some (t428 == t434 && (t429 == t435 && (t430.toList == t436.toList && (t431 == t437))))) else (some false))) = some r := H
        have A201 := Aside0.mk A2010
        clear A2010
        replace H := Option.bind_eq_some_iff.mp H
        obtain ⟨⟨t440, t441, t442, t443⟩, A2020, H⟩ := H
        replace H : (if (t422 == t440 && (t423 == t441 && (t424.toList == t442.toList && (t425 == t443)))) = true then (some (t428 == t434 && (t429 == t435 && (t430.toList == t436.toList && (t431 == t437))))) else (some false)) = some r := H
        have A202 := Aside0.mk A2020
        clear A2020
        by_cases c203 : (t422 == t440 && (t423 == t441 && (t424.toList == t442.toList && (t425 == t443)))) = true
        ·rw [if_pos c203] at H
         have c203b0 : (t422 == t440 && (t423 == t441 && (t424.toList == t442.toList && (t425 == t443)))) = true := c203
         (try (have c203b1 : decide (t422 = t440 && (t423 == t441 && (t424.toList == t442.toList && (t425 == t443)))) = true := by simpa using c203))
         (try (have c203b2 : (t422 == t440 && (t423 == t441 && (t424.toList == t442.toList && (t425 == t443)))) = true := by simpa using c203))
         clear c203
         obtain rfl := Option.some.inj H
         have hnb204 := NB399_377.out
         have hnc204 := NB377_399.out
         have hnb205 := NB399_378.out
         have hnc205 := NB378_399.out
         have hnb206 := NB399_384.out
         have hnc206 := NB384_399.out
         have hnb207 := NB399_390.out
         have hnc207 := NB390_399.out
         have hnb208 := NB399_400.out
         have hnc208 := NB400_399.out
         have hnb209 := NB399_406.out
         have hnc209 := NB406_399.out
         have hnb210 := NB399_412.out
         have hnc210 := NB412_399.out
         obtain ⟨hcz211_0, hcz211_1, hcz211_2, hcz211_3⟩ := cells4_ BK399.out
         obtain ⟨hfz211_0, hfz211_1, hfz211_2, hfz211_3⟩ := froz4_ BK399.out
         have hnb212 := NB400_377.out
         have hnc212 := NB377_400.out
         have hnb213 := NB400_378.out
         have hnc213 := NB378_400.out
         have hnb214 := NB400_384.out
         have hnc214 := NB384_400.out
         have hnb215 := NB400_390.out
         have hnc215 := NB390_400.out
         have hnb216 := NB400_406.out
         have hnc216 := NB406_400.out
         have hnb217 := NB400_412.out
         have hnc217 := NB412_400.out
         obtain ⟨hcz218_0, hcz218_1, hcz218_2, hcz218_3⟩ := cells4_ BK400.out
         obtain ⟨hfz218_0, hfz218_1, hfz218_2, hfz218_3⟩ := froz4_ BK400.out
         try go_wp2_with (first | ((with_reducible refine gate_callee (f := 8) rfl ?_); refine goesL_ (some 104) rfl rfl Tryd.func8 (by kernel_rfl) rfl #[I_ S_ 75, .agg #[I_ S_ t391, I_ U_ t392, .string t393, I_ S_ t394], .agg #[I_ S_ t395, I_ U_ t396, .string t397, I_ S_ t398]] rfl (by (try simp only [List.map_toArray, List.map_cons, List.map_nil]); first | done | rfl) ?_; (with_reducible refine (value_Binary.calls kj164 75 t391 t392 t393 t394 t395 t396 t397 t398 t416 t417 t418 t419 t420 _ ?hTT_ A197.out).mono ?_); (case hTT_ => exact tb_below HTT_.out (by repeat (first | (with_reducible first | exact HB.out | apply bA_ | apply bN_ | apply bD_ | refine bS_ ?_ ‹Aside0 _›.out) | exact HB.out))); rintro e w219 ⟨rfl, hb⟩; refine ⟨_, rfl, ?_⟩; replace BK377 := sqB_ BK377 (by (with_reducible repeat (first | apply kN_ | apply kD_ | apply kA_)); exact BK377.out) hb; replace BK378 := sqB_ BK378 (by (with_reducible repeat (first | apply kN_ | apply kD_ | apply kA_)); exact BK378.out) hb; replace BK384 := sqB_ BK384 (by (with_reducible repeat (first | apply kN_ | apply kD_ | apply kA_)); exact BK384.out) hb; replace BK390 := sqB_ BK390 (by (with_reducible repeat (first | apply kN_ | apply kD_ | apply kA_)); exact BK390.out) hb; replace BK399 := sqB_ BK399 (by (with_reducible repeat (first | apply kN_ | apply kD_ | apply kA_)); exact BK399.out) hb; replace BK400 := sqB_ BK400 (by (with_reducible repeat (first | apply kN_ | apply kD_ | apply kA_)); exact BK400.out) hb; replace BK406 := sqB_ BK406 (by (with_reducible repeat (first | apply kN_ | apply kD_ | apply kA_)); exact BK406.out) hb; replace BK412 := sqB_ BK412 (by (with_reducible repeat (first | apply kN_ | apply kD_ | apply kA_)); exact BK412.out) hb; replace HB := sqS_ (by repeat (first | (with_reducible first | exact HB.out | apply bA_ | apply bN_ | apply bD_ | refine bS_ ?_ ‹Aside0 _›.out) | exact HB.out)) hb; (try clear hb); (try clear hb2); (try clear hk); (try clear hi)) | ((with_reducible refine gate_dst (N := 21) rfl ?_); refine box_event ?hg (N := 21) ?hd (cs := #[I_ S_ 0, I_ U_ 0, .string ⟨#[]⟩, I_ S_ 0]) (t := 24) ?hr ?_; (case hd => rfl); (case hg => rfl); (case hr => first | (go_simp; done) | (go_simp; rfl)); intro gb421 hg w220 hbox hb; replace BK377 := sqO_ BK377 (by (with_reducible repeat (first | apply kN_ | apply kD_ | apply kA_)); exact BK377.out) hg hb; obtain ⟨BK377, NB377_421, NB421_377⟩ := BK377; replace BK378 := sqO_ BK378 (by (with_reducible repeat (first | apply kN_ | apply kD_ | apply kA_)); exact BK378.out) hg hb; obtain ⟨BK378, NB378_421, NB421_378⟩ := BK378; replace BK384 := sqO_ BK384 (by (with_reducible repeat (first | apply kN_ | apply kD_ | apply kA_)); exact BK384.out) hg hb; obtain ⟨BK384, NB384_421, NB421_384⟩ := BK384; replace BK390 := sqO_ BK390 (by (with_reducible repeat (first | apply kN_ | apply kD_ | apply kA_)); exact BK390.out) hg hb; obtain ⟨BK390, NB390_421, NB421_390⟩ := BK390; replace BK399 := sqO_ BK399 (by (with_reducible repeat (first | apply kN_ | apply kD_ | apply kA_)); exact BK399.out) hg hb; obtain ⟨BK399, NB399_421, NB421_399⟩ := BK399; replace BK400 := sqO_ BK400 (by (with_reducible repeat (first | apply kN_ | apply kD_ | apply kA_)); exact BK400.out) hg hb; obtain ⟨BK400, NB400_421, NB421_400⟩ := BK400; replace BK406 := sqO_ BK406 (by (with_reducible repeat (first | apply kN_ | apply kD_ | apply kA_)); exact BK406.out) hg hb; obtain ⟨BK406, NB406_421, NB421_406⟩ := BK406; replace BK412 := sqO_ BK412 (by (with_reducible repeat (first | apply kN_ | apply kD_ | apply kA_)); exact BK412.out) hg hb; obtain ⟨BK412, NB412_421, NB421_412⟩ := BK412; replace HB := sqN_ (by repeat (first | (with_reducible first | exact HB.out | apply bA_ | apply bN_ | apply bD_ | refine bS_ ?_ ‹Aside0 _›.out) | exact HB.out)) hg hb; obtain ⟨HB, GE421⟩ := HB; have BK421 := Aside0.mk hbox; clear hb hbox hg; have hnb221 := NB421_377.out; have hnc221 := NB377_421.out; have hnb222 := NB421_378.out; have hnc222 := NB378_421.out; have hnb223 := NB421_384.out; have hnc223 := NB384_421.out; have hnb224 := NB421_390.out; have hnc224 := NB390_421.out; have hnb225 := NB421_399.out; have hnc225 := NB399_421.out; have hnb226 := NB421_400.out; have hnc226 := NB400_421.out; have hnb227 := NB421_406.out; have hnc227 := NB406_421.out; have hnb228 := NB421_412.out; have hnc228 := NB412_421.out; obtain ⟨hcz229_0, hcz229_1, hcz229_2, hcz229_3⟩ := cells4_ BK421.out; obtain ⟨hfz229_0, hfz229_1, hfz229_2, hfz229_3⟩ := froz4_ BK421.out; obtain ⟨hcz230_0, hcz230_1, hcz230_2, hcz230_3⟩ := cells4_ BK399.out; obtain ⟨hfz230_0, hfz230_1, hfz230_2, hfz230_3⟩ := froz4_ BK399.out) | ((with_reducible refine gate_callee (f := 15) rfl ?_); refine goesL_ (some 116) rfl rfl Tryd.func15 (by kernel_rfl) rfl #[.agg #[I_ S_ t416, I_ U_ t417, .string t418, I_ S_ t419], I_ U_ 0, I_ U_ (IntKind.u64.wrap ((t393.size : Int)))] rfl (by (try simp only [List.map_toArray, List.map_cons, List.map_nil]); first | done | rfl) ?_; (with_reducible refine (value_Mid.calls kj164 t416 t417 t418 t419 0 (IntKind.u64.wrap ((t393.size : Int))) t422 t423 t424 t425 t426 _ A199.out).mono ?_); rintro e w231 ⟨rfl, hb⟩; refine ⟨_, rfl, ?_⟩; replace BK377 := sqB_ BK377 (by (with_reducible repeat (first | apply kN_ | apply kD_ | apply kA_)); refine blk_far ?_ NB377_421.out _; (with_reducible repeat (first | apply kN_ | apply kD_ | apply kA_)); refine blk_far ?_ NB377_421.out _; (with_reducible repeat (first | apply kN_ | apply kD_ | apply kA_)); refine blk_far ?_ NB377_421.out _; (with_reducible repeat (first | apply kN_ | apply kD_ | apply kA_)); refine blk_far ?_ NB377_421.out _; (with_reducible repeat (first | apply kN_ | apply kD_ | apply kA_)); exact BK377.out) hb; replace BK378 := sqB_ BK378 (by (with_reducible repeat (first | apply kN_ | apply kD_ | apply kA_)); refine blk_far ?_ NB378_421.out _; (with_reducible repeat (first | apply kN_ | apply kD_ | apply kA_)); refine blk_far ?_ NB378_421.out _; (with_reducible repeat (first | apply kN_ | apply kD_ | apply kA_)); refine blk_far ?_ NB378_421.out _; (with_reducible repeat (first | apply kN_ | apply kD_ | apply kA_)); refine blk_far ?_ NB378_421.out _; (with_reducible repeat (first | apply kN_ | apply kD_ | apply kA_)); exact BK378.out) hb; replace BK384 := sqB_ BK384 (by (with_reducible repeat (first | apply kN_ | apply kD_ | apply kA_)); refine blk_far ?_ NB384_421.out _; (with_reducible repeat (first | apply kN_ | apply kD_ | apply kA_)); refine blk_far ?_ NB384_421.out _; (with_reducible repeat (first | apply kN_ | apply kD_ | apply kA_)); refine blk_far ?_ NB384_421.out _; (with_reducible repeat (first | apply kN_ | apply kD_ | apply kA_)); refine blk_far ?_ NB384_421.out _; (with_reducible repeat (first | apply kN_ | apply kD_ | apply kA_)); exact BK384.out) hb; replace BK390 := sqB_ BK390 (by (with_reducible repeat (first | apply kN_ | apply kD_ | apply kA_)); refine blk_far ?_ NB390_421.out _; (with_reducible repeat (first | apply kN_ | apply kD_ | apply kA_)); refine blk_far ?_ NB390_421.out _; (with_reducible repeat (first | apply kN_ | apply kD_ | apply kA_)); refine blk_far ?_ NB390_421.out _; (with_reducible repeat (first | apply kN_ | apply kD_ | apply kA_)); refine blk_far ?_ NB390_421.out _; (with_reducible repeat (first | apply kN_ | apply kD_ | apply kA_)); exact BK390.out) hb; replace BK399 := sqB_ BK399 (by (with_reducible repeat (first | apply kN_ | apply kD_ | apply kA_)); refine blk_far ?_ NB399_421.out _; (with_reducible repeat (first | apply kN_ | apply kD_ | apply kA_)); refine blk_far ?_ NB399_421.out _; (with_reducible repeat (first | apply kN_ | apply kD_ | apply kA_)); refine blk_far ?_ NB399_421.out _; (with_reducible repeat (first | apply kN_ | apply kD_ | apply kA_)); refine blk_far ?_ NB399_421.out _; (with_reducible repeat (first | apply kN_ | apply kD_ | apply kA_)); exact BK399.out) hb; replace BK400 := sqB_ BK400 (by (with_reducible repeat (first | apply kN_ | apply kD_ | apply kA_)); refine blk_far ?_ NB400_421.out _; (with_reducible repeat (first | apply kN_ | apply kD_ | apply kA_)); refine blk_far ?_ NB400_421.out _; (with_reducible repeat (first | apply kN_ | apply kD_ | apply kA_)); refine blk_far ?_ NB400_421.out _; (with_reducible repeat (first | apply kN_ | apply kD_ | apply kA_)); refine blk_far ?_ NB400_421.out _; (with_reducible repeat (first | apply kN_ | apply kD_ | apply kA_)); exact BK400.out) hb; replace BK406 := sqB_ BK406 (by (with_reducible repeat (first | apply kN_ | apply kD_ | apply kA_)); refine blk_far ?_ NB406_421.out _; (with_reducible repeat (first | apply kN_ | apply kD_ | apply kA_)); refine blk_far ?_ NB406_421.out _; (with_reducible repeat (first | apply kN_ | apply kD_ | apply kA_)); refine blk_far ?_ NB406_421.out _; (with_reducible repeat (first | apply kN_ | apply kD_ | apply kA_)); refine blk_far ?_ NB406_421.out _; (with_reducible repeat (first | apply kN_ | apply kD_ | apply kA_)); exact BK406.out) hb; replace BK412 := sqB_ BK412 (by (with_reducible repeat (first | apply kN_ | apply kD_ | apply kA_)); refine blk_far ?_ NB412_421.out _; (with_reducible repeat (first | apply kN_ | apply kD_ | apply kA_)); refine blk_far ?_ NB412_421.out _; (with_reducible repeat (first | apply kN_ | apply kD_ | apply kA_)); refine blk_far ?_ NB412_421.out _; (with_reducible repeat (first | apply kN_ | apply kD_ | apply kA_)); refine blk_far ?_ NB412_421.out _; (with_reducible repeat (first | apply kN_ | apply kD_ | apply kA_)); exact BK412.out) hb; replace BK421 := sqQ_ (g := gb421) (o := .cells #[I_ S_ t416, I_ U_ t417, .string t418, I_ S_ t419] 24 (0, 0)) (by (with_reducible repeat (first | apply kN_ | apply kD_ | apply kA_)); refine blk_put (cs := #[I_ S_ t416, I_ U_ t417, .string t418, I_ S_ 0]) ?_ 3 _ rfl; (with_reducible repeat (first | apply kN_ | apply kD_ | apply kA_)); refine blk_put (cs := #[I_ S_ t416, I_ U_ t417, .string ⟨#[]⟩, I_ S_ 0]) ?_ 2 _ rfl; (with_reducible repeat (first | apply kN_ | apply kD_ | apply kA_)); refine blk_put (cs := #[I_ S_ t416, I_ U_ 0, .string ⟨#[]⟩, I_ S_ 0]) ?_ 1 _ rfl; (with_reducible repeat (first | apply kN_ | apply kD_ | apply kA_)); refine blk_put (cs := #[I_ S_ 0, I_ U_ 0, .string ⟨#[]⟩, I_ S_ 0]) ?_ 0 _ rfl; (with_reducible repeat (first | apply kN_ | apply kD_ | apply kA_)); exact BK421.out) hb; replace HB := sqS_ (by repeat (first | (with_reducible first | exact HB.out | apply bA_ | apply bN_ | apply bD_ | refine bS_ ?_ ‹Aside0 _›.out) | exact HB.out)) hb; (try clear hb); (try clear hb2); (try clear hk); (try clear hi)) | ((with_reducible refine gate_dst (N := 23) rfl ?_); refine box_event ?hg (N := 23) ?hd (cs := #[I_ S_ 0, I_ U_ 0, .string ⟨#[]⟩, I_ S_ 0]) (t := 24) ?hr ?_; (case hd => rfl); (case hg => rfl); (case hr => first | (go_simp; done) | (go_simp; rfl)); intro gb427 hg w232 hbox hb; replace BK377 := sqO_ BK377 (by (with_reducible repeat (first | apply kN_ | apply kD_ | apply kA_)); exact BK377.out) hg hb; obtain ⟨BK377, NB377_427, NB427_377⟩ := BK377; replace BK378 := sqO_ BK378 (by (with_reducible repeat (first | apply kN_ | apply kD_ | apply kA_)); exact BK378.out) hg hb; obtain ⟨BK378, NB378_427, NB427_378⟩ := BK378; replace BK384 := sqO_ BK384 (by (with_reducible repeat (first | apply kN_ | apply kD_ | apply kA_)); exact BK384.out) hg hb; obtain ⟨BK384, NB384_427, NB427_384⟩ := BK384; replace BK390 := sqO_ BK390 (by (with_reducible repeat (first | apply kN_ | apply kD_ | apply kA_)); exact BK390.out) hg hb; obtain ⟨BK390, NB390_427, NB427_390⟩ := BK390; replace BK399 := sqO_ BK399 (by (with_reducible repeat (first | apply kN_ | apply kD_ | apply kA_)); exact BK399.out) hg hb; obtain ⟨BK399, NB399_427, NB427_399⟩ := BK399; replace BK400 := sqO_ BK400 (by (with_reducible repeat (first | apply kN_ | apply kD_ | apply kA_)); exact BK400.out) hg hb; obtain ⟨BK400, NB400_427, NB427_400⟩ := BK400; replace BK406 := sqO_ BK406 (by (with_reducible repeat (first | apply kN_ | apply kD_ | apply kA_)); exact BK406.out) hg hb; obtain ⟨BK406, NB406_427, NB427_406⟩ := BK406; replace BK412 := sqO_ BK412 (by (with_reducible repeat (first | apply kN_ | apply kD_ | apply kA_)); exact BK412.out) hg hb; obtain ⟨BK412, NB412_427, NB427_412⟩ := BK412; replace BK421 := sqO_ BK421 (by (with_reducible repeat (first | apply kN_ | apply kD_ | apply kA_)); exact BK421.out) hg hb; obtain ⟨BK421, NB421_427, NB427_421⟩ := BK421; replace HB := sqN_ (by repeat (first | (with_reducible first | exact HB.out | apply bA_ | apply bN_ | apply bD_ | refine bS_ ?_ ‹Aside0 _›.out) | exact HB.out)) hg hb; obtain ⟨HB, GE427⟩ := HB; have BK427 := Aside0.mk hbox; clear hb hbox hg; have hnb233 := NB427_377.out; have hnc233 := NB377_427.out; have hnb234 := NB427_378.out; have hnc234 := NB378_427.out; have hnb235 := NB427_384.out; have hnc235 := NB384_427.out; have hnb236 := NB427_390.out; have hnc236 := NB390_427.out; have hnb237 := NB427_399.out; have hnc237 := NB399_427.out; have hnb238 := NB427_400.out; have hnc238 := NB400_427.out; have hnb239 := NB427_406.out; have hnc239 := NB406_427.out; have hnb240 := NB427_412.out; have hnc240 := NB412_427.out; have hnb241 := NB427_421.out; have hnc241 := NB421_427.out; obtain ⟨hcz242_0, hcz242_1, hcz242_2, hcz242_3⟩ := cells4_ BK427.out; obtain ⟨hfz242_0, hfz242_1, hfz242_2, hfz242_3⟩ := froz4_ BK427.out; obtain ⟨hcz243_0, hcz243_1, hcz243_2, hcz243_3⟩ := cells4_ BK421.out; obtain ⟨hfz243_0, hfz243_1, hfz243_2, hfz243_3⟩ := froz4_ BK421.out) | ((with_reducible refine gate_callee (f := 15) rfl ?_); refine goesL_ (some 122) rfl rfl Tryd.func15 (by kernel_rfl) rfl #[.agg #[I_ S_ t416, I_ U_ t417, .string t418, I_ S_ t419], I_ U_ (IntKind.u64.wrap ((t393.size : Int))), I_ U_ 1000] rfl (by (try simp only [List.map_toArray, List.map_cons, List.map_nil]); first | done | rfl) ?_; (with_reducible refine (value_Mid.calls kj164 t416 t417 t418 t419 (IntKind.u64.wrap ((t393.size : Int))) 1000 t428 t429 t430 t431 t432 _ A200.out).mono ?_); rintro e w244 ⟨rfl, hb⟩; refine ⟨_, rfl, ?_⟩; replace BK377 := sqB_ BK377 (by (with_reducible repeat (first | apply kN_ | apply kD_ | apply kA_)); refine blk_far ?_ NB377_427.out _; (with_reducible repeat (first | apply kN_ | apply kD_ | apply kA_)); refine blk_far ?_ NB377_427.out _; (with_reducible repeat (first | apply kN_ | apply kD_ | apply kA_)); refine blk_far ?_ NB377_427.out _; (with_reducible repeat (first | apply kN_ | apply kD_ | apply kA_)); refine blk_far ?_ NB377_427.out _; (with_reducible repeat (first | apply kN_ | apply kD_ | apply kA_)); exact BK377.out) hb; replace BK378 := sqB_ BK378 (by (with_reducible repeat (first | apply kN_ | apply kD_ | apply kA_)); refine blk_far ?_ NB378_427.out _; (with_reducible repeat (first | apply kN_ | apply kD_ | apply kA_)); refine blk_far ?_ NB378_427.out _; (with_reducible repeat (first | apply kN_ | apply kD_ | apply kA_)); refine blk_far ?_ NB378_427.out _; (with_reducible repeat (first | apply kN_ | apply kD_ | apply kA_)); refine blk_far ?_ NB378_427.out _; (with_reducible repeat (first | apply kN_ | apply kD_ | apply kA_)); exact BK378.out) hb; replace BK384 := sqB_ BK384 (by (with_reducible repeat (first | apply kN_ | apply kD_ | apply kA_)); refine blk_far ?_ NB384_427.out _; (with_reducible repeat (first | apply kN_ | apply kD_ | apply kA_)); refine blk_far ?_ NB384_427.out _; (with_reducible repeat (first | apply kN_ | apply kD_ | apply kA_)); refine blk_far ?_ NB384_427.out _; (with_reducible repeat (first | apply kN_ | apply kD_ | apply kA_)); refine blk_far ?_ NB384_427.out _; (with_reducible repeat (first | apply kN_ | apply kD_ | apply kA_)); exact BK384.out) hb; replace BK390 := sqB_ BK390 (by (with_reducible repeat (first | apply kN_ | apply kD_ | apply kA_)); refine blk_far ?_ NB390_427.out _; (with_reducible repeat (first | apply kN_ | apply kD_ | apply kA_)); refine blk_far ?_ NB390_427.out _; (with_reducible repeat (first | apply kN_ | apply kD_ | apply kA_)); refine blk_far ?_ NB390_427.out _; (with_reducible repeat (first | apply kN_ | apply kD_ | apply kA_)); refine blk_far ?_ NB390_427.out _; (with_reducible repeat (first | apply kN_ | apply kD_ | apply kA_)); exact BK390.out) hb; replace BK399 := sqB_ BK399 (by (with_reducible repeat (first | apply kN_ | apply kD_ | apply kA_)); refine blk_far ?_ NB399_427.out _; (with_reducible repeat (first | apply kN_ | apply kD_ | apply kA_)); refine blk_far ?_ NB399_427.out _; (with_reducible repeat (first | apply kN_ | apply kD_ | apply kA_)); refine blk_far ?_ NB399_427.out _; (with_reducible repeat (first | apply kN_ | apply kD_ | apply kA_)); refine blk_far ?_ NB399_427.out _; (with_reducible repeat (first | apply kN_ | apply kD_ | apply kA_)); exact BK399.out) hb; replace BK400 := sqB_ BK400 (by (with_reducible repeat (first | apply kN_ | apply kD_ | apply kA_)); refine blk_far ?_ NB400_427.out _; (with_reducible repeat (first | apply kN_ | apply kD_ | apply kA_)); refine blk_far ?_ NB400_427.out _; (with_reducible repeat (first | apply kN_ | apply kD_ | apply kA_)); refine blk_far ?_ NB400_427.out _; (with_reducible repeat (first | apply kN_ | apply kD_ | apply kA_)); refine blk_far ?_ NB400_427.out _; (with_reducible repeat (first | apply kN_ | apply kD_ | apply kA_)); exact BK400.out) hb; replace BK406 := sqB_ BK406 (by (with_reducible repeat (first | apply kN_ | apply kD_ | apply kA_)); refine blk_far ?_ NB406_427.out _; (with_reducible repeat (first | apply kN_ | apply kD_ | apply kA_)); refine blk_far ?_ NB406_427.out _; (with_reducible repeat (first | apply kN_ | apply kD_ | apply kA_)); refine blk_far ?_ NB406_427.out _; (with_reducible repeat (first | apply kN_ | apply kD_ | apply kA_)); refine blk_far ?_ NB406_427.out _; (with_reducible repeat (first | apply kN_ | apply kD_ | apply kA_)); exact BK406.out) hb; replace BK412 := sqB_ BK412 (by (with_reducible repeat (first | apply kN_ | apply kD_ | apply kA_)); refine blk_far ?_ NB412_427.out _; (with_reducible repeat (first | apply kN_ | apply kD_ | apply kA_)); refine blk_far ?_ NB412_427.out _; (with_reducible repeat (first | apply kN_ | apply kD_ | apply kA_)); refine blk_far ?_ NB412_427.out _; (with_reducible repeat (first | apply kN_ | apply kD_ | apply kA_)); refine blk_far ?_ NB412_427.out _; (with_reducible repeat (first | apply kN_ | apply kD_ | apply kA_)); exact BK412.out) hb; replace BK421 := sqB_ BK421 (by (with_reducible repeat (first | apply kN_ | apply kD_ | apply kA_)); refine blk_far ?_ NB421_427.out _; (with_reducible repeat (first | apply kN_ | apply kD_ | apply kA_)); refine blk_far ?_ NB421_427.out _; (with_reducible repeat (first | apply kN_ | apply kD_ | apply kA_)); refine blk_far ?_ NB421_427.out _; (with_reducible repeat (first | apply kN_ | apply kD_ | apply kA_)); refine blk_far ?_ NB421_427.out _; (with_reducible repeat (first | apply kN_ | apply kD_ | apply kA_)); exact BK421.out) hb; replace BK427 := sqQ_ (g := gb427) (o := .cells #[I_ S_ t422, I_ U_ t423, .string t424, I_ S_ t425] 24 (0, 0)) (by (with_reducible repeat (first | apply kN_ | apply kD_ | apply kA_)); refine blk_put (cs := #[I_ S_ t422, I_ U_ t423, .string t424, I_ S_ 0]) ?_ 3 _ rfl; (with_reducible repeat (first | apply kN_ | apply kD_ | apply kA_)); refine blk_put (cs := #[I_ S_ t422, I_ U_ t423, .string ⟨#[]⟩, I_ S_ 0]) ?_ 2 _ rfl; (with_reducible repeat (first | apply kN_ | apply kD_ | apply kA_)); refine blk_put (cs := #[I_ S_ t422, I_ U_ 0, .string ⟨#[]⟩, I_ S_ 0]) ?_ 1 _ rfl; (with_reducible repeat (first | apply kN_ | apply kD_ | apply kA_)); refine blk_put (cs := #[I_ S_ 0, I_ U_ 0, .string ⟨#[]⟩, I_ S_ 0]) ?_ 0 _ rfl; (with_reducible repeat (first | apply kN_ | apply kD_ | apply kA_)); exact BK427.out) hb; replace HB := sqS_ (by repeat (first | (with_reducible first | exact HB.out | apply bA_ | apply bN_ | apply bD_ | refine bS_ ?_ ‹Aside0 _›.out) | exact HB.out)) hb; (try clear hb); (try clear hb2); (try clear hk); (try clear hi)) | ((with_reducible refine gate_dst (N := 25) rfl ?_); refine box_event ?hg (N := 25) ?hd (cs := #[I_ S_ 0, I_ U_ 0, .string ⟨#[]⟩, I_ S_ 0]) (t := 24) ?hr ?_; (case hd => rfl); (case hg => rfl); (case hr => first | (go_simp; done) | (go_simp; rfl)); intro gb433 hg w245 hbox hb; replace BK377 := sqO_ BK377 (by (with_reducible repeat (first | apply kN_ | apply kD_ | apply kA_)); exact BK377.out) hg hb; obtain ⟨BK377, NB377_433, NB433_377⟩ := BK377; replace BK378 := sqO_ BK378 (by (with_reducible repeat (first | apply kN_ | apply kD_ | apply kA_)); exact BK378.out) hg hb; obtain ⟨BK378, NB378_433, NB433_378⟩ := BK378; replace BK384 := sqO_ BK384 (by (with_reducible repeat (first | apply kN_ | apply kD_ | apply kA_)); exact BK384.out) hg hb; obtain ⟨BK384, NB384_433, NB433_384⟩ := BK384; replace BK390 := sqO_ BK390 (by (with_reducible repeat (first | apply kN_ | apply kD_ | apply kA_)); exact BK390.out) hg hb; obtain ⟨BK390, NB390_433, NB433_390⟩ := BK390; replace BK399 := sqO_ BK399 (by (with_reducible repeat (first | apply kN_ | apply kD_ | apply kA_)); exact BK399.out) hg hb; obtain ⟨BK399, NB399_433, NB433_399⟩ := BK399; replace BK400 := sqO_ BK400 (by (with_reducible repeat (first | apply kN_ | apply kD_ | apply kA_)); exact BK400.out) hg hb; obtain ⟨BK400, NB400_433, NB433_400⟩ := BK400; replace BK406 := sqO_ BK406 (by (with_reducible repeat (first | apply kN_ | apply kD_ | apply kA_)); exact BK406.out) hg hb; obtain ⟨BK406, NB406_433, NB433_406⟩ := BK406; replace BK412 := sqO_ BK412 (by (with_reducible repeat (first | apply kN_ | apply kD_ | apply kA_)); exact BK412.out) hg hb; obtain ⟨BK412, NB412_433, NB433_412⟩ := BK412; replace BK421 := sqO_ BK421 (by (with_reducible repeat (first | apply kN_ | apply kD_ | apply kA_)); exact BK421.out) hg hb; obtain ⟨BK421, NB421_433, NB433_421⟩ := BK421; replace BK427 := sqO_ BK427 (by (with_reducible repeat (first | apply kN_ | apply kD_ | apply kA_)); exact BK427.out) hg hb; obtain ⟨BK427, NB427_433, NB433_427⟩ := BK427; replace HB := sqN_ (by repeat (first | (with_reducible first | exact HB.out | apply bA_ | apply bN_ | apply bD_ | refine bS_ ?_ ‹Aside0 _›.out) | exact HB.out)) hg hb; obtain ⟨HB, GE433⟩ := HB; have BK433 := Aside0.mk hbox; clear hb hbox hg; have hnb246 := NB433_377.out; have hnc246 := NB377_433.out; have hnb247 := NB433_378.out; have hnc247 := NB378_433.out; have hnb248 := NB433_384.out; have hnc248 := NB384_433.out; have hnb249 := NB433_390.out; have hnc249 := NB390_433.out; have hnb250 := NB433_399.out; have hnc250 := NB399_433.out; have hnb251 := NB433_400.out; have hnc251 := NB400_433.out; have hnb252 := NB433_406.out; have hnc252 := NB406_433.out; have hnb253 := NB433_412.out; have hnc253 := NB412_433.out; have hnb254 := NB433_421.out; have hnc254 := NB421_433.out; have hnb255 := NB433_427.out; have hnc255 := NB427_433.out; obtain ⟨hcz256_0, hcz256_1, hcz256_2, hcz256_3⟩ := cells4_ BK433.out; obtain ⟨hfz256_0, hfz256_1, hfz256_2, hfz256_3⟩ := froz4_ BK433.out; obtain ⟨hcz257_0, hcz257_1, hcz257_2, hcz257_3⟩ := cells4_ BK400.out; obtain ⟨hfz257_0, hfz257_1, hfz257_2, hfz257_3⟩ := froz4_ BK400.out; obtain ⟨hcz258_0, hcz258_1, hcz258_2, hcz258_3⟩ := cells4_ BK399.out; obtain ⟨hfz258_0, hfz258_1, hfz258_2, hfz258_3⟩ := froz4_ BK399.out) | ((with_reducible refine gate_callee (f := 17) rfl ?_); refine goesL_ (some 129) rfl rfl Tryd.func17 (by kernel_rfl) rfl #[.agg #[I_ S_ t395, I_ U_ t396, .string t397, I_ S_ t398], I_ S_ t391] rfl (by (try simp only [List.map_toArray, List.map_cons, List.map_nil]); first | done | rfl) ?_; (with_reducible refine (platformfwref08_Convert.calls kj164 t395 t396 t397 t398 t391 t434 t435 t436 t437 t438 _ A201.out).mono ?_); rintro e w259 ⟨rfl, hb⟩; refine ⟨_, rfl, ?_⟩; replace BK377 := sqB_ BK377 (by (with_reducible repeat (first | apply kN_ | apply kD_ | apply kA_)); refine blk_far ?_ NB377_433.out _; (with_reducible repeat (first | apply kN_ | apply kD_ | apply kA_)); refine blk_far ?_ NB377_433.out _; (with_reducible repeat (first | apply kN_ | apply kD_ | apply kA_)); refine blk_far ?_ NB377_433.out _; (with_reducible repeat (first | apply kN_ | apply kD_ | apply kA_)); refine blk_far ?_ NB377_433.out _; (with_reducible repeat (first | apply kN_ | apply kD_ | apply kA_)); exact BK377.out) hb; replace BK378 := sqB_ BK378 (by (with_reducible repeat (first | apply kN_ | apply kD_ | apply kA_)); refine blk_far ?_ NB378_433.out _; (with_reducible repeat (first | apply kN_ | apply kD_ | apply kA_)); refine blk_far ?_ NB378_433.out _; (with_reducible repeat (first | apply kN_ | apply kD_ | apply kA_)); refine blk_far ?_ NB378_433.out _; (with_reducible repeat (first | apply kN_ | apply kD_ | apply kA_)); refine blk_far ?_ NB378_433.out _; (with_reducible repeat (first | apply kN_ | apply kD_ | apply kA_)); exact BK378.out) hb; replace BK384 := sqB_ BK384 (by (with_reducible repeat (first | apply kN_ | apply kD_ | apply kA_)); refine blk_far ?_ NB384_433.out _; (with_reducible repeat (first | apply kN_ | apply kD_ | apply kA_)); refine blk_far ?_ NB384_433.out _; (with_reducible repeat (first | apply kN_ | apply kD_ | apply kA_)); refine blk_far ?_ NB384_433.out _; (with_reducible repeat (first | apply kN_ | apply kD_ | apply kA_)); refine blk_far ?_ NB384_433.out _; (with_reducible repeat (first | apply kN_ | apply kD_ | apply kA_)); exact BK384.out) hb; replace BK390 := sqB_ BK390 (by (with_reducible repeat (first | apply kN_ | apply kD_ | apply kA_)); refine blk_far ?_ NB390_433.out _; (with_reducible repeat (first | apply kN_ | apply kD_ | apply kA_)); refine blk_far ?_ NB390_433.out _; (with_reducible repeat (first | apply kN_ | apply kD_ | apply kA_)); refine blk_far ?_ NB390_433.out _; (with_reducible repeat (first | apply kN_ | apply kD_ | apply kA_)); refine blk_far ?_ NB390_433.out _; (with_reducible repeat (first | apply kN_ | apply kD_ | apply kA_)); exact BK390.out) hb; replace BK399 := sqB_ BK399 (by (with_reducible repeat (first | apply kN_ | apply kD_ | apply kA_)); refine blk_far ?_ NB399_433.out _; (with_reducible repeat (first | apply kN_ | apply kD_ | apply kA_)); refine blk_far ?_ NB399_433.out _; (with_reducible repeat (first | apply kN_ | apply kD_ | apply kA_)); refine blk_far ?_ NB399_433.out _; (with_reducible repeat (first | apply kN_ | apply kD_ | apply kA_)); refine blk_far ?_ NB399_433.out _; (with_reducible repeat (first | apply kN_ | apply kD_ | apply kA_)); exact BK399.out) hb; replace BK400 := sqB_ BK400 (by (with_reducible repeat (first | apply kN_ | apply kD_ | apply kA_)); refine blk_far ?_ NB400_433.out _; (with_reducible repeat (first | apply kN_ | apply kD_ | apply kA_)); refine blk_far ?_ NB400_433.out _; (with_reducible repeat (first | apply kN_ | apply kD_ | apply kA_)); refine blk_far ?_ NB400_433.out _; (with_reducible repeat (first | apply kN_ | apply kD_ | apply kA_)); refine blk_far ?_ NB400_433.out _; (with_reducible repeat (first | apply kN_ | apply kD_ | apply kA_)); exact BK400.out) hb; replace BK406 := sqB_ BK406 (by (with_reducible repeat (first | apply kN_ | apply kD_ | apply kA_)); refine blk_far ?_ NB406_433.out _; (with_reducible repeat (first | apply kN_ | apply kD_ | apply kA_)); refine blk_far ?_ NB406_433.out _; (with_reducible repeat (first | apply kN_ | apply kD_ | apply kA_)); refine blk_far ?_ NB406_433.out _; (with_reducible repeat (first | apply kN_ | apply kD_ | apply kA_)); refine blk_far ?_ NB406_433.out _; (with_reducible repeat (first | apply kN_ | apply kD_ | apply kA_)); exact BK406.out) hb; replace BK412 := sqB_ BK412 (by (with_reducible repeat (first | apply kN_ | apply kD_ | apply kA_)); refine blk_far ?_ NB412_433.out _; (with_reducible repeat (first | apply kN_ | apply kD_ | apply kA_)); refine blk_far ?_ NB412_433.out _; (with_reducible repeat (first | apply kN_ | apply kD_ | apply kA_)); refine blk_far ?_ NB412_433.out _; (with_reducible repeat (first | apply kN_ | apply kD_ | apply kA_)); refine blk_far ?_ NB412_433.out _; (with_reducible repeat (first | apply kN_ | apply kD_ | apply kA_)); exact BK412.out) hb; replace BK421 := sqB_ BK421 (by (with_reducible repeat (first | apply kN_ | apply kD_ | apply kA_)); refine blk_far ?_ NB421_433.out _; (with_reducible repeat (first | apply kN_ | apply kD_ | apply kA_)); refine blk_far ?_ NB421_433.out _; (with_reducible repeat (first | apply kN_ | apply kD_ | apply kA_)); refine blk_far ?_ NB421_433.out _; (with_reducible repeat (first | apply kN_ | apply kD_ | apply kA_)); refine blk_far ?_ NB421_433.out _; (with_reducible repeat (first | apply kN_ | apply kD_ | apply kA_)); exact BK421.out) hb; replace BK427 := sqB_ BK427 (by (with_reducible repeat (first | apply kN_ | apply kD_ | apply kA_)); refine blk_far ?_ NB427_433.out _; (with_reducible repeat (first | apply kN_ | apply kD_ | apply kA_)); refine blk_far ?_ NB427_433.out _; (with_reducible repeat (first | apply kN_ | apply kD_ | apply kA_)); refine blk_far ?_ NB427_433.out _; (with_reducible repeat (first | apply kN_ | apply kD_ | apply kA_)); refine blk_far ?_ NB427_433.out _; (with_reducible repeat (first | apply kN_ | apply kD_ | apply kA_)); exact BK427.out) hb; replace BK433 := sqQ_ (g := gb433) (o := .cells #[I_ S_ t428, I_ U_ t429, .string t430, I_ S_ t431] 24 (0, 0)) (by (with_reducible repeat (first | apply kN_ | apply kD_ | apply kA_)); refine blk_put (cs := #[I_ S_ t428, I_ U_ t429, .string t430, I_ S_ 0]) ?_ 3 _ rfl; (with_reducible repeat (first | apply kN_ | apply kD_ | apply kA_)); refine blk_put (cs := #[I_ S_ t428, I_ U_ t429, .string ⟨#[]⟩, I_ S_ 0]) ?_ 2 _ rfl; (with_reducible repeat (first | apply kN_ | apply kD_ | apply kA_)); refine blk_put (cs := #[I_ S_ t428, I_ U_ 0, .string ⟨#[]⟩, I_ S_ 0]) ?_ 1 _ rfl; (with_reducible repeat (first | apply kN_ | apply kD_ | apply kA_)); refine blk_put (cs := #[I_ S_ 0, I_ U_ 0, .string ⟨#[]⟩, I_ S_ 0]) ?_ 0 _ rfl; (with_reducible repeat (first | apply kN_ | apply kD_ | apply kA_)); exact BK433.out) hb; replace HB := sqS_ (by repeat (first | (with_reducible first | exact HB.out | apply bA_ | apply bN_ | apply bD_ | refine bS_ ?_ ‹Aside0 _›.out) | exact HB.out)) hb; (try clear hb); (try clear hb2); (try clear hk); (try clear hi)) | ((with_reducible refine gate_dst (N := 27) rfl ?_); refine box_event ?hg (N := 27) ?hd (cs := #[I_ S_ 0, I_ U_ 0, .string ⟨#[]⟩, I_ S_ 0]) (t := 24) ?hr ?_; (case hd => rfl); (case hg => rfl); (case hr => first | (go_simp; done) | (go_simp; rfl)); intro gb439 hg w260 hbox hb; replace BK377 := sqO_ BK377 (by (with_reducible repeat (first | apply kN_ | apply kD_ | apply kA_)); exact BK377.out) hg hb; obtain ⟨BK377, NB377_439, NB439_377⟩ := BK377; replace BK378 := sqO_ BK378 (by (with_reducible repeat (first | apply kN_ | apply kD_ | apply kA_)); exact BK378.out) hg hb; obtain ⟨BK378, NB378_439, NB439_378⟩ := BK378; replace BK384 := sqO_ BK384 (by (with_reducible repeat (first | apply kN_ | apply kD_ | apply kA_)); exact BK384.out) hg hb; obtain ⟨BK384, NB384_439, NB439_384⟩ := BK384; replace BK390 := sqO_ BK390 (by (with_reducible repeat (first | apply kN_ | apply kD_ | apply kA_)); exact BK390.out) hg hb; obtain ⟨BK390, NB390_439, NB439_390⟩ := BK390; replace BK399 := sqO_ BK399 (by (with_reducible repeat (first | apply kN_ | apply kD_ | apply kA_)); exact BK399.out) hg hb; obtain ⟨BK399, NB399_439, NB439_399⟩ := BK399; replace BK400 := sqO_ BK400 (by (with_reducible repeat (first | apply kN_ | apply kD_ | apply kA_)); exact BK400.out) hg hb; obtain ⟨BK400, NB400_439, NB439_400⟩ := BK400; replace BK406 := sqO_ BK406 (by (with_reducible repeat (first | apply kN_ | apply kD_ | apply kA_)); exact BK406.out) hg hb; obtain ⟨BK406, NB406_439, NB439_406⟩ := BK406; replace BK412 := sqO_ BK412 (by (with_reducible repeat (first | apply kN_ | apply kD_ | apply kA_)); exact BK412.out) hg hb; obtain ⟨BK412, NB412_439, NB439_412⟩ := BK412; replace BK421 := sqO_ BK421 (by (with_reducible repeat (first | apply kN_ | apply kD_ | apply kA_)); exact BK421.out) hg hb; obtain ⟨BK421, NB421_439, NB439_421⟩ := BK421; replace BK427 := sqO_ BK427 (by (with_reducible repeat (first | apply kN_ | apply kD_ | apply kA_)); exact BK427.out) hg hb; obtain ⟨BK427, NB427_439, NB439_427⟩ := BK427; replace BK433 := sqO_ BK433 (by (with_reducible repeat (first | apply kN_ | apply kD_ | apply kA_)); exact BK433.out) hg hb; obtain ⟨BK433, NB433_439, NB439_433⟩ := BK433; replace HB := sqN_ (by repeat (first | (with_reducible first | exact HB.out | apply bA_ | apply bN_ | apply bD_ | refine bS_ ?_ ‹Aside0 _›.out) | exact HB.out)) hg hb; obtain ⟨HB, GE439⟩ := HB; have BK439 := Aside0.mk hbox; clear hb hbox hg; have hnb261 := NB439_377.out; have hnc261 := NB377_439.out; have hnb262 := NB439_378.out; have hnc262 := NB378_439.out; have hnb263 := NB439_384.out; have hnc263 := NB384_439.out; have hnb264 := NB439_390.out; have hnc264 := NB390_439.out; have hnb265 := NB439_399.out; have hnc265 := NB399_439.out; have hnb266 := NB439_400.out; have hnc266 := NB400_439.out; have hnb267 := NB439_406.out; have hnc267 := NB406_439.out; have hnb268 := NB439_412.out; have hnc268 := NB412_439.out; have hnb269 := NB439_421.out; have hnc269 := NB421_439.out; have hnb270 := NB439_427.out; have hnc270 := NB427_439.out; have hnb271 := NB439_433.out; have hnc271 := NB433_439.out; obtain ⟨hcz272_0, hcz272_1, hcz272_2, hcz272_3⟩ := cells4_ BK439.out; obtain ⟨hfz272_0, hfz272_1, hfz272_2, hfz272_3⟩ := froz4_ BK439.out))
         have n0_ : Aside0 (((((w260.setCell ⟨gb439, 0, none⟩ (I_ S_ t434)).setCell ⟨gb439, 1, none⟩ (I_ U_ t435)).setCell ⟨gb439, 2, none⟩ (.string t436)).setCell ⟨gb439, 3, none⟩ (I_ S_ t437)).heap[gb377]? = some (.cells #[I_ S_ a0_0, I_ U_ a0_1, .string a0_2, I_ S_ a0_3] 24 (0, 0))) := ⟨by (with_reducible repeat (first | apply kN_ | apply kD_ | apply kA_)); refine blk_far ?_ NB377_439.out _; (with_reducible repeat (first | apply kN_ | apply kD_ | apply kA_)); refine blk_far ?_ NB377_439.out _; (with_reducible repeat (first | apply kN_ | apply kD_ | apply kA_)); refine blk_far ?_ NB377_439.out _; (with_reducible repeat (first | apply kN_ | apply kD_ | apply kA_)); refine blk_far ?_ NB377_439.out _; (with_reducible repeat (first | apply kN_ | apply kD_ | apply kA_)); exact BK377.out⟩
         have n1_ : Aside0 (((((w260.setCell ⟨gb439, 0, none⟩ (I_ S_ t434)).setCell ⟨gb439, 1, none⟩ (I_ U_ t435)).setCell ⟨gb439, 2, none⟩ (.string t436)).setCell ⟨gb439, 3, none⟩ (I_ S_ t437)).heap[gb378]? = some (.cells #[I_ S_ a1_0, I_ U_ a1_1, .string a1_2, I_ S_ a1_3] 24 (0, 0))) := ⟨by (with_reducible repeat (first | apply kN_ | apply kD_ | apply kA_)); refine blk_far ?_ NB378_439.out _; (with_reducible repeat (first | apply kN_ | apply kD_ | apply kA_)); refine blk_far ?_ NB378_439.out _; (with_reducible repeat (first | apply kN_ | apply kD_ | apply kA_)); refine blk_far ?_ NB378_439.out _; (with_reducible repeat (first | apply kN_ | apply kD_ | apply kA_)); refine blk_far ?_ NB378_439.out _; (with_reducible repeat (first | apply kN_ | apply kD_ | apply kA_)); exact BK378.out⟩
         have n2_ : Aside0 (((((w260.setCell ⟨gb439, 0, none⟩ (I_ S_ t434)).setCell ⟨gb439, 1, none⟩ (I_ U_ t435)).setCell ⟨gb439, 2, none⟩ (.string t436)).setCell ⟨gb439, 3, none⟩ (I_ S_ t437)).heap[gb384]? = some (.cells #[I_ S_ t379, I_ U_ t380, .string t381, I_ S_ t382] 24 (0, 0))) := ⟨by (with_reducible repeat (first | apply kN_ | apply kD_ | apply kA_)); refine blk_far ?_ NB384_439.out _; (with_reducible repeat (first | apply kN_ | apply kD_ | apply kA_)); refine blk_far ?_ NB384_439.out _; (with_reducible repeat (first | apply kN_ | apply kD_ | apply kA_)); refine blk_far ?_ NB384_439.out _; (with_reducible repeat (first | apply kN_ | apply kD_ | apply kA_)); refine blk_far ?_ NB384_439.out _; (with_reducible repeat (first | apply kN_ | apply kD_ | apply kA_)); exact BK384.out⟩
         have n3_ : Aside0 (((((w260.setCell ⟨gb439, 0, none⟩ (I_ S_ t434)).setCell ⟨gb439, 1, none⟩ (I_ U_ t435)).setCell ⟨gb439, 2, none⟩ (.string t436)).setCell ⟨gb439, 3, none⟩ (I_ S_ t437)).heap[gb390]? = some (.cells #[I_ S_ t385, I_ U_ t386, .string t387, I_ S_ t388] 24 (0, 0))) := ⟨by (with_reducible repeat (first | apply kN_ | apply kD_ | apply kA_)); refine blk_far ?_ NB390_439.out _; (with_reducible repeat (first | apply kN_ | apply kD_ | apply kA_)); refine blk_far ?_ NB390_439.out _; (with_reducible repeat (first | apply kN_ | apply kD_ | apply kA_)); refine blk_far ?_ NB390_439.out _; (with_reducible repeat (first | apply kN_ | apply kD_ | apply kA_)); refine blk_far ?_ NB390_439.out _; (with_reducible repeat (first | apply kN_ | apply kD_ | apply kA_)); exact BK390.out⟩
         have n4_ : Aside0 (((((w260.setCell ⟨gb439, 0, none⟩ (I_ S_ t434)).setCell ⟨gb439, 1, none⟩ (I_ U_ t435)).setCell ⟨gb439, 2, none⟩ (.string t436)).setCell ⟨gb439, 3, none⟩ (I_ S_ t437)).heap[gb399]? = some (.cells #[I_ S_ t391, I_ U_ t392, .string t393, I_ S_ t394] 24 (0, 0))) := ⟨by (with_reducible repeat (first | apply kN_ | apply kD_ | apply kA_)); refine blk_far ?_ NB399_439.out _; (with_reducible repeat (first | apply kN_ | apply kD_ | apply kA_)); refine blk_far ?_ NB399_439.out _; (with_reducible repeat (first | apply kN_ | apply kD_ | apply kA_)); refine blk_far ?_ NB399_439.out _; (with_reducible repeat (first | apply kN_ | apply kD_ | apply kA_)); refine blk_far ?_ NB399_439.out _; (with_reducible repeat (first | apply kN_ | apply kD_ | apply kA_)); exact BK399.out⟩
         have n5_ : Aside0 (((((w260.setCell ⟨gb439, 0, none⟩ (I_ S_ t434)).setCell ⟨gb439, 1, none⟩ (I_ U_ t435)).setCell ⟨gb439, 2, none⟩ (.string t436)).setCell ⟨gb439, 3, none⟩ (I_ S_ t437)).heap[gb400]? = some (.cells #[I_ S_ t395, I_ U_ t396, .string t397, I_ S_ t398] 24 (0, 0))) := ⟨by (with_reducible repeat (first | apply kN_ | apply kD_ | apply kA_)); refine blk_far ?_ NB400_439.out _; (with_reducible repeat (first | apply kN_ | apply kD_ | apply kA_)); refine blk_far ?_ NB400_439.out _; (with_reducible repeat (first | apply kN_ | apply kD_ | apply kA_)); refine blk_far ?_ NB400_439.out _; (with_reducible repeat (first | apply kN_ | apply kD_ | apply kA_)); refine blk_far ?_ NB400_439.out _; (with_reducible repeat (first | apply kN_ | apply kD_ | apply kA_)); exact BK400.out⟩
         have n6_ : Aside0 (((((w260.setCell ⟨gb439, 0, none⟩ (I_ S_ t434)).setCell ⟨gb439, 1, none⟩ (I_ U_ t435)).setCell ⟨gb439, 2, none⟩ (.string t436)).setCell ⟨gb439, 3, none⟩ (I_ S_ t437)).heap[gb406]? = some (.cells #[I_ S_ t401, I_ U_ t402, .string t403, I_ S_ t404] 24 (0, 0))) := ⟨by (with_reducible repeat (first | apply kN_ | apply kD_ | apply kA_)); refine blk_far ?_ NB406_439.out _; (with_reducible repeat (first | apply kN_ | apply kD_ | apply kA_)); refine blk_far ?_ NB406_439.out _; (with_reducible repeat (first | apply kN_ | apply kD_ | apply kA_)); refine blk_far ?_ NB406_439.out _; (with_reducible repeat (first | apply kN_ | apply kD_ | apply kA_)); refine blk_far ?_ NB406_439.out _; (with_reducible repeat (first | apply kN_ | apply kD_ | apply kA_)); exact BK406.out⟩
         have n7_ : Aside0 (((((w260.setCell ⟨gb439, 0, none⟩ (I_ S_ t434)).setCell ⟨gb439, 1, none⟩ (I_ U_ t435)).setCell ⟨gb439, 2, none⟩ (.string t436)).setCell ⟨gb439, 3, none⟩ (I_ S_ t437)).heap[gb412]? = some (.cells #[I_ S_ t407, I_ U_ t408, .string t409, I_ S_ t410] 24 (0, 0))) := ⟨by (with_reducible repeat (first | apply kN_ | apply kD_ | apply kA_)); refine blk_far ?_ NB412_439.out _; (with_reducible repeat (first | apply kN_ | apply kD_ | apply kA_)); refine blk_far ?_ NB412_439.out _; (with_reducible repeat (first | apply kN_ | apply kD_ | apply kA_)); refine blk_far ?_ NB412_439.out _; (with_reducible repeat (first | apply kN_ | apply kD_ | apply kA_)); refine blk_far ?_ NB412_439.out _; (with_reducible repeat (first | apply kN_ | apply kD_ | apply kA_)); exact BK412.out⟩
         have n8_ : Aside0 (((((w260.setCell ⟨gb439, 0, none⟩ (I_ S_ t434)).setCell ⟨gb439, 1, none⟩ (I_ U_ t435)).setCell ⟨gb439, 2, none⟩ (.string t436)).setCell ⟨gb439, 3, none⟩ (I_ S_ t437)).heap[gb421]? = some (.cells #[I_ S_ t416, I_ U_ t417, .string t418, I_ S_ t419] 24 (0, 0))) := ⟨by (with_reducible repeat (first | apply kN_ | apply kD_ | apply kA_)); refine blk_far ?_ NB421_439.out _; (with_reducible repeat (first | apply kN_ | apply kD_ | apply kA_)); refine blk_far ?_ NB421_439.out _; (with_reducible repeat (first | apply kN_ | apply kD_ | apply kA_)); refine blk_far ?_ NB421_439.out _; (with_reducible repeat (first | apply kN_ | apply kD_ | apply kA_)); refine blk_far ?_ NB421_439.out _; (with_reducible repeat (first | apply kN_ | apply kD_ | apply kA_)); exact BK421.out⟩
         have n9_ : Aside0 (((((w260.setCell ⟨gb439, 0, none⟩ (I_ S_ t434)).setCell ⟨gb439, 1, none⟩ (I_ U_ t435)).setCell ⟨gb439, 2, none⟩ (.string t436)).setCell ⟨gb439, 3, none⟩ (I_ S_ t437)).heap[gb427]? = some (.cells #[I_ S_ t422, I_ U_ t423, .string t424, I_ S_ t425] 24 (0, 0))) := ⟨by (with_reducible repeat (first | apply kN_ | apply kD_ | apply kA_)); refine blk_far ?_ NB427_439.out _; (with_reducible repeat (first | apply kN_ | apply kD_ | apply kA_)); refine blk_far ?_ NB427_439.out _; (with_reducible repeat (first | apply kN_ | apply kD_ | apply kA_)); refine blk_far ?_ NB427_439.out _; (with_reducible repeat (first | apply kN_ | apply kD_ | apply kA_)); refine blk_far ?_ NB427_439.out _; (with_reducible repeat (first | apply kN_ | apply kD_ | apply kA_)); exact BK427.out⟩
         have n10_ : Aside0 (((((w260.setCell ⟨gb439, 0, none⟩ (I_ S_ t434)).setCell ⟨gb439, 1, none⟩ (I_ U_ t435)).setCell ⟨gb439, 2, none⟩ (.string t436)).setCell ⟨gb439, 3, none⟩ (I_ S_ t437)).heap[gb433]? = some (.cells #[I_ S_ t428, I_ U_ t429, .string t430, I_ S_ t431] 24 (0, 0))) := ⟨by (with_reducible repeat (first | apply kN_ | apply kD_ | apply kA_)); refine blk_far ?_ NB433_439.out _; (with_reducible repeat (first | apply kN_ | apply kD_ | apply kA_)); refine blk_far ?_ NB433_439.out _; (with_reducible repeat (first | apply kN_ | apply kD_ | apply kA_)); refine blk_far ?_ NB433_439.out _; (with_reducible repeat (first | apply kN_ | apply kD_ | apply kA_)); refine blk_far ?_ NB433_439.out _; (with_reducible repeat (first | apply kN_ | apply kD_ | apply kA_)); exact BK433.out⟩
         have n11_ : Aside0 (((((w260.setCell ⟨gb439, 0, none⟩ (I_ S_ t434)).setCell ⟨gb439, 1, none⟩ (I_ U_ t435)).setCell ⟨gb439, 2, none⟩ (.string t436)).setCell ⟨gb439, 3, none⟩ (I_ S_ t437)).heap[gb439]? = some (.cells #[I_ S_ t434, I_ U_ t435, .string t436, I_ S_ t437] 24 (0, 0))) := ⟨by (with_reducible repeat (first | apply kN_ | apply kD_ | apply kA_)); refine blk_put (cs := #[I_ S_ t434, I_ U_ t435, .string t436, I_ S_ 0]) ?_ 3 _ rfl; (with_reducible repeat (first | apply kN_ | apply kD_ | apply kA_)); refine blk_put (cs := #[I_ S_ t434, I_ U_ t435, .string ⟨#[]⟩, I_ S_ 0]) ?_ 2 _ rfl; (with_reducible repeat (first | apply kN_ | apply kD_ | apply kA_)); refine blk_put (cs := #[I_ S_ t434, I_ U_ 0, .string ⟨#[]⟩, I_ S_ 0]) ?_ 1 _ rfl; (with_reducible repeat (first | apply kN_ | apply kD_ | apply kA_)); refine blk_put (cs := #[I_ S_ 0, I_ U_ 0, .string ⟨#[]⟩, I_ S_ 0]) ?_ 0 _ rfl; (with_reducible repeat (first | apply kN_ | apply kD_ | apply kA_)); exact BK439.out⟩
         have n12_ : Aside0 (Below w.heap.size w ((((w260.setCell ⟨gb439, 0, none⟩ (I_ S_ t434)).setCell ⟨gb439, 1, none⟩ (I_ U_ t435)).setCell ⟨gb439, 2, none⟩ (.string t436)).setCell ⟨gb439, 3, none⟩ (I_ S_ t437))) := ⟨by repeat (first | (with_reducible first | exact HB.out | apply bA_ | apply bN_ | apply bD_ | refine bS_ ?_ ‹Aside0 _›.out) | exact HB.out)⟩
         (try clear BK377)
         (try clear BK378)
         (try clear BK384)
         (try clear BK390)
         (try clear BK399)
         (try clear BK400)
         (try clear BK406)
         (try clear BK412)
         (try clear BK421)
         (try clear BK427)
         (try clear BK433)
         (try clear BK439)
         (try clear HB)
         generalize ((((w260.setCell ⟨gb439, 0, none⟩ (I_ S_ t434)).setCell ⟨gb439, 1, none⟩ (I_ U_ t435)).setCell ⟨gb439, 2, none⟩ (.string t436)).setCell ⟨gb439, 3, none⟩ (I_ S_ t437)) = w273 at n0_ n1_ n2_ n3_ n4_ n5_ n6_ n7_ n8_ n9_ n10_ n11_ n12_ ⊢
         have BK377 := n0_
         have BK378 := n1_
         have BK384 := n2_
         have BK390 := n3_
         have BK399 := n4_
         have BK400 := n5_
         have BK406 := n6_
         have BK412 := n7_
         have BK421 := n8_
         have BK427 := n9_
         have BK433 := n10_
         have BK439 := n11_
         have HB := n12_
         clear n0_ n1_ n2_ n3_ n4_ n5_ n6_ n7_ n8_ n9_ n10_ n11_ n12_
         replace BK377 := Aside0.mk (kD_ BK377.out)
         replace BK378 := Aside0.mk (kD_ BK378.out)
         replace BK384 := Aside0.mk (kD_ BK384.out)
         replace BK390 := Aside0.mk (kD_ BK390.out)
         replace BK399 := Aside0.mk (kD_ BK399.out)
         replace BK400 := Aside0.mk (kD_ BK400.out)
         replace BK406 := Aside0.mk (kD_ BK406.out)
         replace BK412 := Aside0.mk (kD_ BK412.out)
         replace BK421 := Aside0.mk (kD_ BK421.out)
         replace BK427 := Aside0.mk (kD_ BK427.out)
         replace BK433 := Aside0.mk (kD_ BK433.out)
         replace BK439 := Aside0.mk (kD_ BK439.out)
         replace HB := Aside0.mk (bD_ HB.out)
         refine start_ (n := 10) (S := fun w' => w'.cell? ⟨gb427, 0, none⟩ = some (I_ S_ t422) ∧ w'.cell? ⟨gb427, 1, none⟩ = some (I_ U_ t423) ∧ w'.cell? ⟨gb427, 2, none⟩ = some (.string t424) ∧ w'.cell? ⟨gb427, 3, none⟩ = some (I_ S_ t425) ∧ w'.cell? ⟨gb399, 0, none⟩ = some (I_ S_ t391) ∧ w'.cell? ⟨gb399, 1, none⟩ = some (I_ U_ t392) ∧ w'.cell? ⟨gb399, 2, none⟩ = some (.string t393) ∧ w'.cell? ⟨gb399, 3, none⟩ = some (I_ S_ t394) ∧ w'.cell? ⟨gb433, 0, none⟩ = some (I_ S_ t428) ∧ w'.cell? ⟨gb433, 1, none⟩ = some (I_ U_ t429) ∧ w'.cell? ⟨gb433, 2, none⟩ = some (.string t430) ∧ w'.cell? ⟨gb433, 3, none⟩ = some (I_ S_ t431) ∧ w'.cell? ⟨gb439, 0, none⟩ = some (I_ S_ t434) ∧ w'.cell? ⟨gb439, 1, none⟩ = some (I_ U_ t435) ∧ w'.cell? ⟨gb439, 2, none⟩ = some (.string t436) ∧ w'.cell? ⟨gb439, 3, none⟩ = some (I_ S_ t437)) (ds := []) #[false, false, false, false, false, false, false, false, false, false] (by kernel_rfl) rfl rfl ⟨(blk_cell BK427.out 0).trans rfl, (blk_cell BK427.out 1).trans rfl, (blk_cell BK427.out 2).trans rfl, (blk_cell BK427.out 3).trans rfl, (blk_cell BK399.out 0).trans rfl, (blk_cell BK399.out 1).trans rfl, (blk_cell BK399.out 2).trans rfl, (blk_cell BK399.out 3).trans rfl, (blk_cell BK433.out 0).trans rfl, (blk_cell BK433.out 1).trans rfl, (blk_cell BK433.out 2).trans rfl, (blk_cell BK433.out 3).trans rfl, (blk_cell BK439.out 0).trans rfl, (blk_cell BK439.out 1).trans rfl, (blk_cell BK439.out 2).trans rfl, (blk_cell BK439.out 3).trans rfl⟩ (fun hHeld => ?_); refine with_tabW platformfwlaw08_ValueMid.tab19 platformfwlaw08_ValueMid.bits19 (fun HT_ HW_ => ?_)
         generalize w273.drew = w274 at BK377 BK378 BK384 BK390 BK399 BK400 BK406 BK412 BK421 BK427 BK433 BK439 HB hHeld ⊢
         refine take_ (i := 0) (N := some 132) (v := ?_) (a' := ?_) (tf 10 1) rfl rfl (take_ofW HT_.out HW_.out (by kernel_rfl)) (fun _ _ _ h => h) (Or.inl ⟨by rfl, ?_⟩) hHeld ?_ ?_
         rotate_left
         ·rintro w' ⟨s0, s1, s2, s3, s4, s5, s6, s7, s8, s9, s10, s11, s12, s13, s14, s15⟩
          go_simp
          with_reducible rfl
         rotate_left
         ·simp only [Act.put, sA_, sB_, sC_, i64_w, i32_w]
          rfl
         refine take_ (i := 1) (N := some 133) (v := ?_) (a' := ?_) (tf 10 3) rfl rfl (take_ofW HT_.out HW_.out (by kernel_rfl)) (fun _ _ _ h => h) (Or.inl ⟨by rfl, ?_⟩) hHeld ?_ ?_
         rotate_left
         ·rintro w' ⟨s0, s1, s2, s3, s4, s5, s6, s7, s8, s9, s10, s11, s12, s13, s14, s15⟩
          go_simp
          with_reducible rfl
         rotate_left
         ·simp only [Act.put, sA_, sB_, sC_, i64_w, i32_w]
          rfl
         refine one_ (i := 2) (N := some 134) (tf 10 7) rfl rfl (one_of HT_.out (by kernel_rfl)) (by decide) (fun K hK => ?_)
         refine goes_ Tryd.func18 (by kernel_rfl) rfl #[.agg #[I_ S_ t391, I_ U_ t392, .string t393, I_ S_ t394]] (by rfl) rfl rfl (by (try simp only [List.map_toArray, List.map_cons, List.map_nil]); first | done | rfl) ?_
         with_reducible refine (platformfwref08_Clean.calls kj164 t391 t392 t393 t394 t440 t441 t442 t443 _ A202.out).mono ?_
         rintro e w275 ⟨rfl, hb⟩
         refine ⟨_, rfl, ?_⟩
         replace BK377 := sqB_ BK377 (by (with_reducible repeat (first | apply kN_ | apply kD_ | apply kA_)); exact BK377.out) hb
         replace BK378 := sqB_ BK378 (by (with_reducible repeat (first | apply kN_ | apply kD_ | apply kA_)); exact BK378.out) hb
         replace BK384 := sqB_ BK384 (by (with_reducible repeat (first | apply kN_ | apply kD_ | apply kA_)); exact BK384.out) hb
         replace BK390 := sqB_ BK390 (by (with_reducible repeat (first | apply kN_ | apply kD_ | apply kA_)); exact BK390.out) hb
         replace BK399 := sqB_ BK399 (by (with_reducible repeat (first | apply kN_ | apply kD_ | apply kA_)); exact BK399.out) hb
         replace BK400 := sqB_ BK400 (by (with_reducible repeat (first | apply kN_ | apply kD_ | apply kA_)); exact BK400.out) hb
         replace BK406 := sqB_ BK406 (by (with_reducible repeat (first | apply kN_ | apply kD_ | apply kA_)); exact BK406.out) hb
         replace BK412 := sqB_ BK412 (by (with_reducible repeat (first | apply kN_ | apply kD_ | apply kA_)); exact BK412.out) hb
         replace BK421 := sqB_ BK421 (by (with_reducible repeat (first | apply kN_ | apply kD_ | apply kA_)); exact BK421.out) hb
         replace BK427 := sqB_ BK427 (by (with_reducible repeat (first | apply kN_ | apply kD_ | apply kA_)); exact BK427.out) hb
         replace BK433 := sqB_ BK433 (by (with_reducible repeat (first | apply kN_ | apply kD_ | apply kA_)); exact BK433.out) hb
         replace BK439 := sqB_ BK439 (by (with_reducible repeat (first | apply kN_ | apply kD_ | apply kA_)); exact BK439.out) hb
         replace HB := sqS_ (by repeat (first | (with_reducible first | exact HB.out | apply bA_ | apply bN_ | apply bD_ | refine bS_ ?_ ‹Aside0 _›.out) | exact HB.out)) hb
         (try clear hb)
         (try clear hb2)
         (try clear hk)
         (try clear hi)
         refine hK.out _ _ ⟨(blk_cell BK427.out 0).trans rfl, (blk_cell BK427.out 1).trans rfl, (blk_cell BK427.out 2).trans rfl, (blk_cell BK427.out 3).trans rfl, (blk_cell BK399.out 0).trans rfl, (blk_cell BK399.out 1).trans rfl, (blk_cell BK399.out 2).trans rfl, (blk_cell BK399.out 3).trans rfl, (blk_cell BK433.out 0).trans rfl, (blk_cell BK433.out 1).trans rfl, (blk_cell BK433.out 2).trans rfl, (blk_cell BK433.out 3).trans rfl, (blk_cell BK439.out 0).trans rfl, (blk_cell BK439.out 1).trans rfl, (blk_cell BK439.out 2).trans rfl, (blk_cell BK439.out 3).trans rfl⟩ (fun hHeld => ?_)
         clear hK K
         refine norm_ (a' := ?_) ?_ ?_
         rotate_left
         ·show Act.put _ (some 134) _ = _
          simp only [Act.put, sA_, sB_, sC_, i64_w, i32_w]
          rfl
         refine pure_ (i := 3) (N := some 135) (v := ?_) (a' := ?_) (tf 10 15) rfl rfl (any_of HT_.out (by kernel_rfl)) (fun _ _ _ h => h) (Or.inl ⟨by rfl, ?_⟩) ?_ ?_
         rotate_left
         ·intro w'
          go_simp
          with_reducible rfl
         rotate_left
         ·simp only [Act.put, sA_, sB_, sC_, i64_w, i32_w]
          rfl
         refine pure_ (i := 4) (N := some 136) (v := ?_) (a' := ?_) (tf 10 31) rfl rfl (any_of HT_.out (by kernel_rfl)) (fun _ _ _ h => h) (Or.inl ⟨by rfl, ?_⟩) ?_ ?_
         rotate_left
         ·intro w'
          go_simp
          with_reducible rfl
         rotate_left
         ·simp only [Act.put, sA_, sB_, sC_, i64_w, i32_w]
          rfl
         refine take_ (i := 5) (N := some 137) (v := ?_) (a' := ?_) (tf 10 63) rfl rfl (take_ofW HT_.out HW_.out (by kernel_rfl)) (fun _ _ _ h => h) (Or.inl ⟨by rfl, ?_⟩) hHeld ?_ ?_
         rotate_left
         ·rintro w' ⟨s0, s1, s2, s3, s4, s5, s6, s7, s8, s9, s10, s11, s12, s13, s14, s15⟩
          go_simp
          with_reducible rfl
         rotate_left
         ·simp only [Act.put, sA_, sB_, sC_, i64_w, i32_w]
          rfl
         refine take_ (i := 6) (N := some 138) (v := ?_) (a' := ?_) (tf 10 127) rfl rfl (take_ofW HT_.out HW_.out (by kernel_rfl)) (fun _ _ _ h => h) (Or.inl ⟨by rfl, ?_⟩) hHeld ?_ ?_
         rotate_left
         ·rintro w' ⟨s0, s1, s2, s3, s4, s5, s6, s7, s8, s9, s10, s11, s12, s13, s14, s15⟩
          go_simp
          with_reducible rfl
         rotate_left
         ·simp only [Act.put, sA_, sB_, sC_, i64_w, i32_w]
          rfl
         refine pure_ (i := 7) (N := some 139) (v := ?_) (a' := ?_) (tf 10 255) rfl rfl (any_of HT_.out (by kernel_rfl)) (fun _ _ _ h => h) (Or.inl ⟨by rfl, ?_⟩) ?_ ?_
         rotate_left
         ·intro w'
          go_simp
          with_reducible rfl
         rotate_left
         ·simp only [Act.put, sA_, sB_, sC_, i64_w, i32_w]
          rfl
         refine pure_ (i := 8) (N := some 140) (v := ?_) (a' := ?_) (tf 10 511) rfl rfl (any_of HT_.out (by kernel_rfl)) (fun _ _ _ h => h) (Or.inl ⟨by rfl, ?_⟩) ?_ ?_
         rotate_left
         ·intro w'
          go_simp
          with_reducible rfl
         rotate_left
         ·simp only [Act.put, sA_, sB_, sC_, i64_w, i32_w]
          rfl
         refine pure_ (i := 9) (N := some 10) (v := ?_) (a' := ?_) (tf 10 1023) rfl rfl (any_of HT_.out (by kernel_rfl)) (fun _ _ _ h => h) (Or.inl ⟨by rfl, ?_⟩) ?_ ?_
         rotate_left
         ·intro w'
          go_simp
          with_reducible rfl
         rotate_left
         ·simp only [Act.put, sA_, sB_, sC_, i64_w, i32_w]
          rfl
         refine done_ (done_of HT_.out (by kernel_rfl)) ?_
         try go_wp2
         go_ret
         exact ⟨by first | rfl | (simp [errW_none, errW_some] <;> rfl) | (simp [*, errW_none, errW_some] <;> rfl), by repeat (first | (with_reducible first | exact HB.out | apply bA_ | apply bN_ | apply bD_ | refine bS_ ?_ ‹Aside0 _›.out) | exact HB.out)⟩
        rw [if_neg c203] at H
        have c203b0 : (t422 == t440 && (t423 == t441 && (t424.toList == t442.toList && (t425 == t443)))) = false := by simpa using c203
        (try (have c203b1 : decide (t422 = t440 && (t423 == t441 && (t424.toList == t442.toList && (t425 == t443)))) = false := by simpa using c203))
        (try (have c203b2 : (t422 == t440 && (t423 == t441 && (t424.toList == t442.toList && (t425 == t443)))) = false := by simpa using c203))
        (try (have c203b3 : ¬ (t422 = t440 && (t423 == t441 && (t424.toList == t442.toList && (t425 == t443)))) := by simpa using c203))
        clear c203
        obtain rfl := Option.some.inj H
        exact absurd hr_.out (by simp)
       rw [if_neg c198] at H
       have c198b0 : (t420 == 0) = false := beq_eq_false_iff_ne.mpr c198
       have c198b1 : (t420 != 0) = true := bne_iff_ne.mpr c198
       obtain rfl := Option.some.inj H
       have hnb276 := NB399_377.out
       have hnc276 := NB377_399.out
       have hnb277 := NB399_378.out
       have hnc277 := NB378_399.out
       have hnb278 := NB399_384.out
       have hnc278 := NB384_399.out
       have hnb279 := NB399_390.out
       have hnc279 := NB390_399.out
       have hnb280 := NB399_400.out
       have hnc280 := NB400_399.out
       have hnb281 := NB399_406.out
       have hnc281 := NB406_399.out
       have hnb282 := NB399_412.out
       have hnc282 := NB412_399.out
       obtain ⟨hcz283_0, hcz283_1, hcz283_2, hcz283_3⟩ := cells4_ BK399.out
       obtain ⟨hfz283_0, hfz283_1, hfz283_2, hfz283_3⟩ := froz4_ BK399.out
       have hnb284 := NB400_377.out
       have hnc284 := NB377_400.out
       have hnb285 := NB400_378.out
       have hnc285 := NB378_400.out
       have hnb286 := NB400_384.out
       have hnc286 := NB384_400.out
       have hnb287 := NB400_390.out
       have hnc287 := NB390_400.out
       have hnb288 := NB400_406.out
       have hnc288 := NB406_400.out
       have hnb289 := NB400_412.out
       have hnc289 := NB412_400.out
       obtain ⟨hcz290_0, hcz290_1, hcz290_2, hcz290_3⟩ := cells4_ BK400.out
       obtain ⟨hfz290_0, hfz290_1, hfz290_2, hfz290_3⟩ := froz4_ BK400.out
       go_wp2_with (first | ((with_reducible refine gate_callee (f := 8) rfl ?_); refine goesL_ (some 104) rfl rfl Tryd.func8 (by kernel_rfl) rfl #[I_ S_ 75, .agg #[I_ S_ t391, I_ U_ t392, .string t393, I_ S_ t394], .agg #[I_ S_ t395, I_ U_ t396, .string t397, I_ S_ t398]] rfl (by (try simp only [List.map_toArray, List.map_cons, List.map_nil]); first | done | rfl) ?_; (with_reducible refine (value_Binary.calls kj164 75 t391 t392 t393 t394 t395 t396 t397 t398 t416 t417 t418 t419 t420 _ ?hTT_ A197.out).mono ?_); (case hTT_ => exact tb_below HTT_.out (by repeat (first | (with_reducible first | exact HB.out | apply bA_ | apply bN_ | apply bD_ | refine bS_ ?_ ‹Aside0 _›.out) | exact HB.out))); rintro e w291 ⟨rfl, hb⟩; refine ⟨_, rfl, ?_⟩; replace BK377 := sqB_ BK377 (by (with_reducible repeat (first | apply kN_ | apply kD_ | apply kA_)); exact BK377.out) hb; replace BK378 := sqB_ BK378 (by (with_reducible repeat (first | apply kN_ | apply kD_ | apply kA_)); exact BK378.out) hb; replace BK384 := sqB_ BK384 (by (with_reducible repeat (first | apply kN_ | apply kD_ | apply kA_)); exact BK384.out) hb; replace BK390 := sqB_ BK390 (by (with_reducible repeat (first | apply kN_ | apply kD_ | apply kA_)); exact BK390.out) hb; replace BK399 := sqB_ BK399 (by (with_reducible repeat (first | apply kN_ | apply kD_ | apply kA_)); exact BK399.out) hb; replace BK400 := sqB_ BK400 (by (with_reducible repeat (first | apply kN_ | apply kD_ | apply kA_)); exact BK400.out) hb; replace BK406 := sqB_ BK406 (by (with_reducible repeat (first | apply kN_ | apply kD_ | apply kA_)); exact BK406.out) hb; replace BK412 := sqB_ BK412 (by (with_reducible repeat (first | apply kN_ | apply kD_ | apply kA_)); exact BK412.out) hb; replace HB := sqS_ (by repeat (first | (with_reducible first | exact HB.out | apply bA_ | apply bN_ | apply bD_ | refine bS_ ?_ ‹Aside0 _›.out) | exact HB.out)) hb; (try clear hb); (try clear hb2); (try clear hk); (try clear hi)) | ((with_reducible refine gate_dst (N := 21) rfl ?_); refine box_event ?hg (N := 21) ?hd (cs := #[I_ S_ 0, I_ U_ 0, .string ⟨#[]⟩, I_ S_ 0]) (t := 24) ?hr ?_; (case hd => rfl); (case hg => rfl); (case hr => first | (go_simp; done) | (go_simp; rfl)); intro gb421 hg w292 hbox hb; replace BK377 := sqO_ BK377 (by (with_reducible repeat (first | apply kN_ | apply kD_ | apply kA_)); exact BK377.out) hg hb; obtain ⟨BK377, NB377_421, NB421_377⟩ := BK377; replace BK378 := sqO_ BK378 (by (with_reducible repeat (first | apply kN_ | apply kD_ | apply kA_)); exact BK378.out) hg hb; obtain ⟨BK378, NB378_421, NB421_378⟩ := BK378; replace BK384 := sqO_ BK384 (by (with_reducible repeat (first | apply kN_ | apply kD_ | apply kA_)); exact BK384.out) hg hb; obtain ⟨BK384, NB384_421, NB421_384⟩ := BK384; replace BK390 := sqO_ BK390 (by (with_reducible repeat (first | apply kN_ | apply kD_ | apply kA_)); exact BK390.out) hg hb; obtain ⟨BK390, NB390_421, NB421_390⟩ := BK390; replace BK399 := sqO_ BK399 (by (with_reducible repeat (first | apply kN_ | apply kD_ | apply kA_)); exact BK399.out) hg hb; obtain ⟨BK399, NB399_421, NB421_399⟩ := BK399; replace BK400 := sqO_ BK400 (by (with_reducible repeat (first | apply kN_ | apply kD_ | apply kA_)); exact BK400.out) hg hb; obtain ⟨BK400, NB400_421, NB421_400⟩ := BK400; replace BK406 := sqO_ BK406 (by (with_reducible repeat (first | apply kN_ | apply kD_ | apply kA_)); exact BK406.out) hg hb; obtain ⟨BK406, NB406_421, NB421_406⟩ := BK406; replace BK412 := sqO_ BK412 (by (with_reducible repeat (first | apply kN_ | apply kD_ | apply kA_)); exact BK412.out) hg hb; obtain ⟨BK412, NB412_421, NB421_412⟩ := BK412; replace HB := sqN_ (by repeat (first | (with_reducible first | exact HB.out | apply bA_ | apply bN_ | apply bD_ | refine bS_ ?_ ‹Aside0 _›.out) | exact HB.out)) hg hb; obtain ⟨HB, GE421⟩ := HB; have BK421 := Aside0.mk hbox; clear hb hbox hg; have hnb293 := NB421_377.out; have hnc293 := NB377_421.out; have hnb294 := NB421_378.out; have hnc294 := NB378_421.out; have hnb295 := NB421_384.out; have hnc295 := NB384_421.out; have hnb296 := NB421_390.out; have hnc296 := NB390_421.out; have hnb297 := NB421_399.out; have hnc297 := NB399_421.out; have hnb298 := NB421_400.out; have hnc298 := NB400_421.out; have hnb299 := NB421_406.out; have hnc299 := NB406_421.out; have hnb300 := NB421_412.out; have hnc300 := NB412_421.out; obtain ⟨hcz301_0, hcz301_1, hcz301_2, hcz301_3⟩ := cells4_ BK421.out; obtain ⟨hfz301_0, hfz301_1, hfz301_2, hfz301_3⟩ := froz4_ BK421.out))
       go_ret
       exact ⟨by first | rfl | (simp [errW_none, errW_some] <;> rfl) | (simp [*, errW_none, errW_some] <;> rfl), by repeat (first | (with_reducible first | exact HB.out | apply bA_ | apply bN_ | apply bD_ | refine bS_ ?_ ‹Aside0 _›.out) | exact HB.out)⟩

end Go.Proofs.YtdmeglmmihaonaaDoor.PValueMid
