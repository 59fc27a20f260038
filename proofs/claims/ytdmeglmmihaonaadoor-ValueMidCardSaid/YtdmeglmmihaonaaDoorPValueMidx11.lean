-- Written by a program of this session's (wip/print_patch.py over the kit's print) out of the translation; Lean checks it.
import Derived.Test.YtdmeglmmihaonaaDoorPValueMidx0
import Derived.Test.YtdmeglmmihaonaaDoorPValueMidx1
import Derived.Test.YtdmeglmmihaonaaDoorPValueMidx5
import Derived.Test.YtdmeglmmihaonaaDoorPValueMidx6
import Derived.Test.YtdmeglmmihaonaaDoorPValueMidx7
import Derived.Test.YtdmeglmmihaonaaDoorPValueMidx8
import Derived.Test.YtdmeglmmihaonaaDoorPValueMidx9
import Derived.Test.YtdmeglmmihaonaaDoorPValueMidx10
import Derived.Test.YtdmeglmmihaonaaDoorVValueMidExtP
namespace Go.Proofs.YtdmeglmmihaonaaDoor.PValueMid
open Go.RowKit Go.Proofs.YtdmeglmmihaonaaDoor.Ext Go.Proofs.YtdmeglmmihaonaaDoorW.PrintWords Go.Proofs.YtdmeglmmihaonaaDoorW.PrintLast Go.Proofs.YtdmeglmmihaonaaDoorW.PrintMore
attribute [local go_sem] max2_int min2_int max_two min_two max_three min_three max_four min_four   -- for this text's walks alone
set_option linter.unusedVariables false
set_option linter.unusedSimpArgs false

attribute [local go_sem high] eqA24
/-! ### platformfwref08_String: function 33 -/
def platformfwref08_String.f (k : Nat) (a0_0 : Int) (a0_1 : Int) (a0_2 : ByteArray) (a0_3 : Int) : Option (ByteArray × Int) := (platformfwref08_Valid.f a0_0 a0_1 a0_2 a0_3).bind fun t350 => (if t350 = true then (if a0_0 = 2 then (some (a0_2, 0)) else (if a0_0 = 1 then ((platformfwref08_digits.f k a0_1 16 16).bind fun t351 => (some (t351, 0))) else (if a0_0 = 3 then ((platformfwref08_list.f k a0_2 (⟨#[]⟩ : ByteArray) (⟨#[32]⟩ : ByteArray) 16 2).bind fun t352 => ((platformfwref08_bounded.f t352).bind fun bt353 => (some (bt353.1, bt353.2)))) else (some ((⟨#[]⟩ : ByteArray), 10))))) else (some ((⟨#[]⟩ : ByteArray), 1)))
theorem platformfwref08_String.mono : ∀ a0 a1 a2 a3 k, LeO (platformfwref08_String.f k a0 a1 a2 a3) (platformfwref08_String.f (k + 1) a0 a1 a2 a3) := by
 intro a0 a1 a2 a3 k
 unfold platformfwref08_String.f
 repeat' first
   | (with_reducible exact platformfwref08_digits.mono _ _ _ _)
   | (with_reducible exact platformfwref08_list.mono _ _ _ _ _ _)
   | (with_reducible exact LeO.refl _)
   | (with_reducible exact LeO.none _)
   | (with_reducible refine LeO.ite ?_ ?_)
   | (with_reducible refine LeO.bind ?_ (fun _ => ?_))
   | exact platformfwref08_digits.mono _ _ _ _
   | exact platformfwref08_list.mono _ _ _ _ _ _
   | exact LeO.none _
   | refine LeO.ite ?_ ?_
   | refine LeO.bind ?_ (fun _ => ?_)
set_option maxHeartbeats 8000000 in
set_option maxRecDepth 100000 in
theorem platformfwref08_String.calls (k : Nat) (a0_0 : Int) (a0_1 : Int) (a0_2 : ByteArray) (a0_3 : Int) (r1 : ByteArray) (r2 : Int) (w : World) (h : platformfwref08_String.f k a0_0 a0_1 a0_2 a0_3 = some (r1, r2)) :
  Calls Tryd.prog 33 #[.agg #[.int .i64 a0_0, .int .u64 a0_1, .string a0_2, .int .i64 a0_3]] w fun e w' => e = .returned (.tuple #[.string r1, .int .i64 r2]) ∧ Below w.heap.size w w' := by
 have hu24 := Tryd.underlying24
 have HB := Aside0.mk (Below.refl w.heap.size w)
 have H : ((platformfwref08_Valid.f a0_0 a0_1 a0_2 a0_3).bind fun t350 => (if t350 = true then (if a0_0 = 2 then (some (a0_2, 0)) else (if a0_0 = 1 then ((platformfwref08_digits.f k a0_1 16 16).bind fun t351 => (some (t351, 0))) else (if a0_0 = 3 then ((platformfwref08_list.f k a0_2 (⟨#[]⟩ : ByteArray) (⟨#[32]⟩ : ByteArray) 16 2).bind fun t352 => ((platformfwref08_bounded.f t352).bind fun bt353 => (some (bt353.1, bt353.2)))) else (some ((⟨#[]⟩ : ByteArray), 10))))) else (some ((⟨#[]⟩ : ByteArray), 1)))) = some (r1, r2) := h
 clear h
 replace H := Option.bind_eq_some_iff.mp H
 obtain ⟨t350, A20, H⟩ := H
 replace H : (if t350 = true then (if a0_0 = 2 then (some (a0_2, 0)) else (if a0_0 = 1 then ((platformfwref08_digits.f k a0_1 16 16).bind fun t351 => (some (t351, 0))) else (if a0_0 = 3 then ((platformfwref08_list.f k a0_2 (⟨#[]⟩ : ByteArray) (⟨#[32]⟩ : ByteArray) 16 2).bind fun t352 => ((platformfwref08_bounded.f t352).bind fun bt353 => (some (bt353.1, bt353.2)))) else (some ((⟨#[]⟩ : ByteArray), 10))))) else (some ((⟨#[]⟩ : ByteArray), 1))) = some (r1, r2) := H
 have A2 := Aside0.mk A20
 clear A20
 by_cases c3 : t350 = true
 ·subst c3
  have H1 : (if a0_0 = 2 then (some (a0_2, 0)) else (if a0_0 = 1 then ((platformfwref08_digits.f k a0_1 16 16).bind fun t351 => (some (t351, 0))) else (if a0_0 = 3 then ((platformfwref08_list.f k a0_2 (⟨#[]⟩ : ByteArray) (⟨#[32]⟩ : ByteArray) 16 2).bind fun t352 => ((platformfwref08_bounded.f t352).bind fun bt353 => (some (bt353.1, bt353.2)))) else (some ((⟨#[]⟩ : ByteArray), 10))))) = some (r1, r2) := by rw [if_pos rfl] at H; exact H
  clear H
  have H := H1
  clear H1
  by_cases c4 : a0_0 = 2
  ·rw [if_pos c4] at H
   have c4b0 : (a0_0 == 2) = true := beq_iff_eq.mpr c4
   have c4b1 : (a0_0 != 2) = false := bne_eq_false_iff_eq.mpr c4
   clear c4
   simp only [Option.some.injEq, Prod.mk.injEq] at H
   obtain ⟨rfl, rfl⟩ := H
   go_enter Tryd.func33, Tryd.ntmps33
   go_wp2_with (first | ((with_reducible refine gate_dst (N := 1) rfl ?_); refine box_event ?hg (N := 1) ?hd (cs := #[.int .i64 a0_0, .int .u64 a0_1, .string a0_2, .int .i64 a0_3]) (t := 24) ?hr ?_; (case hd => rfl); (case hg => rfl); (case hr => first | (go_simp; done) | (go_simp; rfl)); intro gb349 hg w5 hbox hb; replace HB := sqN_ (by repeat (first | (with_reducible first | exact HB.out | apply bA_ | apply bN_ | apply bD_) | exact HB.out)) hg hb; obtain ⟨HB, GE349⟩ := HB; have BK349 := Aside0.mk hbox; clear hb hbox hg; obtain ⟨hcz6_0, hcz6_1, hcz6_2, hcz6_3⟩ := cells4_ BK349.out; obtain ⟨hfz6_0, hfz6_1, hfz6_2, hfz6_3⟩ := froz4_ BK349.out) | ((with_reducible refine gate_callee (f := 13) rfl ?_); refine goesL_ (some 6) rfl rfl Tryd.func13 (by kernel_rfl) rfl #[.agg #[.int .i64 a0_0, .int .u64 a0_1, .string a0_2, .int .i64 a0_3]] rfl (by (try simp only [List.map_toArray, List.map_cons, List.map_nil]); first | done | rfl) ?_; (with_reducible refine (platformfwref08_Valid.calls a0_0 a0_1 a0_2 a0_3 true _ A2.out).mono ?_); rintro e w7 ⟨rfl, hb⟩; refine ⟨_, rfl, ?_⟩; replace BK349 := sqB_ BK349 (by (with_reducible repeat (first | apply kN_ | apply kD_ | apply kA_)); exact BK349.out) hb; replace HB := sqS_ (by repeat (first | (with_reducible first | exact HB.out | apply bA_ | apply bN_ | apply bD_ | refine bS_ ?_ GE349.out) | exact HB.out)) hb; (try clear hb); (try clear hb2); (try clear hk); (try clear hi); obtain ⟨hcz8_0, hcz8_1, hcz8_2, hcz8_3⟩ := cells4_ BK349.out; obtain ⟨hfz8_0, hfz8_1, hfz8_2, hfz8_3⟩ := froz4_ BK349.out))
   go_ret2
   exact ⟨by first | rfl | (simp [errW_none, errW_some] <;> rfl) | (simp [*, errW_none, errW_some] <;> rfl), by repeat (first | (with_reducible first | exact HB.out | apply bA_ | apply bN_ | apply bD_ | refine bS_ ?_ GE349.out) | exact HB.out)⟩
  ·rw [if_neg c4] at H
   have c4b0 : (a0_0 == 2) = false := beq_eq_false_iff_ne.mpr c4
   have c4b1 : (a0_0 != 2) = true := bne_iff_ne.mpr c4
   by_cases c9 : a0_0 = 1
   ·rw [if_pos c9] at H
    have c9b0 : (a0_0 == 1) = true := beq_iff_eq.mpr c9
    have c9b1 : (a0_0 != 1) = false := bne_eq_false_iff_eq.mpr c9
    clear c9
    replace H := Option.bind_eq_some_iff.mp H
    obtain ⟨t351, A100, H⟩ := H
    replace H : (some (t351, 0)) = some (r1, r2) := H
    have A10 := Aside0.mk A100
    clear A100
    simp only [Option.some.injEq, Prod.mk.injEq] at H
    obtain ⟨rfl, rfl⟩ := H
    go_enter Tryd.func33, Tryd.ntmps33
    go_wp2_with (first | ((with_reducible refine gate_dst (N := 1) rfl ?_); refine box_event ?hg (N := 1) ?hd (cs := #[.int .i64 a0_0, .int .u64 a0_1, .string a0_2, .int .i64 a0_3]) (t := 24) ?hr ?_; (case hd => rfl); (case hg => rfl); (case hr => first | (go_simp; done) | (go_simp; rfl)); intro gb349 hg w11 hbox hb; replace HB := sqN_ (by repeat (first | (with_reducible first | exact HB.out | apply bA_ | apply bN_ | apply bD_) | exact HB.out)) hg hb; obtain ⟨HB, GE349⟩ := HB; have BK349 := Aside0.mk hbox; clear hb hbox hg; obtain ⟨hcz12_0, hcz12_1, hcz12_2, hcz12_3⟩ := cells4_ BK349.out; obtain ⟨hfz12_0, hfz12_1, hfz12_2, hfz12_3⟩ := froz4_ BK349.out) | ((with_reducible refine gate_callee (f := 13) rfl ?_); refine goesL_ (some 6) rfl rfl Tryd.func13 (by kernel_rfl) rfl #[.agg #[.int .i64 a0_0, .int .u64 a0_1, .string a0_2, .int .i64 a0_3]] rfl (by (try simp only [List.map_toArray, List.map_cons, List.map_nil]); first | done | rfl) ?_; (with_reducible refine (platformfwref08_Valid.calls a0_0 a0_1 a0_2 a0_3 true _ A2.out).mono ?_); rintro e w13 ⟨rfl, hb⟩; refine ⟨_, rfl, ?_⟩; replace BK349 := sqB_ BK349 (by (with_reducible repeat (first | apply kN_ | apply kD_ | apply kA_)); exact BK349.out) hb; replace HB := sqS_ (by repeat (first | (with_reducible first | exact HB.out | apply bA_ | apply bN_ | apply bD_ | refine bS_ ?_ GE349.out) | exact HB.out)) hb; (try clear hb); (try clear hb2); (try clear hk); (try clear hi); obtain ⟨hcz14_0, hcz14_1, hcz14_2, hcz14_3⟩ := cells4_ BK349.out; obtain ⟨hfz14_0, hfz14_1, hfz14_2, hfz14_3⟩ := froz4_ BK349.out) | ((with_reducible refine gate_callee (f := 58) rfl ?_); refine goesL_ (some 20) rfl rfl Tryd.func58 (by kernel_rfl) rfl #[.int .u64 a0_1, .int .u64 16, .int .i64 16] rfl (by (try simp only [List.map_toArray, List.map_cons, List.map_nil]); first | done | rfl) ?_; (with_reducible refine (platformfwref08_digits.calls k a0_1 16 16 t351 _ A10.out).mono ?_); rintro e w' ⟨rfl, ⟨nd, rfl⟩⟩; refine ⟨_, rfl, ?_⟩))
    go_ret2
    exact ⟨by first | rfl | (simp [errW_none, errW_some] <;> rfl) | (simp [*, errW_none, errW_some] <;> rfl), by repeat (first | (with_reducible first | exact HB.out | apply bA_ | apply bN_ | apply bD_ | refine bS_ ?_ GE349.out) | exact HB.out)⟩
   ·rw [if_neg c9] at H
    have c9b0 : (a0_0 == 1) = false := beq_eq_false_iff_ne.mpr c9
    have c9b1 : (a0_0 != 1) = true := bne_iff_ne.mpr c9
    by_cases c15 : a0_0 = 3
    ·rw [if_pos c15] at H
     have c15b0 : (a0_0 == 3) = true := beq_iff_eq.mpr c15
     have c15b1 : (a0_0 != 3) = false := bne_eq_false_iff_eq.mpr c15
     clear c15
     replace H := Option.bind_eq_some_iff.mp H
     obtain ⟨t352, A160, H⟩ := H
     replace H : ((platformfwref08_bounded.f t352).bind fun bt353 => (some (bt353.1, bt353.2))) = some (r1, r2) := H
     have A16 := Aside0.mk A160
     clear A160
     replace H := Option.bind_eq_some_iff.mp H
     obtain ⟨⟨t353, t354⟩, A170, H⟩ := H
     replace H : (some (t353, t354)) = some (r1, r2) := H
     have A17 := Aside0.mk A170
     clear A170
     simp only [Option.some.injEq, Prod.mk.injEq] at H
     obtain ⟨rfl, rfl⟩ := H
     go_enter Tryd.func33, Tryd.ntmps33
     go_wp2_with (first | ((with_reducible refine gate_dst (N := 1) rfl ?_); refine box_event ?hg (N := 1) ?hd (cs := #[.int .i64 a0_0, .int .u64 a0_1, .string a0_2, .int .i64 a0_3]) (t := 24) ?hr ?_; (case hd => rfl); (case hg => rfl); (case hr => first | (go_simp; done) | (go_simp; rfl)); intro gb349 hg w18 hbox hb; replace HB := sqN_ (by repeat (first | (with_reducible first | exact HB.out | apply bA_ | apply bN_ | apply bD_) | exact HB.out)) hg hb; obtain ⟨HB, GE349⟩ := HB; have BK349 := Aside0.mk hbox; clear hb hbox hg; obtain ⟨hcz19_0, hcz19_1, hcz19_2, hcz19_3⟩ := cells4_ BK349.out; obtain ⟨hfz19_0, hfz19_1, hfz19_2, hfz19_3⟩ := froz4_ BK349.out) | ((with_reducible refine gate_callee (f := 13) rfl ?_); refine goesL_ (some 6) rfl rfl Tryd.func13 (by kernel_rfl) rfl #[.agg #[.int .i64 a0_0, .int .u64 a0_1, .string a0_2, .int .i64 a0_3]] rfl (by (try simp only [List.map_toArray, List.map_cons, List.map_nil]); first | done | rfl) ?_; (with_reducible refine (platformfwref08_Valid.calls a0_0 a0_1 a0_2 a0_3 true _ A2.out).mono ?_); rintro e w20 ⟨rfl, hb⟩; refine ⟨_, rfl, ?_⟩; replace BK349 := sqB_ BK349 (by (with_reducible repeat (first | apply kN_ | apply kD_ | apply kA_)); exact BK349.out) hb; replace HB := sqS_ (by repeat (first | (with_reducible first | exact HB.out | apply bA_ | apply bN_ | apply bD_ | refine bS_ ?_ GE349.out) | exact HB.out)) hb; (try clear hb); (try clear hb2); (try clear hk); (try clear hi); obtain ⟨hcz21_0, hcz21_1, hcz21_2, hcz21_3⟩ := cells4_ BK349.out; obtain ⟨hfz21_0, hfz21_1, hfz21_2, hfz21_3⟩ := froz4_ BK349.out) | ((with_reducible refine gate_callee (f := 59) rfl ?_); refine goesL_ (some 27) rfl rfl Tryd.func59 (by kernel_rfl) rfl #[.string a0_2, .string ⟨#[]⟩, .string (⟨#[32]⟩ : ByteArray), .int .u64 16, .int .i64 2] rfl (by (try simp only [List.map_toArray, List.map_cons, List.map_nil]); first | done | rfl) ?_; (with_reducible refine (platformfwref08_list.calls k a0_2 (⟨#[]⟩ : ByteArray) (⟨#[32]⟩ : ByteArray) 16 2 t352 _ A16.out).mono ?_); rintro e w' ⟨rfl, ⟨nd, rfl⟩⟩; refine ⟨_, rfl, ?_⟩) | ((with_reducible refine gate_callee (f := 56) rfl ?_); refine goesL_ (some 28) rfl rfl Tryd.func56 (by kernel_rfl) rfl #[.string t352] rfl (by (try simp only [List.map_toArray, List.map_cons, List.map_nil]); first | done | rfl) ?_; (with_reducible refine (platformfwref08_bounded.calls t352 t353 t354 _ A17.out).mono ?_); rintro e w' ⟨rfl, ⟨nd, rfl⟩⟩; refine ⟨_, rfl, ?_⟩))
     go_ret2
     exact ⟨by first | rfl | (simp [errW_none, errW_some] <;> rfl) | (simp [*, errW_none, errW_some] <;> rfl), by repeat (first | (with_reducible first | exact HB.out | apply bA_ | apply bN_ | apply bD_ | refine bS_ ?_ GE349.out) | exact HB.out)⟩
    ·rw [if_neg c15] at H
     have c15b0 : (a0_0 == 3) = false := beq_eq_false_iff_ne.mpr c15
     have c15b1 : (a0_0 != 3) = true := bne_iff_ne.mpr c15
     simp only [Option.some.injEq, Prod.mk.injEq] at H
     obtain ⟨rfl, rfl⟩ := H
     go_enter Tryd.func33, Tryd.ntmps33
     go_wp2_with (first | ((with_reducible refine gate_dst (N := 1) rfl ?_); refine box_event ?hg (N := 1) ?hd (cs := #[.int .i64 a0_0, .int .u64 a0_1, .string a0_2, .int .i64 a0_3]) (t := 24) ?hr ?_; (case hd => rfl); (case hg => rfl); (case hr => first | (go_simp; done) | (go_simp; rfl)); intro gb349 hg w22 hbox hb; replace HB := sqN_ (by repeat (first | (with_reducible first | exact HB.out | apply bA_ | apply bN_ | apply bD_) | exact HB.out)) hg hb; obtain ⟨HB, GE349⟩ := HB; have BK349 := Aside0.mk hbox; clear hb hbox hg; obtain ⟨hcz23_0, hcz23_1, hcz23_2, hcz23_3⟩ := cells4_ BK349.out; obtain ⟨hfz23_0, hfz23_1, hfz23_2, hfz23_3⟩ := froz4_ BK349.out) | ((with_reducible refine gate_callee (f := 13) rfl ?_); refine goesL_ (some 6) rfl rfl Tryd.func13 (by kernel_rfl) rfl #[.agg #[.int .i64 a0_0, .int .u64 a0_1, .string a0_2, .int .i64 a0_3]] rfl (by (try simp only [List.map_toArray, List.map_cons, List.map_nil]); first | done | rfl) ?_; (with_reducible refine (platformfwref08_Valid.calls a0_0 a0_1 a0_2 a0_3 true _ A2.out).mono ?_); rintro e w24 ⟨rfl, hb⟩; refine ⟨_, rfl, ?_⟩; replace BK349 := sqB_ BK349 (by (with_reducible repeat (first | apply kN_ | apply kD_ | apply kA_)); exact BK349.out) hb; replace HB := sqS_ (by repeat (first | (with_reducible first | exact HB.out | apply bA_ | apply bN_ | apply bD_ | refine bS_ ?_ GE349.out) | exact HB.out)) hb; (try clear hb); (try clear hb2); (try clear hk); (try clear hi); obtain ⟨hcz25_0, hcz25_1, hcz25_2, hcz25_3⟩ := cells4_ BK349.out; obtain ⟨hfz25_0, hfz25_1, hfz25_2, hfz25_3⟩ := froz4_ BK349.out))
     go_ret2
     exact ⟨by first | rfl | (simp [errW_none, errW_some] <;> rfl) | (simp [*, errW_none, errW_some] <;> rfl), by repeat (first | (with_reducible first | exact HB.out | apply bA_ | apply bN_ | apply bD_ | refine bS_ ?_ GE349.out) | exact HB.out)⟩
 ·replace c3 := Bool.eq_false_iff.mpr c3
  subst c3
  have H1 : (some ((⟨#[]⟩ : ByteArray), 1)) = some (r1, r2) := by rw [if_neg (show ¬ (false = true) by decide)] at H; exact H
  clear H
  have H := H1
  clear H1
  simp only [Option.some.injEq, Prod.mk.injEq] at H
  obtain ⟨rfl, rfl⟩ := H
  go_enter Tryd.func33, Tryd.ntmps33
  go_wp2_with (first | ((with_reducible refine gate_dst (N := 1) rfl ?_); refine box_event ?hg (N := 1) ?hd (cs := #[.int .i64 a0_0, .int .u64 a0_1, .string a0_2, .int .i64 a0_3]) (t := 24) ?hr ?_; (case hd => rfl); (case hg => rfl); (case hr => first | (go_simp; done) | (go_simp; rfl)); intro gb349 hg w26 hbox hb; replace HB := sqN_ (by repeat (first | (with_reducible first | exact HB.out | apply bA_ | apply bN_ | apply bD_) | exact HB.out)) hg hb; obtain ⟨HB, GE349⟩ := HB; have BK349 := Aside0.mk hbox; clear hb hbox hg; obtain ⟨hcz27_0, hcz27_1, hcz27_2, hcz27_3⟩ := cells4_ BK349.out; obtain ⟨hfz27_0, hfz27_1, hfz27_2, hfz27_3⟩ := froz4_ BK349.out) | ((with_reducible refine gate_callee (f := 13) rfl ?_); refine goesL_ (some 6) rfl rfl Tryd.func13 (by kernel_rfl) rfl #[.agg #[.int .i64 a0_0, .int .u64 a0_1, .string a0_2, .int .i64 a0_3]] rfl (by (try simp only [List.map_toArray, List.map_cons, List.map_nil]); first | done | rfl) ?_; (with_reducible refine (platformfwref08_Valid.calls a0_0 a0_1 a0_2 a0_3 false _ A2.out).mono ?_); rintro e w28 ⟨rfl, hb⟩; refine ⟨_, rfl, ?_⟩; replace BK349 := sqB_ BK349 (by (with_reducible repeat (first | apply kN_ | apply kD_ | apply kA_)); exact BK349.out) hb; replace HB := sqS_ (by repeat (first | (with_reducible first | exact HB.out | apply bA_ | apply bN_ | apply bD_ | refine bS_ ?_ GE349.out) | exact HB.out)) hb; (try clear hb); (try clear hb2); (try clear hk); (try clear hi)))
  go_ret2
  exact ⟨by first | rfl | (simp [errW_none, errW_some] <;> rfl) | (simp [*, errW_none, errW_some] <;> rfl), by repeat (first | (with_reducible first | exact HB.out | apply bA_ | apply bN_ | apply bD_ | refine bS_ ?_ GE349.out) | exact HB.out)⟩

/-! ### platformfwref08_Buffer: function 34 -/
def platformfwref08_Buffer.f (k : Nat) (a0_0 : Int) (a0_1 : Int) (a0_2 : ByteArray) (a0_3 : Int) : Option (ByteArray × Int) := (platformfwref08_Valid.f a0_0 a0_1 a0_2 a0_3).bind fun t356 => (if t356 = true then (if a0_0 = 3 then (some (a0_2, 0)) else (if a0_0 = 1 then ((platformfwref08_little.f k a0_1).bind fun t357 => (some (t357, 0))) else (if a0_0 = 2 then (if a0_2.size + 1 ≤ 9223372036854775807 then ((platformfwref08_bounded.f (a0_2 ++ (⟨#[0]⟩ : ByteArray))).bind fun bt358 => (some (bt358.1, bt358.2))) else (none)) else (some ((⟨#[]⟩ : ByteArray), 10))))) else (some ((⟨#[]⟩ : ByteArray), 1)))
theorem platformfwref08_Buffer.mono : ∀ a0 a1 a2 a3 k, LeO (platformfwref08_Buffer.f k a0 a1 a2 a3) (platformfwref08_Buffer.f (k + 1) a0 a1 a2 a3) := by
 intro a0 a1 a2 a3 k
 unfold platformfwref08_Buffer.f
 repeat' first
   | (with_reducible exact platformfwref08_little.mono _ _)
   | (with_reducible exact LeO.refl _)
   | (with_reducible exact LeO.none _)
   | (with_reducible refine LeO.ite ?_ ?_)
   | (with_reducible refine LeO.bind ?_ (fun _ => ?_))
   | exact platformfwref08_little.mono _ _
   | exact LeO.none _
   | refine LeO.ite ?_ ?_
   | refine LeO.bind ?_ (fun _ => ?_)
set_option maxHeartbeats 8000000 in
set_option maxRecDepth 100000 in
theorem platformfwref08_Buffer.calls (k : Nat) (a0_0 : Int) (a0_1 : Int) (a0_2 : ByteArray) (a0_3 : Int) (r1 : ByteArray) (r2 : Int) (w : World) (h : platformfwref08_Buffer.f k a0_0 a0_1 a0_2 a0_3 = some (r1, r2)) :
  Calls Tryd.prog 34 #[.agg #[.int .i64 a0_0, .int .u64 a0_1, .string a0_2, .int .i64 a0_3]] w fun e w' => e = .returned (.tuple #[.string r1, .int .i64 r2]) ∧ Below w.heap.size w w' := by
 have hu24 := Tryd.underlying24
 have HB := Aside0.mk (Below.refl w.heap.size w)
 have H : ((platformfwref08_Valid.f a0_0 a0_1 a0_2 a0_3).bind fun t356 => (if t356 = true then (if a0_0 = 3 then (some (a0_2, 0)) else (if a0_0 = 1 then ((platformfwref08_little.f k a0_1).bind fun t357 => (some (t357, 0))) else (if a0_0 = 2 then (if a0_2.size + 1 ≤ 9223372036854775807 then ((platformfwref08_bounded.f (a0_2 ++ (⟨#[0]⟩ : ByteArray))).bind fun bt358 => (some (bt358.1, bt358.2))) else (none)) else (some ((⟨#[]⟩ : ByteArray), 10))))) else (some ((⟨#[]⟩ : ByteArray), 1)))) = some (r1, r2) := h
 clear h
 replace H := Option.bind_eq_some_iff.mp H
 obtain ⟨t356, A20, H⟩ := H
 replace H : (if t356 = true then (if a0_0 = 3 then (some (a0_2, 0)) else (if a0_0 = 1 then ((platformfwref08_little.f k a0_1).bind fun t357 => (some (t357, 0))) else (if a0_0 = 2 then (if a0_2.size + 1 ≤ 9223372036854775807 then ((platformfwref08_bounded.f (a0_2 ++ (⟨#[0]⟩ : ByteArray))).bind fun bt358 => (some (bt358.1, bt358.2))) else (none)) else (some ((⟨#[]⟩ : ByteArray), 10))))) else (some ((⟨#[]⟩ : ByteArray), 1))) = some (r1, r2) := H
 have A2 := Aside0.mk A20
 clear A20
 by_cases c3 : t356 = true
 ·subst c3
  have H1 : (if a0_0 = 3 then (some (a0_2, 0)) else (if a0_0 = 1 then ((platformfwref08_little.f k a0_1).bind fun t357 => (some (t357, 0))) else (if a0_0 = 2 then (if a0_2.size + 1 ≤ 9223372036854775807 then ((platformfwref08_bounded.f (a0_2 ++ (⟨#[0]⟩ : ByteArray))).bind fun bt358 => (some (bt358.1, bt358.2))) else (none)) else (some ((⟨#[]⟩ : ByteArray), 10))))) = some (r1, r2) := by rw [if_pos rfl] at H; exact H
  clear H
  have H := H1
  clear H1
  by_cases c4 : a0_0 = 3
  ·rw [if_pos c4] at H
   have c4b0 : (a0_0 == 3) = true := beq_iff_eq.mpr c4
   have c4b1 : (a0_0 != 3) = false := bne_eq_false_iff_eq.mpr c4
   clear c4
   simp only [Option.some.injEq, Prod.mk.injEq] at H
   obtain ⟨rfl, rfl⟩ := H
   go_enter Tryd.func34, Tryd.ntmps34
   go_wp2_with (first | ((with_reducible refine gate_dst (N := 1) rfl ?_); refine box_event ?hg (N := 1) ?hd (cs := #[.int .i64 a0_0, .int .u64 a0_1, .string a0_2, .int .i64 a0_3]) (t := 24) ?hr ?_; (case hd => rfl); (case hg => rfl); (case hr => first | (go_simp; done) | (go_simp; rfl)); intro gb355 hg w5 hbox hb; replace HB := sqN_ (by repeat (first | (with_reducible first | exact HB.out | apply bA_ | apply bN_ | apply bD_) | exact HB.out)) hg hb; obtain ⟨HB, GE355⟩ := HB; have BK355 := Aside0.mk hbox; clear hb hbox hg; obtain ⟨hcz6_0, hcz6_1, hcz6_2, hcz6_3⟩ := cells4_ BK355.out; obtain ⟨hfz6_0, hfz6_1, hfz6_2, hfz6_3⟩ := froz4_ BK355.out) | ((with_reducible refine gate_callee (f := 13) rfl ?_); refine goesL_ (some 6) rfl rfl Tryd.func13 (by kernel_rfl) rfl #[.agg #[.int .i64 a0_0, .int .u64 a0_1, .string a0_2, .int .i64 a0_3]] rfl (by (try simp only [List.map_toArray, List.map_cons, List.map_nil]); first | done | rfl) ?_; (with_reducible refine (platformfwref08_Valid.calls a0_0 a0_1 a0_2 a0_3 true _ A2.out).mono ?_); rintro e w7 ⟨rfl, hb⟩; refine ⟨_, rfl, ?_⟩; replace BK355 := sqB_ BK355 (by (with_reducible repeat (first | apply kN_ | apply kD_ | apply kA_)); exact BK355.out) hb; replace HB := sqS_ (by repeat (first | (with_reducible first | exact HB.out | apply bA_ | apply bN_ | apply bD_ | refine bS_ ?_ GE355.out) | exact HB.out)) hb; (try clear hb); (try clear hb2); (try clear hk); (try clear hi); obtain ⟨hcz8_0, hcz8_1, hcz8_2, hcz8_3⟩ := cells4_ BK355.out; obtain ⟨hfz8_0, hfz8_1, hfz8_2, hfz8_3⟩ := froz4_ BK355.out))
   go_ret2
   exact ⟨by first | rfl | (simp [errW_none, errW_some] <;> rfl) | (simp [*, errW_none, errW_some] <;> rfl), by repeat (first | (with_reducible first | exact HB.out | apply bA_ | apply bN_ | apply bD_ | refine bS_ ?_ GE355.out) | exact HB.out)⟩
  ·rw [if_neg c4] at H
   have c4b0 : (a0_0 == 3) = false := beq_eq_false_iff_ne.mpr c4
   have c4b1 : (a0_0 != 3) = true := bne_iff_ne.mpr c4
   by_cases c9 : a0_0 = 1
   ·rw [if_pos c9] at H
    have c9b0 : (a0_0 == 1) = true := beq_iff_eq.mpr c9
    have c9b1 : (a0_0 != 1) = false := bne_eq_false_iff_eq.mpr c9
    clear c9
    replace H := Option.bind_eq_some_iff.mp H
    obtain ⟨t357, A100, H⟩ := H
    replace H : (some (t357, 0)) = some (r1, r2) := H
    have A10 := Aside0.mk A100
    clear A100
    simp only [Option.some.injEq, Prod.mk.injEq] at H
    obtain ⟨rfl, rfl⟩ := H
    go_enter Tryd.func34, Tryd.ntmps34
    go_wp2_with (first | ((with_reducible refine gate_dst (N := 1) rfl ?_); refine box_event ?hg (N := 1) ?hd (cs := #[.int .i64 a0_0, .int .u64 a0_1, .string a0_2, .int .i64 a0_3]) (t := 24) ?hr ?_; (case hd => rfl); (case hg => rfl); (case hr => first | (go_simp; done) | (go_simp; rfl)); intro gb355 hg w11 hbox hb; replace HB := sqN_ (by repeat (first | (with_reducible first | exact HB.out | apply bA_ | apply bN_ | apply bD_) | exact HB.out)) hg hb; obtain ⟨HB, GE355⟩ := HB; have BK355 := Aside0.mk hbox; clear hb hbox hg; obtain ⟨hcz12_0, hcz12_1, hcz12_2, hcz12_3⟩ := cells4_ BK355.out; obtain ⟨hfz12_0, hfz12_1, hfz12_2, hfz12_3⟩ := froz4_ BK355.out) | ((with_reducible refine gate_callee (f := 13) rfl ?_); refine goesL_ (some 6) rfl rfl Tryd.func13 (by kernel_rfl) rfl #[.agg #[.int .i64 a0_0, .int .u64 a0_1, .string a0_2, .int .i64 a0_3]] rfl (by (try simp only [List.map_toArray, List.map_cons, List.map_nil]); first | done | rfl) ?_; (with_reducible refine (platformfwref08_Valid.calls a0_0 a0_1 a0_2 a0_3 true _ A2.out).mono ?_); rintro e w13 ⟨rfl, hb⟩; refine ⟨_, rfl, ?_⟩; replace BK355 := sqB_ BK355 (by (with_reducible repeat (first | apply kN_ | apply kD_ | apply kA_)); exact BK355.out) hb; replace HB := sqS_ (by repeat (first | (with_reducible first | exact HB.out | apply bA_ | apply bN_ | apply bD_ | refine bS_ ?_ GE355.out) | exact HB.out)) hb; (try clear hb); (try clear hb2); (try clear hk); (try clear hi); obtain ⟨hcz14_0, hcz14_1, hcz14_2, hcz14_3⟩ := cells4_ BK355.out; obtain ⟨hfz14_0, hfz14_1, hfz14_2, hfz14_3⟩ := froz4_ BK355.out) | ((with_reducible refine gate_callee (f := 32) rfl ?_); refine goesL_ (some 20) rfl rfl Tryd.func32 (by kernel_rfl) rfl #[.int .u64 a0_1] rfl (by (try simp only [List.map_toArray, List.map_cons, List.map_nil]); first | done | rfl) ?_; (with_reducible refine (platformfwref08_little.calls k a0_1 t357 _ A10.out).mono ?_); rintro e w15 ⟨rfl, hb⟩; refine ⟨_, rfl, ?_⟩; replace BK355 := sqB_ BK355 (by (with_reducible repeat (first | apply kN_ | apply kD_ | apply kA_)); exact BK355.out) hb; replace HB := sqS_ (by repeat (first | (with_reducible first | exact HB.out | apply bA_ | apply bN_ | apply bD_ | refine bS_ ?_ GE355.out) | exact HB.out)) hb; (try clear hb); (try clear hb2); (try clear hk); (try clear hi)))
    go_ret2
    exact ⟨by first | rfl | (simp [errW_none, errW_some] <;> rfl) | (simp [*, errW_none, errW_some] <;> rfl), by repeat (first | (with_reducible first | exact HB.out | apply bA_ | apply bN_ | apply bD_ | refine bS_ ?_ GE355.out) | exact HB.out)⟩
   ·rw [if_neg c9] at H
    have c9b0 : (a0_0 == 1) = false := beq_eq_false_iff_ne.mpr c9
    have c9b1 : (a0_0 != 1) = true := bne_iff_ne.mpr c9
    by_cases c16 : a0_0 = 2
    ·rw [if_pos c16] at H
     have c16b0 : (a0_0 == 2) = true := beq_iff_eq.mpr c16
     have c16b1 : (a0_0 != 2) = false := bne_eq_false_iff_eq.mpr c16
     clear c16
     by_cases c17 : a0_2.size + 1 ≤ 9223372036854775807
     ·rw [if_pos c17] at H
      have c17b0 := eq_true c17
      have c17b1 : decide (a0_2.size + 1 ≤ 9223372036854775807) = true := decide_eq_true c17
      try have c17b2 : (9223372036854775807 < a0_2.size + 1) = False := eq_false (Nat.not_lt.2 c17)
      clear c17
      replace H := Option.bind_eq_some_iff.mp H
      obtain ⟨⟨t358, t359⟩, A180, H⟩ := H
      replace H : (some (t358, t359)) = some (r1, r2) := H
      have A18 := Aside0.mk A180
      clear A180
      simp only [Option.some.injEq, Prod.mk.injEq] at H
      obtain ⟨rfl, rfl⟩ := H
      go_enter Tryd.func34, Tryd.ntmps34
      go_wp2_with (first | ((with_reducible refine gate_dst (N := 1) rfl ?_); refine box_event ?hg (N := 1) ?hd (cs := #[.int .i64 a0_0, .int .u64 a0_1, .string a0_2, .int .i64 a0_3]) (t := 24) ?hr ?_; (case hd => rfl); (case hg => rfl); (case hr => first | (go_simp; done) | (go_simp; rfl)); intro gb355 hg w19 hbox hb; replace HB := sqN_ (by repeat (first | (with_reducible first | exact HB.out | apply bA_ | apply bN_ | apply bD_) | exact HB.out)) hg hb; obtain ⟨HB, GE355⟩ := HB; have BK355 := Aside0.mk hbox; clear hb hbox hg; obtain ⟨hcz20_0, hcz20_1, hcz20_2, hcz20_3⟩ := cells4_ BK355.out; obtain ⟨hfz20_0, hfz20_1, hfz20_2, hfz20_3⟩ := froz4_ BK355.out) | ((with_reducible refine gate_callee (f := 13) rfl ?_); refine goesL_ (some 6) rfl rfl Tryd.func13 (by kernel_rfl) rfl #[.agg #[.int .i64 a0_0, .int .u64 a0_1, .string a0_2, .int .i64 a0_3]] rfl (by (try simp only [List.map_toArray, List.map_cons, List.map_nil]); first | done | rfl) ?_; (with_reducible refine (platformfwref08_Valid.calls a0_0 a0_1 a0_2 a0_3 true _ A2.out).mono ?_); rintro e w21 ⟨rfl, hb⟩; refine ⟨_, rfl, ?_⟩; replace BK355 := sqB_ BK355 (by (with_reducible repeat (first | apply kN_ | apply kD_ | apply kA_)); exact BK355.out) hb; replace HB := sqS_ (by repeat (first | (with_reducible first | exact HB.out | apply bA_ | apply bN_ | apply bD_ | refine bS_ ?_ GE355.out) | exact HB.out)) hb; (try clear hb); (try clear hb2); (try clear hk); (try clear hi); obtain ⟨hcz22_0, hcz22_1, hcz22_2, hcz22_3⟩ := cells4_ BK355.out; obtain ⟨hfz22_0, hfz22_1, hfz22_2, hfz22_3⟩ := froz4_ BK355.out) | ((with_reducible refine gate_callee (f := 56) rfl ?_); refine goesL_ (some 28) rfl rfl Tryd.func56 (by kernel_rfl) rfl #[.string (a0_2 ++ (⟨#[0]⟩ : ByteArray))] rfl (by (try simp only [List.map_toArray, List.map_cons, List.map_nil]); first | done | rfl) ?_; (with_reducible refine (platformfwref08_bounded.calls (a0_2 ++ (⟨#[0]⟩ : ByteArray)) t358 t359 _ A18.out).mono ?_); rintro e w' ⟨rfl, ⟨nd, rfl⟩⟩; refine ⟨_, rfl, ?_⟩))
      go_ret2
      exact ⟨by first | rfl | (simp [errW_none, errW_some] <;> rfl) | (simp [*, errW_none, errW_some] <;> rfl), by repeat (first | (with_reducible first | exact HB.out | apply bA_ | apply bN_ | apply bD_ | refine bS_ ?_ GE355.out) | exact HB.out)⟩
     ·rw [if_neg c17] at H
      exact absurd H (by simp)
    ·rw [if_neg c16] at H
     have c16b0 : (a0_0 == 2) = false := beq_eq_false_iff_ne.mpr c16
     have c16b1 : (a0_0 != 2) = true := bne_iff_ne.mpr c16
     simp only [Option.some.injEq, Prod.mk.injEq] at H
     obtain ⟨rfl, rfl⟩ := H
     go_enter Tryd.func34, Tryd.ntmps34
     go_wp2_with (first | ((with_reducible refine gate_dst (N := 1) rfl ?_); refine box_event ?hg (N := 1) ?hd (cs := #[.int .i64 a0_0, .int .u64 a0_1, .string a0_2, .int .i64 a0_3]) (t := 24) ?hr ?_; (case hd => rfl); (case hg => rfl); (case hr => first | (go_simp; done) | (go_simp; rfl)); intro gb355 hg w23 hbox hb; replace HB := sqN_ (by repeat (first | (with_reducible first | exact HB.out | apply bA_ | apply bN_ | apply bD_) | exact HB.out)) hg hb; obtain ⟨HB, GE355⟩ := HB; have BK355 := Aside0.mk hbox; clear hb hbox hg; obtain ⟨hcz24_0, hcz24_1, hcz24_2, hcz24_3⟩ := cells4_ BK355.out; obtain ⟨hfz24_0, hfz24_1, hfz24_2, hfz24_3⟩ := froz4_ BK355.out) | ((with_reducible refine gate_callee (f := 13) rfl ?_); refine goesL_ (some 6) rfl rfl Tryd.func13 (by kernel_rfl) rfl #[.agg #[.int .i64 a0_0, .int .u64 a0_1, .string a0_2, .int .i64 a0_3]] rfl (by (try simp only [List.map_toArray, List.map_cons, List.map_nil]); first | done | rfl) ?_; (with_reducible refine (platformfwref08_Valid.calls a0_0 a0_1 a0_2 a0_3 true _ A2.out).mono ?_); rintro e w25 ⟨rfl, hb⟩; refine ⟨_, rfl, ?_⟩; replace BK355 := sqB_ BK355 (by (with_reducible repeat (first | apply kN_ | apply kD_ | apply kA_)); exact BK355.out) hb; replace HB := sqS_ (by repeat (first | (with_reducible first | exact HB.out | apply bA_ | apply bN_ | apply bD_ | refine bS_ ?_ GE355.out) | exact HB.out)) hb; (try clear hb); (try clear hb2); (try clear hk); (try clear hi); obtain ⟨hcz26_0, hcz26_1, hcz26_2, hcz26_3⟩ := cells4_ BK355.out; obtain ⟨hfz26_0, hfz26_1, hfz26_2, hfz26_3⟩ := froz4_ BK355.out))
     go_ret2
     exact ⟨by first | rfl | (simp [errW_none, errW_some] <;> rfl) | (simp [*, errW_none, errW_some] <;> rfl), by repeat (first | (with_reducible first | exact HB.out | apply bA_ | apply bN_ | apply bD_ | refine bS_ ?_ GE355.out) | exact HB.out)⟩
 ·replace c3 := Bool.eq_false_iff.mpr c3
  subst c3
  have H1 : (some ((⟨#[]⟩ : ByteArray), 1)) = some (r1, r2) := by rw [if_neg (show ¬ (false = true) by decide)] at H; exact H
  clear H
  have H := H1
  clear H1
  simp only [Option.some.injEq, Prod.mk.injEq] at H
  obtain ⟨rfl, rfl⟩ := H
  go_enter Tryd.func34, Tryd.ntmps34
  go_wp2_with (first | ((with_reducible refine gate_dst (N := 1) rfl ?_); refine box_event ?hg (N := 1) ?hd (cs := #[.int .i64 a0_0, .int .u64 a0_1, .string a0_2, .int .i64 a0_3]) (t := 24) ?hr ?_; (case hd => rfl); (case hg => rfl); (case hr => first | (go_simp; done) | (go_simp; rfl)); intro gb355 hg w27 hbox hb; replace HB := sqN_ (by repeat (first | (with_reducible first | exact HB.out | apply bA_ | apply bN_ | apply bD_) | exact HB.out)) hg hb; obtain ⟨HB, GE355⟩ := HB; have BK355 := Aside0.mk hbox; clear hb hbox hg; obtain ⟨hcz28_0, hcz28_1, hcz28_2, hcz28_3⟩ := cells4_ BK355.out; obtain ⟨hfz28_0, hfz28_1, hfz28_2, hfz28_3⟩ := froz4_ BK355.out) | ((with_reducible refine gate_callee (f := 13) rfl ?_); refine goesL_ (some 6) rfl rfl Tryd.func13 (by kernel_rfl) rfl #[.agg #[.int .i64 a0_0, .int .u64 a0_1, .string a0_2, .int .i64 a0_3]] rfl (by (try simp only [List.map_toArray, List.map_cons, List.map_nil]); first | done | rfl) ?_; (with_reducible refine (platformfwref08_Valid.calls a0_0 a0_1 a0_2 a0_3 false _ A2.out).mono ?_); rintro e w29 ⟨rfl, hb⟩; refine ⟨_, rfl, ?_⟩; replace BK355 := sqB_ BK355 (by (with_reducible repeat (first | apply kN_ | apply kD_ | apply kA_)); exact BK355.out) hb; replace HB := sqS_ (by repeat (first | (with_reducible first | exact HB.out | apply bA_ | apply bN_ | apply bD_ | refine bS_ ?_ GE355.out) | exact HB.out)) hb; (try clear hb); (try clear hb2); (try clear hk); (try clear hi)))
  go_ret2
  exact ⟨by first | rfl | (simp [errW_none, errW_some] <;> rfl) | (simp [*, errW_none, errW_some] <;> rfl), by repeat (first | (with_reducible first | exact HB.out | apply bA_ | apply bN_ | apply bD_ | refine bS_ ?_ GE355.out) | exact HB.out)⟩

/-! ### platformfwref08_Convert: function 17 -/
def platformfwref08_Convert.f (k : Nat) (a0_0 : Int) (a0_1 : Int) (a0_2 : ByteArray) (a0_3 : Int) (a1 : Int) : Option (Int × Int × ByteArray × Int × Int) := (platformfwref08_Valid.f a0_0 a0_1 a0_2 a0_3).bind fun t362 => (if t362 = true then (if a1 = 1 then ((platformfwref08_Integer.f k a0_0 a0_1 a0_2 a0_3).bind fun bt363 => (if bt363.2 = 0 then ((platformfwref08_Number.f bt363.1).bind fun bt365 => (some (bt365.1, bt365.2.1, bt365.2.2.1, bt365.2.2.2, 0))) else (some (0, 0, (⟨#[]⟩ : ByteArray), 0, bt363.2)))) else (if a1 = 2 then ((platformfwref08_String.f k a0_0 a0_1 a0_2 a0_3).bind fun bt369 => (if bt369.2 = 0 then (some (a1, 0, bt369.1, 0, 0)) else (some (0, 0, (⟨#[]⟩ : ByteArray), 0, bt369.2)))) else (if a1 = 3 then ((platformfwref08_Buffer.f k a0_0 a0_1 a0_2 a0_3).bind fun bt371 => (if bt371.2 = 0 then (some (a1, 0, bt371.1, 0, 0)) else (some (0, 0, (⟨#[]⟩ : ByteArray), 0, bt371.2)))) else (if a0_0 = a1 then ((platformfwref08_Clean.f k a0_0 a0_1 a0_2 a0_3).bind fun bt373 => (some (bt373.1, bt373.2.1, bt373.2.2.1, bt373.2.2.2, 0))) else (some (0, 0, (⟨#[]⟩ : ByteArray), 0, 10)))))) else (some (0, 0, (⟨#[]⟩ : ByteArray), 0, 1)))
theorem platformfwref08_Convert.mono : ∀ a0 a1 a2 a3 a4 k, LeO (platformfwref08_Convert.f k a0 a1 a2 a3 a4) (platformfwref08_Convert.f (k + 1) a0 a1 a2 a3 a4) := by
 intro a0 a1 a2 a3 a4 k
 unfold platformfwref08_Convert.f
 repeat' first
   | (with_reducible exact platformfwref08_Buffer.mono _ _ _ _ _)
   | (with_reducible exact platformfwref08_Clean.mono _ _ _ _ _)
   | (with_reducible exact platformfwref08_Integer.mono _ _ _ _ _)
   | (with_reducible exact platformfwref08_String.mono _ _ _ _ _)
   | (with_reducible exact LeO.refl _)
   | (with_reducible exact LeO.none _)
   | (with_reducible refine LeO.ite ?_ ?_)
   | (with_reducible refine LeO.bind ?_ (fun _ => ?_))
   | exact platformfwref08_Buffer.mono _ _ _ _ _
   | exact platformfwref08_Clean.mono _ _ _ _ _
   | exact platformfwref08_Integer.mono _ _ _ _ _
   | exact platformfwref08_String.mono _ _ _ _ _
   | exact LeO.none _
   | refine LeO.ite ?_ ?_
   | refine LeO.bind ?_ (fun _ => ?_)
set_option maxHeartbeats 8000000 in
set_option maxRecDepth 100000 in
theorem platformfwref08_Convert.calls (k : Nat) (a0_0 : Int) (a0_1 : Int) (a0_2 : ByteArray) (a0_3 : Int) (a1 : Int) (r1 : Int) (r2 : Int) (r3 : ByteArray) (r4 : Int) (r5 : Int) (w : World) (h : platformfwref08_Convert.f k a0_0 a0_1 a0_2 a0_3 a1 = some (r1, r2, r3, r4, r5)) :
  Calls Tryd.prog 17 #[.agg #[.int .i64 a0_0, .int .u64 a0_1, .string a0_2, .int .i64 a0_3], .int .i64 a1] w fun e w' => e = .returned (.tuple #[.agg #[.int .i64 r1, .int .u64 r2, .string r3, .int .i64 r4], .int .i64 r5]) ∧ Below w.heap.size w w' := by
 have hu24 := Tryd.underlying24
 have HB := Aside0.mk (Below.refl w.heap.size w)
 have H : ((platformfwref08_Valid.f a0_0 a0_1 a0_2 a0_3).bind fun t362 => (if t362 = true then (if a1 = 1 then ((platformfwref08_Integer.f k a0_0 a0_1 a0_2 a0_3).bind fun bt363 => (if bt363.2 = 0 then ((platformfwref08_Number.f bt363.1).bind fun bt365 => (some (bt365.1, bt365.2.1, bt365.2.2.1, bt365.2.2.2, 0))) else (some (0, 0, (⟨#[]⟩ : ByteArray), 0, bt363.2)))) else (if a1 = 2 then ((platformfwref08_String.f k a0_0 a0_1 a0_2 a0_3).bind fun bt369 => (if bt369.2 = 0 then (some (a1, 0, bt369.1, 0, 0)) else (some (0, 0, (⟨#[]⟩ : ByteArray), 0, bt369.2)))) else (if a1 = 3 then ((platformfwref08_Buffer.f k a0_0 a0_1 a0_2 a0_3).bind fun bt371 => (if bt371.2 = 0 then (some (a1, 0, bt371.1, 0, 0)) else (some (0, 0, (⟨#[]⟩ : ByteArray), 0, bt371.2)))) else (if a0_0 = a1 then ((platformfwref08_Clean.f k a0_0 a0_1 a0_2 a0_3).bind fun bt373 => (some (bt373.1, bt373.2.1, bt373.2.2.1, bt373.2.2.2, 0))) else (some (0, 0, (⟨#[]⟩ : ByteArray), 0, 10)))))) else (some (0, 0, (⟨#[]⟩ : ByteArray), 0, 1)))) = some (r1, r2, r3, r4, r5) := h
 clear h
 replace H := Option.bind_eq_some_iff.mp H
 obtain ⟨t362, A30, H⟩ := H
 replace H : (if t362 = true then (if a1 = 1 then ((platformfwref08_Integer.f k a0_0 a0_1 a0_2 a0_3).bind fun bt363 => (if bt363.2 = 0 then ((platformfwref08_Number.f bt363.1).bind fun bt365 => (some (bt365.1, bt365.2.1, bt365.2.2.1, bt365.2.2.2, 0))) else (some (0, 0, (⟨#[]⟩ : ByteArray), 0, bt363.2)))) else (if a1 = 2 then ((platformfwref08_String.f k a0_0 a0_1 a0_2 a0_3).bind fun bt369 => (if bt369.2 = 0 then (some (a1, 0, bt369.1, 0, 0)) else (some (0, 0, (⟨#[]⟩ : ByteArray), 0, bt369.2)))) else (if a1 = 3 then ((platformfwref08_Buffer.f k a0_0 a0_1 a0_2 a0_3).bind fun bt371 => (if bt371.2 = 0 then (some (a1, 0, bt371.1, 0, 0)) else (some (0, 0, (⟨#[]⟩ : ByteArray), 0, bt371.2)))) else (if a0_0 = a1 then ((platformfwref08_Clean.f k a0_0 a0_1 a0_2 a0_3).bind fun bt373 => (some (bt373.1, bt373.2.1, bt373.2.2.1, bt373.2.2.2, 0))) else (some (0, 0, (⟨#[]⟩ : ByteArray), 0, 10)))))) else (some (0, 0, (⟨#[]⟩ : ByteArray), 0, 1))) = some (r1, r2, r3, r4, r5) := H
 have A3 := Aside0.mk A30
 clear A30
 by_cases c4 : t362 = true
 ·subst c4
  have H1 : (if a1 = 1 then ((platformfwref08_Integer.f k a0_0 a0_1 a0_2 a0_3).bind fun bt363 => (if bt363.2 = 0 then ((platformfwref08_Number.f bt363.1).bind fun bt365 => (some (bt365.1, bt365.2.1, bt365.2.2.1, bt365.2.2.2, 0))) else (some (0, 0, (⟨#[]⟩ : ByteArray), 0, bt363.2)))) else (if a1 = 2 then ((platformfwref08_String.f k a0_0 a0_1 a0_2 a0_3).bind fun bt369 => (if bt369.2 = 0 then (some (a1, 0, bt369.1, 0, 0)) else (some (0, 0, (⟨#[]⟩ : ByteArray), 0, bt369.2)))) else (if a1 = 3 then ((platformfwref08_Buffer.f k a0_0 a0_1 a0_2 a0_3).bind fun bt371 => (if bt371.2 = 0 then (some (a1, 0, bt371.1, 0, 0)) else (some (0, 0, (⟨#[]⟩ : ByteArray), 0, bt371.2)))) else (if a0_0 = a1 then ((platformfwref08_Clean.f k a0_0 a0_1 a0_2 a0_3).bind fun bt373 => (some (bt373.1, bt373.2.1, bt373.2.2.1, bt373.2.2.2, 0))) else (some (0, 0, (⟨#[]⟩ : ByteArray), 0, 10)))))) = some (r1, r2, r3, r4, r5) := by rw [if_pos rfl] at H; exact H
  clear H
  have H := H1
  clear H1
  by_cases c5 : a1 = 1
  ·rw [if_pos c5] at H
   have c5b0 : (a1 == 1) = true := beq_iff_eq.mpr c5
   have c5b1 : (a1 != 1) = false := bne_eq_false_iff_eq.mpr c5
   clear c5
   replace H := Option.bind_eq_some_iff.mp H
   obtain ⟨⟨t363, t364⟩, A60, H⟩ := H
   replace H : (if t364 = 0 then ((platformfwref08_Number.f t363).bind fun bt365 => (some (bt365.1, bt365.2.1, bt365.2.2.1, bt365.2.2.2, 0))) else (some (0, 0, (⟨#[]⟩ : ByteArray), 0, t364))) = some (r1, r2, r3, r4, r5) := H
   have A6 := Aside0.mk A60
   clear A60
   by_cases c7 : t364 = 0
   ·rw [if_pos c7] at H
    have c7b0 : (t364 == 0) = true := beq_iff_eq.mpr c7
    have c7b1 : (t364 != 0) = false := bne_eq_false_iff_eq.mpr c7
    clear c7
    replace H := Option.bind_eq_some_iff.mp H
    obtain ⟨⟨t365, t366, t367, t368⟩, A80, H⟩ := H
    replace H : (some (t365, t366, t367, t368, 0)) = some (r1, r2, r3, r4, r5) := H
    have A8 := Aside0.mk A80
    clear A80
    simp only [Option.some.injEq, Prod.mk.injEq] at H
    obtain ⟨rfl, rfl, rfl, rfl, rfl⟩ := H
    go_enter Tryd.func17, Tryd.ntmps17
    go_wp2_with (first | ((with_reducible refine gate_dst (N := 2) rfl ?_); refine box_event ?hg (N := 2) ?hd (cs := #[.int .i64 a0_0, .int .u64 a0_1, .string a0_2, .int .i64 a0_3]) (t := 24) ?hr ?_; (case hd => rfl); (case hg => rfl); (case hr => first | (go_simp; done) | (go_simp; rfl)); intro gb360 hg w9 hbox hb; replace HB := sqN_ (by repeat (first | (with_reducible first | exact HB.out | apply bA_ | apply bN_ | apply bD_) | exact HB.out)) hg hb; obtain ⟨HB, GE360⟩ := HB; have BK360 := Aside0.mk hbox; clear hb hbox hg) | ((with_reducible refine gate_dst (N := 4) rfl ?_); refine box_event ?hg (N := 4) ?hd (cs := #[.int .i64 0, .int .u64 0, .string ⟨#[]⟩, .int .i64 0]) (t := 24) ?hr ?_; (case hd => rfl); (case hg => rfl); (case hr => first | (go_simp; done) | (go_simp; rfl)); intro gb361 hg w10 hbox hb; replace BK360 := sqO_ BK360 (by (with_reducible repeat (first | apply kN_ | apply kD_ | apply kA_)); exact BK360.out) hg hb; obtain ⟨BK360, NB360_361, NB361_360⟩ := BK360; replace HB := sqN_ (by repeat (first | (with_reducible first | exact HB.out | apply bA_ | apply bN_ | apply bD_ | refine bS_ ?_ GE360.out) | exact HB.out)) hg hb; obtain ⟨HB, GE361⟩ := HB; have BK361 := Aside0.mk hbox; clear hb hbox hg; have hnb11 := NB360_361.out; have hnc11 := NB361_360.out; obtain ⟨hcz12_0, hcz12_1, hcz12_2, hcz12_3⟩ := cells4_ BK360.out; obtain ⟨hfz12_0, hfz12_1, hfz12_2, hfz12_3⟩ := froz4_ BK360.out) | ((with_reducible refine gate_callee (f := 13) rfl ?_); refine goesL_ (some 13) rfl rfl Tryd.func13 (by kernel_rfl) rfl #[.agg #[.int .i64 a0_0, .int .u64 a0_1, .string a0_2, .int .i64 a0_3]] rfl (by (try simp only [List.map_toArray, List.map_cons, List.map_nil]); first | done | rfl) ?_; (with_reducible refine (platformfwref08_Valid.calls a0_0 a0_1 a0_2 a0_3 true _ A3.out).mono ?_); rintro e w13 ⟨rfl, hb⟩; refine ⟨_, rfl, ?_⟩; replace BK360 := sqB_ BK360 (by (with_reducible repeat (first | apply kN_ | apply kD_ | apply kA_)); exact BK360.out) hb; replace BK361 := sqB_ BK361 (by (with_reducible repeat (first | apply kN_ | apply kD_ | apply kA_)); exact BK361.out) hb; replace HB := sqS_ (by repeat (first | (with_reducible first | exact HB.out | apply bA_ | apply bN_ | apply bD_ | refine bS_ ?_ GE360.out | refine bS_ ?_ GE361.out) | exact HB.out)) hb; (try clear hb); (try clear hb2); (try clear hk); (try clear hi); obtain ⟨hcz14_0, hcz14_1, hcz14_2, hcz14_3⟩ := cells4_ BK360.out; obtain ⟨hfz14_0, hfz14_1, hfz14_2, hfz14_3⟩ := froz4_ BK360.out) | ((with_reducible refine gate_callee (f := 29) rfl ?_); refine goesL_ (some 21) rfl rfl Tryd.func29 (by kernel_rfl) rfl #[.agg #[.int .i64 a0_0, .int .u64 a0_1, .string a0_2, .int .i64 a0_3]] rfl (by (try simp only [List.map_toArray, List.map_cons, List.map_nil]); first | done | rfl) ?_; (with_reducible refine (platformfwref08_Integer.calls k a0_0 a0_1 a0_2 a0_3 t363 t364 _ A6.out).mono ?_); rintro e w15 ⟨rfl, hb⟩; refine ⟨_, rfl, ?_⟩; replace BK360 := sqB_ BK360 (by (with_reducible repeat (first | apply kN_ | apply kD_ | apply kA_)); exact BK360.out) hb; replace BK361 := sqB_ BK361 (by (with_reducible repeat (first | apply kN_ | apply kD_ | apply kA_)); exact BK361.out) hb; replace HB := sqS_ (by repeat (first | (with_reducible first | exact HB.out | apply bA_ | apply bN_ | apply bD_ | refine bS_ ?_ GE360.out | refine bS_ ?_ GE361.out) | exact HB.out)) hb; (try clear hb); (try clear hb2); (try clear hk); (try clear hi)) | ((with_reducible refine gate_callee (f := 19) rfl ?_); refine goesL_ (some 27) rfl rfl Tryd.func19 (by kernel_rfl) rfl #[.int .u64 t363] rfl (by (try simp only [List.map_toArray, List.map_cons, List.map_nil]); first | done | rfl) ?_; (with_reducible refine (platformfwref08_Number.calls t363 t365 t366 t367 t368 _ A8.out).mono ?_); rintro e w16 ⟨rfl, hb⟩; refine ⟨_, rfl, ?_⟩; replace BK360 := sqB_ BK360 (by (with_reducible repeat (first | apply kN_ | apply kD_ | apply kA_)); exact BK360.out) hb; replace BK361 := sqB_ BK361 (by (with_reducible repeat (first | apply kN_ | apply kD_ | apply kA_)); exact BK361.out) hb; replace HB := sqS_ (by repeat (first | (with_reducible first | exact HB.out | apply bA_ | apply bN_ | apply bD_ | refine bS_ ?_ GE360.out | refine bS_ ?_ GE361.out) | exact HB.out)) hb; (try clear hb); (try clear hb2); (try clear hk); (try clear hi); obtain ⟨hcz17_0, hcz17_1, hcz17_2, hcz17_3⟩ := cells4_ BK361.out; obtain ⟨hfz17_0, hfz17_1, hfz17_2, hfz17_3⟩ := froz4_ BK361.out))
    refine bodyPost_ret (results_ct rfl _ _ gb361 24 #[.int .i64 t365, .int .u64 t366, .string t367, .int .i64 t368] (0, 0) _ rfl (by (with_reducible repeat (first | apply kN_ | apply kD_ | apply kA_)); refine blk_put (cs := #[.int .i64 t365, .int .u64 t366, .string t367, .int .i64 0]) ?_ 3 _ rfl; (with_reducible repeat (first | apply kN_ | apply kD_ | apply kA_)); refine blk_put (cs := #[.int .i64 t365, .int .u64 t366, .string ⟨#[]⟩, .int .i64 0]) ?_ 2 _ rfl; (with_reducible repeat (first | apply kN_ | apply kD_ | apply kA_)); refine blk_put (cs := #[.int .i64 t365, .int .u64 0, .string ⟨#[]⟩, .int .i64 0]) ?_ 1 _ rfl; (with_reducible repeat (first | apply kN_ | apply kD_ | apply kA_)); refine blk_put (cs := #[.int .i64 0, .int .u64 0, .string ⟨#[]⟩, .int .i64 0]) ?_ 0 _ rfl; (with_reducible repeat (first | apply kN_ | apply kD_ | apply kA_)); exact BK361.out) Tryd.underlying24 rfl (by kernel_rfl)) rfl ?_
    exact ⟨by first | rfl | (simp [errW_none, errW_some] <;> rfl) | (simp [*, errW_none, errW_some] <;> rfl), by repeat (first | (with_reducible first | exact HB.out | apply bA_ | apply bN_ | apply bD_ | refine bS_ ?_ GE360.out | refine bS_ ?_ GE361.out) | exact HB.out)⟩
   ·rw [if_neg c7] at H
    have c7b0 : (t364 == 0) = false := beq_eq_false_iff_ne.mpr c7
    have c7b1 : (t364 != 0) = true := bne_iff_ne.mpr c7
    simp only [Option.some.injEq, Prod.mk.injEq] at H
    obtain ⟨rfl, rfl, rfl, rfl, rfl⟩ := H
    go_enter Tryd.func17, Tryd.ntmps17
    go_wp2_with (first | ((with_reducible refine gate_dst (N := 2) rfl ?_); refine box_event ?hg (N := 2) ?hd (cs := #[.int .i64 a0_0, .int .u64 a0_1, .string a0_2, .int .i64 a0_3]) (t := 24) ?hr ?_; (case hd => rfl); (case hg => rfl); (case hr => first | (go_simp; done) | (go_simp; rfl)); intro gb360 hg w18 hbox hb; replace HB := sqN_ (by repeat (first | (with_reducible first | exact HB.out | apply bA_ | apply bN_ | apply bD_) | exact HB.out)) hg hb; obtain ⟨HB, GE360⟩ := HB; have BK360 := Aside0.mk hbox; clear hb hbox hg) | ((with_reducible refine gate_dst (N := 4) rfl ?_); refine box_event ?hg (N := 4) ?hd (cs := #[.int .i64 0, .int .u64 0, .string ⟨#[]⟩, .int .i64 0]) (t := 24) ?hr ?_; (case hd => rfl); (case hg => rfl); (case hr => first | (go_simp; done) | (go_simp; rfl)); intro gb361 hg w19 hbox hb; replace BK360 := sqO_ BK360 (by (with_reducible repeat (first | apply kN_ | apply kD_ | apply kA_)); exact BK360.out) hg hb; obtain ⟨BK360, NB360_361, NB361_360⟩ := BK360; replace HB := sqN_ (by repeat (first | (with_reducible first | exact HB.out | apply bA_ | apply bN_ | apply bD_ | refine bS_ ?_ GE360.out) | exact HB.out)) hg hb; obtain ⟨HB, GE361⟩ := HB; have BK361 := Aside0.mk hbox; clear hb hbox hg; have hnb20 := NB360_361.out; have hnc20 := NB361_360.out; obtain ⟨hcz21_0, hcz21_1, hcz21_2, hcz21_3⟩ := cells4_ BK360.out; obtain ⟨hfz21_0, hfz21_1, hfz21_2, hfz21_3⟩ := froz4_ BK360.out) | ((with_reducible refine gate_callee (f := 13) rfl ?_); refine goesL_ (some 13) rfl rfl Tryd.func13 (by kernel_rfl) rfl #[.agg #[.int .i64 a0_0, .int .u64 a0_1, .string a0_2, .int .i64 a0_3]] rfl (by (try simp only [List.map_toArray, List.map_cons, List.map_nil]); first | done | rfl) ?_; (with_reducible refine (platformfwref08_Valid.calls a0_0 a0_1 a0_2 a0_3 true _ A3.out).mono ?_); rintro e w22 ⟨rfl, hb⟩; refine ⟨_, rfl, ?_⟩; replace BK360 := sqB_ BK360 (by (with_reducible repeat (first | apply kN_ | apply kD_ | apply kA_)); exact BK360.out) hb; replace BK361 := sqB_ BK361 (by (with_reducible repeat (first | apply kN_ | apply kD_ | apply kA_)); exact BK361.out) hb; replace HB := sqS_ (by repeat (first | (with_reducible first | exact HB.out | apply bA_ | apply bN_ | apply bD_ | refine bS_ ?_ GE360.out | refine bS_ ?_ GE361.out) | exact HB.out)) hb; (try clear hb); (try clear hb2); (try clear hk); (try clear hi); obtain ⟨hcz23_0, hcz23_1, hcz23_2, hcz23_3⟩ := cells4_ BK360.out; obtain ⟨hfz23_0, hfz23_1, hfz23_2, hfz23_3⟩ := froz4_ BK360.out) | ((with_reducible refine gate_callee (f := 29) rfl ?_); refine goesL_ (some 21) rfl rfl Tryd.func29 (by kernel_rfl) rfl #[.agg #[.int .i64 a0_0, .int .u64 a0_1, .string a0_2, .int .i64 a0_3]] rfl (by (try simp only [List.map_toArray, List.map_cons, List.map_nil]); first | done | rfl) ?_; (with_reducible refine (platformfwref08_Integer.calls k a0_0 a0_1 a0_2 a0_3 t363 t364 _ A6.out).mono ?_); rintro e w24 ⟨rfl, hb⟩; refine ⟨_, rfl, ?_⟩; replace BK360 := sqB_ BK360 (by (with_reducible repeat (first | apply kN_ | apply kD_ | apply kA_)); exact BK360.out) hb; replace BK361 := sqB_ BK361 (by (with_reducible repeat (first | apply kN_ | apply kD_ | apply kA_)); exact BK361.out) hb; replace HB := sqS_ (by repeat (first | (with_reducible first | exact HB.out | apply bA_ | apply bN_ | apply bD_ | refine bS_ ?_ GE360.out | refine bS_ ?_ GE361.out) | exact HB.out)) hb; (try clear hb); (try clear hb2); (try clear hk); (try clear hi); obtain ⟨hcz25_0, hcz25_1, hcz25_2, hcz25_3⟩ := cells4_ BK361.out; obtain ⟨hfz25_0, hfz25_1, hfz25_2, hfz25_3⟩ := froz4_ BK361.out))
    refine bodyPost_ret (results_ct rfl _ _ gb361 24 #[.int .i64 0, .int .u64 0, .string ⟨#[]⟩, .int .i64 0] (0, 0) _ rfl (by (with_reducible repeat (first | apply kN_ | apply kD_ | apply kA_)); refine blk_put (cs := #[.int .i64 0, .int .u64 0, .string ⟨#[]⟩, .int .i64 0]) ?_ 3 _ rfl; (with_reducible repeat (first | apply kN_ | apply kD_ | apply kA_)); refine blk_put (cs := #[.int .i64 0, .int .u64 0, .string ⟨#[]⟩, .int .i64 0]) ?_ 2 _ rfl; (with_reducible repeat (first | apply kN_ | apply kD_ | apply kA_)); refine blk_put (cs := #[.int .i64 0, .int .u64 0, .string ⟨#[]⟩, .int .i64 0]) ?_ 1 _ rfl; (with_reducible repeat (first | apply kN_ | apply kD_ | apply kA_)); refine blk_put (cs := #[.int .i64 0, .int .u64 0, .string ⟨#[]⟩, .int .i64 0]) ?_ 0 _ rfl; (with_reducible repeat (first | apply kN_ | apply kD_ | apply kA_)); exact BK361.out) Tryd.underlying24 rfl (by kernel_rfl)) rfl ?_
    exact ⟨by first | rfl | (simp [errW_none, errW_some] <;> rfl) | (simp [*, errW_none, errW_some] <;> rfl), by repeat (first | (with_reducible first | exact HB.out | apply bA_ | apply bN_ | apply bD_ | refine bS_ ?_ GE360.out | refine bS_ ?_ GE361.out) | exact HB.out)⟩
  ·rw [if_neg c5] at H
   have c5b0 : (a1 == 1) = false := beq_eq_false_iff_ne.mpr c5
   have c5b1 : (a1 != 1) = true := bne_iff_ne.mpr c5
   by_cases c26 : a1 = 2
   ·rw [if_pos c26] at H
    have c26b0 : (a1 == 2) = true := beq_iff_eq.mpr c26
    have c26b1 : (a1 != 2) = false := bne_eq_false_iff_eq.mpr c26
    clear c26
    replace H := Option.bind_eq_some_iff.mp H
    obtain ⟨⟨t369, t370⟩, A270, H⟩ := H
    replace H : (if t370 = 0 then (some (a1, 0, t369, 0, 0)) else (some (0, 0, (⟨#[]⟩ : ByteArray), 0, t370))) = some (r1, r2, r3, r4, r5) := H
    have A27 := Aside0.mk A270
    clear A270
    by_cases c28 : t370 = 0
    ·rw [if_pos c28] at H
     have c28b0 : (t370 == 0) = true := beq_iff_eq.mpr c28
     have c28b1 : (t370 != 0) = false := bne_eq_false_iff_eq.mpr c28
     clear c28
     simp only [Option.some.injEq, Prod.mk.injEq] at H
     obtain ⟨rfl, rfl, rfl, rfl, rfl⟩ := H
     go_enter Tryd.func17, Tryd.ntmps17
     go_wp2_with (first | ((with_reducible refine gate_dst (N := 2) rfl ?_); refine box_event ?hg (N := 2) ?hd (cs := #[.int .i64 a0_0, .int .u64 a0_1, .string a0_2, .int .i64 a0_3]) (t := 24) ?hr ?_; (case hd => rfl); (case hg => rfl); (case hr => first | (go_simp; done) | (go_simp; rfl)); intro gb360 hg w29 hbox hb; replace HB := sqN_ (by repeat (first | (with_reducible first | exact HB.out | apply bA_ | apply bN_ | apply bD_) | exact HB.out)) hg hb; obtain ⟨HB, GE360⟩ := HB; have BK360 := Aside0.mk hbox; clear hb hbox hg) | ((with_reducible refine gate_dst (N := 4) rfl ?_); refine box_event ?hg (N := 4) ?hd (cs := #[.int .i64 0, .int .u64 0, .string ⟨#[]⟩, .int .i64 0]) (t := 24) ?hr ?_; (case hd => rfl); (case hg => rfl); (case hr => first | (go_simp; done) | (go_simp; rfl)); intro gb361 hg w30 hbox hb; replace BK360 := sqO_ BK360 (by (with_reducible repeat (first | apply kN_ | apply kD_ | apply kA_)); exact BK360.out) hg hb; obtain ⟨BK360, NB360_361, NB361_360⟩ := BK360; replace HB := sqN_ (by repeat (first | (with_reducible first | exact HB.out | apply bA_ | apply bN_ | apply bD_ | refine bS_ ?_ GE360.out) | exact HB.out)) hg hb; obtain ⟨HB, GE361⟩ := HB; have BK361 := Aside0.mk hbox; clear hb hbox hg; have hnb31 := NB360_361.out; have hnc31 := NB361_360.out; obtain ⟨hcz32_0, hcz32_1, hcz32_2, hcz32_3⟩ := cells4_ BK360.out; obtain ⟨hfz32_0, hfz32_1, hfz32_2, hfz32_3⟩ := froz4_ BK360.out) | ((with_reducible refine gate_callee (f := 13) rfl ?_); refine goesL_ (some 13) rfl rfl Tryd.func13 (by kernel_rfl) rfl #[.agg #[.int .i64 a0_0, .int .u64 a0_1, .string a0_2, .int .i64 a0_3]] rfl (by (try simp only [List.map_toArray, List.map_cons, List.map_nil]); first | done | rfl) ?_; (with_reducible refine (platformfwref08_Valid.calls a0_0 a0_1 a0_2 a0_3 true _ A3.out).mono ?_); rintro e w33 ⟨rfl, hb⟩; refine ⟨_, rfl, ?_⟩; replace BK360 := sqB_ BK360 (by (with_reducible repeat (first | apply kN_ | apply kD_ | apply kA_)); exact BK360.out) hb; replace BK361 := sqB_ BK361 (by (with_reducible repeat (first | apply kN_ | apply kD_ | apply kA_)); exact BK361.out) hb; replace HB := sqS_ (by repeat (first | (with_reducible first | exact HB.out | apply bA_ | apply bN_ | apply bD_ | refine bS_ ?_ GE360.out | refine bS_ ?_ GE361.out) | exact HB.out)) hb; (try clear hb); (try clear hb2); (try clear hk); (try clear hi); obtain ⟨hcz34_0, hcz34_1, hcz34_2, hcz34_3⟩ := cells4_ BK360.out; obtain ⟨hfz34_0, hfz34_1, hfz34_2, hfz34_3⟩ := froz4_ BK360.out) | ((with_reducible refine gate_callee (f := 33) rfl ?_); refine goesL_ (some 34) rfl rfl Tryd.func33 (by kernel_rfl) rfl #[.agg #[.int .i64 a0_0, .int .u64 a0_1, .string a0_2, .int .i64 a0_3]] rfl (by (try simp only [List.map_toArray, List.map_cons, List.map_nil]); first | done | rfl) ?_; (with_reducible refine (platformfwref08_String.calls k a0_0 a0_1 a0_2 a0_3 t369 t370 _ A27.out).mono ?_); rintro e w35 ⟨rfl, hb⟩; refine ⟨_, rfl, ?_⟩; replace BK360 := sqB_ BK360 (by (with_reducible repeat (first | apply kN_ | apply kD_ | apply kA_)); exact BK360.out) hb; replace BK361 := sqB_ BK361 (by (with_reducible repeat (first | apply kN_ | apply kD_ | apply kA_)); exact BK361.out) hb; replace HB := sqS_ (by repeat (first | (with_reducible first | exact HB.out | apply bA_ | apply bN_ | apply bD_ | refine bS_ ?_ GE360.out | refine bS_ ?_ GE361.out) | exact HB.out)) hb; (try clear hb); (try clear hb2); (try clear hk); (try clear hi); obtain ⟨hcz36_0, hcz36_1, hcz36_2, hcz36_3⟩ := cells4_ BK361.out; obtain ⟨hfz36_0, hfz36_1, hfz36_2, hfz36_3⟩ := froz4_ BK361.out))
     refine bodyPost_ret (results_ct rfl _ _ gb361 24 #[.int .i64 a1, .int .u64 0, .string t369, .int .i64 0] (0, 0) _ rfl (by (with_reducible repeat (first | apply kN_ | apply kD_ | apply kA_)); refine blk_put (cs := #[.int .i64 a1, .int .u64 0, .string t369, .int .i64 0]) ?_ 3 _ rfl; (with_reducible repeat (first | apply kN_ | apply kD_ | apply kA_)); refine blk_put (cs := #[.int .i64 a1, .int .u64 0, .string ⟨#[]⟩, .int .i64 0]) ?_ 2 _ rfl; (with_reducible repeat (first | apply kN_ | apply kD_ | apply kA_)); refine blk_put (cs := #[.int .i64 a1, .int .u64 0, .string ⟨#[]⟩, .int .i64 0]) ?_ 1 _ rfl; (with_reducible repeat (first | apply kN_ | apply kD_ | apply kA_)); refine blk_put (cs := #[.int .i64 0, .int .u64 0, .string ⟨#[]⟩, .int .i64 0]) ?_ 0 _ rfl; (with_reducible repeat (first | apply kN_ | apply kD_ | apply kA_)); exact BK361.out) Tryd.underlying24 rfl (by kernel_rfl)) rfl ?_
     exact ⟨by first | rfl | (simp [errW_none, errW_some] <;> rfl) | (simp [*, errW_none, errW_some] <;> rfl), by repeat (first | (with_reducible first | exact HB.out | apply bA_ | apply bN_ | apply bD_ | refine bS_ ?_ GE360.out | refine bS_ ?_ GE361.out) | exact HB.out)⟩
    ·rw [if_neg c28] at H
     have c28b0 : (t370 == 0) = false := beq_eq_false_iff_ne.mpr c28
     have c28b1 : (t370 != 0) = true := bne_iff_ne.mpr c28
     simp only [Option.some.injEq, Prod.mk.injEq] at H
     obtain ⟨rfl, rfl, rfl, rfl, rfl⟩ := H
     go_enter Tryd.func17, Tryd.ntmps17
     go_wp2_with (first | ((with_reducible refine gate_dst (N := 2) rfl ?_); refine box_event ?hg (N := 2) ?hd (cs := #[.int .i64 a0_0, .int .u64 a0_1, .string a0_2, .int .i64 a0_3]) (t := 24) ?hr ?_; (case hd => rfl); (case hg => rfl); (case hr => first | (go_simp; done) | (go_simp; rfl)); intro gb360 hg w37 hbox hb; replace HB := sqN_ (by repeat (first | (with_reducible first | exact HB.out | apply bA_ | apply bN_ | apply bD_) | exact HB.out)) hg hb; obtain ⟨HB, GE360⟩ := HB; have BK360 := Aside0.mk hbox; clear hb hbox hg) | ((with_reducible refine gate_dst (N := 4) rfl ?_); refine box_event ?hg (N := 4) ?hd (cs := #[.int .i64 0, .int .u64 0, .string ⟨#[]⟩, .int .i64 0]) (t := 24) ?hr ?_; (case hd => rfl); (case hg => rfl); (case hr => first | (go_simp; done) | (go_simp; rfl)); intro gb361 hg w38 hbox hb; replace BK360 := sqO_ BK360 (by (with_reducible repeat (first | apply kN_ | apply kD_ | apply kA_)); exact BK360.out) hg hb; obtain ⟨BK360, NB360_361, NB361_360⟩ := BK360; replace HB := sqN_ (by repeat (first | (with_reducible first | exact HB.out | apply bA_ | apply bN_ | apply bD_ | refine bS_ ?_ GE360.out) | exact HB.out)) hg hb; obtain ⟨HB, GE361⟩ := HB; have BK361 := Aside0.mk hbox; clear hb hbox hg; have hnb39 := NB360_361.out; have hnc39 := NB361_360.out; obtain ⟨hcz40_0, hcz40_1, hcz40_2, hcz40_3⟩ := cells4_ BK360.out; obtain ⟨hfz40_0, hfz40_1, hfz40_2, hfz40_3⟩ := froz4_ BK360.out) | ((with_reducible refine gate_callee (f := 13) rfl ?_); refine goesL_ (some 13) rfl rfl Tryd.func13 (by kernel_rfl) rfl #[.agg #[.int .i64 a0_0, .int .u64 a0_1, .string a0_2, .int .i64 a0_3]] rfl (by (try simp only [List.map_toArray, List.map_cons, List.map_nil]); first | done | rfl) ?_; (with_reducible refine (platformfwref08_Valid.calls a0_0 a0_1 a0_2 a0_3 true _ A3.out).mono ?_); rintro e w41 ⟨rfl, hb⟩; refine ⟨_, rfl, ?_⟩; replace BK360 := sqB_ BK360 (by (with_reducible repeat (first | apply kN_ | apply kD_ | apply kA_)); exact BK360.out) hb; replace BK361 := sqB_ BK361 (by (with_reducible repeat (first | apply kN_ | apply kD_ | apply kA_)); exact BK361.out) hb; replace HB := sqS_ (by repeat (first | (with_reducible first | exact HB.out | apply bA_ | apply bN_ | apply bD_ | refine bS_ ?_ GE360.out | refine bS_ ?_ GE361.out) | exact HB.out)) hb; (try clear hb); (try clear hb2); (try clear hk); (try clear hi); obtain ⟨hcz42_0, hcz42_1, hcz42_2, hcz42_3⟩ := cells4_ BK360.out; obtain ⟨hfz42_0, hfz42_1, hfz42_2, hfz42_3⟩ := froz4_ BK360.out) | ((with_reducible refine gate_callee (f := 33) rfl ?_); refine goesL_ (some 34) rfl rfl Tryd.func33 (by kernel_rfl) rfl #[.agg #[.int .i64 a0_0, .int .u64 a0_1, .string a0_2, .int .i64 a0_3]] rfl (by (try simp only [List.map_toArray, List.map_cons, List.map_nil]); first | done | rfl) ?_; (with_reducible refine (platformfwref08_String.calls k a0_0 a0_1 a0_2 a0_3 t369 t370 _ A27.out).mono ?_); rintro e w43 ⟨rfl, hb⟩; refine ⟨_, rfl, ?_⟩; replace BK360 := sqB_ BK360 (by (with_reducible repeat (first | apply kN_ | apply kD_ | apply kA_)); exact BK360.out) hb; replace BK361 := sqB_ BK361 (by (with_reducible repeat (first | apply kN_ | apply kD_ | apply kA_)); exact BK361.out) hb; replace HB := sqS_ (by repeat (first | (with_reducible first | exact HB.out | apply bA_ | apply bN_ | apply bD_ | refine bS_ ?_ GE360.out | refine bS_ ?_ GE361.out) | exact HB.out)) hb; (try clear hb); (try clear hb2); (try clear hk); (try clear hi); obtain ⟨hcz44_0, hcz44_1, hcz44_2, hcz44_3⟩ := cells4_ BK361.out; obtain ⟨hfz44_0, hfz44_1, hfz44_2, hfz44_3⟩ := froz4_ BK361.out))
     refine bodyPost_ret (results_ct rfl _ _ gb361 24 #[.int .i64 0, .int .u64 0, .string ⟨#[]⟩, .int .i64 0] (0, 0) _ rfl (by (with_reducible repeat (first | apply kN_ | apply kD_ | apply kA_)); refine blk_put (cs := #[.int .i64 0, .int .u64 0, .string ⟨#[]⟩, .int .i64 0]) ?_ 3 _ rfl; (with_reducible repeat (first | apply kN_ | apply kD_ | apply kA_)); refine blk_put (cs := #[.int .i64 0, .int .u64 0, .string ⟨#[]⟩, .int .i64 0]) ?_ 2 _ rfl; (with_reducible repeat (first | apply kN_ | apply kD_ | apply kA_)); refine blk_put (cs := #[.int .i64 0, .int .u64 0, .string ⟨#[]⟩, .int .i64 0]) ?_ 1 _ rfl; (with_reducible repeat (first | apply kN_ | apply kD_ | apply kA_)); refine blk_put (cs := #[.int .i64 0, .int .u64 0, .string ⟨#[]⟩, .int .i64 0]) ?_ 0 _ rfl; (with_reducible repeat (first | apply kN_ | apply kD_ | apply kA_)); exact BK361.out) Tryd.underlying24 rfl (by kernel_rfl)) rfl ?_
     exact ⟨by first | rfl | (simp [errW_none, errW_some] <;> rfl) | (simp [*, errW_none, errW_some] <;> rfl), by repeat (first | (with_reducible first | exact HB.out | apply bA_ | apply bN_ | apply bD_ | refine bS_ ?_ GE360.out | refine bS_ ?_ GE361.out) | exact HB.out)⟩
   ·rw [if_neg c26] at H
    have c26b0 : (a1 == 2) = false := beq_eq_false_iff_ne.mpr c26
    have c26b1 : (a1 != 2) = true := bne_iff_ne.mpr c26
    by_cases c45 : a1 = 3
    ·rw [if_pos c45] at H
     have c45b0 : (a1 == 3) = true := beq_iff_eq.mpr c45
     have c45b1 : (a1 != 3) = false := bne_eq_false_iff_eq.mpr c45
     clear c45
     replace H := Option.bind_eq_some_iff.mp H
     obtain ⟨⟨t371, t372⟩, A460, H⟩ := H
     replace H : (if t372 = 0 then (some (a1, 0, t371, 0, 0)) else (some (0, 0, (⟨#[]⟩ : ByteArray), 0, t372))) = some (r1, r2, r3, r4, r5) := H
     have A46 := Aside0.mk A460
     clear A460
     by_cases c47 : t372 = 0
     ·rw [if_pos c47] at H
      have c47b0 : (t372 == 0) = true := beq_iff_eq.mpr c47
      have c47b1 : (t372 != 0) = false := bne_eq_false_iff_eq.mpr c47
      clear c47
      simp only [Option.some.injEq, Prod.mk.injEq] at H
      obtain ⟨rfl, rfl, rfl, rfl, rfl⟩ := H
      go_enter Tryd.func17, Tryd.ntmps17
      go_wp2_with (first | ((with_reducible refine gate_dst (N := 2) rfl ?_); refine box_event ?hg (N := 2) ?hd (cs := #[.int .i64 a0_0, .int .u64 a0_1, .string a0_2, .int .i64 a0_3]) (t := 24) ?hr ?_; (case hd => rfl); (case hg => rfl); (case hr => first | (go_simp; done) | (go_simp; rfl)); intro gb360 hg w48 hbox hb; replace HB := sqN_ (by repeat (first | (with_reducible first | exact HB.out | apply bA_ | apply bN_ | apply bD_) | exact HB.out)) hg hb; obtain ⟨HB, GE360⟩ := HB; have BK360 := Aside0.mk hbox; clear hb hbox hg) | ((with_reducible refine gate_dst (N := 4) rfl ?_); refine box_event ?hg (N := 4) ?hd (cs := #[.int .i64 0, .int .u64 0, .string ⟨#[]⟩, .int .i64 0]) (t := 24) ?hr ?_; (case hd => rfl); (case hg => rfl); (case hr => first | (go_simp; done) | (go_simp; rfl)); intro gb361 hg w49 hbox hb; replace BK360 := sqO_ BK360 (by (with_reducible repeat (first | apply kN_ | apply kD_ | apply kA_)); exact BK360.out) hg hb; obtain ⟨BK360, NB360_361, NB361_360⟩ := BK360; replace HB := sqN_ (by repeat (first | (with_reducible first | exact HB.out | apply bA_ | apply bN_ | apply bD_ | refine bS_ ?_ GE360.out) | exact HB.out)) hg hb; obtain ⟨HB, GE361⟩ := HB; have BK361 := Aside0.mk hbox; clear hb hbox hg; have hnb50 := NB360_361.out; have hnc50 := NB361_360.out; obtain ⟨hcz51_0, hcz51_1, hcz51_2, hcz51_3⟩ := cells4_ BK360.out; obtain ⟨hfz51_0, hfz51_1, hfz51_2, hfz51_3⟩ := froz4_ BK360.out) | ((with_reducible refine gate_callee (f := 13) rfl ?_); refine goesL_ (some 13) rfl rfl Tryd.func13 (by kernel_rfl) rfl #[.agg #[.int .i64 a0_0, .int .u64 a0_1, .string a0_2, .int .i64 a0_3]] rfl (by (try simp only [List.map_toArray, List.map_cons, List.map_nil]); first | done | rfl) ?_; (with_reducible refine (platformfwref08_Valid.calls a0_0 a0_1 a0_2 a0_3 true _ A3.out).mono ?_); rintro e w52 ⟨rfl, hb⟩; refine ⟨_, rfl, ?_⟩; replace BK360 := sqB_ BK360 (by (with_reducible repeat (first | apply kN_ | apply kD_ | apply kA_)); exact BK360.out) hb; replace BK361 := sqB_ BK361 (by (with_reducible repeat (first | apply kN_ | apply kD_ | apply kA_)); exact BK361.out) hb; replace HB := sqS_ (by repeat (first | (with_reducible first | exact HB.out | apply bA_ | apply bN_ | apply bD_ | refine bS_ ?_ GE360.out | refine bS_ ?_ GE361.out) | exact HB.out)) hb; (try clear hb); (try clear hb2); (try clear hk); (try clear hi); obtain ⟨hcz53_0, hcz53_1, hcz53_2, hcz53_3⟩ := cells4_ BK360.out; obtain ⟨hfz53_0, hfz53_1, hfz53_2, hfz53_3⟩ := froz4_ BK360.out) | ((with_reducible refine gate_callee (f := 34) rfl ?_); refine goesL_ (some 48) rfl rfl Tryd.func34 (by kernel_rfl) rfl #[.agg #[.int .i64 a0_0, .int .u64 a0_1, .string a0_2, .int .i64 a0_3]] rfl (by (try simp only [List.map_toArray, List.map_cons, List.map_nil]); first | done | rfl) ?_; (with_reducible refine (platformfwref08_Buffer.calls k a0_0 a0_1 a0_2 a0_3 t371 t372 _ A46.out).mono ?_); rintro e w54 ⟨rfl, hb⟩; refine ⟨_, rfl, ?_⟩; replace BK360 := sqB_ BK360 (by (with_reducible repeat (first | apply kN_ | apply kD_ | apply kA_)); exact BK360.out) hb; replace BK361 := sqB_ BK361 (by (with_reducible repeat (first | apply kN_ | apply kD_ | apply kA_)); exact BK361.out) hb; replace HB := sqS_ (by repeat (first | (with_reducible first | exact HB.out | apply bA_ | apply bN_ | apply bD_ | refine bS_ ?_ GE360.out | refine bS_ ?_ GE361.out) | exact HB.out)) hb; (try clear hb); (try clear hb2); (try clear hk); (try clear hi); obtain ⟨hcz55_0, hcz55_1, hcz55_2, hcz55_3⟩ := cells4_ BK361.out; obtain ⟨hfz55_0, hfz55_1, hfz55_2, hfz55_3⟩ := froz4_ BK361.out))
      refine bodyPost_ret (results_ct rfl _ _ gb361 24 #[.int .i64 a1, .int .u64 0, .string t371, .int .i64 0] (0, 0) _ rfl (by (with_reducible repeat (first | apply kN_ | apply kD_ | apply kA_)); refine blk_put (cs := #[.int .i64 a1, .int .u64 0, .string t371, .int .i64 0]) ?_ 3 _ rfl; (with_reducible repeat (first | apply kN_ | apply kD_ | apply kA_)); refine blk_put (cs := #[.int .i64 a1, .int .u64 0, .string ⟨#[]⟩, .int .i64 0]) ?_ 2 _ rfl; (with_reducible repeat (first | apply kN_ | apply kD_ | apply kA_)); refine blk_put (cs := #[.int .i64 a1, .int .u64 0, .string ⟨#[]⟩, .int .i64 0]) ?_ 1 _ rfl; (with_reducible repeat (first | apply kN_ | apply kD_ | apply kA_)); refine blk_put (cs := #[.int .i64 0, .int .u64 0, .string ⟨#[]⟩, .int .i64 0]) ?_ 0 _ rfl; (with_reducible repeat (first | apply kN_ | apply kD_ | apply kA_)); exact BK361.out) Tryd.underlying24 rfl (by kernel_rfl)) rfl ?_
      exact ⟨by first | rfl | (simp [errW_none, errW_some] <;> rfl) | (simp [*, errW_none, errW_some] <;> rfl), by repeat (first | (with_reducible first | exact HB.out | apply bA_ | apply bN_ | apply bD_ | refine bS_ ?_ GE360.out | refine bS_ ?_ GE361.out) | exact HB.out)⟩
     ·rw [if_neg c47] at H
      have c47b0 : (t372 == 0) = false := beq_eq_false_iff_ne.mpr c47
      have c47b1 : (t372 != 0) = true := bne_iff_ne.mpr c47
      simp only [Option.some.injEq, Prod.mk.injEq] at H
      obtain ⟨rfl, rfl, rfl, rfl, rfl⟩ := H
      go_enter Tryd.func17, Tryd.ntmps17
      go_wp2_with (first | ((with_reducible refine gate_dst (N := 2) rfl ?_); refine box_event ?hg (N := 2) ?hd (cs := #[.int .i64 a0_0, .int .u64 a0_1, .string a0_2, .int .i64 a0_3]) (t := 24) ?hr ?_; (case hd => rfl); (case hg => rfl); (case hr => first | (go_simp; done) | (go_simp; rfl)); intro gb360 hg w56 hbox hb; replace HB := sqN_ (by repeat (first | (with_reducible first | exact HB.out | apply bA_ | apply bN_ | apply bD_) | exact HB.out)) hg hb; obtain ⟨HB, GE360⟩ := HB; have BK360 := Aside0.mk hbox; clear hb hbox hg) | ((with_reducible refine gate_dst (N := 4) rfl ?_); refine box_event ?hg (N := 4) ?hd (cs := #[.int .i64 0, .int .u64 0, .string ⟨#[]⟩, .int .i64 0]) (t := 24) ?hr ?_; (case hd => rfl); (case hg => rfl); (case hr => first | (go_simp; done) | (go_simp; rfl)); intro gb361 hg w57 hbox hb; replace BK360 := sqO_ BK360 (by (with_reducible repeat (first | apply kN_ | apply kD_ | apply kA_)); exact BK360.out) hg hb; obtain ⟨BK360, NB360_361, NB361_360⟩ := BK360; replace HB := sqN_ (by repeat (first | (with_reducible first | exact HB.out | apply bA_ | apply bN_ | apply bD_ | refine bS_ ?_ GE360.out) | exact HB.out)) hg hb; obtain ⟨HB, GE361⟩ := HB; have BK361 := Aside0.mk hbox; clear hb hbox hg; have hnb58 := NB360_361.out; have hnc58 := NB361_360.out; obtain ⟨hcz59_0, hcz59_1, hcz59_2, hcz59_3⟩ := cells4_ BK360.out; obtain ⟨hfz59_0, hfz59_1, hfz59_2, hfz59_3⟩ := froz4_ BK360.out) | ((with_reducible refine gate_callee (f := 13) rfl ?_); refine goesL_ (some 13) rfl rfl Tryd.func13 (by kernel_rfl) rfl #[.agg #[.int .i64 a0_0, .int .u64 a0_1, .string a0_2, .int .i64 a0_3]] rfl (by (try simp only [List.map_toArray, List.map_cons, List.map_nil]); first | done | rfl) ?_; (with_reducible refine (platformfwref08_Valid.calls a0_0 a0_1 a0_2 a0_3 true _ A3.out).mono ?_); rintro e w60 ⟨rfl, hb⟩; refine ⟨_, rfl, ?_⟩; replace BK360 := sqB_ BK360 (by (with_reducible repeat (first | apply kN_ | apply kD_ | apply kA_)); exact BK360.out) hb; replace BK361 := sqB_ BK361 (by (with_reducible repeat (first | apply kN_ | apply kD_ | apply kA_)); exact BK361.out) hb; replace HB := sqS_ (by repeat (first | (with_reducible first | exact HB.out | apply bA_ | apply bN_ | apply bD_ | refine bS_ ?_ GE360.out | refine bS_ ?_ GE361.out) | exact HB.out)) hb; (try clear hb); (try clear hb2); (try clear hk); (try clear hi); obtain ⟨hcz61_0, hcz61_1, hcz61_2, hcz61_3⟩ := cells4_ BK360.out; obtain ⟨hfz61_0, hfz61_1, hfz61_2, hfz61_3⟩ := froz4_ BK360.out) | ((with_reducible refine gate_callee (f := 34) rfl ?_); refine goesL_ (some 48) rfl rfl Tryd.func34 (by kernel_rfl) rfl #[.agg #[.int .i64 a0_0, .int .u64 a0_1, .string a0_2, .int .i64 a0_3]] rfl (by (try simp only [List.map_toArray, List.map_cons, List.map_nil]); first | done | rfl) ?_; (with_reducible refine (platformfwref08_Buffer.calls k a0_0 a0_1 a0_2 a0_3 t371 t372 _ A46.out).mono ?_); rintro e w62 ⟨rfl, hb⟩; refine ⟨_, rfl, ?_⟩; replace BK360 := sqB_ BK360 (by (with_reducible repeat (first | apply kN_ | apply kD_ | apply kA_)); exact BK360.out) hb; replace BK361 := sqB_ BK361 (by (with_reducible repeat (first | apply kN_ | apply kD_ | apply kA_)); exact BK361.out) hb; replace HB := sqS_ (by repeat (first | (with_reducible first | exact HB.out | apply bA_ | apply bN_ | apply bD_ | refine bS_ ?_ GE360.out | refine bS_ ?_ GE361.out) | exact HB.out)) hb; (try clear hb); (try clear hb2); (try clear hk); (try clear hi); obtain ⟨hcz63_0, hcz63_1, hcz63_2, hcz63_3⟩ := cells4_ BK361.out; obtain ⟨hfz63_0, hfz63_1, hfz63_2, hfz63_3⟩ := froz4_ BK361.out))
      refine bodyPost_ret (results_ct rfl _ _ gb361 24 #[.int .i64 0, .int .u64 0, .string ⟨#[]⟩, .int .i64 0] (0, 0) _ rfl (by (with_reducible repeat (first | apply kN_ | apply kD_ | apply kA_)); refine blk_put (cs := #[.int .i64 0, .int .u64 0, .string ⟨#[]⟩, .int .i64 0]) ?_ 3 _ rfl; (with_reducible repeat (first | apply kN_ | apply kD_ | apply kA_)); refine blk_put (cs := #[.int .i64 0, .int .u64 0, .string ⟨#[]⟩, .int .i64 0]) ?_ 2 _ rfl; (with_reducible repeat (first | apply kN_ | apply kD_ | apply kA_)); refine blk_put (cs := #[.int .i64 0, .int .u64 0, .string ⟨#[]⟩, .int .i64 0]) ?_ 1 _ rfl; (with_reducible repeat (first | apply kN_ | apply kD_ | apply kA_)); refine blk_put (cs := #[.int .i64 0, .int .u64 0, .string ⟨#[]⟩, .int .i64 0]) ?_ 0 _ rfl; (with_reducible repeat (first | apply kN_ | apply kD_ | apply kA_)); exact BK361.out) Tryd.underlying24 rfl (by kernel_rfl)) rfl ?_
      exact ⟨by first | rfl | (simp [errW_none, errW_some] <;> rfl) | (simp [*, errW_none, errW_some] <;> rfl), by repeat (first | (with_reducible first | exact HB.out | apply bA_ | apply bN_ | apply bD_ | refine bS_ ?_ GE360.out | refine bS_ ?_ GE361.out) | exact HB.out)⟩
    ·rw [if_neg c45] at H
     have c45b0 : (a1 == 3) = false := beq_eq_false_iff_ne.mpr c45
     have c45b1 : (a1 != 3) = true := bne_iff_ne.mpr c45
     by_cases c64 : a0_0 = a1
     ·rw [if_pos c64] at H
      have c64b0 : (a0_0 == a1) = true := beq_iff_eq.mpr c64
      have c64b1 : (a0_0 != a1) = false := bne_eq_false_iff_eq.mpr c64
      clear c64
      replace H := Option.bind_eq_some_iff.mp H
      obtain ⟨⟨t373, t374, t375, t376⟩, A650, H⟩ := H
      replace H : (some (t373, t374, t375, t376, 0)) = some (r1, r2, r3, r4, r5) := H
      have A65 := Aside0.mk A650
      clear A650
      simp only [Option.some.injEq, Prod.mk.injEq] at H
      obtain ⟨rfl, rfl, rfl, rfl, rfl⟩ := H
      go_enter Tryd.func17, Tryd.ntmps17
      go_wp2_with (first | ((with_reducible refine gate_dst (N := 2) rfl ?_); refine box_event ?hg (N := 2) ?hd (cs := #[.int .i64 a0_0, .int .u64 a0_1, .string a0_2, .int .i64 a0_3]) (t := 24) ?hr ?_; (case hd => rfl); (case hg => rfl); (case hr => first | (go_simp; done) | (go_simp; rfl)); intro gb360 hg w66 hbox hb; replace HB := sqN_ (by repeat (first | (with_reducible first | exact HB.out | apply bA_ | apply bN_ | apply bD_) | exact HB.out)) hg hb; obtain ⟨HB, GE360⟩ := HB; have BK360 := Aside0.mk hbox; clear hb hbox hg) | ((with_reducible refine gate_dst (N := 4) rfl ?_); refine box_event ?hg (N := 4) ?hd (cs := #[.int .i64 0, .int .u64 0, .string ⟨#[]⟩, .int .i64 0]) (t := 24) ?hr ?_; (case hd => rfl); (case hg => rfl); (case hr => first | (go_simp; done) | (go_simp; rfl)); intro gb361 hg w67 hbox hb; replace BK360 := sqO_ BK360 (by (with_reducible repeat (first | apply kN_ | apply kD_ | apply kA_)); exact BK360.out) hg hb; obtain ⟨BK360, NB360_361, NB361_360⟩ := BK360; replace HB := sqN_ (by repeat (first | (with_reducible first | exact HB.out | apply bA_ | apply bN_ | apply bD_ | refine bS_ ?_ GE360.out) | exact HB.out)) hg hb; obtain ⟨HB, GE361⟩ := HB; have BK361 := Aside0.mk hbox; clear hb hbox hg; have hnb68 := NB360_361.out; have hnc68 := NB361_360.out; obtain ⟨hcz69_0, hcz69_1, hcz69_2, hcz69_3⟩ := cells4_ BK360.out; obtain ⟨hfz69_0, hfz69_1, hfz69_2, hfz69_3⟩ := froz4_ BK360.out) | ((with_reducible refine gate_callee (f := 13) rfl ?_); refine goesL_ (some 13) rfl rfl Tryd.func13 (by kernel_rfl) rfl #[.agg #[.int .i64 a0_0, .int .u64 a0_1, .string a0_2, .int .i64 a0_3]] rfl (by (try simp only [List.map_toArray, List.map_cons, List.map_nil]); first | done | rfl) ?_; (with_reducible refine (platformfwref08_Valid.calls a0_0 a0_1 a0_2 a0_3 true _ A3.out).mono ?_); rintro e w70 ⟨rfl, hb⟩; refine ⟨_, rfl, ?_⟩; replace BK360 := sqB_ BK360 (by (with_reducible repeat (first | apply kN_ | apply kD_ | apply kA_)); exact BK360.out) hb; replace BK361 := sqB_ BK361 (by (with_reducible repeat (first | apply kN_ | apply kD_ | apply kA_)); exact BK361.out) hb; replace HB := sqS_ (by repeat (first | (with_reducible first | exact HB.out | apply bA_ | apply bN_ | apply bD_ | refine bS_ ?_ GE360.out | refine bS_ ?_ GE361.out) | exact HB.out)) hb; (try clear hb); (try clear hb2); (try clear hk); (try clear hi); obtain ⟨hcz71_0, hcz71_1, hcz71_2, hcz71_3⟩ := cells4_ BK360.out; obtain ⟨hfz71_0, hfz71_1, hfz71_2, hfz71_3⟩ := froz4_ BK360.out) | ((with_reducible refine gate_callee (f := 18) rfl ?_); refine goesL_ (some 63) rfl rfl Tryd.func18 (by kernel_rfl) rfl #[.agg #[.int .i64 a0_0, .int .u64 a0_1, .string a0_2, .int .i64 a0_3]] rfl (by (try simp only [List.map_toArray, List.map_cons, List.map_nil]); first | done | rfl) ?_; (with_reducible refine (platformfwref08_Clean.calls k a0_0 a0_1 a0_2 a0_3 t373 t374 t375 t376 _ A65.out).mono ?_); rintro e w72 ⟨rfl, hb⟩; refine ⟨_, rfl, ?_⟩; replace BK360 := sqB_ BK360 (by (with_reducible repeat (first | apply kN_ | apply kD_ | apply kA_)); exact BK360.out) hb; replace BK361 := sqB_ BK361 (by (with_reducible repeat (first | apply kN_ | apply kD_ | apply kA_)); exact BK361.out) hb; replace HB := sqS_ (by repeat (first | (with_reducible first | exact HB.out | apply bA_ | apply bN_ | apply bD_ | refine bS_ ?_ GE360.out | refine bS_ ?_ GE361.out) | exact HB.out)) hb; (try clear hb); (try clear hb2); (try clear hk); (try clear hi); obtain ⟨hcz73_0, hcz73_1, hcz73_2, hcz73_3⟩ := cells4_ BK361.out; obtain ⟨hfz73_0, hfz73_1, hfz73_2, hfz73_3⟩ := froz4_ BK361.out))
      refine bodyPost_ret (results_ct rfl _ _ gb361 24 #[.int .i64 t373, .int .u64 t374, .string t375, .int .i64 t376] (0, 0) _ rfl (by (with_reducible repeat (first | apply kN_ | apply kD_ | apply kA_)); refine blk_put (cs := #[.int .i64 t373, .int .u64 t374, .string t375, .int .i64 0]) ?_ 3 _ rfl; (with_reducible repeat (first | apply kN_ | apply kD_ | apply kA_)); refine blk_put (cs := #[.int .i64 t373, .int .u64 t374, .string ⟨#[]⟩, .int .i64 0]) ?_ 2 _ rfl; (with_reducible repeat (first | apply kN_ | apply kD_ | apply kA_)); refine blk_put (cs := #[.int .i64 t373, .int .u64 0, .string ⟨#[]⟩, .int .i64 0]) ?_ 1 _ rfl; (with_reducible repeat (first | apply kN_ | apply kD_ | apply kA_)); refine blk_put (cs := #[.int .i64 0, .int .u64 0, .string ⟨#[]⟩, .int .i64 0]) ?_ 0 _ rfl; (with_reducible repeat (first | apply kN_ | apply kD_ | apply kA_)); exact BK361.out) Tryd.underlying24 rfl (by kernel_rfl)) rfl ?_
      exact ⟨by first | rfl | (simp [errW_none, errW_some] <;> rfl) | (simp [*, errW_none, errW_some] <;> rfl), by repeat (first | (with_reducible first | exact HB.out | apply bA_ | apply bN_ | apply bD_ | refine bS_ ?_ GE360.out | refine bS_ ?_ GE361.out) | exact HB.out)⟩
     ·rw [if_neg c64] at H
      have c64b0 : (a0_0 == a1) = false := beq_eq_false_iff_ne.mpr c64
      have c64b1 : (a0_0 != a1) = true := bne_iff_ne.mpr c64
      simp only [Option.some.injEq, Prod.mk.injEq] at H
      obtain ⟨rfl, rfl, rfl, rfl, rfl⟩ := H
      go_enter Tryd.func17, Tryd.ntmps17
      go_wp2_with (first | ((with_reducible refine gate_dst (N := 2) rfl ?_); refine box_event ?hg (N := 2) ?hd (cs := #[.int .i64 a0_0, .int .u64 a0_1, .string a0_2, .int .i64 a0_3]) (t := 24) ?hr ?_; (case hd => rfl); (case hg => rfl); (case hr => first | (go_simp; done) | (go_simp; rfl)); intro gb360 hg w74 hbox hb; replace HB := sqN_ (by repeat (first | (with_reducible first | exact HB.out | apply bA_ | apply bN_ | apply bD_) | exact HB.out)) hg hb; obtain ⟨HB, GE360⟩ := HB; have BK360 := Aside0.mk hbox; clear hb hbox hg) | ((with_reducible refine gate_dst (N := 4) rfl ?_); refine box_event ?hg (N := 4) ?hd (cs := #[.int .i64 0, .int .u64 0, .string ⟨#[]⟩, .int .i64 0]) (t := 24) ?hr ?_; (case hd => rfl); (case hg => rfl); (case hr => first | (go_simp; done) | (go_simp; rfl)); intro gb361 hg w75 hbox hb; replace BK360 := sqO_ BK360 (by (with_reducible repeat (first | apply kN_ | apply kD_ | apply kA_)); exact BK360.out) hg hb; obtain ⟨BK360, NB360_361, NB361_360⟩ := BK360; replace HB := sqN_ (by repeat (first | (with_reducible first | exact HB.out | apply bA_ | apply bN_ | apply bD_ | refine bS_ ?_ GE360.out) | exact HB.out)) hg hb; obtain ⟨HB, GE361⟩ := HB; have BK361 := Aside0.mk hbox; clear hb hbox hg; have hnb76 := NB360_361.out; have hnc76 := NB361_360.out; obtain ⟨hcz77_0, hcz77_1, hcz77_2, hcz77_3⟩ := cells4_ BK360.out; obtain ⟨hfz77_0, hfz77_1, hfz77_2, hfz77_3⟩ := froz4_ BK360.out) | ((with_reducible refine gate_callee (f := 13) rfl ?_); refine goesL_ (some 13) rfl rfl Tryd.func13 (by kernel_rfl) rfl #[.agg #[.int .i64 a0_0, .int .u64 a0_1, .string a0_2, .int .i64 a0_3]] rfl (by (try simp only [List.map_toArray, List.map_cons, List.map_nil]); first | done | rfl) ?_; (with_reducible refine (platformfwref08_Valid.calls a0_0 a0_1 a0_2 a0_3 true _ A3.out).mono ?_); rintro e w78 ⟨rfl, hb⟩; refine ⟨_, rfl, ?_⟩; replace BK360 := sqB_ BK360 (by (with_reducible repeat (first | apply kN_ | apply kD_ | apply kA_)); exact BK360.out) hb; replace BK361 := sqB_ BK361 (by (with_reducible repeat (first | apply kN_ | apply kD_ | apply kA_)); exact BK361.out) hb; replace HB := sqS_ (by repeat (first | (with_reducible first | exact HB.out | apply bA_ | apply bN_ | apply bD_ | refine bS_ ?_ GE360.out | refine bS_ ?_ GE361.out) | exact HB.out)) hb; (try clear hb); (try clear hb2); (try clear hk); (try clear hi); obtain ⟨hcz79_0, hcz79_1, hcz79_2, hcz79_3⟩ := cells4_ BK360.out; obtain ⟨hfz79_0, hfz79_1, hfz79_2, hfz79_3⟩ := froz4_ BK360.out; obtain ⟨hcz80_0, hcz80_1, hcz80_2, hcz80_3⟩ := cells4_ BK361.out; obtain ⟨hfz80_0, hfz80_1, hfz80_2, hfz80_3⟩ := froz4_ BK361.out))
      refine bodyPost_ret (results_ct rfl _ _ gb361 24 #[.int .i64 0, .int .u64 0, .string ⟨#[]⟩, .int .i64 0] (0, 0) _ rfl (by (with_reducible repeat (first | apply kN_ | apply kD_ | apply kA_)); refine blk_put (cs := #[.int .i64 0, .int .u64 0, .string ⟨#[]⟩, .int .i64 0]) ?_ 3 _ rfl; (with_reducible repeat (first | apply kN_ | apply kD_ | apply kA_)); refine blk_put (cs := #[.int .i64 0, .int .u64 0, .string ⟨#[]⟩, .int .i64 0]) ?_ 2 _ rfl; (with_reducible repeat (first | apply kN_ | apply kD_ | apply kA_)); refine blk_put (cs := #[.int .i64 0, .int .u64 0, .string ⟨#[]⟩, .int .i64 0]) ?_ 1 _ rfl; (with_reducible repeat (first | apply kN_ | apply kD_ | apply kA_)); refine blk_put (cs := #[.int .i64 0, .int .u64 0, .string ⟨#[]⟩, .int .i64 0]) ?_ 0 _ rfl; (with_reducible repeat (first | apply kN_ | apply kD_ | apply kA_)); exact BK361.out) Tryd.underlying24 rfl (by kernel_rfl)) rfl ?_
      exact ⟨by first | rfl | (simp [errW_none, errW_some] <;> rfl) | (simp [*, errW_none, errW_some] <;> rfl), by repeat (first | (with_reducible first | exact HB.out | apply bA_ | apply bN_ | apply bD_ | refine bS_ ?_ GE360.out | refine bS_ ?_ GE361.out) | exact HB.out)⟩
 ·replace c4 := Bool.eq_false_iff.mpr c4
  subst c4
  have H1 : (some (0, 0, (⟨#[]⟩ : ByteArray), 0, 1)) = some (r1, r2, r3, r4, r5) := by rw [if_neg (show ¬ (false = true) by decide)] at H; exact H
  clear H
  have H := H1
  clear H1
  simp only [Option.some.injEq, Prod.mk.injEq] at H
  obtain ⟨rfl, rfl, rfl, rfl, rfl⟩ := H
  go_enter Tryd.func17, Tryd.ntmps17
  go_wp2_with (first | ((with_reducible refine gate_dst (N := 2) rfl ?_); refine box_event ?hg (N := 2) ?hd (cs := #[.int .i64 a0_0, .int .u64 a0_1, .string a0_2, .int .i64 a0_3]) (t := 24) ?hr ?_; (case hd => rfl); (case hg => rfl); (case hr => first | (go_simp; done) | (go_simp; rfl)); intro gb360 hg w81 hbox hb; replace HB := sqN_ (by repeat (first | (with_reducible first | exact HB.out | apply bA_ | apply bN_ | apply bD_) | exact HB.out)) hg hb; obtain ⟨HB, GE360⟩ := HB; have BK360 := Aside0.mk hbox; clear hb hbox hg) | ((with_reducible refine gate_dst (N := 4) rfl ?_); refine box_event ?hg (N := 4) ?hd (cs := #[.int .i64 0, .int .u64 0, .string ⟨#[]⟩, .int .i64 0]) (t := 24) ?hr ?_; (case hd => rfl); (case hg => rfl); (case hr => first | (go_simp; done) | (go_simp; rfl)); intro gb361 hg w82 hbox hb; replace BK360 := sqO_ BK360 (by (with_reducible repeat (first | apply kN_ | apply kD_ | apply kA_)); exact BK360.out) hg hb; obtain ⟨BK360, NB360_361, NB361_360⟩ := BK360; replace HB := sqN_ (by repeat (first | (with_reducible first | exact HB.out | apply bA_ | apply bN_ | apply bD_ | refine bS_ ?_ GE360.out) | exact HB.out)) hg hb; obtain ⟨HB, GE361⟩ := HB; have BK361 := Aside0.mk hbox; clear hb hbox hg; have hnb83 := NB360_361.out; have hnc83 := NB361_360.out; obtain ⟨hcz84_0, hcz84_1, hcz84_2, hcz84_3⟩ := cells4_ BK360.out; obtain ⟨hfz84_0, hfz84_1, hfz84_2, hfz84_3⟩ := froz4_ BK360.out) | ((with_reducible refine gate_callee (f := 13) rfl ?_); refine goesL_ (some 13) rfl rfl Tryd.func13 (by kernel_rfl) rfl #[.agg #[.int .i64 a0_0, .int .u64 a0_1, .string a0_2, .int .i64 a0_3]] rfl (by (try simp only [List.map_toArray, List.map_cons, List.map_nil]); first | done | rfl) ?_; (with_reducible refine (platformfwref08_Valid.calls a0_0 a0_1 a0_2 a0_3 false _ A3.out).mono ?_); rintro e w85 ⟨rfl, hb⟩; refine ⟨_, rfl, ?_⟩; replace BK360 := sqB_ BK360 (by (with_reducible repeat (first | apply kN_ | apply kD_ | apply kA_)); exact BK360.out) hb; replace BK361 := sqB_ BK361 (by (with_reducible repeat (first | apply kN_ | apply kD_ | apply kA_)); exact BK361.out) hb; replace HB := sqS_ (by repeat (first | (with_reducible first | exact HB.out | apply bA_ | apply bN_ | apply bD_ | refine bS_ ?_ GE360.out | refine bS_ ?_ GE361.out) | exact HB.out)) hb; (try clear hb); (try clear hb2); (try clear hk); (try clear hi); obtain ⟨hcz86_0, hcz86_1, hcz86_2, hcz86_3⟩ := cells4_ BK361.out; obtain ⟨hfz86_0, hfz86_1, hfz86_2, hfz86_3⟩ := froz4_ BK361.out))
  refine bodyPost_ret (results_ct rfl _ _ gb361 24 #[.int .i64 0, .int .u64 0, .string ⟨#[]⟩, .int .i64 0] (0, 0) _ rfl (by (with_reducible repeat (first | apply kN_ | apply kD_ | apply kA_)); refine blk_put (cs := #[.int .i64 0, .int .u64 0, .string ⟨#[]⟩, .int .i64 0]) ?_ 3 _ rfl; (with_reducible repeat (first | apply kN_ | apply kD_ | apply kA_)); refine blk_put (cs := #[.int .i64 0, .int .u64 0, .string ⟨#[]⟩, .int .i64 0]) ?_ 2 _ rfl; (with_reducible repeat (first | apply kN_ | apply kD_ | apply kA_)); refine blk_put (cs := #[.int .i64 0, .int .u64 0, .string ⟨#[]⟩, .int .i64 0]) ?_ 1 _ rfl; (with_reducible repeat (first | apply kN_ | apply kD_ | apply kA_)); refine blk_put (cs := #[.int .i64 0, .int .u64 0, .string ⟨#[]⟩, .int .i64 0]) ?_ 0 _ rfl; (with_reducible repeat (first | apply kN_ | apply kD_ | apply kA_)); exact BK361.out) Tryd.underlying24 rfl (by kernel_rfl)) rfl ?_
  exact ⟨by first | rfl | (simp [errW_none, errW_some] <;> rfl) | (simp [*, errW_none, errW_some] <;> rfl), by repeat (first | (with_reducible first | exact HB.out | apply bA_ | apply bN_ | apply bD_ | refine bS_ ?_ GE360.out | refine bS_ ?_ GE361.out) | exact HB.out)⟩

/-! ### platformfwlaw08_ValueMid: function 5 -/
mutual
def platformfwlaw08_ValueMid.j0 : Nat → Int → Int → Int → Int → ByteArray → Int → Int → Int → ByteArray → Int → Option (Bool)
 | 0, _, _, _, _, _, _, _, _, _, _ => none
 | k + 1, x2, x3, x378000, x378001, x378002, x378003, x379000, x379001, x379002, x379003 => (value_Mid.f k x378000 x378001 x378002 x378003 x2 x3).bind fun bt379 => ((platformfwref08_Mid.f k x378000 x378001 x378002 x378003 x2 x3).bind fun bt385 => ((platformfwlaw08_some.f k x378000 x378001 x378002 x378003).bind fun bt391 => ((platformfwlaw08_some.f k x379000 x379001 x379002 x379003).bind fun bt395 => ((value_Mid.f k bt391.1 bt391.2.1 bt391.2.2.1 bt391.2.2.2 x2 x3).bind fun bt401 => ((platformfwref08_Mid.f k bt391.1 bt391.2.1 bt391.2.2.1 bt391.2.2.2 x2 x3).bind fun bt407 => ((platformfwlaw08_awake.f k).bind fun t413 => (if t413 = true then (if (!(bt379.1 == bt385.1) || (!(bt379.2.1 == bt385.2.1) || (!(bt379.2.2.1.toList == bt385.2.2.1.toList) || (!(bt379.2.2.2.1 == bt385.2.2.2.1))))) = true then (platformfwlaw08_ValueMid.j1 k true bt391.1 bt391.2.1 bt391.2.2.1 bt391.2.2.2 bt395.1 bt395.2.1 bt395.2.2.1 bt395.2.2.2) else (if bt379.2.2.2.2 = bt385.2.2.2.2 then (if (!(bt401.1 == bt407.1) || (!(bt401.2.1 == bt407.2.1) || (!(bt401.2.2.1.toList == bt407.2.2.1.toList) || (!(bt401.2.2.2.1 == bt407.2.2.2.1))))) = true then (platformfwlaw08_ValueMid.j1 k true bt391.1 bt391.2.1 bt391.2.2.1 bt391.2.2.2 bt395.1 bt395.2.1 bt395.2.2.1 bt395.2.2.2) else (platformfwlaw08_ValueMid.j1 k (bt401.2.2.2.2 != bt407.2.2.2.2) bt391.1 bt391.2.1 bt391.2.2.1 bt391.2.2.2 bt395.1 bt395.2.1 bt395.2.2.1 bt395.2.2.2)) else (platformfwlaw08_ValueMid.j1 k true bt391.1 bt391.2.1 bt391.2.2.1 bt391.2.2.2 bt395.1 bt395.2.1 bt395.2.2.1 bt395.2.2.2))) else (platformfwlaw08_ValueMid.j1 k true bt391.1 bt391.2.1 bt391.2.2.1 bt391.2.2.2 bt395.1 bt395.2.1 bt395.2.2.1 bt395.2.2.2))))))))
def platformfwlaw08_ValueMid.j1 : Nat → Bool → Int → Int → ByteArray → Int → Int → Int → ByteArray → Int → Option (Bool)
 | 0, _, _, _, _, _, _, _, _, _ => none
 | k + 1, x87, x400000, x400001, x400002, x400003, x401000, x401001, x401002, x401003 => if x87 = true then (some false) else (if x400000 = 2 then ((platformfwref08_Valid.f x400000 x400001 x400002 x400003).bind fun t414 => (platformfwlaw08_ValueMid.j2 k (!t414) x400000 x400001 x400002 x400003 x401000 x401001 x401002 x401003)) else (if x400000 = 3 then ((platformfwref08_Valid.f x400000 x400001 x400002 x400003).bind fun t415 => (platformfwlaw08_ValueMid.j2 k (!t415) x400000 x400001 x400002 x400003 x401000 x401001 x401002 x401003)) else (platformfwlaw08_ValueMid.j2 k true x400000 x400001 x400002 x400003 x401000 x401001 x401002 x401003)))
def platformfwlaw08_ValueMid.j2 : Nat → Bool → Int → Int → ByteArray → Int → Int → Int → ByteArray → Int → Option (Bool)
 | 0, _, _, _, _, _, _, _, _, _ => none
 | k + 1, x100, x400000, x400001, x400002, x400003, x401000, x401001, x401002, x401003 => if x100 = true then (some true) else ((value_Binary.f k 75 x400000 x400001 x400002 x400003 x401000 x401001 x401002 x401003).bind fun bt416 => (if bt416.2.2.2.2 = 0 then ((value_Mid.f k bt416.1 bt416.2.1 bt416.2.2.1 bt416.2.2.2.1 0 (IntKind.u64.wrap ((x400002.size : Int)))).bind fun bt422 => ((value_Mid.f k bt416.1 bt416.2.1 bt416.2.2.1 bt416.2.2.2.1 (IntKind.u64.wrap ((x400002.size : Int))) 1000).bind fun bt428 => ((platformfwref08_Convert.f k x401000 x401001 x401002 x401003 x400000).bind fun bt434 => ((platformfwref08_Clean.f k x400000 x400001 x400002 x400003).bind fun bt440 => (if (bt422.1 == bt440.1 && (bt422.2.1 == bt440.2.1 && (bt422.2.2.1.toList == bt440.2.2.1.toList && (bt422.2.2.2.1 == bt440.2.2.2)))) = true then (some (bt428.1 == bt434.1 && (bt428.2.1 == bt434.2.1 && (bt428.2.2.1.toList == bt434.2.2.1.toList && (bt428.2.2.2.1 == bt434.2.2.2.1))))) else (some false)))))) else (some true)))
end
def platformfwlaw08_ValueMid.f (k : Nat) (a0_0 : Int) (a0_1 : Int) (a0_2 : ByteArray) (a0_3 : Int) (a1_0 : Int) (a1_1 : Int) (a1_2 : ByteArray) (a1_3 : Int) (a2 : Int) (a3 : Int) (a4 : Bool) : Option (Bool) := if a4 = true then (platformfwlaw08_ValueMid.j0 k (Int.tmod a2 40) (Int.tmod a3 40) a0_0 a0_1 a0_2 a0_3 a1_0 a1_1 a1_2 a1_3) else (platformfwlaw08_ValueMid.j0 k a2 a3 a0_0 a0_1 a0_2 a0_3 a1_0 a1_1 a1_2 a1_3)
theorem platformfwlaw08_ValueMid.mono_l : ∀ k, (∀ y0 y1 y2 y3 y4 y5 y6 y7 y8 y9, LeO (platformfwlaw08_ValueMid.j0 k y0 y1 y2 y3 y4 y5 y6 y7 y8 y9) (platformfwlaw08_ValueMid.j0 (k + 1) y0 y1 y2 y3 y4 y5 y6 y7 y8 y9)) ∧ (∀ y0 y1 y2 y3 y4 y5 y6 y7 y8, LeO (platformfwlaw08_ValueMid.j1 k y0 y1 y2 y3 y4 y5 y6 y7 y8) (platformfwlaw08_ValueMid.j1 (k + 1) y0 y1 y2 y3 y4 y5 y6 y7 y8)) ∧ (∀ y0 y1 y2 y3 y4 y5 y6 y7 y8, LeO (platformfwlaw08_ValueMid.j2 k y0 y1 y2 y3 y4 y5 y6 y7 y8) (platformfwlaw08_ValueMid.j2 (k + 1) y0 y1 y2 y3 y4 y5 y6 y7 y8))
 | 0 => ⟨fun _ _ _ _ _ _ _ _ _ _ r h => by simp [platformfwlaw08_ValueMid.j0] at h, fun _ _ _ _ _ _ _ _ _ r h => by simp [platformfwlaw08_ValueMid.j1] at h, fun _ _ _ _ _ _ _ _ _ r h => by simp [platformfwlaw08_ValueMid.j2] at h⟩
 | k + 1 => by
  obtain ⟨ih0, ih1, ih2⟩ := platformfwlaw08_ValueMid.mono_l k
  refine ⟨?_, ?_, ?_⟩
  ·intro y0 y1 y2 y3 y4 y5 y6 y7 y8 y9
   unfold platformfwlaw08_ValueMid.j0
   repeat' first
   | (with_reducible exact ih0 _ _ _ _ _ _ _ _ _ _)
   | (with_reducible exact ih1 _ _ _ _ _ _ _ _ _)
   | (with_reducible exact ih2 _ _ _ _ _ _ _ _ _)
   | (with_reducible exact platformfwlaw08_awake.mono _)
   | (with_reducible exact platformfwlaw08_some.mono _ _ _ _ _)
   | (with_reducible exact platformfwref08_Clean.mono _ _ _ _ _)
   | (with_reducible exact platformfwref08_Convert.mono _ _ _ _ _ _)
   | (with_reducible exact platformfwref08_Mid.mono _ _ _ _ _ _ _)
   | (with_reducible exact value_Binary.mono _ _ _ _ _ _ _ _ _ _)
   | (with_reducible exact value_Mid.mono _ _ _ _ _ _ _)
   | (with_reducible exact LeO.refl _)
   | (with_reducible exact LeO.none _)
   | (with_reducible refine LeO.ite ?_ ?_)
   | (with_reducible refine LeO.bind ?_ (fun _ => ?_))
   | exact ih0 _ _ _ _ _ _ _ _ _ _
   | exact ih1 _ _ _ _ _ _ _ _ _
   | exact ih2 _ _ _ _ _ _ _ _ _
   | exact platformfwlaw08_awake.mono _
   | exact platformfwlaw08_some.mono _ _ _ _ _
   | exact platformfwref08_Clean.mono _ _ _ _ _
   | exact platformfwref08_Convert.mono _ _ _ _ _ _
   | exact platformfwref08_Mid.mono _ _ _ _ _ _ _
   | exact value_Binary.mono _ _ _ _ _ _ _ _ _ _
   | exact value_Mid.mono _ _ _ _ _ _ _
   | exact LeO.none _
   | refine LeO.ite ?_ ?_
   | refine LeO.bind ?_ (fun _ => ?_)
  ·intro y0 y1 y2 y3 y4 y5 y6 y7 y8
   unfold platformfwlaw08_ValueMid.j1
   repeat' first
   | (with_reducible exact ih0 _ _ _ _ _ _ _ _ _ _)
   | (with_reducible exact ih1 _ _ _ _ _ _ _ _ _)
   | (with_reducible exact ih2 _ _ _ _ _ _ _ _ _)
   | (with_reducible exact platformfwlaw08_awake.mono _)
   | (with_reducible exact platformfwlaw08_some.mono _ _ _ _ _)
   | (with_reducible exact platformfwref08_Clean.mono _ _ _ _ _)
   | (with_reducible exact platformfwref08_Convert.mono _ _ _ _ _ _)
   | (with_reducible exact platformfwref08_Mid.mono _ _ _ _ _ _ _)
   | (with_reducible exact value_Binary.mono _ _ _ _ _ _ _ _ _ _)
   | (with_reducible exact value_Mid.mono _ _ _ _ _ _ _)
   | (with_reducible exact LeO.refl _)
   | (with_reducible exact LeO.none _)
   | (with_reducible refine LeO.ite ?_ ?_)
   | (with_reducible refine LeO.bind ?_ (fun _ => ?_))
   | exact ih0 _ _ _ _ _ _ _ _ _ _
   | exact ih1 _ _ _ _ _ _ _ _ _
   | exact ih2 _ _ _ _ _ _ _ _ _
   | exact platformfwlaw08_awake.mono _
   | exact platformfwlaw08_some.mono _ _ _ _ _
   | exact platformfwref08_Clean.mono _ _ _ _ _
   | exact platformfwref08_Convert.mono _ _ _ _ _ _
   | exact platformfwref08_Mid.mono _ _ _ _ _ _ _
   | exact value_Binary.mono _ _ _ _ _ _ _ _ _ _
   | exact value_Mid.mono _ _ _ _ _ _ _
   | exact LeO.none _
   | refine LeO.ite ?_ ?_
   | refine LeO.bind ?_ (fun _ => ?_)
  ·intro y0 y1 y2 y3 y4 y5 y6 y7 y8
   unfold platformfwlaw08_ValueMid.j2
   repeat' first
   | (with_reducible exact ih0 _ _ _ _ _ _ _ _ _ _)
   | (with_reducible exact ih1 _ _ _ _ _ _ _ _ _)
   | (with_reducible exact ih2 _ _ _ _ _ _ _ _ _)
   | (with_reducible exact platformfwlaw08_awake.mono _)
   | (with_reducible exact platformfwlaw08_some.mono _ _ _ _ _)
   | (with_reducible exact platformfwref08_Clean.mono _ _ _ _ _)
   | (with_reducible exact platformfwref08_Convert.mono _ _ _ _ _ _)
   | (with_reducible exact platformfwref08_Mid.mono _ _ _ _ _ _ _)
   | (with_reducible exact value_Binary.mono _ _ _ _ _ _ _ _ _ _)
   | (with_reducible exact value_Mid.mono _ _ _ _ _ _ _)
   | (with_reducible exact LeO.refl _)
   | (with_reducible exact LeO.none _)
   | (with_reducible refine LeO.ite ?_ ?_)
   | (with_reducible refine LeO.bind ?_ (fun _ => ?_))
   | exact ih0 _ _ _ _ _ _ _ _ _ _
   | exact ih1 _ _ _ _ _ _ _ _ _
   | exact ih2 _ _ _ _ _ _ _ _ _
   | exact platformfwlaw08_awake.mono _
   | exact platformfwlaw08_some.mono _ _ _ _ _
   | exact platformfwref08_Clean.mono _ _ _ _ _
   | exact platformfwref08_Convert.mono _ _ _ _ _ _
   | exact platformfwref08_Mid.mono _ _ _ _ _ _ _
   | exact value_Binary.mono _ _ _ _ _ _ _ _ _ _
   | exact value_Mid.mono _ _ _ _ _ _ _
   | exact LeO.none _
   | refine LeO.ite ?_ ?_
   | refine LeO.bind ?_ (fun _ => ?_)
theorem platformfwlaw08_ValueMid.mono : ∀ a0 a1 a2 a3 a4 a5 a6 a7 a8 a9 a10 k, LeO (platformfwlaw08_ValueMid.f k a0 a1 a2 a3 a4 a5 a6 a7 a8 a9 a10) (platformfwlaw08_ValueMid.f (k + 1) a0 a1 a2 a3 a4 a5 a6 a7 a8 a9 a10) := by
 intro a0 a1 a2 a3 a4 a5 a6 a7 a8 a9 a10 k
 obtain ⟨ih0, ih1, ih2⟩ := platformfwlaw08_ValueMid.mono_l k
 unfold platformfwlaw08_ValueMid.f
 repeat' first
   | (with_reducible exact ih0 _ _ _ _ _ _ _ _ _ _)
   | (with_reducible exact ih1 _ _ _ _ _ _ _ _ _)
   | (with_reducible exact ih2 _ _ _ _ _ _ _ _ _)
   | (with_reducible exact platformfwlaw08_awake.mono _)
   | (with_reducible exact platformfwlaw08_some.mono _ _ _ _ _)
   | (with_reducible exact platformfwref08_Clean.mono _ _ _ _ _)
   | (with_reducible exact platformfwref08_Convert.mono _ _ _ _ _ _)
   | (with_reducible exact platformfwref08_Mid.mono _ _ _ _ _ _ _)
   | (with_reducible exact value_Binary.mono _ _ _ _ _ _ _ _ _ _)
   | (with_reducible exact value_Mid.mono _ _ _ _ _ _ _)
   | (with_reducible exact LeO.refl _)
   | (with_reducible exact LeO.none _)
   | (with_reducible refine LeO.ite ?_ ?_)
   | (with_reducible refine LeO.bind ?_ (fun _ => ?_))
   | exact ih0 _ _ _ _ _ _ _ _ _ _
   | exact ih1 _ _ _ _ _ _ _ _ _
   | exact ih2 _ _ _ _ _ _ _ _ _
   | exact platformfwlaw08_awake.mono _
   | exact platformfwlaw08_some.mono _ _ _ _ _
   | exact platformfwref08_Clean.mono _ _ _ _ _
   | exact platformfwref08_Convert.mono _ _ _ _ _ _
   | exact platformfwref08_Mid.mono _ _ _ _ _ _ _
   | exact value_Binary.mono _ _ _ _ _ _ _ _ _ _
   | exact value_Mid.mono _ _ _ _ _ _ _
   | exact LeO.none _
   | refine LeO.ite ?_ ?_
   | refine LeO.bind ?_ (fun _ => ?_)
def platformfwlaw08_ValueMid.T5 : Bool × List (List Nat × List Nat) := (true, [([], []), ([0], [0]), ([], []), ([2, 1], [2]), ([], []), ([], []), ([4, 1, 3, 0, 1, 4, 5], [1, 4]), ([5, 3, 6, 0, 1, 2, 3, 4, 5, 6], [3, 5])])
def platformfwlaw08_ValueMid.B5 : List Nat := [0, 1, 0, 7, 0, 0, 63, 127]
theorem platformfwlaw08_ValueMid.tab5 : rtab .any (opsOf Tryd.f5 5) = platformfwlaw08_ValueMid.T5 := by kernel_rfl
theorem platformfwlaw08_ValueMid.bits5 : waitsOk platformfwlaw08_ValueMid.T5.2 platformfwlaw08_ValueMid.B5 = true := by kernel_rfl
def platformfwlaw08_ValueMid.T19 : Bool × List (List Nat × List Nat) := (true, [([], []), ([], []), ([1], [1]), ([0, 2], [0, 2]), ([3, 2], [3]), ([4], [4]), ([4], [4]), ([5, 6, 4], [4, 5, 6]), ([4, 7], [4, 7]), ([8, 4, 0, 1, 2, 3, 4, 5, 6, 7, 8], [8])])
def platformfwlaw08_ValueMid.B19 : List Nat := [0, 0, 2, 7, 15, 31, 31, 127, 255, 511]
theorem platformfwlaw08_ValueMid.tab19 : rtab .any (opsOf Tryd.f5 19) = platformfwlaw08_ValueMid.T19 := by kernel_rfl
theorem platformfwlaw08_ValueMid.bits19 : waitsOk platformfwlaw08_ValueMid.T19.2 platformfwlaw08_ValueMid.B19 = true := by kernel_rfl

end Go.Proofs.YtdmeglmmihaonaaDoor.PValueMid
