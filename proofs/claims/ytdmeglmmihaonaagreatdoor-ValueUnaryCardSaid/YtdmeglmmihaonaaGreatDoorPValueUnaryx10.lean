-- Written by a program of this session's (wip/print_patch.py over the kit's print) out of the translation; Lean checks it.
import Derived.Test.YtdmeglmmihaonaaGreatDoorPValueUnaryx0
import Derived.Test.YtdmeglmmihaonaaGreatDoorPValueUnaryx2
import Derived.Test.YtdmeglmmihaonaaGreatDoorPValueUnaryx3
import Derived.Test.YtdmeglmmihaonaaGreatDoorPValueUnaryx9
import Derived.Test.YtdmeglmmihaonaaGreatDoorVValueUnaryExtS
namespace Go.Proofs.YtdmeglmmihaonaaGreatDoor.PValueUnary
open Go.RowKit Go.Proofs.YtdmeglmmihaonaaGreatDoor.Ext Go.Proofs.YtdmeglmmihaonaaGreatDoorW.PrintWords Go.Proofs.YtdmeglmmihaonaaGreatDoorW.PrintLast Go.Proofs.YtdmeglmmihaonaaGreatDoorW.PrintMore
attribute [local go_sem] max2_int min2_int max_two min_two max_three min_three max_four min_four   -- for this text's walks alone
set_option linter.unusedVariables false
set_option linter.unusedSimpArgs false

/-! ### value_concatenate: function 78 -/
def value_concatenate.f (k : Nat) (a0_0 : Int) (a0_1 : Int) (a0_2 : ByteArray) (a0_3 : Int) (a1_0 : Int) (a1_1 : Int) (a1_2 : ByteArray) (a1_3 : Int) : Option (Int × Int × ByteArray × Int × Int) := if a0_0 = 1 then ((value_eight.f k a0_1).bind fun t355 => ((value_eight.f k a1_1).bind fun t356 => (if t355.size + t356.size ≤ 9223372036854775807 then ((value_bytes.f 3 (t355 ++ t356)).bind fun bt357 => (some (bt357.1, bt357.2.1, bt357.2.2.1, bt357.2.2.2.1, bt357.2.2.2.2))) else (none)))) else (if a0_2.size + a1_2.size ≤ 9223372036854775807 then ((value_bytes.f a0_0 (a0_2 ++ a1_2)).bind fun bt362 => (some (bt362.1, bt362.2.1, bt362.2.2.1, bt362.2.2.2.1, bt362.2.2.2.2))) else (none))
theorem value_concatenate.mono : ∀ a0 a1 a2 a3 a4 a5 a6 a7 k, LeO (value_concatenate.f k a0 a1 a2 a3 a4 a5 a6 a7) (value_concatenate.f (k + 1) a0 a1 a2 a3 a4 a5 a6 a7) := by
 intro a0 a1 a2 a3 a4 a5 a6 a7 k
 unfold value_concatenate.f
 repeat' first
   | (with_reducible exact value_eight.mono _ _)
   | (with_reducible exact LeO.refl _)
   | (with_reducible exact LeO.none _)
   | (with_reducible refine LeO.ite ?_ ?_)
   | (with_reducible refine LeO.bind ?_ (fun _ => ?_))
   | exact value_eight.mono _ _
   | exact LeO.none _
   | refine LeO.ite ?_ ?_
   | refine LeO.bind ?_ (fun _ => ?_)
def value_concatenate.T2 : Bool × List (List Nat × List Nat) := (true, [([], []), ([0], [0]), ([1], [1]), ([], []), ([3], [3]), ([4, 2], [4]), ([2, 5], [2, 5]), ([6, 5], [6]), ([7], [7]), ([7], [7]), ([8, 7, 0, 1, 2, 3, 4, 5, 6, 7, 8, 9], [8]), ([9, 10, 0, 1, 2, 3, 4, 5, 6, 7, 8, 9, 10], [9])])
def value_concatenate.B2 : List Nat := [0, 1, 3, 0, 8, 31, 63, 127, 255, 255, 1023, 2047]
theorem value_concatenate.tab2 : rtab .any (opsOf Tryz.f78 2) = value_concatenate.T2 := by kernel_rfl
theorem value_concatenate.bits2 : waitsOk value_concatenate.T2.2 value_concatenate.B2 = true := by kernel_rfl
set_option maxHeartbeats 8000000 in
set_option maxRecDepth 100000 in
theorem value_concatenate.calls (k : Nat) (a0_0 : Int) (a0_1 : Int) (a0_2 : ByteArray) (a0_3 : Int) (a1_0 : Int) (a1_1 : Int) (a1_2 : ByteArray) (a1_3 : Int) (r1 : Int) (r2 : Int) (r3 : ByteArray) (r4 : Int) (r5 : Int) (w : World) (h : value_concatenate.f k a0_0 a0_1 a0_2 a0_3 a1_0 a1_1 a1_2 a1_3 = some (r1, r2, r3, r4, r5)) :
  Calls Tryz.prog 78 #[.agg #[.int .i64 a0_0, .int .u64 a0_1, .string a0_2, .int .i64 a0_3], .agg #[.int .i64 a1_0, .int .u64 a1_1, .string a1_2, .int .i64 a1_3]] w fun e w' => e = .returned (.tuple #[.agg #[.int .i64 r1, .int .u64 r2, .string r3, .int .i64 r4], .int .i64 r5]) ∧ Below w.heap.size w w' := by
 have hu24 := Tryz.underlying24
 have HB := Aside0.mk (Below.refl w.heap.size w)
 have H : (if a0_0 = 1 then ((value_eight.f k a0_1).bind fun t355 => ((value_eight.f k a1_1).bind fun t356 => (if t355.size + t356.size ≤ 9223372036854775807 then ((value_bytes.f 3 (t355 ++ t356)).bind fun bt357 => (some (bt357.1, bt357.2.1, bt357.2.2.1, bt357.2.2.2.1, bt357.2.2.2.2))) else (none)))) else (if a0_2.size + a1_2.size ≤ 9223372036854775807 then ((value_bytes.f a0_0 (a0_2 ++ a1_2)).bind fun bt362 => (some (bt362.1, bt362.2.1, bt362.2.2.1, bt362.2.2.2.1, bt362.2.2.2.2))) else (none))) = some (r1, r2, r3, r4, r5) := h
 clear h
 by_cases c3 : a0_0 = 1
 ·rw [if_pos c3] at H
  have c3b0 : (a0_0 == 1) = true := beq_iff_eq.mpr c3
  have c3b1 : (a0_0 != 1) = false := bne_eq_false_iff_eq.mpr c3
  clear c3
  replace H := Option.bind_eq_some_iff.mp H
  obtain ⟨t355, A40, H⟩ := H
  replace H : ((value_eight.f k a1_1).bind fun t356 => (if t355.size + t356.size ≤ 9223372036854775807 then ((value_bytes.f 3 (t355 ++ t356)).bind fun bt357 => (some (bt357.1, bt357.2.1, bt357.2.2.1, bt357.2.2.2.1, bt357.2.2.2.2))) else (none))) = some (r1, r2, r3, r4, r5) := H
  have A4 := Aside0.mk A40
  clear A40
  replace H := Option.bind_eq_some_iff.mp H
  obtain ⟨t356, A50, H⟩ := H
  replace H : (if t355.size + t356.size ≤ 9223372036854775807 then ((value_bytes.f 3 (t355 ++ t356)).bind fun bt357 => (some (bt357.1, bt357.2.1, bt357.2.2.1, bt357.2.2.2.1, bt357.2.2.2.2))) else (none)) = some (r1, r2, r3, r4, r5) := H
  have A5 := Aside0.mk A50
  clear A50
  by_cases c6 : t355.size + t356.size ≤ 9223372036854775807
  ·rw [if_pos c6] at H
   have c6b0 := eq_true c6
   have c6b1 : decide (t355.size + t356.size ≤ 9223372036854775807) = true := decide_eq_true c6
   try have c6b2 : (9223372036854775807 < t355.size + t356.size) = False := eq_false (Nat.not_lt.2 c6)
   clear c6
   replace H := Option.bind_eq_some_iff.mp H
   obtain ⟨⟨t357, t358, t359, t360, t361⟩, A70, H⟩ := H
   replace H : (some (t357, t358, t359, t360, t361)) = some (r1, r2, r3, r4, r5) := H
   have A7 := Aside0.mk A70
   clear A70
   simp only [Option.some.injEq, Prod.mk.injEq] at H
   obtain ⟨rfl, rfl, rfl, rfl, rfl⟩ := H
   go_enter Tryz.func78, Tryz.ntmps78
   try go_wp2_with (first | ((with_reducible refine gate_dst (N := 2) rfl ?_); refine box_event ?hg (N := 2) ?hd (cs := #[.int .i64 a0_0, .int .u64 a0_1, .string a0_2, .int .i64 a0_3]) (t := 24) ?hr ?_; (case hd => rfl); (case hg => rfl); (case hr => first | (go_simp; done) | (go_simp; rfl)); intro gb352 hg w8 hbox hb; replace HB := sqN_ (by repeat (first | (with_reducible first | exact HB.out | apply bA_ | apply bN_ | apply bD_) | exact HB.out)) hg hb; obtain ⟨HB, GE352⟩ := HB; have BK352 := Aside0.mk hbox; clear hb hbox hg) | ((with_reducible refine gate_dst (N := 3) rfl ?_); refine box_event ?hg (N := 3) ?hd (cs := #[.int .i64 a1_0, .int .u64 a1_1, .string a1_2, .int .i64 a1_3]) (t := 24) ?hr ?_; (case hd => rfl); (case hg => rfl); (case hr => first | (go_simp; done) | (go_simp; rfl)); intro gb353 hg w9 hbox hb; replace BK352 := sqO_ (g := gb352) (by (with_reducible repeat (first | apply kN_ | apply kD_ | apply kA_)); exact BK352.out) hg hb; obtain ⟨BK352, NB352_353, NB353_352⟩ := BK352; replace HB := sqN_ (by repeat (first | (with_reducible first | exact HB.out | apply bA_ | apply bN_ | apply bD_ | refine bS_ ?_ GE352.out) | exact HB.out)) hg hb; obtain ⟨HB, GE353⟩ := HB; have BK353 := Aside0.mk hbox; clear hb hbox hg) | ((with_reducible refine gate_dst (N := 4) rfl ?_); refine box_event ?hg (N := 4) ?hd (cs := #[.int .i64 0, .int .u64 0, .string ⟨#[]⟩, .int .i64 0]) (t := 24) ?hr ?_; (case hd => rfl); (case hg => rfl); (case hr => first | (go_simp; done) | (go_simp; rfl)); intro gb354 hg w10 hbox hb; replace BK352 := sqO_ (g := gb352) (by (with_reducible repeat (first | apply kN_ | apply kD_ | apply kA_)); exact BK352.out) hg hb; obtain ⟨BK352, NB352_354, NB354_352⟩ := BK352; replace BK353 := sqO_ (g := gb353) (by (with_reducible repeat (first | apply kN_ | apply kD_ | apply kA_)); exact BK353.out) hg hb; obtain ⟨BK353, NB353_354, NB354_353⟩ := BK353; replace HB := sqN_ (by repeat (first | (with_reducible first | exact HB.out | apply bA_ | apply bN_ | apply bD_ | refine bS_ ?_ GE352.out | refine bS_ ?_ GE353.out) | exact HB.out)) hg hb; obtain ⟨HB, GE354⟩ := HB; have BK354 := Aside0.mk hbox; clear hb hbox hg; have hnb11 := NB352_353.out; have hnc11 := NB353_352.out; have hnb12 := NB352_354.out; have hnc12 := NB354_352.out; obtain ⟨hcz13_0, hcz13_1, hcz13_2, hcz13_3⟩ := cells4_ BK352.out; obtain ⟨hfz13_0, hfz13_1, hfz13_2, hfz13_3⟩ := froz4_ BK352.out))
   replace BK352 := Aside0.mk (kD_ BK352.out)
   replace BK353 := Aside0.mk (kD_ BK353.out)
   replace BK354 := Aside0.mk (kD_ BK354.out)
   replace HB := Aside0.mk (bD_ HB.out)
   refine start_ (n := 12) (S := fun w' => w'.cell? ⟨gb352, 0, none⟩ = some (.int .i64 a0_0) ∧ w'.cell? ⟨gb352, 1, none⟩ = some (.int .u64 a0_1) ∧ w'.cell? ⟨gb352, 2, none⟩ = some (.string a0_2) ∧ w'.cell? ⟨gb352, 3, none⟩ = some (.int .i64 a0_3) ∧ w'.cell? ⟨gb353, 0, none⟩ = some (.int .i64 a1_0) ∧ w'.cell? ⟨gb353, 1, none⟩ = some (.int .u64 a1_1) ∧ w'.cell? ⟨gb353, 2, none⟩ = some (.string a1_2) ∧ w'.cell? ⟨gb353, 3, none⟩ = some (.int .i64 a1_3)) (ds := []) #[false, false, false, false, false, false, false, false, false, false, false, false] (by kernel_rfl) rfl rfl ⟨(blk_cell BK352.out 0).trans rfl, (blk_cell BK352.out 1).trans rfl, (blk_cell BK352.out 2).trans rfl, (blk_cell BK352.out 3).trans rfl, (blk_cell BK353.out 0).trans rfl, (blk_cell BK353.out 1).trans rfl, (blk_cell BK353.out 2).trans rfl, (blk_cell BK353.out 3).trans rfl⟩ (fun hHeld => ?_); refine with_tabW value_concatenate.tab2 value_concatenate.bits2 (fun HT_ HW_ => ?_)
   generalize w10.drew = w14 at BK352 BK353 BK354 HB hHeld ⊢
   refine pure_ (i := 0) (N := some 9) (v := ?_) (a' := ?_) (tf 12 1) rfl rfl (any_of HT_.out (by kernel_rfl)) (fun _ _ _ h => h) (Or.inl ⟨by rfl, ?_⟩) ?_ ?_
   rotate_left
   ·intro w'
    go_simp
    with_reducible rfl
   rotate_left
   ·simp only [Act.put, sA_, sB_, sC_, i64_w, i32_w]
    rfl
   refine pure_ (i := 3) (N := some 12) (v := ?_) (a' := ?_) (tf 12 9) rfl rfl (any_of HT_.out (by kernel_rfl)) (fun _ _ _ h => h) (Or.inl ⟨by rfl, ?_⟩) ?_ ?_
   rotate_left
   ·intro w'
    go_simp
    with_reducible rfl
   rotate_left
   ·simp only [Act.put, sA_, sB_, sC_, i64_w, i32_w]
    rfl
   refine take_ (i := 1) (N := some 10) (v := ?_) (a' := ?_) (tf 12 11) rfl rfl (take_ofW HT_.out HW_.out (by kernel_rfl)) (fun _ _ _ h => h) (Or.inl ⟨by rfl, ?_⟩) hHeld ?_ ?_
   rotate_left
   ·rintro w' ⟨s0, s1, s2, s3, s4, s5, s6, s7⟩
    go_simp
    with_reducible rfl
   rotate_left
   ·simp only [Act.put, sA_, sB_, sC_, i64_w, i32_w]
    rfl
   refine take_ (i := 4) (N := some 13) (v := ?_) (a' := ?_) (tf 12 27) rfl rfl (take_ofW HT_.out HW_.out (by kernel_rfl)) (fun _ _ _ h => h) (Or.inl ⟨by rfl, ?_⟩) hHeld ?_ ?_
   rotate_left
   ·rintro w' ⟨s0, s1, s2, s3, s4, s5, s6, s7⟩
    go_simp
    with_reducible rfl
   rotate_left
   ·simp only [Act.put, sA_, sB_, sC_, i64_w, i32_w]
    rfl
   refine one_ (i := 2) (N := some 11) (tf 12 31) rfl rfl (one_of HT_.out (by kernel_rfl)) (by decide) (fun K hK => ?_)
   refine goes_ Tryz.func62 (by kernel_rfl) rfl #[.int .u64 a0_1] (by rfl) rfl rfl (by (try simp only [List.map_toArray, List.map_cons, List.map_nil]); first | done | rfl) ?_
   with_reducible refine (value_eight.calls k a0_1 t355 _ A4.out).mono ?_
   rintro e w15 ⟨rfl, hb⟩
   refine ⟨_, rfl, ?_⟩
   replace BK352 := sqB_ (g := gb352) (by (with_reducible repeat (first | apply kN_ | apply kD_ | apply kA_)); exact BK352.out) hb
   replace BK353 := sqB_ (g := gb353) (by (with_reducible repeat (first | apply kN_ | apply kD_ | apply kA_)); exact BK353.out) hb
   replace BK354 := sqB_ (g := gb354) (by (with_reducible repeat (first | apply kN_ | apply kD_ | apply kA_)); exact BK354.out) hb
   replace HB := sqS_ (by repeat (first | (with_reducible first | exact HB.out | apply bA_ | apply bN_ | apply bD_ | refine bS_ ?_ GE352.out | refine bS_ ?_ GE353.out | refine bS_ ?_ GE354.out) | exact HB.out)) hb
   (try clear hb)
   (try clear hb2)
   (try clear hk)
   (try clear hi)
   refine hK.out _ _ ⟨(blk_cell BK352.out 0).trans rfl, (blk_cell BK352.out 1).trans rfl, (blk_cell BK352.out 2).trans rfl, (blk_cell BK352.out 3).trans rfl, (blk_cell BK353.out 0).trans rfl, (blk_cell BK353.out 1).trans rfl, (blk_cell BK353.out 2).trans rfl, (blk_cell BK353.out 3).trans rfl⟩ (fun hHeld => ?_)
   clear hK K
   refine norm_ (a' := ?_) ?_ ?_
   rotate_left
   ·show Act.put _ (some 11) _ = _
    simp only [Act.put, sA_, sB_, sC_, i64_w, i32_w]
    rfl
   refine one_ (i := 5) (N := some 14) (tf 12 63) rfl rfl (one_of HT_.out (by kernel_rfl)) (by decide) (fun K hK => ?_)
   refine goes_ Tryz.func62 (by kernel_rfl) rfl #[.int .u64 a1_1] (by rfl) rfl rfl (by (try simp only [List.map_toArray, List.map_cons, List.map_nil]); first | done | rfl) ?_
   with_reducible refine (value_eight.calls k a1_1 t356 _ A5.out).mono ?_
   rintro e w16 ⟨rfl, hb⟩
   refine ⟨_, rfl, ?_⟩
   replace BK352 := sqB_ (g := gb352) (by (with_reducible repeat (first | apply kN_ | apply kD_ | apply kA_)); exact BK352.out) hb
   replace BK353 := sqB_ (g := gb353) (by (with_reducible repeat (first | apply kN_ | apply kD_ | apply kA_)); exact BK353.out) hb
   replace BK354 := sqB_ (g := gb354) (by (with_reducible repeat (first | apply kN_ | apply kD_ | apply kA_)); exact BK354.out) hb
   replace HB := sqS_ (by repeat (first | (with_reducible first | exact HB.out | apply bA_ | apply bN_ | apply bD_ | refine bS_ ?_ GE352.out | refine bS_ ?_ GE353.out | refine bS_ ?_ GE354.out) | exact HB.out)) hb
   (try clear hb)
   (try clear hb2)
   (try clear hk)
   (try clear hi)
   refine hK.out _ _ ⟨(blk_cell BK352.out 0).trans rfl, (blk_cell BK352.out 1).trans rfl, (blk_cell BK352.out 2).trans rfl, (blk_cell BK352.out 3).trans rfl, (blk_cell BK353.out 0).trans rfl, (blk_cell BK353.out 1).trans rfl, (blk_cell BK353.out 2).trans rfl, (blk_cell BK353.out 3).trans rfl⟩ (fun hHeld => ?_)
   clear hK K
   refine norm_ (a' := ?_) ?_ ?_
   rotate_left
   ·show Act.put _ (some 14) _ = _
    simp only [Act.put, sA_, sB_, sC_, i64_w, i32_w]
    rfl
   refine pure_ (i := 6) (N := some 15) (v := ?_) (a' := ?_) (tf 12 127) rfl rfl (any_of HT_.out (by kernel_rfl)) (fun _ _ _ h => h) (Or.inl ⟨by rfl, ?_⟩) ?_ ?_
   rotate_left
   ·intro w'
    go_simp
    with_reducible rfl
   rotate_left
   ·simp only [Act.put, sA_, sB_, sC_, i64_w, i32_w]
    rfl
   refine one_ (i := 7) (N := some 16) (tf 12 255) rfl rfl (one_of HT_.out (by kernel_rfl)) (by decide) (fun K hK => ?_)
   refine goes_ Tryz.func40 (by kernel_rfl) rfl #[.int .i64 3, .string (t355 ++ t356)] (by rfl) rfl rfl (by (try simp only [List.map_toArray, List.map_cons, List.map_nil]); first | done | rfl) ?_
   with_reducible refine (value_bytes.calls 3 (t355 ++ t356) t357 t358 t359 t360 t361 _ A7.out).mono ?_
   rintro e w17 ⟨rfl, hb⟩
   refine ⟨_, rfl, ?_⟩
   replace BK352 := sqB_ (g := gb352) (by (with_reducible repeat (first | apply kN_ | apply kD_ | apply kA_)); exact BK352.out) hb
   replace BK353 := sqB_ (g := gb353) (by (with_reducible repeat (first | apply kN_ | apply kD_ | apply kA_)); exact BK353.out) hb
   replace BK354 := sqB_ (g := gb354) (by (with_reducible repeat (first | apply kN_ | apply kD_ | apply kA_)); exact BK354.out) hb
   replace HB := sqS_ (by repeat (first | (with_reducible first | exact HB.out | apply bA_ | apply bN_ | apply bD_ | refine bS_ ?_ GE352.out | refine bS_ ?_ GE353.out | refine bS_ ?_ GE354.out) | exact HB.out)) hb
   (try clear hb)
   (try clear hb2)
   (try clear hk)
   (try clear hi)
   refine hK.out _ _ ⟨(blk_cell BK352.out 0).trans rfl, (blk_cell BK352.out 1).trans rfl, (blk_cell BK352.out 2).trans rfl, (blk_cell BK352.out 3).trans rfl, (blk_cell BK353.out 0).trans rfl, (blk_cell BK353.out 1).trans rfl, (blk_cell BK353.out 2).trans rfl, (blk_cell BK353.out 3).trans rfl⟩ (fun hHeld => ?_)
   clear hK K
   refine norm_ (a' := ?_) ?_ ?_
   rotate_left
   ·show Act.put _ (some 16) _ = _
    simp only [Act.put, sA_, sB_, sC_, i64_w, i32_w]
    rfl
   refine pure_ (i := 8) (N := some 17) (v := ?_) (a' := ?_) (tf 12 511) rfl rfl (any_of HT_.out (by kernel_rfl)) (fun _ _ _ h => h) (Or.inl ⟨by rfl, ?_⟩) ?_ ?_
   rotate_left
   ·intro w'
    go_simp
    with_reducible rfl
   rotate_left
   ·simp only [Act.put, sA_, sB_, sC_, i64_w, i32_w]
    rfl
   refine pure_ (i := 9) (N := some 18) (v := ?_) (a' := ?_) (tf 12 1023) rfl rfl (any_of HT_.out (by kernel_rfl)) (fun _ _ _ h => h) (Or.inl ⟨by rfl, ?_⟩) ?_ ?_
   rotate_left
   ·intro w'
    go_simp
    with_reducible rfl
   rotate_left
   ·simp only [Act.put, sA_, sB_, sC_, i64_w, i32_w]
    rfl
   refine one_ (i := 10) (N := none) (tf 12 2047) rfl rfl (one_of HT_.out (by kernel_rfl)) (by decide) (fun K hK => ?_)
   have hs18 : w17.cell? ⟨gb354, 0, none⟩ = some (.int .i64 0) := (blk_cell BK354.out 0).trans rfl
   have hfs18 := blk_frozen BK354.out 0
   have hns18_0 := NB352_354.out
   have hns18_1 := NB353_354.out
   have hms18_0 := NB354_352.out
   have hms18_1 := NB354_353.out
   have hs19 : w17.cell? ⟨gb354, 1, none⟩ = some (.int .u64 0) := (blk_cell BK354.out 1).trans rfl
   have hfs19 := blk_frozen BK354.out 1
   have hns19_0 := NB352_354.out
   have hns19_1 := NB353_354.out
   have hms19_0 := NB354_352.out
   have hms19_1 := NB354_353.out
   have hs20 : w17.cell? ⟨gb354, 2, none⟩ = some (.string ⟨#[]⟩) := (blk_cell BK354.out 2).trans rfl
   have hfs20 := blk_frozen BK354.out 2
   have hns20_0 := NB352_354.out
   have hns20_1 := NB353_354.out
   have hms20_0 := NB354_352.out
   have hms20_1 := NB354_353.out
   have hs21 : w17.cell? ⟨gb354, 3, none⟩ = some (.int .i64 0) := (blk_cell BK354.out 3).trans rfl
   have hfs21 := blk_frozen BK354.out 3
   have hns21_0 := NB352_354.out
   have hns21_1 := NB353_354.out
   have hms21_0 := NB354_352.out
   have hms21_1 := NB354_353.out
   refine skip_ (w1 := ?_) (by rfl) rfl ?_ ?_
   rotate_left
   ·go_simp
    rfl
   refine hK.out _ _ ⟨((cell_far (p := ⟨gb354, _, none⟩) NB352_354.out _).trans (((cell_far (p := ⟨gb354, _, none⟩) NB352_354.out _).trans (((cell_far (p := ⟨gb354, _, none⟩) NB352_354.out _).trans (((cell_far (p := ⟨gb354, _, none⟩) NB352_354.out _).trans (hHeld.1)))))))), ((cell_far (p := ⟨gb354, _, none⟩) NB352_354.out _).trans (((cell_far (p := ⟨gb354, _, none⟩) NB352_354.out _).trans (((cell_far (p := ⟨gb354, _, none⟩) NB352_354.out _).trans (((cell_far (p := ⟨gb354, _, none⟩) NB352_354.out _).trans (hHeld.2.1)))))))), ((cell_far (p := ⟨gb354, _, none⟩) NB352_354.out _).trans (((cell_far (p := ⟨gb354, _, none⟩) NB352_354.out _).trans (((cell_far (p := ⟨gb354, _, none⟩) NB352_354.out _).trans (((cell_far (p := ⟨gb354, _, none⟩) NB352_354.out _).trans (hHeld.2.2.1)))))))), ((cell_far (p := ⟨gb354, _, none⟩) NB352_354.out _).trans (((cell_far (p := ⟨gb354, _, none⟩) NB352_354.out _).trans (((cell_far (p := ⟨gb354, _, none⟩) NB352_354.out _).trans (((cell_far (p := ⟨gb354, _, none⟩) NB352_354.out _).trans (hHeld.2.2.2.1)))))))), ((cell_far (p := ⟨gb354, _, none⟩) NB353_354.out _).trans (((cell_far (p := ⟨gb354, _, none⟩) NB353_354.out _).trans (((cell_far (p := ⟨gb354, _, none⟩) NB353_354.out _).trans (((cell_far (p := ⟨gb354, _, none⟩) NB353_354.out _).trans (hHeld.2.2.2.2.1)))))))), ((cell_far (p := ⟨gb354, _, none⟩) NB353_354.out _).trans (((cell_far (p := ⟨gb354, _, none⟩) NB353_354.out _).trans (((cell_far (p := ⟨gb354, _, none⟩) NB353_354.out _).trans (((cell_far (p := ⟨gb354, _, none⟩) NB353_354.out _).trans (hHeld.2.2.2.2.2.1)))))))), ((cell_far (p := ⟨gb354, _, none⟩) NB353_354.out _).trans (((cell_far (p := ⟨gb354, _, none⟩) NB353_354.out _).trans (((cell_far (p := ⟨gb354, _, none⟩) NB353_354.out _).trans (((cell_far (p := ⟨gb354, _, none⟩) NB353_354.out _).trans (hHeld.2.2.2.2.2.2.1)))))))), ((cell_far (p := ⟨gb354, _, none⟩) NB353_354.out _).trans (((cell_far (p := ⟨gb354, _, none⟩) NB353_354.out _).trans (((cell_far (p := ⟨gb354, _, none⟩) NB353_354.out _).trans (((cell_far (p := ⟨gb354, _, none⟩) NB353_354.out _).trans (hHeld.2.2.2.2.2.2.2))))))))⟩ (fun hHeld => ?_)
   clear hK K
   refine pure_ (i := 11) (N := some 5) (v := ?_) (a' := ?_) (tf 12 4095) rfl rfl (any_of HT_.out (by kernel_rfl)) (fun _ _ _ h => h) (Or.inl ⟨by rfl, ?_⟩) ?_ ?_
   rotate_left
   ·intro w'
    go_simp
    with_reducible rfl
   rotate_left
   ·simp only [Act.put, sA_, sB_, sC_, i64_w, i32_w]
    rfl
   refine done_ (done_of HT_.out (by kernel_rfl)) ?_
   try go_wp2
   refine bodyPost_ret (results_ct rfl _ _ gb354 24 #[.int .i64 t357, .int .u64 t358, .string t359, .int .i64 t360] (0, 0) _ rfl (by (with_reducible repeat (first | apply kN_ | apply kD_ | apply kA_)); refine blk_put (cs := #[.int .i64 t357, .int .u64 t358, .string t359, .int .i64 0]) ?_ 3 _ rfl; (with_reducible repeat (first | apply kN_ | apply kD_ | apply kA_)); refine blk_put (cs := #[.int .i64 t357, .int .u64 t358, .string ⟨#[]⟩, .int .i64 0]) ?_ 2 _ rfl; (with_reducible repeat (first | apply kN_ | apply kD_ | apply kA_)); refine blk_put (cs := #[.int .i64 t357, .int .u64 0, .string ⟨#[]⟩, .int .i64 0]) ?_ 1 _ rfl; (with_reducible repeat (first | apply kN_ | apply kD_ | apply kA_)); refine blk_put (cs := #[.int .i64 0, .int .u64 0, .string ⟨#[]⟩, .int .i64 0]) ?_ 0 _ rfl; (with_reducible repeat (first | apply kN_ | apply kD_ | apply kA_)); exact BK354.out) Tryz.underlying24 rfl (by kernel_rfl)) rfl ?_
   exact ⟨by first | rfl | (simp [errW_none, errW_some] <;> rfl) | (simp [*, errW_none, errW_some] <;> rfl), by repeat (first | (with_reducible first | exact HB.out | apply bA_ | apply bN_ | apply bD_ | refine bS_ ?_ GE352.out | refine bS_ ?_ GE353.out | refine bS_ ?_ GE354.out) | exact HB.out)⟩
  ·rw [if_neg c6] at H
   exact absurd H (by simp)
 ·rw [if_neg c3] at H
  have c3b0 : (a0_0 == 1) = false := beq_eq_false_iff_ne.mpr c3
  have c3b1 : (a0_0 != 1) = true := bne_iff_ne.mpr c3
  by_cases c22 : a0_2.size + a1_2.size ≤ 9223372036854775807
  ·rw [if_pos c22] at H
   have c22b0 := eq_true c22
   have c22b1 : decide (a0_2.size + a1_2.size ≤ 9223372036854775807) = true := decide_eq_true c22
   try have c22b2 : (9223372036854775807 < a0_2.size + a1_2.size) = False := eq_false (Nat.not_lt.2 c22)
   clear c22
   replace H := Option.bind_eq_some_iff.mp H
   obtain ⟨⟨t362, t363, t364, t365, t366⟩, A230, H⟩ := H
   replace H : (some (t362, t363, t364, t365, t366)) = some (r1, r2, r3, r4, r5) := H
   have A23 := Aside0.mk A230
   clear A230
   simp only [Option.some.injEq, Prod.mk.injEq] at H
   obtain ⟨rfl, rfl, rfl, rfl, rfl⟩ := H
   go_enter Tryz.func78, Tryz.ntmps78
   go_wp2_with (first | ((with_reducible refine gate_dst (N := 2) rfl ?_); refine box_event ?hg (N := 2) ?hd (cs := #[.int .i64 a0_0, .int .u64 a0_1, .string a0_2, .int .i64 a0_3]) (t := 24) ?hr ?_; (case hd => rfl); (case hg => rfl); (case hr => first | (go_simp; done) | (go_simp; rfl)); intro gb352 hg w24 hbox hb; replace HB := sqN_ (by repeat (first | (with_reducible first | exact HB.out | apply bA_ | apply bN_ | apply bD_) | exact HB.out)) hg hb; obtain ⟨HB, GE352⟩ := HB; have BK352 := Aside0.mk hbox; clear hb hbox hg) | ((with_reducible refine gate_dst (N := 3) rfl ?_); refine box_event ?hg (N := 3) ?hd (cs := #[.int .i64 a1_0, .int .u64 a1_1, .string a1_2, .int .i64 a1_3]) (t := 24) ?hr ?_; (case hd => rfl); (case hg => rfl); (case hr => first | (go_simp; done) | (go_simp; rfl)); intro gb353 hg w25 hbox hb; replace BK352 := sqO_ (g := gb352) (by (with_reducible repeat (first | apply kN_ | apply kD_ | apply kA_)); exact BK352.out) hg hb; obtain ⟨BK352, NB352_353, NB353_352⟩ := BK352; replace HB := sqN_ (by repeat (first | (with_reducible first | exact HB.out | apply bA_ | apply bN_ | apply bD_ | refine bS_ ?_ GE352.out) | exact HB.out)) hg hb; obtain ⟨HB, GE353⟩ := HB; have BK353 := Aside0.mk hbox; clear hb hbox hg) | ((with_reducible refine gate_dst (N := 4) rfl ?_); refine box_event ?hg (N := 4) ?hd (cs := #[.int .i64 0, .int .u64 0, .string ⟨#[]⟩, .int .i64 0]) (t := 24) ?hr ?_; (case hd => rfl); (case hg => rfl); (case hr => first | (go_simp; done) | (go_simp; rfl)); intro gb354 hg w26 hbox hb; replace BK352 := sqO_ (g := gb352) (by (with_reducible repeat (first | apply kN_ | apply kD_ | apply kA_)); exact BK352.out) hg hb; obtain ⟨BK352, NB352_354, NB354_352⟩ := BK352; replace BK353 := sqO_ (g := gb353) (by (with_reducible repeat (first | apply kN_ | apply kD_ | apply kA_)); exact BK353.out) hg hb; obtain ⟨BK353, NB353_354, NB354_353⟩ := BK353; replace HB := sqN_ (by repeat (first | (with_reducible first | exact HB.out | apply bA_ | apply bN_ | apply bD_ | refine bS_ ?_ GE352.out | refine bS_ ?_ GE353.out) | exact HB.out)) hg hb; obtain ⟨HB, GE354⟩ := HB; have BK354 := Aside0.mk hbox; clear hb hbox hg; have hnb27 := NB352_353.out; have hnc27 := NB353_352.out; have hnb28 := NB352_354.out; have hnc28 := NB354_352.out; obtain ⟨hcz29_0, hcz29_1, hcz29_2, hcz29_3⟩ := cells4_ BK352.out; obtain ⟨hfz29_0, hfz29_1, hfz29_2, hfz29_3⟩ := froz4_ BK352.out; have hnb30 := NB353_354.out; have hnc30 := NB354_353.out; obtain ⟨hcz31_0, hcz31_1, hcz31_2, hcz31_3⟩ := cells4_ BK353.out; obtain ⟨hfz31_0, hfz31_1, hfz31_2, hfz31_3⟩ := froz4_ BK353.out) | ((with_reducible refine gate_callee (f := 40) rfl ?_); refine goesL_ (some 26) rfl rfl Tryz.func40 (by kernel_rfl) rfl #[.int .i64 a0_0, .string (a0_2 ++ a1_2)] rfl (by (try simp only [List.map_toArray, List.map_cons, List.map_nil]); first | done | rfl) ?_; (with_reducible refine (value_bytes.calls a0_0 (a0_2 ++ a1_2) t362 t363 t364 t365 t366 _ A23.out).mono ?_); rintro e w32 ⟨rfl, hb⟩; refine ⟨_, rfl, ?_⟩; replace BK352 := sqB_ (g := gb352) (by (with_reducible repeat (first | apply kN_ | apply kD_ | apply kA_)); exact BK352.out) hb; replace BK353 := sqB_ (g := gb353) (by (with_reducible repeat (first | apply kN_ | apply kD_ | apply kA_)); exact BK353.out) hb; replace BK354 := sqB_ (g := gb354) (by (with_reducible repeat (first | apply kN_ | apply kD_ | apply kA_)); exact BK354.out) hb; replace HB := sqS_ (by repeat (first | (with_reducible first | exact HB.out | apply bA_ | apply bN_ | apply bD_ | refine bS_ ?_ GE352.out | refine bS_ ?_ GE353.out | refine bS_ ?_ GE354.out) | exact HB.out)) hb; (try clear hb); (try clear hb2); (try clear hk); (try clear hi); obtain ⟨hcz33_0, hcz33_1, hcz33_2, hcz33_3⟩ := cells4_ BK354.out; obtain ⟨hfz33_0, hfz33_1, hfz33_2, hfz33_3⟩ := froz4_ BK354.out))
   refine bodyPost_ret (results_ct rfl _ _ gb354 24 #[.int .i64 t362, .int .u64 t363, .string t364, .int .i64 t365] (0, 0) _ rfl (by (with_reducible repeat (first | apply kN_ | apply kD_ | apply kA_)); refine blk_put (cs := #[.int .i64 t362, .int .u64 t363, .string t364, .int .i64 0]) ?_ 3 _ rfl; (with_reducible repeat (first | apply kN_ | apply kD_ | apply kA_)); refine blk_put (cs := #[.int .i64 t362, .int .u64 t363, .string ⟨#[]⟩, .int .i64 0]) ?_ 2 _ rfl; (with_reducible repeat (first | apply kN_ | apply kD_ | apply kA_)); refine blk_put (cs := #[.int .i64 t362, .int .u64 0, .string ⟨#[]⟩, .int .i64 0]) ?_ 1 _ rfl; (with_reducible repeat (first | apply kN_ | apply kD_ | apply kA_)); refine blk_put (cs := #[.int .i64 0, .int .u64 0, .string ⟨#[]⟩, .int .i64 0]) ?_ 0 _ rfl; (with_reducible repeat (first | apply kN_ | apply kD_ | apply kA_)); exact BK354.out) Tryz.underlying24 rfl (by kernel_rfl)) rfl ?_
   exact ⟨by first | rfl | (simp [errW_none, errW_some] <;> rfl) | (simp [*, errW_none, errW_some] <;> rfl), by repeat (first | (with_reducible first | exact HB.out | apply bA_ | apply bN_ | apply bD_ | refine bS_ ?_ GE352.out | refine bS_ ?_ GE353.out | refine bS_ ?_ GE354.out) | exact HB.out)⟩
  ·rw [if_neg c22] at H
   exact absurd H (by simp)

/-! ### value_matched: function 57 -/
def value_matched.j0 : Nat → Int → Bool → Int → Int → ByteArray → Int → Int → Int → ByteArray → Int → Option (Int × Int × ByteArray × Int × Int)
 | 0, _, _, _, _, _, _, _, _, _, _ => none
 | k + 1, x0, x21, x368000, x368001, x368002, x368003, x369000, x369001, x369002, x369003 => if x21 = true then (some (0, 0, (⟨#[]⟩ : ByteArray), 0, 10)) else ((value_Convert.f k x369000 x369001 x369002 x369003 x368000).bind fun bt370 => (if bt370.2.2.2.2 = 0 then (if x0 = 72 then ((value_order.f x368000 x368001 x368002 x368003 bt370.1 bt370.2.1 bt370.2.2.1 bt370.2.2.2.1).bind fun t375 => ((value_boolean.f (t375 == 0)).bind fun bt376 => (some (bt376.1, bt376.2.1, bt376.2.2.1, bt376.2.2.2, 0)))) else (if x0 = 73 then ((value_order.f x368000 x368001 x368002 x368003 bt370.1 bt370.2.1 bt370.2.2.1 bt370.2.2.2.1).bind fun t380 => ((value_boolean.f (decide (t380 < 0))).bind fun bt381 => (some (bt381.1, bt381.2.1, bt381.2.2.1, bt381.2.2.2, 0)))) else (if x0 = 74 then ((value_order.f x368000 x368001 x368002 x368003 bt370.1 bt370.2.1 bt370.2.2.1 bt370.2.2.2.1).bind fun t385 => ((value_boolean.f (decide (t385 > 0))).bind fun bt386 => (some (bt386.1, bt386.2.1, bt386.2.2.1, bt386.2.2.2, 0)))) else ((value_concatenate.f k x368000 x368001 x368002 x368003 bt370.1 bt370.2.1 bt370.2.2.1 bt370.2.2.2.1).bind fun bt390 => (some (bt390.1, bt390.2.1, bt390.2.2.1, bt390.2.2.2.1, bt390.2.2.2.2)))))) else (some (0, 0, (⟨#[]⟩ : ByteArray), 0, bt370.2.2.2.2))))
def value_matched.f (k : Nat) (a0 : Int) (a1_0 : Int) (a1_1 : Int) (a1_2 : ByteArray) (a1_3 : Int) (a2_0 : Int) (a2_1 : Int) (a2_2 : ByteArray) (a2_3 : Int) : Option (Int × Int × ByteArray × Int × Int) := if a1_0 = 1 then (value_matched.j0 k a0 false a1_0 a1_1 a1_2 a1_3 a2_0 a2_1 a2_2 a2_3) else (if a1_0 = 2 then (value_matched.j0 k a0 false a1_0 a1_1 a1_2 a1_3 a2_0 a2_1 a2_2 a2_3) else (value_matched.j0 k a0 (a1_0 != 3) a1_0 a1_1 a1_2 a1_3 a2_0 a2_1 a2_2 a2_3))
theorem value_matched.mono_l : ∀ k, (∀ y0 y1 y2 y3 y4 y5 y6 y7 y8 y9, LeO (value_matched.j0 k y0 y1 y2 y3 y4 y5 y6 y7 y8 y9) (value_matched.j0 (k + 1) y0 y1 y2 y3 y4 y5 y6 y7 y8 y9))
 | 0 => fun _ _ _ _ _ _ _ _ _ _ r h => by simp [value_matched.j0] at h
 | k + 1 => by
  have ih0 := value_matched.mono_l k
  ·intro y0 y1 y2 y3 y4 y5 y6 y7 y8 y9
   unfold value_matched.j0
   repeat' first
   | (with_reducible exact ih0 _ _ _ _ _ _ _ _ _ _)
   | (with_reducible exact value_Convert.mono _ _ _ _ _ _)
   | (with_reducible exact value_concatenate.mono _ _ _ _ _ _ _ _ _)
   | (with_reducible exact LeO.refl _)
   | (with_reducible exact LeO.none _)
   | (with_reducible refine LeO.ite ?_ ?_)
   | (with_reducible refine LeO.bind ?_ (fun _ => ?_))
   | exact ih0 _ _ _ _ _ _ _ _ _ _
   | exact value_Convert.mono _ _ _ _ _ _
   | exact value_concatenate.mono _ _ _ _ _ _ _ _ _
   | exact LeO.none _
   | refine LeO.ite ?_ ?_
   | refine LeO.bind ?_ (fun _ => ?_)
theorem value_matched.mono : ∀ a0 a1 a2 a3 a4 a5 a6 a7 a8 k, LeO (value_matched.f k a0 a1 a2 a3 a4 a5 a6 a7 a8) (value_matched.f (k + 1) a0 a1 a2 a3 a4 a5 a6 a7 a8) := by
 intro a0 a1 a2 a3 a4 a5 a6 a7 a8 k
 have ih0 := value_matched.mono_l k
 unfold value_matched.f
 repeat' first
   | (with_reducible exact ih0 _ _ _ _ _ _ _ _ _ _)
   | (with_reducible exact value_Convert.mono _ _ _ _ _ _)
   | (with_reducible exact value_concatenate.mono _ _ _ _ _ _ _ _ _)
   | (with_reducible exact LeO.refl _)
   | (with_reducible exact LeO.none _)
   | (with_reducible refine LeO.ite ?_ ?_)
   | (with_reducible refine LeO.bind ?_ (fun _ => ?_))
   | exact ih0 _ _ _ _ _ _ _ _ _ _
   | exact value_Convert.mono _ _ _ _ _ _
   | exact value_concatenate.mono _ _ _ _ _ _ _ _ _
   | exact LeO.none _
   | refine LeO.ite ?_ ?_
   | refine LeO.bind ?_ (fun _ => ?_)
set_option maxHeartbeats 8000000 in
set_option maxRecDepth 100000 in
theorem value_matched.calls (k : Nat) (a0 : Int) (a1_0 : Int) (a1_1 : Int) (a1_2 : ByteArray) (a1_3 : Int) (a2_0 : Int) (a2_1 : Int) (a2_2 : ByteArray) (a2_3 : Int) (r1 : Int) (r2 : Int) (r3 : ByteArray) (r4 : Int) (r5 : Int) (w : World) (hT_ : Tb w) (h : value_matched.f k a0 a1_0 a1_1 a1_2 a1_3 a2_0 a2_1 a2_2 a2_3 = some (r1, r2, r3, r4, r5)) :
  Calls Tryz.prog 57 #[.int .i64 a0, .agg #[.int .i64 a1_0, .int .u64 a1_1, .string a1_2, .int .i64 a1_3], .agg #[.int .i64 a2_0, .int .u64 a2_1, .string a2_2, .int .i64 a2_3]] w fun e w' => e = .returned (.tuple #[.agg #[.int .i64 r1, .int .u64 r2, .string r3, .int .i64 r4], .int .i64 r5]) ∧ Below w.heap.size w w' := by
 have HTT_ := Aside0.mk hT_
 clear hT_
 have hu24 := Tryz.underlying24
 have HB := Aside0.mk (Below.refl w.heap.size w)
 have H : (if a1_0 = 1 then (value_matched.j0 k a0 false a1_0 a1_1 a1_2 a1_3 a2_0 a2_1 a2_2 a2_3) else (if a1_0 = 2 then (value_matched.j0 k a0 false a1_0 a1_1 a1_2 a1_3 a2_0 a2_1 a2_2 a2_3) else (value_matched.j0 k a0 (a1_0 != 3) a1_0 a1_1 a1_2 a1_3 a2_0 a2_1 a2_2 a2_3))) = some (r1, r2, r3, r4, r5) := h
 clear h
 have HC4 := Aside0.mk H
 clear H
 go_enter Tryz.func57, Tryz.ntmps57
 go_upto_region 1 with (first | ((with_reducible refine gate_dst (N := 4) rfl ?_); refine box_event ?hg (N := 4) ?hd (cs := #[.int .i64 a1_0, .int .u64 a1_1, .string a1_2, .int .i64 a1_3]) (t := 24) ?hr ?_; (case hd => rfl); (case hg => rfl); (case hr => first | (go_simp; done) | (go_simp; rfl)); intro gb367 hg w5 hbox hb; replace HB := sqN_ (by repeat (first | (with_reducible first | exact HB.out | apply bA_ | apply bN_ | apply bD_) | exact HB.out)) hg hb; obtain ⟨HB, GE367⟩ := HB; have BK367 := Aside0.mk hbox; clear hb hbox hg) | ((with_reducible refine gate_dst (N := 5) rfl ?_); refine box_event ?hg (N := 5) ?hd (cs := #[.int .i64 a2_0, .int .u64 a2_1, .string a2_2, .int .i64 a2_3]) (t := 24) ?hr ?_; (case hd => rfl); (case hg => rfl); (case hr => first | (go_simp; done) | (go_simp; rfl)); intro gb368 hg w6 hbox hb; replace BK367 := sqO_ (g := gb367) (by (with_reducible repeat (first | apply kN_ | apply kD_ | apply kA_)); exact BK367.out) hg hb; obtain ⟨BK367, NB367_368, NB368_367⟩ := BK367; replace HB := sqN_ (by repeat (first | (with_reducible first | exact HB.out | apply bA_ | apply bN_ | apply bD_ | refine bS_ ?_ GE367.out) | exact HB.out)) hg hb; obtain ⟨HB, GE368⟩ := HB; have BK368 := Aside0.mk hbox; clear hb hbox hg) | ((with_reducible refine gate_dst (N := 6) rfl ?_); refine box_event ?hg (N := 6) ?hd (cs := #[.int .i64 0, .int .u64 0, .string ⟨#[]⟩, .int .i64 0]) (t := 24) ?hr ?_; (case hd => rfl); (case hg => rfl); (case hr => first | (go_simp; done) | (go_simp; rfl)); intro gb369 hg w7 hbox hb; replace BK367 := sqO_ (g := gb367) (by (with_reducible repeat (first | apply kN_ | apply kD_ | apply kA_)); exact BK367.out) hg hb; obtain ⟨BK367, NB367_369, NB369_367⟩ := BK367; replace BK368 := sqO_ (g := gb368) (by (with_reducible repeat (first | apply kN_ | apply kD_ | apply kA_)); exact BK368.out) hg hb; obtain ⟨BK368, NB368_369, NB369_368⟩ := BK368; replace HB := sqN_ (by repeat (first | (with_reducible first | exact HB.out | apply bA_ | apply bN_ | apply bD_ | refine bS_ ?_ GE367.out | refine bS_ ?_ GE368.out) | exact HB.out)) hg hb; obtain ⟨HB, GE369⟩ := HB; have BK369 := Aside0.mk hbox; clear hb hbox hg))
 (try simp only [Act.put, sA_, sB_, sC_])
 go_cut [21] (fun v21 wc => ∃ (kq : Nat) (x21_3 : Bool), v21 = .bool x21_3 ∧ Aside0 (value_matched.j0 kq a0 x21_3 a1_0 a1_1 a1_2 a1_3 a2_0 a2_1 a2_2 a2_3 = some (r1, r2, r3, r4, r5)) ∧ Aside0 (kq ≤ k) ∧ Aside0 (wc.heap[gb367]? = some (.cells #[.int .i64 a1_0, .int .u64 a1_1, .string a1_2, .int .i64 a1_3] 24 (0, 0))) ∧ Aside0 (wc.heap[gb368]? = some (.cells #[.int .i64 a2_0, .int .u64 a2_1, .string a2_2, .int .i64 a2_3] 24 (0, 0))) ∧ Aside0 (wc.heap[gb369]? = some (.cells #[.int .i64 0, .int .u64 0, .string ⟨#[]⟩, .int .i64 0] 24 (0, 0))) ∧ Aside0 (Below w.heap.size w wc))
 case first =>
  have H := HC4.out
  clear HC4
  by_cases c8 : a1_0 = 1
  ·rw [if_pos c8] at H
   have c8b0 : (a1_0 == 1) = true := beq_iff_eq.mpr c8
   have c8b1 : (a1_0 != 1) = false := bne_eq_false_iff_eq.mpr c8
   clear c8
   (first | rw [c8b0] | (simp only [i64_w, i32_w]; rw [c8b0]) | skip)
   have H' := Aside0.mk H
   clear H
   have hnb9 := NB367_368.out
   have hnc9 := NB368_367.out
   have hnb10 := NB367_369.out
   have hnc10 := NB369_367.out
   obtain ⟨hcz11_0, hcz11_1, hcz11_2, hcz11_3⟩ := cells4_ BK367.out
   obtain ⟨hfz11_0, hfz11_1, hfz11_2, hfz11_3⟩ := froz4_ BK367.out
   go_wp2
   go_meet
   case rel => exact ⟨_, (false), (by first | rfl | (simp; done) | (simp [*]; done)), H', ⟨by first | omega | exact Nat.le_refl _⟩, ⟨by (with_reducible repeat (first | apply kN_ | apply kD_ | apply kA_)); exact BK367.out⟩, ⟨by (with_reducible repeat (first | apply kN_ | apply kD_ | apply kA_)); exact BK368.out⟩, ⟨by (with_reducible repeat (first | apply kN_ | apply kD_ | apply kA_)); exact BK369.out⟩, ⟨by repeat (first | (with_reducible first | exact HB.out | apply bA_ | apply bN_ | apply bD_ | refine bS_ ?_ GE367.out | refine bS_ ?_ GE368.out | refine bS_ ?_ GE369.out) | exact HB.out)⟩⟩
  ·rw [if_neg c8] at H
   have c8b0 : (a1_0 == 1) = false := beq_eq_false_iff_ne.mpr c8
   have c8b1 : (a1_0 != 1) = true := bne_iff_ne.mpr c8
   (first | rw [c8b0] | (simp only [i64_w, i32_w]; rw [c8b0]) | skip)
   by_cases c12 : a1_0 = 2
   ·rw [if_pos c12] at H
    have c12b0 : (a1_0 == 2) = true := beq_iff_eq.mpr c12
    have c12b1 : (a1_0 != 2) = false := bne_eq_false_iff_eq.mpr c12
    clear c12
    have H' := Aside0.mk H
    clear H
    have hnb13 := NB367_368.out
    have hnc13 := NB368_367.out
    have hnb14 := NB367_369.out
    have hnc14 := NB369_367.out
    obtain ⟨hcz15_0, hcz15_1, hcz15_2, hcz15_3⟩ := cells4_ BK367.out
    obtain ⟨hfz15_0, hfz15_1, hfz15_2, hfz15_3⟩ := froz4_ BK367.out
    go_wp2
    go_meet
    case rel => exact ⟨_, (false), (by first | rfl | (simp; done) | (simp [*]; done)), H', ⟨by first | omega | exact Nat.le_refl _⟩, ⟨by (with_reducible repeat (first | apply kN_ | apply kD_ | apply kA_)); exact BK367.out⟩, ⟨by (with_reducible repeat (first | apply kN_ | apply kD_ | apply kA_)); exact BK368.out⟩, ⟨by (with_reducible repeat (first | apply kN_ | apply kD_ | apply kA_)); exact BK369.out⟩, ⟨by repeat (first | (with_reducible first | exact HB.out | apply bA_ | apply bN_ | apply bD_ | refine bS_ ?_ GE367.out | refine bS_ ?_ GE368.out | refine bS_ ?_ GE369.out) | exact HB.out)⟩⟩
   ·rw [if_neg c12] at H
    have c12b0 : (a1_0 == 2) = false := beq_eq_false_iff_ne.mpr c12
    have c12b1 : (a1_0 != 2) = true := bne_iff_ne.mpr c12
    have H' := Aside0.mk H
    clear H
    have hnb16 := NB367_368.out
    have hnc16 := NB368_367.out
    have hnb17 := NB367_369.out
    have hnc17 := NB369_367.out
    obtain ⟨hcz18_0, hcz18_1, hcz18_2, hcz18_3⟩ := cells4_ BK367.out
    obtain ⟨hfz18_0, hfz18_1, hfz18_2, hfz18_3⟩ := froz4_ BK367.out
    go_wp2
    go_meet
    case rel => exact ⟨_, ((a1_0 != 3)), (by first | rfl | (simp; done) | (simp [*]; done)), H', ⟨by first | omega | exact Nat.le_refl _⟩, ⟨by (with_reducible repeat (first | apply kN_ | apply kD_ | apply kA_)); exact BK367.out⟩, ⟨by (with_reducible repeat (first | apply kN_ | apply kD_ | apply kA_)); exact BK368.out⟩, ⟨by (with_reducible repeat (first | apply kN_ | apply kD_ | apply kA_)); exact BK369.out⟩, ⟨by repeat (first | (with_reducible first | exact HB.out | apply bA_ | apply bN_ | apply bD_ | refine bS_ ?_ GE367.out | refine bS_ ?_ GE368.out | refine bS_ ?_ GE369.out) | exact HB.out)⟩⟩
 case rest =>
  clear HC4
  try clear c1
  try clear p2
  try clear c5
  try clear c8
  try clear c8b0
  try clear c8b1
  try clear c9
  try clear c10
  try clear c12
  try clear c12b0
  try clear c12b1
  try clear c13
  try clear c14
  try clear c16
  try clear c17
  try clear hcz11_0 hcz11_1 hcz11_2 hcz11_3
  try clear hcz15_0 hcz15_1 hcz15_2 hcz15_3
  try clear hcz18_0 hcz18_1 hcz18_2 hcz18_3
  try clear hfz11_0 hfz11_1 hfz11_2 hfz11_3
  try clear hfz15_0 hfz15_1 hfz15_2 hfz15_3
  try clear hfz18_0 hfz18_1 hfz18_2 hfz18_3
  obtain ⟨kq, x21_3, rfl, HA, HJ3, BK367, BK368, BK369, HB⟩ := hcut
  cases kq with
  | zero => exact absurd HA.out (by simp [value_matched.j0])
  | succ kj3 =>
   have H := HA.out
   clear HA
   simp only [value_matched.j0] at H
   by_cases c19 : x21_3 = true
   ·subst c19
    have H1 : (some (0, 0, (⟨#[]⟩ : ByteArray), 0, 10)) = some (r1, r2, r3, r4, r5) := by rw [if_pos rfl] at H; exact H
    clear H
    have H := H1
    clear H1
    simp only [Option.some.injEq, Prod.mk.injEq] at H
    obtain ⟨rfl, rfl, rfl, rfl, rfl⟩ := H
    have hnb20 := NB369_367.out
    have hnc20 := NB367_369.out
    have hnb21 := NB369_368.out
    have hnc21 := NB368_369.out
    obtain ⟨hcz22_0, hcz22_1, hcz22_2, hcz22_3⟩ := cells4_ BK369.out
    obtain ⟨hfz22_0, hfz22_1, hfz22_2, hfz22_3⟩ := froz4_ BK369.out
    go_wp2
    refine bodyPost_ret (results_ct rfl _ _ gb369 24 #[.int .i64 0, .int .u64 0, .string ⟨#[]⟩, .int .i64 0] (0, 0) _ rfl (by (with_reducible repeat (first | apply kN_ | apply kD_ | apply kA_)); refine blk_put (cs := #[.int .i64 0, .int .u64 0, .string ⟨#[]⟩, .int .i64 0]) ?_ 3 _ rfl; (with_reducible repeat (first | apply kN_ | apply kD_ | apply kA_)); refine blk_put (cs := #[.int .i64 0, .int .u64 0, .string ⟨#[]⟩, .int .i64 0]) ?_ 2 _ rfl; (with_reducible repeat (first | apply kN_ | apply kD_ | apply kA_)); refine blk_put (cs := #[.int .i64 0, .int .u64 0, .string ⟨#[]⟩, .int .i64 0]) ?_ 1 _ rfl; (with_reducible repeat (first | apply kN_ | apply kD_ | apply kA_)); refine blk_put (cs := #[.int .i64 0, .int .u64 0, .string ⟨#[]⟩, .int .i64 0]) ?_ 0 _ rfl; (with_reducible repeat (first | apply kN_ | apply kD_ | apply kA_)); exact BK369.out) Tryz.underlying24 rfl (by kernel_rfl)) rfl ?_
    exact ⟨by first | rfl | (simp [errW_none, errW_some] <;> rfl) | (simp [*, errW_none, errW_some] <;> rfl), by repeat (first | (with_reducible first | exact HB.out | apply bA_ | apply bN_ | apply bD_ | refine bS_ ?_ GE367.out | refine bS_ ?_ GE368.out | refine bS_ ?_ GE369.out) | exact HB.out)⟩
   ·replace c19 := Bool.eq_false_iff.mpr c19
    subst c19
    have H1 : ((value_Convert.f kj3 a2_0 a2_1 a2_2 a2_3 a1_0).bind fun bt370 => (if bt370.2.2.2.2 = 0 then (if a0 = 72 then ((value_order.f a1_0 a1_1 a1_2 a1_3 bt370.1 bt370.2.1 bt370.2.2.1 bt370.2.2.2.1).bind fun t375 => ((value_boolean.f (t375 == 0)).bind fun bt376 => (some (bt376.1, bt376.2.1, bt376.2.2.1, bt376.2.2.2, 0)))) else (if a0 = 73 then ((value_order.f a1_0 a1_1 a1_2 a1_3 bt370.1 bt370.2.1 bt370.2.2.1 bt370.2.2.2.1).bind fun t380 => ((value_boolean.f (decide (t380 < 0))).bind fun bt381 => (some (bt381.1, bt381.2.1, bt381.2.2.1, bt381.2.2.2, 0)))) else (if a0 = 74 then ((value_order.f a1_0 a1_1 a1_2 a1_3 bt370.1 bt370.2.1 bt370.2.2.1 bt370.2.2.2.1).bind fun t385 => ((value_boolean.f (decide (t385 > 0))).bind fun bt386 => (some (bt386.1, bt386.2.1, bt386.2.2.1, bt386.2.2.2, 0)))) else ((value_concatenate.f kj3 a1_0 a1_1 a1_2 a1_3 bt370.1 bt370.2.1 bt370.2.2.1 bt370.2.2.2.1).bind fun bt390 => (some (bt390.1, bt390.2.1, bt390.2.2.1, bt390.2.2.2.1, bt390.2.2.2.2)))))) else (some (0, 0, (⟨#[]⟩ : ByteArray), 0, bt370.2.2.2.2)))) = some (r1, r2, r3, r4, r5) := by rw [if_neg (show ¬ (false = true) by decide)] at H; exact H
    clear H
    have H := H1
    clear H1
    replace H := Option.bind_eq_some_iff.mp H
    obtain ⟨⟨t370, t371, t372, t373, t374⟩, A230, H⟩ := H
    replace H : (if t374 = 0 then (if a0 = 72 then ((value_order.f a1_0 a1_1 a1_2 a1_3 t370 t371 t372 t373).bind fun t375 => ((value_boolean.f (t375 == 0)).bind fun bt376 => (some (bt376.1, bt376.2.1, bt376.2.2.1, bt376.2.2.2, 0)))) else (if a0 = 73 then ((value_order.f a1_0 a1_1 a1_2 a1_3 t370 t371 t372 t373).bind fun t380 => ((value_boolean.f (decide (t380 < 0))).bind fun bt381 => (some (bt381.1, bt381.2.1, bt381.2.2.1, bt381.2.2.2, 0)))) else (if a0 = 74 then ((value_order.f a1_0 a1_1 a1_2 a1_3 t370 t371 t372 t373).bind fun t385 => ((value_boolean.f (decide (t385 > 0))).bind fun bt386 => (some (bt386.1, bt386.2.1, bt386.2.2.1, bt386.2.2.2, 0)))) else ((value_concatenate.f kj3 a1_0 a1_1 a1_2 a1_3 t370 t371 t372 t373).bind fun bt390 => (some (bt390.1, bt390.2.1, bt390.2.2.1, bt390.2.2.2.1, bt390.2.2.2.2)))))) else (some (0, 0, (⟨#[]⟩ : ByteArray), 0, t374))) = some (r1, r2, r3, r4, r5) := H
    have A23 := Aside0.mk A230
    clear A230
    by_cases c24 : t374 = 0
    ·rw [if_pos c24] at H
     have c24b0 : (t374 == 0) = true := beq_iff_eq.mpr c24
     have c24b1 : (t374 != 0) = false := bne_eq_false_iff_eq.mpr c24
     clear c24
     by_cases c25 : a0 = 72
     ·rw [if_pos c25] at H
      have c25b0 : (a0 == 72) = true := beq_iff_eq.mpr c25
      have c25b1 : (a0 != 72) = false := bne_eq_false_iff_eq.mpr c25
      clear c25
      replace H := Option.bind_eq_some_iff.mp H
      obtain ⟨t375, A260, H⟩ := H
      replace H : ((value_boolean.f (t375 == 0)).bind fun bt376 => (some (bt376.1, bt376.2.1, bt376.2.2.1, bt376.2.2.2, 0))) = some (r1, r2, r3, r4, r5) := H
      have A26 := Aside0.mk A260
      clear A260
      replace H := Option.bind_eq_some_iff.mp H
      obtain ⟨⟨t376, t377, t378, t379⟩, A270, H⟩ := H
      replace H : (some (t376, t377, t378, t379, 0)) = some (r1, r2, r3, r4, r5) := H
      have A27 := Aside0.mk A270
      clear A270
      simp only [Option.some.injEq, Prod.mk.injEq] at H
      obtain ⟨rfl, rfl, rfl, rfl, rfl⟩ := H
      have hnb28 := NB368_367.out
      have hnc28 := NB367_368.out
      have hnb29 := NB368_369.out
      have hnc29 := NB369_368.out
      obtain ⟨hcz30_0, hcz30_1, hcz30_2, hcz30_3⟩ := cells4_ BK368.out
      obtain ⟨hfz30_0, hfz30_1, hfz30_2, hfz30_3⟩ := froz4_ BK368.out
      have hnb31 := NB367_369.out
      have hnc31 := NB369_367.out
      obtain ⟨hcz32_0, hcz32_1, hcz32_2, hcz32_3⟩ := cells4_ BK367.out
      obtain ⟨hfz32_0, hfz32_1, hfz32_2, hfz32_3⟩ := froz4_ BK367.out
      go_wp2_with (first | ((with_reducible refine gate_callee (f := 15) rfl ?_); refine goesL_ (some 27) rfl rfl Tryz.func15 (by kernel_rfl) rfl #[.agg #[.int .i64 a2_0, .int .u64 a2_1, .string a2_2, .int .i64 a2_3], .int .i64 a1_0] rfl (by (try simp only [List.map_toArray, List.map_cons, List.map_nil]); first | done | rfl) ?_; (with_reducible refine (value_Convert.calls kj3 a2_0 a2_1 a2_2 a2_3 a1_0 t370 t371 t372 t373 t374 _ ?hTT_ A23.out).mono ?_); (case hTT_ => exact tbT_below HTT_.out (by repeat (first | (with_reducible first | exact HB.out | apply bA_ | apply bN_ | apply bD_ | refine bS_ ?_ GE367.out | refine bS_ ?_ GE368.out | refine bS_ ?_ GE369.out) | exact HB.out))); rintro e w33 ⟨rfl, hb⟩; refine ⟨_, rfl, ?_⟩; replace BK367 := sqB_ (g := gb367) (by (with_reducible repeat (first | apply kN_ | apply kD_ | apply kA_)); exact BK367.out) hb; replace BK368 := sqB_ (g := gb368) (by (with_reducible repeat (first | apply kN_ | apply kD_ | apply kA_)); exact BK368.out) hb; replace BK369 := sqB_ (g := gb369) (by (with_reducible repeat (first | apply kN_ | apply kD_ | apply kA_)); exact BK369.out) hb; replace HB := sqS_ (by repeat (first | (with_reducible first | exact HB.out | apply bA_ | apply bN_ | apply bD_ | refine bS_ ?_ GE367.out | refine bS_ ?_ GE368.out | refine bS_ ?_ GE369.out) | exact HB.out)) hb; (try clear hb); (try clear hb2); (try clear hk); (try clear hi); obtain ⟨hcz34_0, hcz34_1, hcz34_2, hcz34_3⟩ := cells4_ BK368.out; obtain ⟨hfz34_0, hfz34_1, hfz34_2, hfz34_3⟩ := froz4_ BK368.out; obtain ⟨hcz35_0, hcz35_1, hcz35_2, hcz35_3⟩ := cells4_ BK367.out; obtain ⟨hfz35_0, hfz35_1, hfz35_2, hfz35_3⟩ := froz4_ BK367.out) | ((with_reducible refine gate_callee (f := 77) rfl ?_); refine goesL_ (some 39) rfl rfl Tryz.func77 (by kernel_rfl) rfl #[.agg #[.int .i64 a1_0, .int .u64 a1_1, .string a1_2, .int .i64 a1_3], .agg #[.int .i64 t370, .int .u64 t371, .string t372, .int .i64 t373]] rfl (by (try simp only [List.map_toArray, List.map_cons, List.map_nil]); first | done | rfl) ?_; (with_reducible refine (value_order.calls a1_0 a1_1 a1_2 a1_3 t370 t371 t372 t373 t375 _ A26.out).mono ?_); rintro e w36 ⟨rfl, hb⟩; refine ⟨_, rfl, ?_⟩; replace HB := sqS_ (by repeat (first | (with_reducible first | exact HB.out | apply bA_ | apply bN_ | apply bD_ | refine bS_ ?_ GE367.out | refine bS_ ?_ GE368.out | refine bS_ ?_ GE369.out) | exact HB.out)) hb; replace BK367 := Aside0.mk (blk_below (g := gb367) (o := .cells #[.int .i64 a1_0, .int .u64 a1_1, .string a1_2, .int .i64 a1_3] 24 (0, 0)) (by (with_reducible repeat (first | apply kN_ | apply kD_ | apply kA_)); refine blk_far ?_ NB367_368.out _; (with_reducible repeat (first | apply kN_ | apply kD_ | apply kA_)); refine blk_far ?_ NB367_368.out _; (with_reducible repeat (first | apply kN_ | apply kD_ | apply kA_)); refine blk_far ?_ NB367_368.out _; (with_reducible repeat (first | apply kN_ | apply kD_ | apply kA_)); refine blk_far ?_ NB367_368.out _; (with_reducible repeat (first | apply kN_ | apply kD_ | apply kA_)); exact BK367.out) hb); replace BK368 := Aside0.mk (blk_below (g := gb368) (o := .cells #[.int .i64 t370, .int .u64 t371, .string t372, .int .i64 t373] 24 (0, 0)) (by (with_reducible repeat (first | apply kN_ | apply kD_ | apply kA_)); refine blk_put (cs := #[.int .i64 t370, .int .u64 t371, .string t372, .int .i64 a2_3]) ?_ 3 _ rfl; (with_reducible repeat (first | apply kN_ | apply kD_ | apply kA_)); refine blk_put (cs := #[.int .i64 t370, .int .u64 t371, .string a2_2, .int .i64 a2_3]) ?_ 2 _ rfl; (with_reducible repeat (first | apply kN_ | apply kD_ | apply kA_)); refine blk_put (cs := #[.int .i64 t370, .int .u64 a2_1, .string a2_2, .int .i64 a2_3]) ?_ 1 _ rfl; (with_reducible repeat (first | apply kN_ | apply kD_ | apply kA_)); refine blk_put (cs := #[.int .i64 a2_0, .int .u64 a2_1, .string a2_2, .int .i64 a2_3]) ?_ 0 _ rfl; (with_reducible repeat (first | apply kN_ | apply kD_ | apply kA_)); exact BK368.out) hb); replace BK369 := Aside0.mk (blk_below (g := gb369) (o := .cells #[.int .i64 0, .int .u64 0, .string ⟨#[]⟩, .int .i64 0] 24 (0, 0)) (by (with_reducible repeat (first | apply kN_ | apply kD_ | apply kA_)); refine blk_far ?_ NB369_368.out _; (with_reducible repeat (first | apply kN_ | apply kD_ | apply kA_)); refine blk_far ?_ NB369_368.out _; (with_reducible repeat (first | apply kN_ | apply kD_ | apply kA_)); refine blk_far ?_ NB369_368.out _; (with_reducible repeat (first | apply kN_ | apply kD_ | apply kA_)); refine blk_far ?_ NB369_368.out _; (with_reducible repeat (first | apply kN_ | apply kD_ | apply kA_)); exact BK369.out) hb); (try clear hb); (try clear hb2); (try clear hk); (try clear hi)) | ((with_reducible refine gate_callee (f := 12) rfl ?_); refine goesL_ (some 41) rfl rfl Tryz.func12 (by kernel_rfl) rfl #[.bool (t375 == 0)] rfl (by (try simp only [List.map_toArray, List.map_cons, List.map_nil]); first | done | rfl) ?_; (with_reducible refine (value_boolean.calls (t375 == 0) t376 t377 t378 t379 _ A27.out).mono ?_); rintro e w37 ⟨rfl, hb⟩; refine ⟨_, rfl, ?_⟩; replace BK367 := sqB_ (g := gb367) (by (with_reducible repeat (first | apply kN_ | apply kD_ | apply kA_)); exact BK367.out) hb; replace BK368 := sqB_ (g := gb368) (by (with_reducible repeat (first | apply kN_ | apply kD_ | apply kA_)); exact BK368.out) hb; replace BK369 := sqB_ (g := gb369) (by (with_reducible repeat (first | apply kN_ | apply kD_ | apply kA_)); exact BK369.out) hb; replace HB := sqS_ (by repeat (first | (with_reducible first | exact HB.out | apply bA_ | apply bN_ | apply bD_ | refine bS_ ?_ GE367.out | refine bS_ ?_ GE368.out | refine bS_ ?_ GE369.out) | exact HB.out)) hb; (try clear hb); (try clear hb2); (try clear hk); (try clear hi); obtain ⟨hcz38_0, hcz38_1, hcz38_2, hcz38_3⟩ := cells4_ BK369.out; obtain ⟨hfz38_0, hfz38_1, hfz38_2, hfz38_3⟩ := froz4_ BK369.out))
      refine bodyPost_ret (results_ct rfl _ _ gb369 24 #[.int .i64 t376, .int .u64 t377, .string t378, .int .i64 t379] (0, 0) _ rfl (by (with_reducible repeat (first | apply kN_ | apply kD_ | apply kA_)); refine blk_put (cs := #[.int .i64 t376, .int .u64 t377, .string t378, .int .i64 0]) ?_ 3 _ rfl; (with_reducible repeat (first | apply kN_ | apply kD_ | apply kA_)); refine blk_put (cs := #[.int .i64 t376, .int .u64 t377, .string ⟨#[]⟩, .int .i64 0]) ?_ 2 _ rfl; (with_reducible repeat (first | apply kN_ | apply kD_ | apply kA_)); refine blk_put (cs := #[.int .i64 t376, .int .u64 0, .string ⟨#[]⟩, .int .i64 0]) ?_ 1 _ rfl; (with_reducible repeat (first | apply kN_ | apply kD_ | apply kA_)); refine blk_put (cs := #[.int .i64 0, .int .u64 0, .string ⟨#[]⟩, .int .i64 0]) ?_ 0 _ rfl; (with_reducible repeat (first | apply kN_ | apply kD_ | apply kA_)); exact BK369.out) Tryz.underlying24 rfl (by kernel_rfl)) rfl ?_
      exact ⟨by first | rfl | (simp [errW_none, errW_some] <;> rfl) | (simp [*, errW_none, errW_some] <;> rfl), by repeat (first | (with_reducible first | exact HB.out | apply bA_ | apply bN_ | apply bD_ | refine bS_ ?_ GE367.out | refine bS_ ?_ GE368.out | refine bS_ ?_ GE369.out) | exact HB.out)⟩
     ·rw [if_neg c25] at H
      have c25b0 : (a0 == 72) = false := beq_eq_false_iff_ne.mpr c25
      have c25b1 : (a0 != 72) = true := bne_iff_ne.mpr c25
      by_cases c39 : a0 = 73
      ·rw [if_pos c39] at H
       have c39b0 : (a0 == 73) = true := beq_iff_eq.mpr c39
       have c39b1 : (a0 != 73) = false := bne_eq_false_iff_eq.mpr c39
       clear c39
       replace H := Option.bind_eq_some_iff.mp H
       obtain ⟨t380, A400, H⟩ := H
       replace H : ((value_boolean.f (decide (t380 < 0))).bind fun bt381 => (some (bt381.1, bt381.2.1, bt381.2.2.1, bt381.2.2.2, 0))) = some (r1, r2, r3, r4, r5) := H
       have A40 := Aside0.mk A400
       clear A400
       replace H := Option.bind_eq_some_iff.mp H
       obtain ⟨⟨t381, t382, t383, t384⟩, A410, H⟩ := H
       replace H : (some (t381, t382, t383, t384, 0)) = some (r1, r2, r3, r4, r5) := H
       have A41 := Aside0.mk A410
       clear A410
       simp only [Option.some.injEq, Prod.mk.injEq] at H
       obtain ⟨rfl, rfl, rfl, rfl, rfl⟩ := H
       have hnb42 := NB368_367.out
       have hnc42 := NB367_368.out
       have hnb43 := NB368_369.out
       have hnc43 := NB369_368.out
       obtain ⟨hcz44_0, hcz44_1, hcz44_2, hcz44_3⟩ := cells4_ BK368.out
       obtain ⟨hfz44_0, hfz44_1, hfz44_2, hfz44_3⟩ := froz4_ BK368.out
       have hnb45 := NB367_369.out
       have hnc45 := NB369_367.out
       obtain ⟨hcz46_0, hcz46_1, hcz46_2, hcz46_3⟩ := cells4_ BK367.out
       obtain ⟨hfz46_0, hfz46_1, hfz46_2, hfz46_3⟩ := froz4_ BK367.out
       go_wp2_with (first | ((with_reducible refine gate_callee (f := 15) rfl ?_); refine goesL_ (some 27) rfl rfl Tryz.func15 (by kernel_rfl) rfl #[.agg #[.int .i64 a2_0, .int .u64 a2_1, .string a2_2, .int .i64 a2_3], .int .i64 a1_0] rfl (by (try simp only [List.map_toArray, List.map_cons, List.map_nil]); first | done | rfl) ?_; (with_reducible refine (value_Convert.calls kj3 a2_0 a2_1 a2_2 a2_3 a1_0 t370 t371 t372 t373 t374 _ ?hTT_ A23.out).mono ?_); (case hTT_ => exact tbT_below HTT_.out (by repeat (first | (with_reducible first | exact HB.out | apply bA_ | apply bN_ | apply bD_ | refine bS_ ?_ GE367.out | refine bS_ ?_ GE368.out | refine bS_ ?_ GE369.out) | exact HB.out))); rintro e w47 ⟨rfl, hb⟩; refine ⟨_, rfl, ?_⟩; replace BK367 := sqB_ (g := gb367) (by (with_reducible repeat (first | apply kN_ | apply kD_ | apply kA_)); exact BK367.out) hb; replace BK368 := sqB_ (g := gb368) (by (with_reducible repeat (first | apply kN_ | apply kD_ | apply kA_)); exact BK368.out) hb; replace BK369 := sqB_ (g := gb369) (by (with_reducible repeat (first | apply kN_ | apply kD_ | apply kA_)); exact BK369.out) hb; replace HB := sqS_ (by repeat (first | (with_reducible first | exact HB.out | apply bA_ | apply bN_ | apply bD_ | refine bS_ ?_ GE367.out | refine bS_ ?_ GE368.out | refine bS_ ?_ GE369.out) | exact HB.out)) hb; (try clear hb); (try clear hb2); (try clear hk); (try clear hi); obtain ⟨hcz48_0, hcz48_1, hcz48_2, hcz48_3⟩ := cells4_ BK368.out; obtain ⟨hfz48_0, hfz48_1, hfz48_2, hfz48_3⟩ := froz4_ BK368.out; obtain ⟨hcz49_0, hcz49_1, hcz49_2, hcz49_3⟩ := cells4_ BK367.out; obtain ⟨hfz49_0, hfz49_1, hfz49_2, hfz49_3⟩ := froz4_ BK367.out) | ((with_reducible refine gate_callee (f := 77) rfl ?_); refine goesL_ (some 46) rfl rfl Tryz.func77 (by kernel_rfl) rfl #[.agg #[.int .i64 a1_0, .int .u64 a1_1, .string a1_2, .int .i64 a1_3], .agg #[.int .i64 t370, .int .u64 t371, .string t372, .int .i64 t373]] rfl (by (try simp only [List.map_toArray, List.map_cons, List.map_nil]); first | done | rfl) ?_; (with_reducible refine (value_order.calls a1_0 a1_1 a1_2 a1_3 t370 t371 t372 t373 t380 _ A40.out).mono ?_); rintro e w50 ⟨rfl, hb⟩; refine ⟨_, rfl, ?_⟩; replace HB := sqS_ (by repeat (first | (with_reducible first | exact HB.out | apply bA_ | apply bN_ | apply bD_ | refine bS_ ?_ GE367.out | refine bS_ ?_ GE368.out | refine bS_ ?_ GE369.out) | exact HB.out)) hb; replace BK367 := Aside0.mk (blk_below (g := gb367) (o := .cells #[.int .i64 a1_0, .int .u64 a1_1, .string a1_2, .int .i64 a1_3] 24 (0, 0)) (by (with_reducible repeat (first | apply kN_ | apply kD_ | apply kA_)); refine blk_far ?_ NB367_368.out _; (with_reducible repeat (first | apply kN_ | apply kD_ | apply kA_)); refine blk_far ?_ NB367_368.out _; (with_reducible repeat (first | apply kN_ | apply kD_ | apply kA_)); refine blk_far ?_ NB367_368.out _; (with_reducible repeat (first | apply kN_ | apply kD_ | apply kA_)); refine blk_far ?_ NB367_368.out _; (with_reducible repeat (first | apply kN_ | apply kD_ | apply kA_)); exact BK367.out) hb); replace BK368 := Aside0.mk (blk_below (g := gb368) (o := .cells #[.int .i64 t370, .int .u64 t371, .string t372, .int .i64 t373] 24 (0, 0)) (by (with_reducible repeat (first | apply kN_ | apply kD_ | apply kA_)); refine blk_put (cs := #[.int .i64 t370, .int .u64 t371, .string t372, .int .i64 a2_3]) ?_ 3 _ rfl; (with_reducible repeat (first | apply kN_ | apply kD_ | apply kA_)); refine blk_put (cs := #[.int .i64 t370, .int .u64 t371, .string a2_2, .int .i64 a2_3]) ?_ 2 _ rfl; (with_reducible repeat (first | apply kN_ | apply kD_ | apply kA_)); refine blk_put (cs := #[.int .i64 t370, .int .u64 a2_1, .string a2_2, .int .i64 a2_3]) ?_ 1 _ rfl; (with_reducible repeat (first | apply kN_ | apply kD_ | apply kA_)); refine blk_put (cs := #[.int .i64 a2_0, .int .u64 a2_1, .string a2_2, .int .i64 a2_3]) ?_ 0 _ rfl; (with_reducible repeat (first | apply kN_ | apply kD_ | apply kA_)); exact BK368.out) hb); replace BK369 := Aside0.mk (blk_below (g := gb369) (o := .cells #[.int .i64 0, .int .u64 0, .string ⟨#[]⟩, .int .i64 0] 24 (0, 0)) (by (with_reducible repeat (first | apply kN_ | apply kD_ | apply kA_)); refine blk_far ?_ NB369_368.out _; (with_reducible repeat (first | apply kN_ | apply kD_ | apply kA_)); refine blk_far ?_ NB369_368.out _; (with_reducible repeat (first | apply kN_ | apply kD_ | apply kA_)); refine blk_far ?_ NB369_368.out _; (with_reducible repeat (first | apply kN_ | apply kD_ | apply kA_)); refine blk_far ?_ NB369_368.out _; (with_reducible repeat (first | apply kN_ | apply kD_ | apply kA_)); exact BK369.out) hb); (try clear hb); (try clear hb2); (try clear hk); (try clear hi)) | ((with_reducible refine gate_callee (f := 12) rfl ?_); refine goesL_ (some 48) rfl rfl Tryz.func12 (by kernel_rfl) rfl #[.bool (decide (t380 < 0))] rfl (by (try simp only [List.map_toArray, List.map_cons, List.map_nil]); first | done | rfl) ?_; (with_reducible refine (value_boolean.calls (decide (t380 < 0)) t381 t382 t383 t384 _ A41.out).mono ?_); rintro e w51 ⟨rfl, hb⟩; refine ⟨_, rfl, ?_⟩; replace BK367 := sqB_ (g := gb367) (by (with_reducible repeat (first | apply kN_ | apply kD_ | apply kA_)); exact BK367.out) hb; replace BK368 := sqB_ (g := gb368) (by (with_reducible repeat (first | apply kN_ | apply kD_ | apply kA_)); exact BK368.out) hb; replace BK369 := sqB_ (g := gb369) (by (with_reducible repeat (first | apply kN_ | apply kD_ | apply kA_)); exact BK369.out) hb; replace HB := sqS_ (by repeat (first | (with_reducible first | exact HB.out | apply bA_ | apply bN_ | apply bD_ | refine bS_ ?_ GE367.out | refine bS_ ?_ GE368.out | refine bS_ ?_ GE369.out) | exact HB.out)) hb; (try clear hb); (try clear hb2); (try clear hk); (try clear hi); obtain ⟨hcz52_0, hcz52_1, hcz52_2, hcz52_3⟩ := cells4_ BK369.out; obtain ⟨hfz52_0, hfz52_1, hfz52_2, hfz52_3⟩ := froz4_ BK369.out))
       refine bodyPost_ret (results_ct rfl _ _ gb369 24 #[.int .i64 t381, .int .u64 t382, .string t383, .int .i64 t384] (0, 0) _ rfl (by (with_reducible repeat (first | apply kN_ | apply kD_ | apply kA_)); refine blk_put (cs := #[.int .i64 t381, .int .u64 t382, .string t383, .int .i64 0]) ?_ 3 _ rfl; (with_reducible repeat (first | apply kN_ | apply kD_ | apply kA_)); refine blk_put (cs := #[.int .i64 t381, .int .u64 t382, .string ⟨#[]⟩, .int .i64 0]) ?_ 2 _ rfl; (with_reducible repeat (first | apply kN_ | apply kD_ | apply kA_)); refine blk_put (cs := #[.int .i64 t381, .int .u64 0, .string ⟨#[]⟩, .int .i64 0]) ?_ 1 _ rfl; (with_reducible repeat (first | apply kN_ | apply kD_ | apply kA_)); refine blk_put (cs := #[.int .i64 0, .int .u64 0, .string ⟨#[]⟩, .int .i64 0]) ?_ 0 _ rfl; (with_reducible repeat (first | apply kN_ | apply kD_ | apply kA_)); exact BK369.out) Tryz.underlying24 rfl (by kernel_rfl)) rfl ?_
       exact ⟨by first | rfl | (simp [errW_none, errW_some] <;> rfl) | (simp [*, errW_none, errW_some] <;> rfl), by repeat (first | (with_reducible first | exact HB.out | apply bA_ | apply bN_ | apply bD_ | refine bS_ ?_ GE367.out | refine bS_ ?_ GE368.out | refine bS_ ?_ GE369.out) | exact HB.out)⟩
      ·rw [if_neg c39] at H
       have c39b0 : (a0 == 73) = false := beq_eq_false_iff_ne.mpr c39
       have c39b1 : (a0 != 73) = true := bne_iff_ne.mpr c39
       by_cases c53 : a0 = 74
       ·rw [if_pos c53] at H
        have c53b0 : (a0 == 74) = true := beq_iff_eq.mpr c53
        have c53b1 : (a0 != 74) = false := bne_eq_false_iff_eq.mpr c53
        clear c53
        replace H := Option.bind_eq_some_iff.mp H
        obtain ⟨t385, A540, H⟩ := H
        replace H : ((value_boolean.f (decide (t385 > 0))).bind fun bt386 => (some (bt386.1, bt386.2.1, bt386.2.2.1, bt386.2.2.2, 0))) = some (r1, r2, r3, r4, r5) := H
        have A54 := Aside0.mk A540
        clear A540
        replace H := Option.bind_eq_some_iff.mp H
        obtain ⟨⟨t386, t387, t388, t389⟩, A550, H⟩ := H
        replace H : (some (t386, t387, t388, t389, 0)) = some (r1, r2, r3, r4, r5) := H
        have A55 := Aside0.mk A550
        clear A550
        simp only [Option.some.injEq, Prod.mk.injEq] at H
        obtain ⟨rfl, rfl, rfl, rfl, rfl⟩ := H
        have hnb56 := NB368_367.out
        have hnc56 := NB367_368.out
        have hnb57 := NB368_369.out
        have hnc57 := NB369_368.out
        obtain ⟨hcz58_0, hcz58_1, hcz58_2, hcz58_3⟩ := cells4_ BK368.out
        obtain ⟨hfz58_0, hfz58_1, hfz58_2, hfz58_3⟩ := froz4_ BK368.out
        have hnb59 := NB367_369.out
        have hnc59 := NB369_367.out
        obtain ⟨hcz60_0, hcz60_1, hcz60_2, hcz60_3⟩ := cells4_ BK367.out
        obtain ⟨hfz60_0, hfz60_1, hfz60_2, hfz60_3⟩ := froz4_ BK367.out
        go_wp2_with (first | ((with_reducible refine gate_callee (f := 15) rfl ?_); refine goesL_ (some 27) rfl rfl Tryz.func15 (by kernel_rfl) rfl #[.agg #[.int .i64 a2_0, .int .u64 a2_1, .string a2_2, .int .i64 a2_3], .int .i64 a1_0] rfl (by (try simp only [List.map_toArray, List.map_cons, List.map_nil]); first | done | rfl) ?_; (with_reducible refine (value_Convert.calls kj3 a2_0 a2_1 a2_2 a2_3 a1_0 t370 t371 t372 t373 t374 _ ?hTT_ A23.out).mono ?_); (case hTT_ => exact tbT_below HTT_.out (by repeat (first | (with_reducible first | exact HB.out | apply bA_ | apply bN_ | apply bD_ | refine bS_ ?_ GE367.out | refine bS_ ?_ GE368.out | refine bS_ ?_ GE369.out) | exact HB.out))); rintro e w61 ⟨rfl, hb⟩; refine ⟨_, rfl, ?_⟩; replace BK367 := sqB_ (g := gb367) (by (with_reducible repeat (first | apply kN_ | apply kD_ | apply kA_)); exact BK367.out) hb; replace BK368 := sqB_ (g := gb368) (by (with_reducible repeat (first | apply kN_ | apply kD_ | apply kA_)); exact BK368.out) hb; replace BK369 := sqB_ (g := gb369) (by (with_reducible repeat (first | apply kN_ | apply kD_ | apply kA_)); exact BK369.out) hb; replace HB := sqS_ (by repeat (first | (with_reducible first | exact HB.out | apply bA_ | apply bN_ | apply bD_ | refine bS_ ?_ GE367.out | refine bS_ ?_ GE368.out | refine bS_ ?_ GE369.out) | exact HB.out)) hb; (try clear hb); (try clear hb2); (try clear hk); (try clear hi); obtain ⟨hcz62_0, hcz62_1, hcz62_2, hcz62_3⟩ := cells4_ BK368.out; obtain ⟨hfz62_0, hfz62_1, hfz62_2, hfz62_3⟩ := froz4_ BK368.out; obtain ⟨hcz63_0, hcz63_1, hcz63_2, hcz63_3⟩ := cells4_ BK367.out; obtain ⟨hfz63_0, hfz63_1, hfz63_2, hfz63_3⟩ := froz4_ BK367.out) | ((with_reducible refine gate_callee (f := 77) rfl ?_); refine goesL_ (some 53) rfl rfl Tryz.func77 (by kernel_rfl) rfl #[.agg #[.int .i64 a1_0, .int .u64 a1_1, .string a1_2, .int .i64 a1_3], .agg #[.int .i64 t370, .int .u64 t371, .string t372, .int .i64 t373]] rfl (by (try simp only [List.map_toArray, List.map_cons, List.map_nil]); first | done | rfl) ?_; (with_reducible refine (value_order.calls a1_0 a1_1 a1_2 a1_3 t370 t371 t372 t373 t385 _ A54.out).mono ?_); rintro e w64 ⟨rfl, hb⟩; refine ⟨_, rfl, ?_⟩; replace HB := sqS_ (by repeat (first | (with_reducible first | exact HB.out | apply bA_ | apply bN_ | apply bD_ | refine bS_ ?_ GE367.out | refine bS_ ?_ GE368.out | refine bS_ ?_ GE369.out) | exact HB.out)) hb; replace BK367 := Aside0.mk (blk_below (g := gb367) (o := .cells #[.int .i64 a1_0, .int .u64 a1_1, .string a1_2, .int .i64 a1_3] 24 (0, 0)) (by (with_reducible repeat (first | apply kN_ | apply kD_ | apply kA_)); refine blk_far ?_ NB367_368.out _; (with_reducible repeat (first | apply kN_ | apply kD_ | apply kA_)); refine blk_far ?_ NB367_368.out _; (with_reducible repeat (first | apply kN_ | apply kD_ | apply kA_)); refine blk_far ?_ NB367_368.out _; (with_reducible repeat (first | apply kN_ | apply kD_ | apply kA_)); refine blk_far ?_ NB367_368.out _; (with_reducible repeat (first | apply kN_ | apply kD_ | apply kA_)); exact BK367.out) hb); replace BK368 := Aside0.mk (blk_below (g := gb368) (o := .cells #[.int .i64 t370, .int .u64 t371, .string t372, .int .i64 t373] 24 (0, 0)) (by (with_reducible repeat (first | apply kN_ | apply kD_ | apply kA_)); refine blk_put (cs := #[.int .i64 t370, .int .u64 t371, .string t372, .int .i64 a2_3]) ?_ 3 _ rfl; (with_reducible repeat (first | apply kN_ | apply kD_ | apply kA_)); refine blk_put (cs := #[.int .i64 t370, .int .u64 t371, .string a2_2, .int .i64 a2_3]) ?_ 2 _ rfl; (with_reducible repeat (first | apply kN_ | apply kD_ | apply kA_)); refine blk_put (cs := #[.int .i64 t370, .int .u64 a2_1, .string a2_2, .int .i64 a2_3]) ?_ 1 _ rfl; (with_reducible repeat (first | apply kN_ | apply kD_ | apply kA_)); refine blk_put (cs := #[.int .i64 a2_0, .int .u64 a2_1, .string a2_2, .int .i64 a2_3]) ?_ 0 _ rfl; (with_reducible repeat (first | apply kN_ | apply kD_ | apply kA_)); exact BK368.out) hb); replace BK369 := Aside0.mk (blk_below (g := gb369) (o := .cells #[.int .i64 0, .int .u64 0, .string ⟨#[]⟩, .int .i64 0] 24 (0, 0)) (by (with_reducible repeat (first | apply kN_ | apply kD_ | apply kA_)); refine blk_far ?_ NB369_368.out _; (with_reducible repeat (first | apply kN_ | apply kD_ | apply kA_)); refine blk_far ?_ NB369_368.out _; (with_reducible repeat (first | apply kN_ | apply kD_ | apply kA_)); refine blk_far ?_ NB369_368.out _; (with_reducible repeat (first | apply kN_ | apply kD_ | apply kA_)); refine blk_far ?_ NB369_368.out _; (with_reducible repeat (first | apply kN_ | apply kD_ | apply kA_)); exact BK369.out) hb); (try clear hb); (try clear hb2); (try clear hk); (try clear hi)) | ((with_reducible refine gate_callee (f := 12) rfl ?_); refine goesL_ (some 55) rfl rfl Tryz.func12 (by kernel_rfl) rfl #[.bool (decide (t385 > 0))] rfl (by (try simp only [List.map_toArray, List.map_cons, List.map_nil]); first | done | rfl) ?_; (with_reducible refine (value_boolean.calls (decide (t385 > 0)) t386 t387 t388 t389 _ A55.out).mono ?_); rintro e w65 ⟨rfl, hb⟩; refine ⟨_, rfl, ?_⟩; replace BK367 := sqB_ (g := gb367) (by (with_reducible repeat (first | apply kN_ | apply kD_ | apply kA_)); exact BK367.out) hb; replace BK368 := sqB_ (g := gb368) (by (with_reducible repeat (first | apply kN_ | apply kD_ | apply kA_)); exact BK368.out) hb; replace BK369 := sqB_ (g := gb369) (by (with_reducible repeat (first | apply kN_ | apply kD_ | apply kA_)); exact BK369.out) hb; replace HB := sqS_ (by repeat (first | (with_reducible first | exact HB.out | apply bA_ | apply bN_ | apply bD_ | refine bS_ ?_ GE367.out | refine bS_ ?_ GE368.out | refine bS_ ?_ GE369.out) | exact HB.out)) hb; (try clear hb); (try clear hb2); (try clear hk); (try clear hi); obtain ⟨hcz66_0, hcz66_1, hcz66_2, hcz66_3⟩ := cells4_ BK369.out; obtain ⟨hfz66_0, hfz66_1, hfz66_2, hfz66_3⟩ := froz4_ BK369.out))
        refine bodyPost_ret (results_ct rfl _ _ gb369 24 #[.int .i64 t386, .int .u64 t387, .string t388, .int .i64 t389] (0, 0) _ rfl (by (with_reducible repeat (first | apply kN_ | apply kD_ | apply kA_)); refine blk_put (cs := #[.int .i64 t386, .int .u64 t387, .string t388, .int .i64 0]) ?_ 3 _ rfl; (with_reducible repeat (first | apply kN_ | apply kD_ | apply kA_)); refine blk_put (cs := #[.int .i64 t386, .int .u64 t387, .string ⟨#[]⟩, .int .i64 0]) ?_ 2 _ rfl; (with_reducible repeat (first | apply kN_ | apply kD_ | apply kA_)); refine blk_put (cs := #[.int .i64 t386, .int .u64 0, .string ⟨#[]⟩, .int .i64 0]) ?_ 1 _ rfl; (with_reducible repeat (first | apply kN_ | apply kD_ | apply kA_)); refine blk_put (cs := #[.int .i64 0, .int .u64 0, .string ⟨#[]⟩, .int .i64 0]) ?_ 0 _ rfl; (with_reducible repeat (first | apply kN_ | apply kD_ | apply kA_)); exact BK369.out) Tryz.underlying24 rfl (by kernel_rfl)) rfl ?_
        exact ⟨by first | rfl | (simp [errW_none, errW_some] <;> rfl) | (simp [*, errW_none, errW_some] <;> rfl), by repeat (first | (with_reducible first | exact HB.out | apply bA_ | apply bN_ | apply bD_ | refine bS_ ?_ GE367.out | refine bS_ ?_ GE368.out | refine bS_ ?_ GE369.out) | exact HB.out)⟩
       ·rw [if_neg c53] at H
        have c53b0 : (a0 == 74) = false := beq_eq_false_iff_ne.mpr c53
        have c53b1 : (a0 != 74) = true := bne_iff_ne.mpr c53
        replace H := Option.bind_eq_some_iff.mp H
        obtain ⟨⟨t390, t391, t392, t393, t394⟩, A670, H⟩ := H
        replace H : (some (t390, t391, t392, t393, t394)) = some (r1, r2, r3, r4, r5) := H
        have A67 := Aside0.mk A670
        clear A670
        simp only [Option.some.injEq, Prod.mk.injEq] at H
        obtain ⟨rfl, rfl, rfl, rfl, rfl⟩ := H
        have hnb68 := NB368_367.out
        have hnc68 := NB367_368.out
        have hnb69 := NB368_369.out
        have hnc69 := NB369_368.out
        obtain ⟨hcz70_0, hcz70_1, hcz70_2, hcz70_3⟩ := cells4_ BK368.out
        obtain ⟨hfz70_0, hfz70_1, hfz70_2, hfz70_3⟩ := froz4_ BK368.out
        have hnb71 := NB367_369.out
        have hnc71 := NB369_367.out
        obtain ⟨hcz72_0, hcz72_1, hcz72_2, hcz72_3⟩ := cells4_ BK367.out
        obtain ⟨hfz72_0, hfz72_1, hfz72_2, hfz72_3⟩ := froz4_ BK367.out
        go_wp2_with (first | ((with_reducible refine gate_callee (f := 15) rfl ?_); refine goesL_ (some 27) rfl rfl Tryz.func15 (by kernel_rfl) rfl #[.agg #[.int .i64 a2_0, .int .u64 a2_1, .string a2_2, .int .i64 a2_3], .int .i64 a1_0] rfl (by (try simp only [List.map_toArray, List.map_cons, List.map_nil]); first | done | rfl) ?_; (with_reducible refine (value_Convert.calls kj3 a2_0 a2_1 a2_2 a2_3 a1_0 t370 t371 t372 t373 t374 _ ?hTT_ A23.out).mono ?_); (case hTT_ => exact tbT_below HTT_.out (by repeat (first | (with_reducible first | exact HB.out | apply bA_ | apply bN_ | apply bD_ | refine bS_ ?_ GE367.out | refine bS_ ?_ GE368.out | refine bS_ ?_ GE369.out) | exact HB.out))); rintro e w73 ⟨rfl, hb⟩; refine ⟨_, rfl, ?_⟩; replace BK367 := sqB_ (g := gb367) (by (with_reducible repeat (first | apply kN_ | apply kD_ | apply kA_)); exact BK367.out) hb; replace BK368 := sqB_ (g := gb368) (by (with_reducible repeat (first | apply kN_ | apply kD_ | apply kA_)); exact BK368.out) hb; replace BK369 := sqB_ (g := gb369) (by (with_reducible repeat (first | apply kN_ | apply kD_ | apply kA_)); exact BK369.out) hb; replace HB := sqS_ (by repeat (first | (with_reducible first | exact HB.out | apply bA_ | apply bN_ | apply bD_ | refine bS_ ?_ GE367.out | refine bS_ ?_ GE368.out | refine bS_ ?_ GE369.out) | exact HB.out)) hb; (try clear hb); (try clear hb2); (try clear hk); (try clear hi); obtain ⟨hcz74_0, hcz74_1, hcz74_2, hcz74_3⟩ := cells4_ BK368.out; obtain ⟨hfz74_0, hfz74_1, hfz74_2, hfz74_3⟩ := froz4_ BK368.out; obtain ⟨hcz75_0, hcz75_1, hcz75_2, hcz75_3⟩ := cells4_ BK367.out; obtain ⟨hfz75_0, hfz75_1, hfz75_2, hfz75_3⟩ := froz4_ BK367.out) | ((with_reducible refine gate_callee (f := 78) rfl ?_); refine goesL_ (some 58) rfl rfl Tryz.func78 (by kernel_rfl) rfl #[.agg #[.int .i64 a1_0, .int .u64 a1_1, .string a1_2, .int .i64 a1_3], .agg #[.int .i64 t370, .int .u64 t371, .string t372, .int .i64 t373]] rfl (by (try simp only [List.map_toArray, List.map_cons, List.map_nil]); first | done | rfl) ?_; (with_reducible refine (value_concatenate.calls kj3 a1_0 a1_1 a1_2 a1_3 t370 t371 t372 t373 t390 t391 t392 t393 t394 _ A67.out).mono ?_); rintro e w76 ⟨rfl, hb⟩; refine ⟨_, rfl, ?_⟩; replace HB := sqS_ (by repeat (first | (with_reducible first | exact HB.out | apply bA_ | apply bN_ | apply bD_ | refine bS_ ?_ GE367.out | refine bS_ ?_ GE368.out | refine bS_ ?_ GE369.out) | exact HB.out)) hb; replace BK367 := Aside0.mk (blk_below (g := gb367) (o := .cells #[.int .i64 a1_0, .int .u64 a1_1, .string a1_2, .int .i64 a1_3] 24 (0, 0)) (by (with_reducible repeat (first | apply kN_ | apply kD_ | apply kA_)); refine blk_far ?_ NB367_368.out _; (with_reducible repeat (first | apply kN_ | apply kD_ | apply kA_)); refine blk_far ?_ NB367_368.out _; (with_reducible repeat (first | apply kN_ | apply kD_ | apply kA_)); refine blk_far ?_ NB367_368.out _; (with_reducible repeat (first | apply kN_ | apply kD_ | apply kA_)); refine blk_far ?_ NB367_368.out _; (with_reducible repeat (first | apply kN_ | apply kD_ | apply kA_)); exact BK367.out) hb); replace BK368 := Aside0.mk (blk_below (g := gb368) (o := .cells #[.int .i64 t370, .int .u64 t371, .string t372, .int .i64 t373] 24 (0, 0)) (by (with_reducible repeat (first | apply kN_ | apply kD_ | apply kA_)); refine blk_put (cs := #[.int .i64 t370, .int .u64 t371, .string t372, .int .i64 a2_3]) ?_ 3 _ rfl; (with_reducible repeat (first | apply kN_ | apply kD_ | apply kA_)); refine blk_put (cs := #[.int .i64 t370, .int .u64 t371, .string a2_2, .int .i64 a2_3]) ?_ 2 _ rfl; (with_reducible repeat (first | apply kN_ | apply kD_ | apply kA_)); refine blk_put (cs := #[.int .i64 t370, .int .u64 a2_1, .string a2_2, .int .i64 a2_3]) ?_ 1 _ rfl; (with_reducible repeat (first | apply kN_ | apply kD_ | apply kA_)); refine blk_put (cs := #[.int .i64 a2_0, .int .u64 a2_1, .string a2_2, .int .i64 a2_3]) ?_ 0 _ rfl; (with_reducible repeat (first | apply kN_ | apply kD_ | apply kA_)); exact BK368.out) hb); replace BK369 := Aside0.mk (blk_below (g := gb369) (o := .cells #[.int .i64 0, .int .u64 0, .string ⟨#[]⟩, .int .i64 0] 24 (0, 0)) (by (with_reducible repeat (first | apply kN_ | apply kD_ | apply kA_)); refine blk_far ?_ NB369_368.out _; (with_reducible repeat (first | apply kN_ | apply kD_ | apply kA_)); refine blk_far ?_ NB369_368.out _; (with_reducible repeat (first | apply kN_ | apply kD_ | apply kA_)); refine blk_far ?_ NB369_368.out _; (with_reducible repeat (first | apply kN_ | apply kD_ | apply kA_)); refine blk_far ?_ NB369_368.out _; (with_reducible repeat (first | apply kN_ | apply kD_ | apply kA_)); exact BK369.out) hb); (try clear hb); (try clear hb2); (try clear hk); (try clear hi); obtain ⟨hcz77_0, hcz77_1, hcz77_2, hcz77_3⟩ := cells4_ BK369.out; obtain ⟨hfz77_0, hfz77_1, hfz77_2, hfz77_3⟩ := froz4_ BK369.out))
        refine bodyPost_ret (results_ct rfl _ _ gb369 24 #[.int .i64 t390, .int .u64 t391, .string t392, .int .i64 t393] (0, 0) _ rfl (by (with_reducible repeat (first | apply kN_ | apply kD_ | apply kA_)); refine blk_put (cs := #[.int .i64 t390, .int .u64 t391, .string t392, .int .i64 0]) ?_ 3 _ rfl; (with_reducible repeat (first | apply kN_ | apply kD_ | apply kA_)); refine blk_put (cs := #[.int .i64 t390, .int .u64 t391, .string ⟨#[]⟩, .int .i64 0]) ?_ 2 _ rfl; (with_reducible repeat (first | apply kN_ | apply kD_ | apply kA_)); refine blk_put (cs := #[.int .i64 t390, .int .u64 0, .string ⟨#[]⟩, .int .i64 0]) ?_ 1 _ rfl; (with_reducible repeat (first | apply kN_ | apply kD_ | apply kA_)); refine blk_put (cs := #[.int .i64 0, .int .u64 0, .string ⟨#[]⟩, .int .i64 0]) ?_ 0 _ rfl; (with_reducible repeat (first | apply kN_ | apply kD_ | apply kA_)); exact BK369.out) Tryz.underlying24 rfl (by kernel_rfl)) rfl ?_
        exact ⟨by first | rfl | (simp [errW_none, errW_some] <;> rfl) | (simp [*, errW_none, errW_some] <;> rfl), by repeat (first | (with_reducible first | exact HB.out | apply bA_ | apply bN_ | apply bD_ | refine bS_ ?_ GE367.out | refine bS_ ?_ GE368.out | refine bS_ ?_ GE369.out) | exact HB.out)⟩
    ·rw [if_neg c24] at H
     have c24b0 : (t374 == 0) = false := beq_eq_false_iff_ne.mpr c24
     have c24b1 : (t374 != 0) = true := bne_iff_ne.mpr c24
     simp only [Option.some.injEq, Prod.mk.injEq] at H
     obtain ⟨rfl, rfl, rfl, rfl, rfl⟩ := H
     have hnb78 := NB368_367.out
     have hnc78 := NB367_368.out
     have hnb79 := NB368_369.out
     have hnc79 := NB369_368.out
     obtain ⟨hcz80_0, hcz80_1, hcz80_2, hcz80_3⟩ := cells4_ BK368.out
     obtain ⟨hfz80_0, hfz80_1, hfz80_2, hfz80_3⟩ := froz4_ BK368.out
     have hnb81 := NB367_369.out
     have hnc81 := NB369_367.out
     obtain ⟨hcz82_0, hcz82_1, hcz82_2, hcz82_3⟩ := cells4_ BK367.out
     obtain ⟨hfz82_0, hfz82_1, hfz82_2, hfz82_3⟩ := froz4_ BK367.out
     go_wp2_with (first | ((with_reducible refine gate_callee (f := 15) rfl ?_); refine goesL_ (some 27) rfl rfl Tryz.func15 (by kernel_rfl) rfl #[.agg #[.int .i64 a2_0, .int .u64 a2_1, .string a2_2, .int .i64 a2_3], .int .i64 a1_0] rfl (by (try simp only [List.map_toArray, List.map_cons, List.map_nil]); first | done | rfl) ?_; (with_reducible refine (value_Convert.calls kj3 a2_0 a2_1 a2_2 a2_3 a1_0 t370 t371 t372 t373 t374 _ ?hTT_ A23.out).mono ?_); (case hTT_ => exact tbT_below HTT_.out (by repeat (first | (with_reducible first | exact HB.out | apply bA_ | apply bN_ | apply bD_ | refine bS_ ?_ GE367.out | refine bS_ ?_ GE368.out | refine bS_ ?_ GE369.out) | exact HB.out))); rintro e w83 ⟨rfl, hb⟩; refine ⟨_, rfl, ?_⟩; replace BK367 := sqB_ (g := gb367) (by (with_reducible repeat (first | apply kN_ | apply kD_ | apply kA_)); exact BK367.out) hb; replace BK368 := sqB_ (g := gb368) (by (with_reducible repeat (first | apply kN_ | apply kD_ | apply kA_)); exact BK368.out) hb; replace BK369 := sqB_ (g := gb369) (by (with_reducible repeat (first | apply kN_ | apply kD_ | apply kA_)); exact BK369.out) hb; replace HB := sqS_ (by repeat (first | (with_reducible first | exact HB.out | apply bA_ | apply bN_ | apply bD_ | refine bS_ ?_ GE367.out | refine bS_ ?_ GE368.out | refine bS_ ?_ GE369.out) | exact HB.out)) hb; (try clear hb); (try clear hb2); (try clear hk); (try clear hi); obtain ⟨hcz84_0, hcz84_1, hcz84_2, hcz84_3⟩ := cells4_ BK368.out; obtain ⟨hfz84_0, hfz84_1, hfz84_2, hfz84_3⟩ := froz4_ BK368.out; obtain ⟨hcz85_0, hcz85_1, hcz85_2, hcz85_3⟩ := cells4_ BK369.out; obtain ⟨hfz85_0, hfz85_1, hfz85_2, hfz85_3⟩ := froz4_ BK369.out))
     refine bodyPost_ret (results_ct rfl _ _ gb369 24 #[.int .i64 0, .int .u64 0, .string ⟨#[]⟩, .int .i64 0] (0, 0) _ rfl (by (with_reducible repeat (first | apply kN_ | apply kD_ | apply kA_)); refine blk_put (cs := #[.int .i64 0, .int .u64 0, .string ⟨#[]⟩, .int .i64 0]) ?_ 3 _ rfl; (with_reducible repeat (first | apply kN_ | apply kD_ | apply kA_)); refine blk_put (cs := #[.int .i64 0, .int .u64 0, .string ⟨#[]⟩, .int .i64 0]) ?_ 2 _ rfl; (with_reducible repeat (first | apply kN_ | apply kD_ | apply kA_)); refine blk_put (cs := #[.int .i64 0, .int .u64 0, .string ⟨#[]⟩, .int .i64 0]) ?_ 1 _ rfl; (with_reducible repeat (first | apply kN_ | apply kD_ | apply kA_)); refine blk_put (cs := #[.int .i64 0, .int .u64 0, .string ⟨#[]⟩, .int .i64 0]) ?_ 0 _ rfl; (with_reducible repeat (first | apply kN_ | apply kD_ | apply kA_)); refine blk_far ?_ NB369_368.out _; (with_reducible repeat (first | apply kN_ | apply kD_ | apply kA_)); refine blk_far ?_ NB369_368.out _; (with_reducible repeat (first | apply kN_ | apply kD_ | apply kA_)); refine blk_far ?_ NB369_368.out _; (with_reducible repeat (first | apply kN_ | apply kD_ | apply kA_)); refine blk_far ?_ NB369_368.out _; (with_reducible repeat (first | apply kN_ | apply kD_ | apply kA_)); exact BK369.out) Tryz.underlying24 rfl (by kernel_rfl)) rfl ?_
     exact ⟨by first | rfl | (simp [errW_none, errW_some] <;> rfl) | (simp [*, errW_none, errW_some] <;> rfl), by repeat (first | (with_reducible first | exact HB.out | apply bA_ | apply bN_ | apply bD_ | refine bS_ ?_ GE367.out | refine bS_ ?_ GE368.out | refine bS_ ?_ GE369.out) | exact HB.out)⟩

/-! ### value_divide: function 79 -/
def value_divide.f (a0 : Int) (a1 : Int) (a2 : Int) : Option (Int × Int × ByteArray × Int × Int) := if a0 = 68 then (if 0 ≤ a2 then ((value_integer.f (shl .u64 a1 a2)).bind fun bt396 => (some (bt396.1, bt396.2.1, bt396.2.2.1, bt396.2.2.2, 0))) else (none)) else (if a0 = 69 then (if 0 ≤ a2 then ((value_integer.f (shr .u64 a1 a2)).bind fun bt400 => (some (bt400.1, bt400.2.1, bt400.2.2.1, bt400.2.2.2, 0))) else (none)) else (if a2 = 0 then (some (0, 0, (⟨#[]⟩ : ByteArray), 0, 12)) else (if a0 = 63 then ((value_integer.f (IntKind.u64.wrap (Int.tdiv a1 a2))).bind fun bt404 => (some (bt404.1, bt404.2.1, bt404.2.2.1, bt404.2.2.2, 0))) else ((value_integer.f (Int.tmod a1 a2)).bind fun bt408 => (some (bt408.1, bt408.2.1, bt408.2.2.1, bt408.2.2.2, 0))))))
set_option maxHeartbeats 8000000 in
set_option maxRecDepth 100000 in
theorem value_divide.calls (a0 : Int) (a1 : Int) (a2 : Int) (r1 : Int) (r2 : Int) (r3 : ByteArray) (r4 : Int) (r5 : Int) (w : World) (h : value_divide.f a0 a1 a2 = some (r1, r2, r3, r4, r5)) :
  Calls Tryz.prog 79 #[.int .i64 a0, .int .u64 a1, .int .u64 a2] w fun e w' => e = .returned (.tuple #[.agg #[.int .i64 r1, .int .u64 r2, .string r3, .int .i64 r4], .int .i64 r5]) ∧ Below w.heap.size w w' := by
 have hu24 := Tryz.underlying24
 have HB := Aside0.mk (Below.refl w.heap.size w)
 have H : (if a0 = 68 then (if 0 ≤ a2 then ((value_integer.f (shl .u64 a1 a2)).bind fun bt396 => (some (bt396.1, bt396.2.1, bt396.2.2.1, bt396.2.2.2, 0))) else (none)) else (if a0 = 69 then (if 0 ≤ a2 then ((value_integer.f (shr .u64 a1 a2)).bind fun bt400 => (some (bt400.1, bt400.2.1, bt400.2.2.1, bt400.2.2.2, 0))) else (none)) else (if a2 = 0 then (some (0, 0, (⟨#[]⟩ : ByteArray), 0, 12)) else (if a0 = 63 then ((value_integer.f (IntKind.u64.wrap (Int.tdiv a1 a2))).bind fun bt404 => (some (bt404.1, bt404.2.1, bt404.2.2.1, bt404.2.2.2, 0))) else ((value_integer.f (Int.tmod a1 a2)).bind fun bt408 => (some (bt408.1, bt408.2.1, bt408.2.2.1, bt408.2.2.2, 0))))))) = some (r1, r2, r3, r4, r5) := h
 clear h
 by_cases c4 : a0 = 68
 ·rw [if_pos c4] at H
  have c4b0 : (a0 == 68) = true := beq_iff_eq.mpr c4
  have c4b1 : (a0 != 68) = false := bne_eq_false_iff_eq.mpr c4
  clear c4
  by_cases c5 : 0 ≤ a2
  ·rw [if_pos c5] at H
   have c5b0 := eq_true c5
   have c5b1 : decide (0 ≤ a2) = true := decide_eq_true c5
   clear c5
   obtain ⟨ji6, hji6⟩ : ∃ j_ : Int, (shl .u64 a1 a2) = j_ := ⟨_, rfl⟩
   replace H : ((value_integer.f (ji6)).bind fun bt396 => (some (bt396.1, bt396.2.1, bt396.2.2.1, bt396.2.2.2, 0))) = some (r1, r2, r3, r4, r5) := by first | (rw [hji6] at H; exact H) | (simp only [hji6] at H ⊢; exact H)
   have hji6_ : (IntKind.u64.wrap (a1 * 2 ^ min a2.toNat 64)) = ji6 := hji6
   have hji6z : a2 ≤ 64 → (IntKind.u64.wrap (a1 * 2 ^ a2.toNat)) = ji6 := shl_small hji6
   replace H := Option.bind_eq_some_iff.mp H
   obtain ⟨⟨t396, t397, t398, t399⟩, A70, H⟩ := H
   replace H : (some (t396, t397, t398, t399, 0)) = some (r1, r2, r3, r4, r5) := H
   have A7 := Aside0.mk A70
   clear A70
   simp only [Option.some.injEq, Prod.mk.injEq] at H
   obtain ⟨rfl, rfl, rfl, rfl, rfl⟩ := H
   go_enter Tryz.func79, Tryz.ntmps79
   go_wp2_with (first | ((with_reducible refine gate_dst (N := 6) rfl ?_); refine box_event ?hg (N := 6) ?hd (cs := #[.int .i64 0, .int .u64 0, .string ⟨#[]⟩, .int .i64 0]) (t := 24) ?hr ?_; (case hd => rfl); (case hg => rfl); (case hr => first | (go_simp; done) | (go_simp; rfl)); intro gb395 hg w8 hbox hb; replace HB := sqN_ (by repeat (first | (with_reducible first | exact HB.out | apply bA_ | apply bN_ | apply bD_) | exact HB.out)) hg hb; obtain ⟨HB, GE395⟩ := HB; have BK395 := Aside0.mk hbox; clear hb hbox hg) | ((with_reducible refine gate_callee (f := 13) rfl ?_); refine goesL_ (some 14) rfl rfl Tryz.func13 (by kernel_rfl) rfl #[.int .u64 ji6] rfl (by (try simp only [List.map_toArray, List.map_cons, List.map_nil]); first | done | (simp only [hji6]; rfl) | rfl | (simp only [List.length_drop, List.length_take]; rfl)) ?_; (with_reducible refine (value_integer.calls ji6 t396 t397 t398 t399 _ A7.out).mono ?_); rintro e w9 ⟨rfl, hb⟩; refine ⟨_, rfl, ?_⟩; replace BK395 := sqB_ (g := gb395) (by (with_reducible repeat (first | apply kN_ | apply kD_ | apply kA_)); exact BK395.out) hb; replace HB := sqS_ (by repeat (first | (with_reducible first | exact HB.out | apply bA_ | apply bN_ | apply bD_ | refine bS_ ?_ GE395.out) | exact HB.out)) hb; (try clear hb); (try clear hb2); (try clear hk); (try clear hi); obtain ⟨hcz10_0, hcz10_1, hcz10_2, hcz10_3⟩ := cells4_ BK395.out; obtain ⟨hfz10_0, hfz10_1, hfz10_2, hfz10_3⟩ := froz4_ BK395.out))
   refine bodyPost_ret (results_ct rfl _ _ gb395 24 #[.int .i64 t396, .int .u64 t397, .string t398, .int .i64 t399] (0, 0) _ rfl (by (with_reducible repeat (first | apply kN_ | apply kD_ | apply kA_)); refine blk_put (cs := #[.int .i64 t396, .int .u64 t397, .string t398, .int .i64 0]) ?_ 3 _ rfl; (with_reducible repeat (first | apply kN_ | apply kD_ | apply kA_)); refine blk_put (cs := #[.int .i64 t396, .int .u64 t397, .string ⟨#[]⟩, .int .i64 0]) ?_ 2 _ rfl; (with_reducible repeat (first | apply kN_ | apply kD_ | apply kA_)); refine blk_put (cs := #[.int .i64 t396, .int .u64 0, .string ⟨#[]⟩, .int .i64 0]) ?_ 1 _ rfl; (with_reducible repeat (first | apply kN_ | apply kD_ | apply kA_)); refine blk_put (cs := #[.int .i64 0, .int .u64 0, .string ⟨#[]⟩, .int .i64 0]) ?_ 0 _ rfl; (with_reducible repeat (first | apply kN_ | apply kD_ | apply kA_)); exact BK395.out) Tryz.underlying24 rfl (by kernel_rfl)) rfl ?_
   exact ⟨by first | rfl | (simp [errW_none, errW_some] <;> rfl) | (simp only [← hji6]; first | rfl | (simp [errW_none, errW_some] <;> rfl)) | (simp [*, errW_none, errW_some] <;> rfl), by repeat (first | (with_reducible first | exact HB.out | apply bA_ | apply bN_ | apply bD_ | refine bS_ ?_ GE395.out) | exact HB.out)⟩
  ·rw [if_neg c5] at H
   exact absurd H (by simp)
 ·rw [if_neg c4] at H
  have c4b0 : (a0 == 68) = false := beq_eq_false_iff_ne.mpr c4
  have c4b1 : (a0 != 68) = true := bne_iff_ne.mpr c4
  by_cases c11 : a0 = 69
  ·rw [if_pos c11] at H
   have c11b0 : (a0 == 69) = true := beq_iff_eq.mpr c11
   have c11b1 : (a0 != 69) = false := bne_eq_false_iff_eq.mpr c11
   clear c11
   by_cases c12 : 0 ≤ a2
   ·rw [if_pos c12] at H
    have c12b0 := eq_true c12
    have c12b1 : decide (0 ≤ a2) = true := decide_eq_true c12
    clear c12
    obtain ⟨ji13, hji13⟩ : ∃ j_ : Int, (shr .u64 a1 a2) = j_ := ⟨_, rfl⟩
    replace H : ((value_integer.f (ji13)).bind fun bt400 => (some (bt400.1, bt400.2.1, bt400.2.2.1, bt400.2.2.2, 0))) = some (r1, r2, r3, r4, r5) := by first | (rw [hji13] at H; exact H) | (simp only [hji13] at H ⊢; exact H)
    have hji13_ : (a1 / 2 ^ min a2.toNat 64) = ji13 := hji13
    have hji13z : a2 ≤ 64 → (a1 / 2 ^ a2.toNat) = ji13 := shr_small hji13
    replace H := Option.bind_eq_some_iff.mp H
    obtain ⟨⟨t400, t401, t402, t403⟩, A140, H⟩ := H
    replace H : (some (t400, t401, t402, t403, 0)) = some (r1, r2, r3, r4, r5) := H
    have A14 := Aside0.mk A140
    clear A140
    simp only [Option.some.injEq, Prod.mk.injEq] at H
    obtain ⟨rfl, rfl, rfl, rfl, rfl⟩ := H
    go_enter Tryz.func79, Tryz.ntmps79
    go_wp2_with (first | ((with_reducible refine gate_dst (N := 6) rfl ?_); refine box_event ?hg (N := 6) ?hd (cs := #[.int .i64 0, .int .u64 0, .string ⟨#[]⟩, .int .i64 0]) (t := 24) ?hr ?_; (case hd => rfl); (case hg => rfl); (case hr => first | (go_simp; done) | (go_simp; rfl)); intro gb395 hg w15 hbox hb; replace HB := sqN_ (by repeat (first | (with_reducible first | exact HB.out | apply bA_ | apply bN_ | apply bD_) | exact HB.out)) hg hb; obtain ⟨HB, GE395⟩ := HB; have BK395 := Aside0.mk hbox; clear hb hbox hg) | ((with_reducible refine gate_callee (f := 13) rfl ?_); refine goesL_ (some 21) rfl rfl Tryz.func13 (by kernel_rfl) rfl #[.int .u64 ji13] rfl (by (try simp only [List.map_toArray, List.map_cons, List.map_nil]); first | done | (simp only [hji13]; rfl) | rfl | (simp only [List.length_drop, List.length_take]; rfl)) ?_; (with_reducible refine (value_integer.calls ji13 t400 t401 t402 t403 _ A14.out).mono ?_); rintro e w16 ⟨rfl, hb⟩; refine ⟨_, rfl, ?_⟩; replace BK395 := sqB_ (g := gb395) (by (with_reducible repeat (first | apply kN_ | apply kD_ | apply kA_)); exact BK395.out) hb; replace HB := sqS_ (by repeat (first | (with_reducible first | exact HB.out | apply bA_ | apply bN_ | apply bD_ | refine bS_ ?_ GE395.out) | exact HB.out)) hb; (try clear hb); (try clear hb2); (try clear hk); (try clear hi); obtain ⟨hcz17_0, hcz17_1, hcz17_2, hcz17_3⟩ := cells4_ BK395.out; obtain ⟨hfz17_0, hfz17_1, hfz17_2, hfz17_3⟩ := froz4_ BK395.out))
    refine bodyPost_ret (results_ct rfl _ _ gb395 24 #[.int .i64 t400, .int .u64 t401, .string t402, .int .i64 t403] (0, 0) _ rfl (by (with_reducible repeat (first | apply kN_ | apply kD_ | apply kA_)); refine blk_put (cs := #[.int .i64 t400, .int .u64 t401, .string t402, .int .i64 0]) ?_ 3 _ rfl; (with_reducible repeat (first | apply kN_ | apply kD_ | apply kA_)); refine blk_put (cs := #[.int .i64 t400, .int .u64 t401, .string ⟨#[]⟩, .int .i64 0]) ?_ 2 _ rfl; (with_reducible repeat (first | apply kN_ | apply kD_ | apply kA_)); refine blk_put (cs := #[.int .i64 t400, .int .u64 0, .string ⟨#[]⟩, .int .i64 0]) ?_ 1 _ rfl; (with_reducible repeat (first | apply kN_ | apply kD_ | apply kA_)); refine blk_put (cs := #[.int .i64 0, .int .u64 0, .string ⟨#[]⟩, .int .i64 0]) ?_ 0 _ rfl; (with_reducible repeat (first | apply kN_ | apply kD_ | apply kA_)); exact BK395.out) Tryz.underlying24 rfl (by kernel_rfl)) rfl ?_
    exact ⟨by first | rfl | (simp [errW_none, errW_some] <;> rfl) | (simp only [← hji13]; first | rfl | (simp [errW_none, errW_some] <;> rfl)) | (simp [*, errW_none, errW_some] <;> rfl), by repeat (first | (with_reducible first | exact HB.out | apply bA_ | apply bN_ | apply bD_ | refine bS_ ?_ GE395.out) | exact HB.out)⟩
   ·rw [if_neg c12] at H
    exact absurd H (by simp)
  ·rw [if_neg c11] at H
   have c11b0 : (a0 == 69) = false := beq_eq_false_iff_ne.mpr c11
   have c11b1 : (a0 != 69) = true := bne_iff_ne.mpr c11
   by_cases c18 : a2 = 0
   ·rw [if_pos c18] at H
    have c18b0 : (a2 == 0) = true := beq_iff_eq.mpr c18
    have c18b1 : (a2 != 0) = false := bne_eq_false_iff_eq.mpr c18
    clear c18
    simp only [Option.some.injEq, Prod.mk.injEq] at H
    obtain ⟨rfl, rfl, rfl, rfl, rfl⟩ := H
    go_enter Tryz.func79, Tryz.ntmps79
    go_wp2_with (first | ((with_reducible refine gate_dst (N := 6) rfl ?_); refine box_event ?hg (N := 6) ?hd (cs := #[.int .i64 0, .int .u64 0, .string ⟨#[]⟩, .int .i64 0]) (t := 24) ?hr ?_; (case hd => rfl); (case hg => rfl); (case hr => first | (go_simp; done) | (go_simp; rfl)); intro gb395 hg w19 hbox hb; replace HB := sqN_ (by repeat (first | (with_reducible first | exact HB.out | apply bA_ | apply bN_ | apply bD_) | exact HB.out)) hg hb; obtain ⟨HB, GE395⟩ := HB; have BK395 := Aside0.mk hbox; clear hb hbox hg; obtain ⟨hcz20_0, hcz20_1, hcz20_2, hcz20_3⟩ := cells4_ BK395.out; obtain ⟨hfz20_0, hfz20_1, hfz20_2, hfz20_3⟩ := froz4_ BK395.out))
    refine bodyPost_ret (results_ct rfl _ _ gb395 24 #[.int .i64 0, .int .u64 0, .string ⟨#[]⟩, .int .i64 0] (0, 0) _ rfl (by (with_reducible repeat (first | apply kN_ | apply kD_ | apply kA_)); refine blk_put (cs := #[.int .i64 0, .int .u64 0, .string ⟨#[]⟩, .int .i64 0]) ?_ 3 _ rfl; (with_reducible repeat (first | apply kN_ | apply kD_ | apply kA_)); refine blk_put (cs := #[.int .i64 0, .int .u64 0, .string ⟨#[]⟩, .int .i64 0]) ?_ 2 _ rfl; (with_reducible repeat (first | apply kN_ | apply kD_ | apply kA_)); refine blk_put (cs := #[.int .i64 0, .int .u64 0, .string ⟨#[]⟩, .int .i64 0]) ?_ 1 _ rfl; (with_reducible repeat (first | apply kN_ | apply kD_ | apply kA_)); refine blk_put (cs := #[.int .i64 0, .int .u64 0, .string ⟨#[]⟩, .int .i64 0]) ?_ 0 _ rfl; (with_reducible repeat (first | apply kN_ | apply kD_ | apply kA_)); exact BK395.out) Tryz.underlying24 rfl (by kernel_rfl)) rfl ?_
    exact ⟨by first | rfl | (simp [errW_none, errW_some] <;> rfl) | (simp [*, errW_none, errW_some] <;> rfl), by repeat (first | (with_reducible first | exact HB.out | apply bA_ | apply bN_ | apply bD_ | refine bS_ ?_ GE395.out) | exact HB.out)⟩
   ·rw [if_neg c18] at H
    have c18b0 : (a2 == 0) = false := beq_eq_false_iff_ne.mpr c18
    have c18b1 : (a2 != 0) = true := bne_iff_ne.mpr c18
    by_cases c21 : a0 = 63
    ·rw [if_pos c21] at H
     have c21b0 : (a0 == 63) = true := beq_iff_eq.mpr c21
     have c21b1 : (a0 != 63) = false := bne_eq_false_iff_eq.mpr c21
     clear c21
     replace H := Option.bind_eq_some_iff.mp H
     obtain ⟨⟨t404, t405, t406, t407⟩, A220, H⟩ := H
     replace H : (some (t404, t405, t406, t407, 0)) = some (r1, r2, r3, r4, r5) := H
     have A22 := Aside0.mk A220
     clear A220
     simp only [Option.some.injEq, Prod.mk.injEq] at H
     obtain ⟨rfl, rfl, rfl, rfl, rfl⟩ := H
     go_enter Tryz.func79, Tryz.ntmps79
     go_wp2_with (first | ((with_reducible refine gate_dst (N := 6) rfl ?_); refine box_event ?hg (N := 6) ?hd (cs := #[.int .i64 0, .int .u64 0, .string ⟨#[]⟩, .int .i64 0]) (t := 24) ?hr ?_; (case hd => rfl); (case hg => rfl); (case hr => first | (go_simp; done) | (go_simp; rfl)); intro gb395 hg w23 hbox hb; replace HB := sqN_ (by repeat (first | (with_reducible first | exact HB.out | apply bA_ | apply bN_ | apply bD_) | exact HB.out)) hg hb; obtain ⟨HB, GE395⟩ := HB; have BK395 := Aside0.mk hbox; clear hb hbox hg) | ((with_reducible refine gate_callee (f := 13) rfl ?_); refine goesL_ (some 32) rfl rfl Tryz.func13 (by kernel_rfl) rfl #[.int .u64 (IntKind.u64.wrap (Int.tdiv a1 a2))] rfl (by (try simp only [List.map_toArray, List.map_cons, List.map_nil]); first | done | rfl) ?_; (with_reducible refine (value_integer.calls (IntKind.u64.wrap (Int.tdiv a1 a2)) t404 t405 t406 t407 _ A22.out).mono ?_); rintro e w24 ⟨rfl, hb⟩; refine ⟨_, rfl, ?_⟩; replace BK395 := sqB_ (g := gb395) (by (with_reducible repeat (first | apply kN_ | apply kD_ | apply kA_)); exact BK395.out) hb; replace HB := sqS_ (by repeat (first | (with_reducible first | exact HB.out | apply bA_ | apply bN_ | apply bD_ | refine bS_ ?_ GE395.out) | exact HB.out)) hb; (try clear hb); (try clear hb2); (try clear hk); (try clear hi); obtain ⟨hcz25_0, hcz25_1, hcz25_2, hcz25_3⟩ := cells4_ BK395.out; obtain ⟨hfz25_0, hfz25_1, hfz25_2, hfz25_3⟩ := froz4_ BK395.out))
     refine bodyPost_ret (results_ct rfl _ _ gb395 24 #[.int .i64 t404, .int .u64 t405, .string t406, .int .i64 t407] (0, 0) _ rfl (by (with_reducible repeat (first | apply kN_ | apply kD_ | apply kA_)); refine blk_put (cs := #[.int .i64 t404, .int .u64 t405, .string t406, .int .i64 0]) ?_ 3 _ rfl; (with_reducible repeat (first | apply kN_ | apply kD_ | apply kA_)); refine blk_put (cs := #[.int .i64 t404, .int .u64 t405, .string ⟨#[]⟩, .int .i64 0]) ?_ 2 _ rfl; (with_reducible repeat (first | apply kN_ | apply kD_ | apply kA_)); refine blk_put (cs := #[.int .i64 t404, .int .u64 0, .string ⟨#[]⟩, .int .i64 0]) ?_ 1 _ rfl; (with_reducible repeat (first | apply kN_ | apply kD_ | apply kA_)); refine blk_put (cs := #[.int .i64 0, .int .u64 0, .string ⟨#[]⟩, .int .i64 0]) ?_ 0 _ rfl; (with_reducible repeat (first | apply kN_ | apply kD_ | apply kA_)); exact BK395.out) Tryz.underlying24 rfl (by kernel_rfl)) rfl ?_
     exact ⟨by first | rfl | (simp [errW_none, errW_some] <;> rfl) | (simp [*, errW_none, errW_some] <;> rfl), by repeat (first | (with_reducible first | exact HB.out | apply bA_ | apply bN_ | apply bD_ | refine bS_ ?_ GE395.out) | exact HB.out)⟩
    ·rw [if_neg c21] at H
     have c21b0 : (a0 == 63) = false := beq_eq_false_iff_ne.mpr c21
     have c21b1 : (a0 != 63) = true := bne_iff_ne.mpr c21
     replace H := Option.bind_eq_some_iff.mp H
     obtain ⟨⟨t408, t409, t410, t411⟩, A260, H⟩ := H
     replace H : (some (t408, t409, t410, t411, 0)) = some (r1, r2, r3, r4, r5) := H
     have A26 := Aside0.mk A260
     clear A260
     simp only [Option.some.injEq, Prod.mk.injEq] at H
     obtain ⟨rfl, rfl, rfl, rfl, rfl⟩ := H
     go_enter Tryz.func79, Tryz.ntmps79
     go_wp2_with (first | ((with_reducible refine gate_dst (N := 6) rfl ?_); refine box_event ?hg (N := 6) ?hd (cs := #[.int .i64 0, .int .u64 0, .string ⟨#[]⟩, .int .i64 0]) (t := 24) ?hr ?_; (case hd => rfl); (case hg => rfl); (case hr => first | (go_simp; done) | (go_simp; rfl)); intro gb395 hg w27 hbox hb; replace HB := sqN_ (by repeat (first | (with_reducible first | exact HB.out | apply bA_ | apply bN_ | apply bD_) | exact HB.out)) hg hb; obtain ⟨HB, GE395⟩ := HB; have BK395 := Aside0.mk hbox; clear hb hbox hg) | ((with_reducible refine gate_callee (f := 13) rfl ?_); refine goesL_ (some 36) rfl rfl Tryz.func13 (by kernel_rfl) rfl #[.int .u64 (Int.tmod a1 a2)] rfl (by (try simp only [List.map_toArray, List.map_cons, List.map_nil]); first | done | rfl) ?_; (with_reducible refine (value_integer.calls (Int.tmod a1 a2) t408 t409 t410 t411 _ A26.out).mono ?_); rintro e w28 ⟨rfl, hb⟩; refine ⟨_, rfl, ?_⟩; replace BK395 := sqB_ (g := gb395) (by (with_reducible repeat (first | apply kN_ | apply kD_ | apply kA_)); exact BK395.out) hb; replace HB := sqS_ (by repeat (first | (with_reducible first | exact HB.out | apply bA_ | apply bN_ | apply bD_ | refine bS_ ?_ GE395.out) | exact HB.out)) hb; (try clear hb); (try clear hb2); (try clear hk); (try clear hi); obtain ⟨hcz29_0, hcz29_1, hcz29_2, hcz29_3⟩ := cells4_ BK395.out; obtain ⟨hfz29_0, hfz29_1, hfz29_2, hfz29_3⟩ := froz4_ BK395.out))
     refine bodyPost_ret (results_ct rfl _ _ gb395 24 #[.int .i64 t408, .int .u64 t409, .string t410, .int .i64 t411] (0, 0) _ rfl (by (with_reducible repeat (first | apply kN_ | apply kD_ | apply kA_)); refine blk_put (cs := #[.int .i64 t408, .int .u64 t409, .string t410, .int .i64 0]) ?_ 3 _ rfl; (with_reducible repeat (first | apply kN_ | apply kD_ | apply kA_)); refine blk_put (cs := #[.int .i64 t408, .int .u64 t409, .string ⟨#[]⟩, .int .i64 0]) ?_ 2 _ rfl; (with_reducible repeat (first | apply kN_ | apply kD_ | apply kA_)); refine blk_put (cs := #[.int .i64 t408, .int .u64 0, .string ⟨#[]⟩, .int .i64 0]) ?_ 1 _ rfl; (with_reducible repeat (first | apply kN_ | apply kD_ | apply kA_)); refine blk_put (cs := #[.int .i64 0, .int .u64 0, .string ⟨#[]⟩, .int .i64 0]) ?_ 0 _ rfl; (with_reducible repeat (first | apply kN_ | apply kD_ | apply kA_)); exact BK395.out) Tryz.underlying24 rfl (by kernel_rfl)) rfl ?_
     exact ⟨by first | rfl | (simp [errW_none, errW_some] <;> rfl) | (simp [*, errW_none, errW_some] <;> rfl), by repeat (first | (with_reducible first | exact HB.out | apply bA_ | apply bN_ | apply bD_ | refine bS_ ?_ GE395.out) | exact HB.out)⟩

end Go.Proofs.YtdmeglmmihaonaaGreatDoor.PValueUnary
