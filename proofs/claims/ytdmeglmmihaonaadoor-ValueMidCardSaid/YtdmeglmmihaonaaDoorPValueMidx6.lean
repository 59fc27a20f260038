-- Written by a program of this session's (wip/print_patch.py over the kit's print) out of the translation; Lean checks it.
import Derived.Test.YtdmeglmmihaonaaDoorPValueMidx0
import Derived.Test.YtdmeglmmihaonaaDoorPValueMidx5
import Derived.Test.YtdmeglmmihaonaaDoorVValueMidExtP
namespace Go.Proofs.YtdmeglmmihaonaaDoor.PValueMid
open Go.RowKit Go.Proofs.YtdmeglmmihaonaaDoor.Ext Go.Proofs.YtdmeglmmihaonaaDoorW.PrintWords Go.Proofs.YtdmeglmmihaonaaDoorW.PrintLast Go.Proofs.YtdmeglmmihaonaaDoorW.PrintMore
attribute [local go_sem] max2_int min2_int max_two min_two max_three min_three max_four min_four   -- for this text's walks alone
set_option linter.unusedVariables false
set_option linter.unusedSimpArgs false

/-! ### platformfwlaw08_some: function 11 -/
def platformfwlaw08_some.j0 : Nat → Int → Bool → Int → Int → ByteArray → Int → Option (Int × Int × ByteArray × Int)
 | 0, _, _, _, _, _, _ => none
 | k + 1, x6, x7, x286000, x286001, x286002, x286003 => if x7 = true then ((platformfwref08_Number.f x286001).bind fun bt288 => (some (bt288.1, bt288.2.1, bt288.2.2.1, bt288.2.2.2))) else (if x6 = 2 then (if 0 ≤ (mn (x286002.size : Int) 24) then (if (mn (x286002.size : Int) 24) ≤ (x286002.size : Int) then (some (2, 0, x286002.extract 0 ((mn (x286002.size : Int) 24) : Int).toNat, 0)) else (none)) else (none)) else (if x6 = 3 then (if 0 ≤ (mn (x286002.size : Int) 24) then (if (mn (x286002.size : Int) 24) ≤ (x286002.size : Int) then (some (3, 0, x286002.extract 0 ((mn (x286002.size : Int) 24) : Int).toNat, 0)) else (none)) else (none)) else (if x6 = 4 then ((some (([(⟨#[]⟩ : ByteArray), (⟨#[48]⟩ : ByteArray), (⟨#[48, 120, 49, 71]⟩ : ByteArray), (⟨#[70, 70, 70, 70, 70, 70, 70, 70, 70, 70, 70, 70, 70, 70, 70, 70, 70, 70]⟩ : ByteArray), (⟨#[49, 56, 52, 52, 54, 55, 52, 52, 48, 55, 51, 55, 48, 57, 53, 53, 49, 54, 49, 54]⟩ : ByteArray), (⟨#[49, 50, 97]⟩ : ByteArray), (⟨#[48, 88, 97, 66, 99]⟩ : ByteArray), (⟨#[57]⟩ : ByteArray)] : List ByteArray) : List ByteArray)).bind fun y292 => ((platformfwhelp_Mod.f x286003 (y292.length : Int)).bind fun t295 => (if 0 ≤ t295 then (if t295 < (y292.length : Int) then (some (2, 0, rdOf ByteArray.empty y292 t295, 0)) else (none)) else (none)))) else (if x6 = 5 then ((platformfwhelp_Mod.f x286003 7).bind fun t297 => (if 0 ≤ (mn (x286002.size : Int) 255) then (if (mn (x286002.size : Int) 255) ≤ (x286002.size : Int) then (some (wrap64 t297, x286001, x286002.extract 0 ((mn (x286002.size : Int) 255) : Int).toNat, x286003)) else (none)) else (none))) else (if x6 = 6 then ((platformfwhelp_Mod.f x286003 2).bind fun t298 => (if 0 ≤ (mn (x286002.size : Int) 255) then (if (mn (x286002.size : Int) 255) ≤ (x286002.size : Int) then (some (wrap64 (2 + t298), 0, x286002.extract 0 ((mn (x286002.size : Int) 255) : Int).toNat, 0)) else (none)) else (none))) else (some (x286000, x286001, x286002, x286003)))))))
def platformfwlaw08_some.f (k : Nat) (a0_0 : Int) (a0_1 : Int) (a0_2 : ByteArray) (a0_3 : Int) : Option (Int × Int × ByteArray × Int) := (platformfwhelp_Mod.f a0_0 9).bind fun t287 => (if t287 = 0 then (platformfwlaw08_some.j0 k t287 (t287 == 0) a0_0 a0_1 a0_2 a0_3) else (platformfwlaw08_some.j0 k t287 (t287 == 1) a0_0 a0_1 a0_2 a0_3))
theorem platformfwlaw08_some.mono_l : ∀ k, (∀ y0 y1 y2 y3 y4 y5, LeO (platformfwlaw08_some.j0 k y0 y1 y2 y3 y4 y5) (platformfwlaw08_some.j0 (k + 1) y0 y1 y2 y3 y4 y5))
 | 0 => fun _ _ _ _ _ _ r h => by simp [platformfwlaw08_some.j0] at h
 | k + 1 => by
  have ih0 := platformfwlaw08_some.mono_l k
  ·intro y0 y1 y2 y3 y4 y5
   unfold platformfwlaw08_some.j0
   repeat' first
   | (with_reducible exact ih0 _ _ _ _ _ _)
   | (with_reducible exact LeO.refl _)
   | (with_reducible exact LeO.none _)
   | (with_reducible refine LeO.ite ?_ ?_)
   | (with_reducible refine LeO.bind ?_ (fun _ => ?_))
   | exact ih0 _ _ _ _ _ _
   | exact LeO.none _
   | refine LeO.ite ?_ ?_
   | refine LeO.bind ?_ (fun _ => ?_)
theorem platformfwlaw08_some.mono : ∀ a0 a1 a2 a3 k, LeO (platformfwlaw08_some.f k a0 a1 a2 a3) (platformfwlaw08_some.f (k + 1) a0 a1 a2 a3) := by
 intro a0 a1 a2 a3 k
 have ih0 := platformfwlaw08_some.mono_l k
 unfold platformfwlaw08_some.f
 repeat' first
   | (with_reducible exact ih0 _ _ _ _ _ _)
   | (with_reducible exact LeO.refl _)
   | (with_reducible exact LeO.none _)
   | (with_reducible refine LeO.ite ?_ ?_)
   | (with_reducible refine LeO.bind ?_ (fun _ => ?_))
   | exact ih0 _ _ _ _ _ _
   | exact LeO.none _
   | refine LeO.ite ?_ ?_
   | refine LeO.bind ?_ (fun _ => ?_)
def platformfwlaw08_some.T13 : Bool × List (List Nat × List Nat) := (true, [([], []), ([0], [0]), ([1], [1]), ([2], [2]), ([], []), ([4], [4]), ([], []), ([6], [6]), ([7], [7]), ([8], [8]), ([5, 9], [5, 9]), ([], []), ([11], [11]), ([], []), ([13], [13]), ([3, 10, 12, 14], [3, 10, 12, 14]), ([15, 2, 0, 1, 2, 3, 4, 5, 6, 7, 8, 9, 10, 11, 12, 13, 14, 15], [15])])
def platformfwlaw08_some.B13 : List Nat := [0, 1, 3, 7, 0, 16, 0, 64, 192, 448, 1008, 0, 2048, 0, 8192, 32767, 65535]
theorem platformfwlaw08_some.tab13 : rtab .any (opsOf Tryd.f11 13) = platformfwlaw08_some.T13 := by kernel_rfl
theorem platformfwlaw08_some.bits13 : waitsOk platformfwlaw08_some.T13.2 platformfwlaw08_some.B13 = true := by kernel_rfl
def platformfwlaw08_some.T15 : Bool × List (List Nat × List Nat) := (true, [([], []), ([0], [0]), ([1], [1]), ([2], [2]), ([], []), ([4], [4]), ([], []), ([6], [6]), ([7], [7]), ([8], [8]), ([5, 9], [5, 9]), ([3, 10], [3, 10]), ([11, 2, 0, 1, 2, 3, 4, 5, 6, 7, 8, 9, 10, 11], [11])])
def platformfwlaw08_some.B15 : List Nat := [0, 1, 3, 7, 0, 16, 0, 64, 192, 448, 1008, 2047, 4095]
theorem platformfwlaw08_some.tab15 : rtab .any (opsOf Tryd.f11 15) = platformfwlaw08_some.T15 := by kernel_rfl
theorem platformfwlaw08_some.bits15 : waitsOk platformfwlaw08_some.T15.2 platformfwlaw08_some.B15 = true := by kernel_rfl
set_option maxHeartbeats 8000000 in
set_option maxRecDepth 100000 in
theorem platformfwlaw08_some.calls (k : Nat) (a0_0 : Int) (a0_1 : Int) (a0_2 : ByteArray) (a0_3 : Int) (r1 : Int) (r2 : Int) (r3 : ByteArray) (r4 : Int) (w : World) (h : platformfwlaw08_some.f k a0_0 a0_1 a0_2 a0_3 = some (r1, r2, r3, r4)) :
  Calls Tryd.prog 11 #[.agg #[.int .i64 a0_0, .int .u64 a0_1, .string a0_2, .int .i64 a0_3]] w fun e w' => e = .returned (.agg #[.int .i64 r1, .int .u64 r2, .string r3, .int .i64 r4]) ∧ Below w.heap.size w w' := by
 have hu24 := Tryd.underlying24
 have HB := Aside0.mk (Below.refl w.heap.size w)
 have H : ((platformfwhelp_Mod.f a0_0 9).bind fun t287 => (if t287 = 0 then (platformfwlaw08_some.j0 k t287 (t287 == 0) a0_0 a0_1 a0_2 a0_3) else (platformfwlaw08_some.j0 k t287 (t287 == 1) a0_0 a0_1 a0_2 a0_3))) = some (r1, r2, r3, r4) := h
 clear h
 replace H := Option.bind_eq_some_iff.mp H
 obtain ⟨t287, A20, H⟩ := H
 replace H : (if t287 = 0 then (platformfwlaw08_some.j0 k t287 (t287 == 0) a0_0 a0_1 a0_2 a0_3) else (platformfwlaw08_some.j0 k t287 (t287 == 1) a0_0 a0_1 a0_2 a0_3)) = some (r1, r2, r3, r4) := H
 have A2 := Aside0.mk A20
 clear A20
 have HC3 := Aside0.mk H
 clear H
 go_enter Tryd.func11, Tryd.ntmps11
 go_upto_if 7 with (first | ((with_reducible refine gate_dst (N := 1) rfl ?_); refine box_event ?hg (N := 1) ?hd (cs := #[.int .i64 a0_0, .int .u64 a0_1, .string a0_2, .int .i64 a0_3]) (t := 24) ?hr ?_; (case hd => rfl); (case hg => rfl); (case hr => first | (go_simp; done) | (go_simp; rfl)); intro gb285 hg w4 hbox hb; replace HB := sqN_ (by repeat (first | (with_reducible first | exact HB.out | apply bA_ | apply bN_ | apply bD_) | exact HB.out)) hg hb; obtain ⟨HB, GE285⟩ := HB; have BK285 := Aside0.mk hbox; clear hb hbox hg) | ((with_reducible refine gate_dst (N := 2) rfl ?_); refine box_event ?hg (N := 2) ?hd (cs := #[.int .i64 0, .int .u64 0, .string ⟨#[]⟩, .int .i64 0]) (t := 24) ?hr ?_; (case hd => rfl); (case hg => rfl); (case hr => first | (go_simp; done) | (go_simp; rfl)); intro gb286 hg w5 hbox hb; replace BK285 := sqO_ BK285 (by (with_reducible repeat (first | apply kN_ | apply kD_ | apply kA_)); exact BK285.out) hg hb; obtain ⟨BK285, NB285_286, NB286_285⟩ := BK285; replace HB := sqN_ (by repeat (first | (with_reducible first | exact HB.out | apply bA_ | apply bN_ | apply bD_ | refine bS_ ?_ GE285.out) | exact HB.out)) hg hb; obtain ⟨HB, GE286⟩ := HB; have BK286 := Aside0.mk hbox; clear hb hbox hg; have hnb6 := NB285_286.out; have hnc6 := NB286_285.out; obtain ⟨hcz7_0, hcz7_1, hcz7_2, hcz7_3⟩ := cells4_ BK285.out; obtain ⟨hfz7_0, hfz7_1, hfz7_2, hfz7_3⟩ := froz4_ BK285.out) | ((with_reducible refine gate_callee (f := 10) rfl ?_); refine goesL_ (some 6) rfl rfl Tryd.func10 (by kernel_rfl) rfl #[.int .i64 a0_0, .int .i64 9] rfl (by (try simp only [List.map_toArray, List.map_cons, List.map_nil]); first | done | rfl) ?_; (with_reducible refine (platformfwhelp_Mod.calls a0_0 9 t287 _ A2.out).mono ?_); rintro e w' ⟨rfl, ⟨nd, rfl⟩⟩; refine ⟨_, rfl, ?_⟩))
 (try simp only [Act.put, sA_, sB_, sC_])
 go_cut [7] (fun v7 wc => ∃ (kq : Nat) (x7_2 : Bool), v7 = .bool x7_2 ∧ Aside0 (platformfwlaw08_some.j0 kq t287 x7_2 a0_0 a0_1 a0_2 a0_3 = some (r1, r2, r3, r4)) ∧ Aside0 (kq ≤ k) ∧ Aside0 (wc.heap[gb285]? = some (.cells #[.int .i64 a0_0, .int .u64 a0_1, .string a0_2, .int .i64 a0_3] 24 (0, 0))) ∧ Aside0 (wc.heap[gb286]? = some (.cells #[.int .i64 0, .int .u64 0, .string ⟨#[]⟩, .int .i64 0] 24 (0, 0))) ∧ Aside0 (Below w.heap.size w wc))
 case first =>
  have H := HC3.out
  clear HC3
  by_cases c8 : t287 = 0
  ·rw [if_pos c8] at H
   have c8b0 : (t287 == 0) = true := beq_iff_eq.mpr c8
   have c8b1 : (t287 != 0) = false := bne_eq_false_iff_eq.mpr c8
   clear c8
   (first | rw [c8b0] | (simp only [i64_w, i32_w]; rw [c8b0]) | skip)
   have H' := Aside0.mk H
   clear H
   go_wp2
   go_meet
   case rel => exact ⟨_, ((t287 == 0)), (by first | rfl | (simp; done) | (simp [*]; done)), H', ⟨by first | omega | exact Nat.le_refl _⟩, ⟨by (with_reducible repeat (first | apply kN_ | apply kD_ | apply kA_)); exact BK285.out⟩, ⟨by (with_reducible repeat (first | apply kN_ | apply kD_ | apply kA_)); exact BK286.out⟩, ⟨by repeat (first | (with_reducible first | exact HB.out | apply bA_ | apply bN_ | apply bD_ | refine bS_ ?_ GE285.out | refine bS_ ?_ GE286.out) | exact HB.out)⟩⟩
  ·rw [if_neg c8] at H
   have c8b0 : (t287 == 0) = false := beq_eq_false_iff_ne.mpr c8
   have c8b1 : (t287 != 0) = true := bne_iff_ne.mpr c8
   (first | rw [c8b0] | (simp only [i64_w, i32_w]; rw [c8b0]) | skip)
   have H' := Aside0.mk H
   clear H
   go_wp2
   go_meet
   case rel => exact ⟨_, ((t287 == 1)), (by first | rfl | (simp; done) | (simp [*]; done)), H', ⟨by first | omega | exact Nat.le_refl _⟩, ⟨by (with_reducible repeat (first | apply kN_ | apply kD_ | apply kA_)); exact BK285.out⟩, ⟨by (with_reducible repeat (first | apply kN_ | apply kD_ | apply kA_)); exact BK286.out⟩, ⟨by repeat (first | (with_reducible first | exact HB.out | apply bA_ | apply bN_ | apply bD_ | refine bS_ ?_ GE285.out | refine bS_ ?_ GE286.out) | exact HB.out)⟩⟩
 case rest =>
  clear HC3
  try clear c1
  try clear p2
  try clear c6
  try clear c8
  try clear c8b0
  try clear c8b1
  try clear hcz7_0 hcz7_1 hcz7_2 hcz7_3
  try clear hfz7_0 hfz7_1 hfz7_2 hfz7_3
  obtain ⟨kq, x7_2, rfl, HA, HJ2, BK285, BK286, HB⟩ := hcut
  cases kq with
  | zero => exact absurd HA.out (by simp [platformfwlaw08_some.j0])
  | succ kj2 =>
   have H := HA.out
   clear HA
   simp only [platformfwlaw08_some.j0] at H
   by_cases c9 : x7_2 = true
   ·subst c9
    have H1 : ((platformfwref08_Number.f a0_1).bind fun bt288 => (some (bt288.1, bt288.2.1, bt288.2.2.1, bt288.2.2.2))) = some (r1, r2, r3, r4) := by rw [if_pos rfl] at H; exact H
    clear H
    have H := H1
    clear H1
    replace H := Option.bind_eq_some_iff.mp H
    obtain ⟨⟨t288, t289, t290, t291⟩, A100, H⟩ := H
    replace H : (some (t288, t289, t290, t291)) = some (r1, r2, r3, r4) := H
    have A10 := Aside0.mk A100
    clear A100
    simp only [Option.some.injEq, Prod.mk.injEq] at H
    obtain ⟨rfl, rfl, rfl, rfl⟩ := H
    have hnb11 := NB285_286.out
    have hnc11 := NB286_285.out
    obtain ⟨hcz12_0, hcz12_1, hcz12_2, hcz12_3⟩ := cells4_ BK285.out
    obtain ⟨hfz12_0, hfz12_1, hfz12_2, hfz12_3⟩ := froz4_ BK285.out
    go_wp2_with (first | ((with_reducible refine gate_callee (f := 19) rfl ?_); refine goesL_ (some 12) rfl rfl Tryd.func19 (by kernel_rfl) rfl #[.int .u64 a0_1] rfl (by (try simp only [List.map_toArray, List.map_cons, List.map_nil]); first | done | rfl) ?_; (with_reducible refine (platformfwref08_Number.calls a0_1 t288 t289 t290 t291 _ A10.out).mono ?_); rintro e w13 ⟨rfl, hb⟩; refine ⟨_, rfl, ?_⟩; replace BK285 := sqB_ BK285 (by (with_reducible repeat (first | apply kN_ | apply kD_ | apply kA_)); exact BK285.out) hb; replace BK286 := sqB_ BK286 (by (with_reducible repeat (first | apply kN_ | apply kD_ | apply kA_)); exact BK286.out) hb; replace HB := sqS_ (by repeat (first | (with_reducible first | exact HB.out | apply bA_ | apply bN_ | apply bD_ | refine bS_ ?_ GE285.out | refine bS_ ?_ GE286.out) | exact HB.out)) hb; (try clear hb); (try clear hb2); (try clear hk); (try clear hi); obtain ⟨hcz14_0, hcz14_1, hcz14_2, hcz14_3⟩ := cells4_ BK286.out; obtain ⟨hfz14_0, hfz14_1, hfz14_2, hfz14_3⟩ := froz4_ BK286.out))
    refine bodyPost_ret (results_cell_row rfl _ _ gb286 24 #[.int .i64 t288, .int .u64 t289, .string t290, .int .i64 t291] (0, 0) _ rfl (by (with_reducible repeat (first | apply kN_ | apply kD_ | apply kA_)); refine blk_put (cs := #[.int .i64 t288, .int .u64 t289, .string t290, .int .i64 0]) ?_ 3 _ rfl; (with_reducible repeat (first | apply kN_ | apply kD_ | apply kA_)); refine blk_put (cs := #[.int .i64 t288, .int .u64 t289, .string ⟨#[]⟩, .int .i64 0]) ?_ 2 _ rfl; (with_reducible repeat (first | apply kN_ | apply kD_ | apply kA_)); refine blk_put (cs := #[.int .i64 t288, .int .u64 0, .string ⟨#[]⟩, .int .i64 0]) ?_ 1 _ rfl; (with_reducible repeat (first | apply kN_ | apply kD_ | apply kA_)); refine blk_put (cs := #[.int .i64 0, .int .u64 0, .string ⟨#[]⟩, .int .i64 0]) ?_ 0 _ rfl; (with_reducible repeat (first | apply kN_ | apply kD_ | apply kA_)); exact BK286.out) Tryd.underlying24 rfl (by kernel_rfl)) rfl ?_
    exact ⟨by first | rfl | (simp [errW_none, errW_some] <;> rfl) | (simp [*, errW_none, errW_some] <;> rfl), by repeat (first | (with_reducible first | exact HB.out | apply bA_ | apply bN_ | apply bD_ | refine bS_ ?_ GE285.out | refine bS_ ?_ GE286.out) | exact HB.out)⟩
   ·replace c9 := Bool.eq_false_iff.mpr c9
    subst c9
    have H1 : (if t287 = 2 then (if 0 ≤ (mn (a0_2.size : Int) 24) then (if (mn (a0_2.size : Int) 24) ≤ (a0_2.size : Int) then (some (2, 0, a0_2.extract 0 ((mn (a0_2.size : Int) 24) : Int).toNat, 0)) else (none)) else (none)) else (if t287 = 3 then (if 0 ≤ (mn (a0_2.size : Int) 24) then (if (mn (a0_2.size : Int) 24) ≤ (a0_2.size : Int) then (some (3, 0, a0_2.extract 0 ((mn (a0_2.size : Int) 24) : Int).toNat, 0)) else (none)) else (none)) else (if t287 = 4 then ((some (([(⟨#[]⟩ : ByteArray), (⟨#[48]⟩ : ByteArray), (⟨#[48, 120, 49, 71]⟩ : ByteArray), (⟨#[70, 70, 70, 70, 70, 70, 70, 70, 70, 70, 70, 70, 70, 70, 70, 70, 70, 70]⟩ : ByteArray), (⟨#[49, 56, 52, 52, 54, 55, 52, 52, 48, 55, 51, 55, 48, 57, 53, 53, 49, 54, 49, 54]⟩ : ByteArray), (⟨#[49, 50, 97]⟩ : ByteArray), (⟨#[48, 88, 97, 66, 99]⟩ : ByteArray), (⟨#[57]⟩ : ByteArray)] : List ByteArray) : List ByteArray)).bind fun y292 => ((platformfwhelp_Mod.f a0_3 (y292.length : Int)).bind fun t295 => (if 0 ≤ t295 then (if t295 < (y292.length : Int) then (some (2, 0, rdOf ByteArray.empty y292 t295, 0)) else (none)) else (none)))) else (if t287 = 5 then ((platformfwhelp_Mod.f a0_3 7).bind fun t297 => (if 0 ≤ (mn (a0_2.size : Int) 255) then (if (mn (a0_2.size : Int) 255) ≤ (a0_2.size : Int) then (some (wrap64 t297, a0_1, a0_2.extract 0 ((mn (a0_2.size : Int) 255) : Int).toNat, a0_3)) else (none)) else (none))) else (if t287 = 6 then ((platformfwhelp_Mod.f a0_3 2).bind fun t298 => (if 0 ≤ (mn (a0_2.size : Int) 255) then (if (mn (a0_2.size : Int) 255) ≤ (a0_2.size : Int) then (some (wrap64 (2 + t298), 0, a0_2.extract 0 ((mn (a0_2.size : Int) 255) : Int).toNat, 0)) else (none)) else (none))) else (some (a0_0, a0_1, a0_2, a0_3))))))) = some (r1, r2, r3, r4) := by rw [if_neg (show ¬ (false = true) by decide)] at H; exact H
    clear H
    have H := H1
    clear H1
    by_cases c15 : t287 = 2
    ·rw [if_pos c15] at H
     have c15b0 : (t287 == 2) = true := beq_iff_eq.mpr c15
     have c15b1 : (t287 != 2) = false := bne_eq_false_iff_eq.mpr c15
     clear c15
     obtain ⟨ji16, hji16⟩ : ∃ j_ : Int, (mn (a0_2.size : Int) 24) = j_ := ⟨_, rfl⟩
     replace H : (if 0 ≤ (ji16) then (if (ji16) ≤ (a0_2.size : Int) then (some (2, 0, a0_2.extract 0 ((ji16) : Int).toNat, 0)) else (none)) else (none)) = some (r1, r2, r3, r4) := by first | (rw [hji16] at H; exact H) | (simp only [hji16] at H ⊢; exact H)
     have hji16_ : (if 24 < (a0_2.size : Int) then 24 else (a0_2.size : Int)) = ji16 := hji16
     by_cases c17 : 0 ≤ (ji16)
     ·rw [if_pos c17] at H
      have c17b0 := eq_true c17
      have c17b1 : decide (0 ≤ (ji16)) = true := decide_eq_true c17
      clear c17
      by_cases c18 : (ji16) ≤ (a0_2.size : Int)
      ·rw [if_pos c18] at H
       have c18b0 := eq_true c18
       have c18b1 : decide ((ji16) ≤ (a0_2.size : Int)) = true := decide_eq_true c18
       clear c18
       simp only [Option.some.injEq, Prod.mk.injEq] at H
       obtain ⟨rfl, rfl, rfl, rfl⟩ := H
       have hnb19 := NB285_286.out
       have hnc19 := NB286_285.out
       obtain ⟨hcz20_0, hcz20_1, hcz20_2, hcz20_3⟩ := cells4_ BK285.out
       obtain ⟨hfz20_0, hfz20_1, hfz20_2, hfz20_3⟩ := froz4_ BK285.out
       obtain ⟨hcz21_0, hcz21_1, hcz21_2, hcz21_3⟩ := cells4_ BK286.out
       obtain ⟨hfz21_0, hfz21_1, hfz21_2, hfz21_3⟩ := froz4_ BK286.out
       go_wp2
       refine bodyPost_ret (results_cell_row rfl _ _ gb286 24 #[.int .i64 2, .int .u64 0, .string (a0_2.extract 0 ((ji16) : Int).toNat), .int .i64 0] (0, 0) _ rfl (by (with_reducible repeat (first | apply kN_ | apply kD_ | apply kA_)); refine blk_put (cs := #[.int .i64 2, .int .u64 0, .string (a0_2.extract 0 ((ji16) : Int).toNat), .int .i64 0]) ?_ 3 _ rfl; (with_reducible repeat (first | apply kN_ | apply kD_ | apply kA_)); refine blk_put (cs := #[.int .i64 2, .int .u64 0, .string ⟨#[]⟩, .int .i64 0]) ?_ 2 _ rfl; (with_reducible repeat (first | apply kN_ | apply kD_ | apply kA_)); refine blk_put (cs := #[.int .i64 2, .int .u64 0, .string ⟨#[]⟩, .int .i64 0]) ?_ 1 _ rfl; (with_reducible repeat (first | apply kN_ | apply kD_ | apply kA_)); refine blk_put (cs := #[.int .i64 0, .int .u64 0, .string ⟨#[]⟩, .int .i64 0]) ?_ 0 _ rfl; (with_reducible repeat (first | apply kN_ | apply kD_ | apply kA_)); exact BK286.out) Tryd.underlying24 rfl (by kernel_rfl)) rfl ?_
       exact ⟨by first | rfl | (simp [errW_none, errW_some] <;> rfl) | (simp only [← hji16]; first | rfl | (simp [errW_none, errW_some] <;> rfl)) | (simp [*, errW_none, errW_some] <;> rfl), by repeat (first | (with_reducible first | exact HB.out | apply bA_ | apply bN_ | apply bD_ | refine bS_ ?_ GE285.out | refine bS_ ?_ GE286.out) | exact HB.out)⟩
      ·rw [if_neg c18] at H
       exact absurd H (by simp)
     ·rw [if_neg c17] at H
      exact absurd H (by simp)
    ·rw [if_neg c15] at H
     have c15b0 : (t287 == 2) = false := beq_eq_false_iff_ne.mpr c15
     have c15b1 : (t287 != 2) = true := bne_iff_ne.mpr c15
     by_cases c22 : t287 = 3
     ·rw [if_pos c22] at H
      have c22b0 : (t287 == 3) = true := beq_iff_eq.mpr c22
      have c22b1 : (t287 != 3) = false := bne_eq_false_iff_eq.mpr c22
      clear c22
      obtain ⟨ji23, hji23⟩ : ∃ j_ : Int, (mn (a0_2.size : Int) 24) = j_ := ⟨_, rfl⟩
      replace H : (if 0 ≤ (ji23) then (if (ji23) ≤ (a0_2.size : Int) then (some (3, 0, a0_2.extract 0 ((ji23) : Int).toNat, 0)) else (none)) else (none)) = some (r1, r2, r3, r4) := by first | (rw [hji23] at H; exact H) | (simp only [hji23] at H ⊢; exact H)
      have hji23_ : (if 24 < (a0_2.size : Int) then 24 else (a0_2.size : Int)) = ji23 := hji23
      by_cases c24 : 0 ≤ (ji23)
      ·rw [if_pos c24] at H
       have c24b0 := eq_true c24
       have c24b1 : decide (0 ≤ (ji23)) = true := decide_eq_true c24
       clear c24
       by_cases c25 : (ji23) ≤ (a0_2.size : Int)
       ·rw [if_pos c25] at H
        have c25b0 := eq_true c25
        have c25b1 : decide ((ji23) ≤ (a0_2.size : Int)) = true := decide_eq_true c25
        clear c25
        simp only [Option.some.injEq, Prod.mk.injEq] at H
        obtain ⟨rfl, rfl, rfl, rfl⟩ := H
        have hnb26 := NB285_286.out
        have hnc26 := NB286_285.out
        obtain ⟨hcz27_0, hcz27_1, hcz27_2, hcz27_3⟩ := cells4_ BK285.out
        obtain ⟨hfz27_0, hfz27_1, hfz27_2, hfz27_3⟩ := froz4_ BK285.out
        obtain ⟨hcz28_0, hcz28_1, hcz28_2, hcz28_3⟩ := cells4_ BK286.out
        obtain ⟨hfz28_0, hfz28_1, hfz28_2, hfz28_3⟩ := froz4_ BK286.out
        go_wp2
        refine bodyPost_ret (results_cell_row rfl _ _ gb286 24 #[.int .i64 3, .int .u64 0, .string (a0_2.extract 0 ((ji23) : Int).toNat), .int .i64 0] (0, 0) _ rfl (by (with_reducible repeat (first | apply kN_ | apply kD_ | apply kA_)); refine blk_put (cs := #[.int .i64 3, .int .u64 0, .string (a0_2.extract 0 ((ji23) : Int).toNat), .int .i64 0]) ?_ 3 _ rfl; (with_reducible repeat (first | apply kN_ | apply kD_ | apply kA_)); refine blk_put (cs := #[.int .i64 3, .int .u64 0, .string ⟨#[]⟩, .int .i64 0]) ?_ 2 _ rfl; (with_reducible repeat (first | apply kN_ | apply kD_ | apply kA_)); refine blk_put (cs := #[.int .i64 3, .int .u64 0, .string ⟨#[]⟩, .int .i64 0]) ?_ 1 _ rfl; (with_reducible repeat (first | apply kN_ | apply kD_ | apply kA_)); refine blk_put (cs := #[.int .i64 0, .int .u64 0, .string ⟨#[]⟩, .int .i64 0]) ?_ 0 _ rfl; (with_reducible repeat (first | apply kN_ | apply kD_ | apply kA_)); exact BK286.out) Tryd.underlying24 rfl (by kernel_rfl)) rfl ?_
        exact ⟨by first | rfl | (simp [errW_none, errW_some] <;> rfl) | (simp only [← hji23]; first | rfl | (simp [errW_none, errW_some] <;> rfl)) | (simp [*, errW_none, errW_some] <;> rfl), by repeat (first | (with_reducible first | exact HB.out | apply bA_ | apply bN_ | apply bD_ | refine bS_ ?_ GE285.out | refine bS_ ?_ GE286.out) | exact HB.out)⟩
       ·rw [if_neg c25] at H
        exact absurd H (by simp)
      ·rw [if_neg c24] at H
       exact absurd H (by simp)
     ·rw [if_neg c22] at H
      have c22b0 : (t287 == 3) = false := beq_eq_false_iff_ne.mpr c22
      have c22b1 : (t287 != 3) = true := bne_iff_ne.mpr c22
      by_cases c29 : t287 = 4
      ·rw [if_pos c29] at H
       have c29b0 : (t287 == 4) = true := beq_iff_eq.mpr c29
       have c29b1 : (t287 != 4) = false := bne_eq_false_iff_eq.mpr c29
       clear c29
       obtain ⟨y292, hy292⟩ : ∃ y_ : List ByteArray, y_ = (([(⟨#[]⟩ : ByteArray), (⟨#[48]⟩ : ByteArray), (⟨#[48, 120, 49, 71]⟩ : ByteArray), (⟨#[70, 70, 70, 70, 70, 70, 70, 70, 70, 70, 70, 70, 70, 70, 70, 70, 70, 70]⟩ : ByteArray), (⟨#[49, 56, 52, 52, 54, 55, 52, 52, 48, 55, 51, 55, 48, 57, 53, 53, 49, 54, 49, 54]⟩ : ByteArray), (⟨#[49, 50, 97]⟩ : ByteArray), (⟨#[48, 88, 97, 66, 99]⟩ : ByteArray), (⟨#[57]⟩ : ByteArray)] : List ByteArray)) := ⟨_, rfl⟩
       replace H : ((platformfwhelp_Mod.f a0_3 (y292.length : Int)).bind fun t295 => (if 0 ≤ t295 then (if t295 < (y292.length : Int) then (some (2, 0, rdOf ByteArray.empty y292 t295, 0)) else (none)) else (none))) = some (r1, r2, r3, r4) := by first | (rw [hy292]; with_reducible exact H) | (have H2_ := (Option.bind_some _ _).symm.trans H; rw [hy292]; with_reducible exact H2_) | (have H2_ := (Option.bind_some _ _).symm.trans H; with_reducible exact H2_) | with_reducible exact H | (rw [hy292]; exact H) | exact H
       have Ny292 := Aside0.mk hy292
       clear hy292
       replace H := Option.bind_eq_some_iff.mp H
       obtain ⟨t295, A300, H⟩ := H
       replace H : (if 0 ≤ t295 then (if t295 < (y292.length : Int) then (some (2, 0, rdOf ByteArray.empty y292 t295, 0)) else (none)) else (none)) = some (r1, r2, r3, r4) := H
       have A30 := Aside0.mk A300
       clear A300
       by_cases c31 : 0 ≤ t295
       ·rw [if_pos c31] at H
        have c31b0 : decide (0 ≤ t295) = true := decide_eq_true c31
        clear c31
        by_cases c32 : t295 < (y292.length : Int)
        ·rw [if_pos c32] at H
         have c32b0 : decide (t295 < (y292.length : Int)) = true := decide_eq_true c32
         clear c32
         simp only [Option.some.injEq, Prod.mk.injEq] at H
         obtain ⟨rfl, rfl, rfl, rfl⟩ := H
         go_wp2_with (first | ((with_reducible refine gate_dst (N := 35) rfl ?_); refine Kd.R_lit Kd.string _ 9 ?hg (N := 35) ?hd (xs := ([(⟨#[]⟩ : ByteArray), (⟨#[48]⟩ : ByteArray), (⟨#[48, 120, 49, 71]⟩ : ByteArray), (⟨#[70, 70, 70, 70, 70, 70, 70, 70, 70, 70, 70, 70, 70, 70, 70, 70, 70, 70]⟩ : ByteArray), (⟨#[49, 56, 52, 52, 54, 55, 52, 52, 48, 55, 51, 55, 48, 57, 53, 53, 49, 54, 49, 54]⟩ : ByteArray), (⟨#[49, 50, 97]⟩ : ByteArray), (⟨#[48, 88, 97, 66, 99]⟩ : ByteArray), (⟨#[57]⟩ : ByteArray)] : List ByteArray)) (inner := [.string ⟨#[]⟩, .string (⟨#[48]⟩ : ByteArray), .string (⟨#[48, 120, 49, 71]⟩ : ByteArray), .string (⟨#[70, 70, 70, 70, 70, 70, 70, 70, 70, 70, 70, 70, 70, 70, 70, 70, 70, 70]⟩ : ByteArray), .string (⟨#[49, 56, 52, 52, 54, 55, 52, 52, 48, 55, 51, 55, 48, 57, 53, 53, 49, 54, 49, 54]⟩ : ByteArray), .string (⟨#[49, 50, 97]⟩ : ByteArray), .string (⟨#[48, 88, 97, 66, 99]⟩ : ByteArray), .string (⟨#[57]⟩ : ByteArray)]) (ok := fun _ => True) (okp := fun _ => True) ?hr ?hp (fun _ hk => hk) trivial (Below.refl _ _) (Nat.le_refl _) (by simp) ?_; (case hd => rfl); (case hg => rfl); (case hr => first | (go_simp; done) | (go_simp; rfl)); (case hp => exact (Reps.one (show Kd.M Kd.string _ _ _ (⟨#[]⟩ : ByteArray) [.string ⟨#[]⟩] from rfl) (Reps.one (show Kd.M Kd.string _ _ _ (⟨#[48]⟩ : ByteArray) [.string (⟨#[48]⟩ : ByteArray)] from rfl) (Reps.one (show Kd.M Kd.string _ _ _ (⟨#[48, 120, 49, 71]⟩ : ByteArray) [.string (⟨#[48, 120, 49, 71]⟩ : ByteArray)] from rfl) (Reps.one (show Kd.M Kd.string _ _ _ (⟨#[70, 70, 70, 70, 70, 70, 70, 70, 70, 70, 70, 70, 70, 70, 70, 70, 70, 70]⟩ : ByteArray) [.string (⟨#[70, 70, 70, 70, 70, 70, 70, 70, 70, 70, 70, 70, 70, 70, 70, 70, 70, 70]⟩ : ByteArray)] from rfl) (Reps.one (show Kd.M Kd.string _ _ _ (⟨#[49, 56, 52, 52, 54, 55, 52, 52, 48, 55, 51, 55, 48, 57, 53, 53, 49, 54, 49, 54]⟩ : ByteArray) [.string (⟨#[49, 56, 52, 52, 54, 55, 52, 52, 48, 55, 51, 55, 48, 57, 53, 53, 49, 54, 49, 54]⟩ : ByteArray)] from rfl) (Reps.one (show Kd.M Kd.string _ _ _ (⟨#[49, 50, 97]⟩ : ByteArray) [.string (⟨#[49, 50, 97]⟩ : ByteArray)] from rfl) (Reps.one (show Kd.M Kd.string _ _ _ (⟨#[48, 88, 97, 66, 99]⟩ : ByteArray) [.string (⟨#[48, 88, 97, 66, 99]⟩ : ByteArray)] from rfl) (Reps.one (show Kd.M Kd.string _ _ _ (⟨#[57]⟩ : ByteArray) [.string (⟨#[57]⟩ : ByteArray)] from rfl) (Reps.none _ _)))))))))); intro v293 w33 ho34 hb hg_ hnew_; clear hg_ hnew_; (first | rw [← Ny292.out] at ho34 | (simp only [Int.reduceToNat] at ho34; rw [← Ny292.out] at ho34)); have n0_ := Aside0.mk (Kd.R_lower ho34 (below_size (by repeat (first | (with_reducible first | exact HB.out | apply bA_ | apply bN_ | apply bD_ | refine bS_ ?_ GE285.out | refine bS_ ?_ GE286.out) | exact HB.out)))); have n1_ := Aside0.mk (blk_below (g := gb285) (o := .cells #[.int .i64 a0_0, .int .u64 a0_1, .string a0_2, .int .i64 a0_3] 24 (0, 0)) (by (with_reducible repeat (first | apply kN_ | apply kD_ | apply kA_)); exact BK285.out) hb); have n2_ := Aside0.mk (blk_below (g := gb286) (o := .cells #[.int .i64 0, .int .u64 0, .string ⟨#[]⟩, .int .i64 0] 24 (0, 0)) (by (with_reducible repeat (first | apply kN_ | apply kD_ | apply kA_)); exact BK286.out) hb); have n3_ := Aside0.mk (below_step (by repeat (first | (with_reducible first | exact HB.out | apply bA_ | apply bN_ | apply bD_ | refine bS_ ?_ GE285.out | refine bS_ ?_ GE286.out) | exact HB.out)) hb); clear BK285; clear BK286; clear HB; have HO294 := n0_; have BK285 := n1_; have BK286 := n2_; have HB := n3_; clear n0_ n1_ n2_ n3_; clear hb ho34; have hnb35 := NB285_286.out; have hnc35 := NB286_285.out; obtain ⟨hcz36_0, hcz36_1, hcz36_2, hcz36_3⟩ := cells4_ BK285.out; obtain ⟨hfz36_0, hfz36_1, hfz36_2, hfz36_3⟩ := froz4_ BK285.out; obtain ⟨Ao37, co37, eo37⟩ := Kd.R_slice HO294.out; subst eo37) | ((with_reducible refine gate_callee (f := 10) rfl ?_); refine goesL_ (some 41) rfl rfl Tryd.func10 (by kernel_rfl) rfl #[.int .i64 a0_3, .int .i64 (y292.length : Int)] rfl (by (try simp only [List.map_toArray, List.map_cons, List.map_nil]); first | done | rfl) ?_; (with_reducible refine (platformfwhelp_Mod.calls a0_3 (y292.length : Int) t295 _ A30.out).mono ?_); rintro e w' ⟨rfl, ⟨nd, rfl⟩⟩; refine ⟨_, rfl, ?_⟩; (try (rw [drewN_self w33]; generalize hq_ : World.drewN w33 _ = w33; have n0_ : Aside0 (Kd.R Kd.string 9 w33 w.heap.size (fun _ => True) (.slice Ao37 y292.length co37) y292) := ⟨by rw [← hq_]; exact (by (with_reducible repeat (first | apply Kd.R_alloc | apply Kd.R_drewN | apply Kd.R_drew)); exact HO294.out)⟩; have n1_ : Aside0 (w33.heap[gb285]? = some (.cells #[.int .i64 a0_0, .int .u64 a0_1, .string a0_2, .int .i64 a0_3] 24 (0, 0))) := ⟨by rw [← hq_]; exact (by (with_reducible repeat (first | apply kN_ | apply kD_ | apply kA_)); exact BK285.out)⟩; have n2_ : Aside0 (w33.heap[gb286]? = some (.cells #[.int .i64 0, .int .u64 0, .string ⟨#[]⟩, .int .i64 0] 24 (0, 0))) := ⟨by rw [← hq_]; exact (by (with_reducible repeat (first | apply kN_ | apply kD_ | apply kA_)); exact BK286.out)⟩; have n3_ : Aside0 (Below w.heap.size w w33) := ⟨by rw [← hq_]; exact (by repeat (first | (with_reducible first | exact HB.out | apply bA_ | apply bN_ | apply bD_ | refine bS_ ?_ GE285.out | refine bS_ ?_ GE286.out) | exact HB.out))⟩; clear HO294 BK285 BK286 HB hq_; have HO294 := n0_; have BK285 := n1_; have BK286 := n2_; have HB := n3_; clear n0_ n1_ n2_ n3_)); have p296 : 0 ≤ (t295 : Int) := of_decide_eq_true (by first | (with_reducible assumption) | assumption); have q296 : t295 < (y292.length : Int) := of_decide_eq_true (by first | (with_reducible assumption) | assumption); obtain ⟨ad296, e296, hx296_0⟩ := Kd.at_string (Kd.R_reads' HO294.out).2.2 t295 p296 q296; cases e296; replace p296 := eq_true p296; replace q296 := eq_true q296; obtain ⟨hcz38_0, hcz38_1, hcz38_2, hcz38_3⟩ := cells4_ BK286.out; obtain ⟨hfz38_0, hfz38_1, hfz38_2, hfz38_3⟩ := froz4_ BK286.out))
         refine bodyPost_ret (results_cell_row rfl _ _ gb286 24 #[.int .i64 2, .int .u64 0, .string (rdOf ByteArray.empty y292 t295), .int .i64 0] (0, 0) _ rfl (by (with_reducible repeat (first | apply kN_ | apply kD_ | apply kA_)); refine blk_put (cs := #[.int .i64 2, .int .u64 0, .string (rdOf ByteArray.empty y292 t295), .int .i64 0]) ?_ 3 _ rfl; (with_reducible repeat (first | apply kN_ | apply kD_ | apply kA_)); refine blk_put (cs := #[.int .i64 2, .int .u64 0, .string ⟨#[]⟩, .int .i64 0]) ?_ 2 _ rfl; (with_reducible repeat (first | apply kN_ | apply kD_ | apply kA_)); refine blk_put (cs := #[.int .i64 2, .int .u64 0, .string ⟨#[]⟩, .int .i64 0]) ?_ 1 _ rfl; (with_reducible repeat (first | apply kN_ | apply kD_ | apply kA_)); refine blk_put (cs := #[.int .i64 0, .int .u64 0, .string ⟨#[]⟩, .int .i64 0]) ?_ 0 _ rfl; (with_reducible repeat (first | apply kN_ | apply kD_ | apply kA_)); exact BK286.out) Tryd.underlying24 rfl (by kernel_rfl)) rfl ?_
         exact ⟨by first | rfl | (simp [errW_none, errW_some] <;> rfl) | (simp [*, errW_none, errW_some] <;> rfl), by repeat (first | (with_reducible first | exact HB.out | apply bA_ | apply bN_ | apply bD_ | refine bS_ ?_ GE285.out | refine bS_ ?_ GE286.out) | exact HB.out)⟩
        ·rw [if_neg c32] at H
         exact absurd H (by simp)
       ·rw [if_neg c31] at H
        exact absurd H (by simp)
      ·rw [if_neg c29] at H
       have c29b0 : (t287 == 4) = false := beq_eq_false_iff_ne.mpr c29
       have c29b1 : (t287 != 4) = true := bne_iff_ne.mpr c29
       by_cases c39 : t287 = 5
       ·rw [if_pos c39] at H
        have c39b0 : (t287 == 5) = true := beq_iff_eq.mpr c39
        have c39b1 : (t287 != 5) = false := bne_eq_false_iff_eq.mpr c39
        clear c39
        replace H := Option.bind_eq_some_iff.mp H
        obtain ⟨t297, A400, H⟩ := H
        replace H : (if 0 ≤ (mn (a0_2.size : Int) 255) then (if (mn (a0_2.size : Int) 255) ≤ (a0_2.size : Int) then (some (wrap64 t297, a0_1, a0_2.extract 0 ((mn (a0_2.size : Int) 255) : Int).toNat, a0_3)) else (none)) else (none)) = some (r1, r2, r3, r4) := H
        have A40 := Aside0.mk A400
        clear A400
        obtain ⟨ji41, hji41⟩ : ∃ j_ : Int, (mn (a0_2.size : Int) 255) = j_ := ⟨_, rfl⟩
        replace H : (if 0 ≤ (ji41) then (if (ji41) ≤ (a0_2.size : Int) then (some (wrap64 t297, a0_1, a0_2.extract 0 ((ji41) : Int).toNat, a0_3)) else (none)) else (none)) = some (r1, r2, r3, r4) := by first | (rw [hji41] at H; exact H) | (simp only [hji41] at H ⊢; exact H)
        (try rw [hji41] at A40)
        have hji41_ : (if 255 < (a0_2.size : Int) then 255 else (a0_2.size : Int)) = ji41 := hji41
        by_cases c42 : 0 ≤ (ji41)
        ·rw [if_pos c42] at H
         have c42b0 := eq_true c42
         have c42b1 : decide (0 ≤ (ji41)) = true := decide_eq_true c42
         clear c42
         by_cases c43 : (ji41) ≤ (a0_2.size : Int)
         ·rw [if_pos c43] at H
          have c43b0 := eq_true c43
          have c43b1 : decide ((ji41) ≤ (a0_2.size : Int)) = true := decide_eq_true c43
          clear c43
          simp only [Option.some.injEq, Prod.mk.injEq] at H
          obtain ⟨rfl, rfl, rfl, rfl⟩ := H
          try go_wp2
          replace BK285 := Aside0.mk (kD_ BK285.out)
          replace BK286 := Aside0.mk (kD_ BK286.out)
          replace HB := Aside0.mk (bD_ HB.out)
          refine start_ (n := 17) (S := fun w' => w'.cell? ⟨gb285, 0, none⟩ = some (.int .i64 a0_0) ∧ w'.cell? ⟨gb285, 1, none⟩ = some (.int .u64 a0_1) ∧ w'.cell? ⟨gb285, 2, none⟩ = some (.string a0_2) ∧ w'.cell? ⟨gb285, 3, none⟩ = some (.int .i64 a0_3)) (ds := []) #[false, false, false, false, false, false, false, false, false, false, false, false, false, false, false, false, false] (by kernel_rfl) rfl rfl (cells4_ BK285.out) (fun hHeld => ?_); refine with_tabW platformfwlaw08_some.tab13 platformfwlaw08_some.bits13 (fun HT_ HW_ => ?_)
          generalize wc.drew = w44 at BK285 BK286 HB hHeld ⊢
          refine pure_ (i := 0) (N := some 47) (v := ?_) (a' := ?_) (tf 17 1) rfl rfl (any_of HT_.out (by kernel_rfl)) (fun _ _ _ h => h) (Or.inl ⟨by rfl, ?_⟩) ?_ ?_
          rotate_left
          ·intro w'
           go_simp
           with_reducible rfl
          rotate_left
          ·simp only [Act.put, sA_, sB_, sC_, i64_w, i32_w]
           rfl
          refine pure_ (i := 4) (N := some 51) (v := ?_) (a' := ?_) (tf 17 17) rfl rfl (any_of HT_.out (by kernel_rfl)) (fun _ _ _ h => h) (Or.inl ⟨by rfl, ?_⟩) ?_ ?_
          rotate_left
          ·intro w'
           go_simp
           with_reducible rfl
          rotate_left
          ·simp only [Act.put, sA_, sB_, sC_, i64_w, i32_w]
           rfl
          refine pure_ (i := 6) (N := some 53) (v := ?_) (a' := ?_) (tf 17 81) rfl rfl (any_of HT_.out (by kernel_rfl)) (fun _ _ _ h => h) (Or.inl ⟨by rfl, ?_⟩) ?_ ?_
          rotate_left
          ·intro w'
           go_simp
           with_reducible rfl
          rotate_left
          ·simp only [Act.put, sA_, sB_, sC_, i64_w, i32_w]
           rfl
          refine pure_ (i := 11) (N := some 58) (v := ?_) (a' := ?_) (tf 17 2129) rfl rfl (any_of HT_.out (by kernel_rfl)) (fun _ _ _ h => h) (Or.inl ⟨by rfl, ?_⟩) ?_ ?_
          rotate_left
          ·intro w'
           go_simp
           with_reducible rfl
          rotate_left
          ·simp only [Act.put, sA_, sB_, sC_, i64_w, i32_w]
           rfl
          refine pure_ (i := 13) (N := some 60) (v := ?_) (a' := ?_) (tf 17 10321) rfl rfl (any_of HT_.out (by kernel_rfl)) (fun _ _ _ h => h) (Or.inl ⟨by rfl, ?_⟩) ?_ ?_
          rotate_left
          ·intro w'
           go_simp
           with_reducible rfl
          rotate_left
          ·simp only [Act.put, sA_, sB_, sC_, i64_w, i32_w]
           rfl
          refine take_ (i := 1) (N := some 48) (v := ?_) (a' := ?_) (tf 17 10323) rfl rfl (take_ofW HT_.out HW_.out (by kernel_rfl)) (fun _ _ _ h => h) (Or.inl ⟨by rfl, ?_⟩) hHeld ?_ ?_
          rotate_left
          ·rintro w' ⟨s0, s1, s2, s3⟩
           go_simp
           with_reducible rfl
          rotate_left
          ·simp only [Act.put, sA_, sB_, sC_, i64_w, i32_w]
           rfl
          refine take_ (i := 5) (N := some 52) (v := ?_) (a' := ?_) (tf 17 10355) rfl rfl (take_ofW HT_.out HW_.out (by kernel_rfl)) (fun _ _ _ h => h) (Or.inl ⟨by rfl, ?_⟩) hHeld ?_ ?_
          rotate_left
          ·rintro w' ⟨s0, s1, s2, s3⟩
           go_simp
           with_reducible rfl
          rotate_left
          ·simp only [Act.put, sA_, sB_, sC_, i64_w, i32_w]
           rfl
          refine take_ (i := 7) (N := some 54) (v := ?_) (a' := ?_) (tf 17 10483) rfl rfl (take_ofW HT_.out HW_.out (by kernel_rfl)) (fun _ _ _ h => h) (Or.inl ⟨by rfl, ?_⟩) hHeld ?_ ?_
          rotate_left
          ·rintro w' ⟨s0, s1, s2, s3⟩
           go_simp
           with_reducible rfl
          rotate_left
          ·simp only [Act.put, sA_, sB_, sC_, i64_w, i32_w]
           rfl
          refine pure_ (i := 8) (N := some 55) (v := ?_) (a' := ?_) (tf 17 10739) rfl rfl (any_of HT_.out (by kernel_rfl)) (fun _ _ _ h => h) (Or.inl ⟨by rfl, ?_⟩) ?_ ?_
          rotate_left
          ·intro w'
           go_simp
           with_reducible rfl
          rotate_left
          ·simp only [Act.put, sA_, sB_, sC_, i64_w, i32_w]
           rfl
          refine pure_ (i := 9) (N := some 56) (v := ?_) (a' := ?_) (tf 17 11251) rfl rfl (any_of HT_.out (by kernel_rfl)) (fun _ _ _ h => h) (Or.inl ⟨by rfl, ?_⟩) ?_ ?_
          rotate_left
          ·intro w'
           go_simp
           with_reducible rfl
          rotate_left
          ·simp only [Act.put, sA_, sB_, sC_, i64_w, i32_w]
           rfl
          refine pure_ (i := 10) (N := some 57) (v := ?_) (a' := ?_) (tf 17 12275) rfl rfl (any_of HT_.out (by kernel_rfl)) (fun _ _ _ h => h) (Or.inl ⟨by rfl, ?_⟩) ?_ ?_
          rotate_left
          ·intro w'
           go_simp
           with_reducible rfl
          rotate_left
          ·simp only [Act.put, sA_, sB_, sC_, i64_w, i32_w]
           rfl
          refine take_ (i := 12) (N := some 59) (v := ?_) (a' := ?_) (tf 17 16371) rfl rfl (take_ofW HT_.out HW_.out (by kernel_rfl)) (fun _ _ _ h => h) (Or.inl ⟨by rfl, ?_⟩) hHeld ?_ ?_
          rotate_left
          ·rintro w' ⟨s0, s1, s2, s3⟩
           go_simp
           with_reducible rfl
          rotate_left
          ·simp only [Act.put, sA_, sB_, sC_, i64_w, i32_w]
           rfl
          refine take_ (i := 14) (N := some 61) (v := ?_) (a' := ?_) (tf 17 32755) rfl rfl (take_ofW HT_.out HW_.out (by kernel_rfl)) (fun _ _ _ h => h) (Or.inl ⟨by rfl, ?_⟩) hHeld ?_ ?_
          rotate_left
          ·rintro w' ⟨s0, s1, s2, s3⟩
           go_simp
           with_reducible rfl
          rotate_left
          ·simp only [Act.put, sA_, sB_, sC_, i64_w, i32_w]
           rfl
          refine one_ (i := 2) (N := some 49) (tf 17 32759) rfl rfl (one_of HT_.out (by kernel_rfl)) (by decide) (fun K hK => ?_)
          refine goes_ Tryd.func10 (by kernel_rfl) rfl #[.int .i64 a0_3, .int .i64 7] (by rfl) rfl rfl (by (try simp only [List.map_toArray, List.map_cons, List.map_nil]); first | done | rfl) ?_
          with_reducible refine (platformfwhelp_Mod.calls a0_3 7 t297 _ A40.out).mono ?_
          rintro e w' ⟨rfl, ⟨nd, rfl⟩⟩
          refine ⟨_, rfl, ?_⟩
          refine hK.out _ _ (cells4_ BK285.out) (fun hHeld => ?_)
          clear hK K
          refine norm_ (a' := ?_) ?_ ?_
          rotate_left
          ·show Act.put _ (some 49) _ = _
           simp only [Act.put, sA_, sB_, sC_, i64_w, i32_w]
           rfl
          refine pure_ (i := 3) (N := some 50) (v := ?_) (a' := ?_) (tf 17 32767) rfl rfl (any_of HT_.out (by kernel_rfl)) (fun _ _ _ h => h) (Or.inl ⟨by rfl, ?_⟩) ?_ ?_
          rotate_left
          ·intro w'
           go_simp
           with_reducible rfl
          rotate_left
          ·simp only [Act.put, sA_, sB_, sC_, i64_w, i32_w]
           rfl
          refine pure_ (i := 15) (N := some 62) (v := ?_) (a' := ?_) (tf 17 65535) rfl rfl (any_of HT_.out (by kernel_rfl)) (fun _ _ _ h => h) (Or.inl ⟨by rfl, ?_⟩) ?_ ?_
          rotate_left
          ·intro w'
           go_simp
           with_reducible rfl
          rotate_left
          ·simp only [Act.put, sA_, sB_, sC_, i64_w, i32_w]
           rfl
          refine one_ (i := 16) (N := none) (tf 17 131071) rfl rfl (one_of HT_.out (by kernel_rfl)) (by decide) (fun K hK => ?_)
          have hs45 : w44.cell? ⟨gb286, 0, none⟩ = some (.int .i64 0) := (blk_cell BK286.out 0).trans rfl
          have hfs45 := blk_frozen BK286.out 0
          have hns45_0 := NB285_286.out
          have hms45_0 := NB286_285.out
          have hs46 : w44.cell? ⟨gb286, 1, none⟩ = some (.int .u64 0) := (blk_cell BK286.out 1).trans rfl
          have hfs46 := blk_frozen BK286.out 1
          have hns46_0 := NB285_286.out
          have hms46_0 := NB286_285.out
          have hs47 : w44.cell? ⟨gb286, 2, none⟩ = some (.string ⟨#[]⟩) := (blk_cell BK286.out 2).trans rfl
          have hfs47 := blk_frozen BK286.out 2
          have hns47_0 := NB285_286.out
          have hms47_0 := NB286_285.out
          have hs48 : w44.cell? ⟨gb286, 3, none⟩ = some (.int .i64 0) := (blk_cell BK286.out 3).trans rfl
          have hfs48 := blk_frozen BK286.out 3
          have hns48_0 := NB285_286.out
          have hms48_0 := NB286_285.out
          refine skip_ (w1 := ?_) (by rfl) rfl ?_ ?_
          rotate_left
          ·go_simp
           rfl
          refine hK.out _ _ ⟨((cell_far (p := ⟨gb286, _, none⟩) NB285_286.out _).trans (((cell_far (p := ⟨gb286, _, none⟩) NB285_286.out _).trans (((cell_far (p := ⟨gb286, _, none⟩) NB285_286.out _).trans (((cell_far (p := ⟨gb286, _, none⟩) NB285_286.out _).trans (hHeld.1)))))))), ((cell_far (p := ⟨gb286, _, none⟩) NB285_286.out _).trans (((cell_far (p := ⟨gb286, _, none⟩) NB285_286.out _).trans (((cell_far (p := ⟨gb286, _, none⟩) NB285_286.out _).trans (((cell_far (p := ⟨gb286, _, none⟩) NB285_286.out _).trans (hHeld.2.1)))))))), ((cell_far (p := ⟨gb286, _, none⟩) NB285_286.out _).trans (((cell_far (p := ⟨gb286, _, none⟩) NB285_286.out _).trans (((cell_far (p := ⟨gb286, _, none⟩) NB285_286.out _).trans (((cell_far (p := ⟨gb286, _, none⟩) NB285_286.out _).trans (hHeld.2.2.1)))))))), ((cell_far (p := ⟨gb286, _, none⟩) NB285_286.out _).trans (((cell_far (p := ⟨gb286, _, none⟩) NB285_286.out _).trans (((cell_far (p := ⟨gb286, _, none⟩) NB285_286.out _).trans (((cell_far (p := ⟨gb286, _, none⟩) NB285_286.out _).trans (hHeld.2.2.2))))))))⟩ (fun hHeld => ?_)
          clear hK K
          refine done_ (done_of HT_.out (by kernel_rfl)) ?_
          try go_wp2
          refine bodyPost_ret (results_cell_row rfl _ _ gb286 24 #[.int .i64 (wrap64 t297), .int .u64 a0_1, .string (a0_2.extract 0 ((ji41) : Int).toNat), .int .i64 a0_3] (0, 0) _ rfl (by (with_reducible repeat (first | apply kN_ | apply kD_ | apply kA_)); refine blk_put (cs := #[.int .i64 (wrap64 t297), .int .u64 a0_1, .string (a0_2.extract 0 ((ji41) : Int).toNat), .int .i64 0]) ?_ 3 _ rfl; (with_reducible repeat (first | apply kN_ | apply kD_ | apply kA_)); refine blk_put (cs := #[.int .i64 (wrap64 t297), .int .u64 a0_1, .string ⟨#[]⟩, .int .i64 0]) ?_ 2 _ rfl; (with_reducible repeat (first | apply kN_ | apply kD_ | apply kA_)); refine blk_put (cs := #[.int .i64 (wrap64 t297), .int .u64 0, .string ⟨#[]⟩, .int .i64 0]) ?_ 1 _ rfl; (with_reducible repeat (first | apply kN_ | apply kD_ | apply kA_)); refine blk_put (cs := #[.int .i64 0, .int .u64 0, .string ⟨#[]⟩, .int .i64 0]) ?_ 0 _ rfl; (with_reducible repeat (first | apply kN_ | apply kD_ | apply kA_)); exact BK286.out) Tryd.underlying24 rfl (by kernel_rfl)) rfl ?_
          exact ⟨by first | rfl | (simp [errW_none, errW_some] <;> rfl) | (simp only [← hji41]; first | rfl | (simp [errW_none, errW_some] <;> rfl)) | (simp [*, errW_none, errW_some] <;> rfl), by repeat (first | (with_reducible first | exact HB.out | apply bA_ | apply bN_ | apply bD_ | refine bS_ ?_ GE285.out | refine bS_ ?_ GE286.out) | exact HB.out)⟩
         ·rw [if_neg c43] at H
          exact absurd H (by simp)
        ·rw [if_neg c42] at H
         exact absurd H (by simp)
       ·rw [if_neg c39] at H
        have c39b0 : (t287 == 5) = false := beq_eq_false_iff_ne.mpr c39
        have c39b1 : (t287 != 5) = true := bne_iff_ne.mpr c39
        by_cases c49 : t287 = 6
        ·rw [if_pos c49] at H
         have c49b0 : (t287 == 6) = true := beq_iff_eq.mpr c49
         have c49b1 : (t287 != 6) = false := bne_eq_false_iff_eq.mpr c49
         clear c49
         replace H := Option.bind_eq_some_iff.mp H
         obtain ⟨t298, A500, H⟩ := H
         replace H : (if 0 ≤ (mn (a0_2.size : Int) 255) then (if (mn (a0_2.size : Int) 255) ≤ (a0_2.size : Int) then (some (wrap64 (2 + t298), 0, a0_2.extract 0 ((mn (a0_2.size : Int) 255) : Int).toNat, 0)) else (none)) else (none)) = some (r1, r2, r3, r4) := H
         have A50 := Aside0.mk A500
         clear A500
         obtain ⟨ji51, hji51⟩ : ∃ j_ : Int, (mn (a0_2.size : Int) 255) = j_ := ⟨_, rfl⟩
         replace H : (if 0 ≤ (ji51) then (if (ji51) ≤ (a0_2.size : Int) then (some (wrap64 (2 + t298), 0, a0_2.extract 0 ((ji51) : Int).toNat, 0)) else (none)) else (none)) = some (r1, r2, r3, r4) := by first | (rw [hji51] at H; exact H) | (simp only [hji51] at H ⊢; exact H)
         (try rw [hji51] at A50)
         have hji51_ : (if 255 < (a0_2.size : Int) then 255 else (a0_2.size : Int)) = ji51 := hji51
         by_cases c52 : 0 ≤ (ji51)
         ·rw [if_pos c52] at H
          have c52b0 := eq_true c52
          have c52b1 : decide (0 ≤ (ji51)) = true := decide_eq_true c52
          clear c52
          by_cases c53 : (ji51) ≤ (a0_2.size : Int)
          ·rw [if_pos c53] at H
           have c53b0 := eq_true c53
           have c53b1 : decide ((ji51) ≤ (a0_2.size : Int)) = true := decide_eq_true c53
           clear c53
           simp only [Option.some.injEq, Prod.mk.injEq] at H
           obtain ⟨rfl, rfl, rfl, rfl⟩ := H
           try go_wp2
           replace BK285 := Aside0.mk (kD_ BK285.out)
           replace BK286 := Aside0.mk (kD_ BK286.out)
           replace HB := Aside0.mk (bD_ HB.out)
           refine start_ (n := 13) (S := fun w' => w'.cell? ⟨gb285, 0, none⟩ = some (.int .i64 a0_0) ∧ w'.cell? ⟨gb285, 1, none⟩ = some (.int .u64 a0_1) ∧ w'.cell? ⟨gb285, 2, none⟩ = some (.string a0_2) ∧ w'.cell? ⟨gb285, 3, none⟩ = some (.int .i64 a0_3)) (ds := []) #[false, false, false, false, false, false, false, false, false, false, false, false, false] (by kernel_rfl) rfl rfl (cells4_ BK285.out) (fun hHeld => ?_); refine with_tabW platformfwlaw08_some.tab15 platformfwlaw08_some.bits15 (fun HT_ HW_ => ?_)
           generalize wc.drew = w54 at BK285 BK286 HB hHeld ⊢
           refine pure_ (i := 0) (N := some 65) (v := ?_) (a' := ?_) (tf 13 1) rfl rfl (any_of HT_.out (by kernel_rfl)) (fun _ _ _ h => h) (Or.inl ⟨by rfl, ?_⟩) ?_ ?_
           rotate_left
           ·intro w'
            go_simp
            with_reducible rfl
           rotate_left
           ·simp only [Act.put, sA_, sB_, sC_, i64_w, i32_w]
            rfl
           refine pure_ (i := 4) (N := some 69) (v := ?_) (a' := ?_) (tf 13 17) rfl rfl (any_of HT_.out (by kernel_rfl)) (fun _ _ _ h => h) (Or.inl ⟨by rfl, ?_⟩) ?_ ?_
           rotate_left
           ·intro w'
            go_simp
            with_reducible rfl
           rotate_left
           ·simp only [Act.put, sA_, sB_, sC_, i64_w, i32_w]
            rfl
           refine pure_ (i := 6) (N := some 71) (v := ?_) (a' := ?_) (tf 13 81) rfl rfl (any_of HT_.out (by kernel_rfl)) (fun _ _ _ h => h) (Or.inl ⟨by rfl, ?_⟩) ?_ ?_
           rotate_left
           ·intro w'
            go_simp
            with_reducible rfl
           rotate_left
           ·simp only [Act.put, sA_, sB_, sC_, i64_w, i32_w]
            rfl
           refine take_ (i := 1) (N := some 66) (v := ?_) (a' := ?_) (tf 13 83) rfl rfl (take_ofW HT_.out HW_.out (by kernel_rfl)) (fun _ _ _ h => h) (Or.inl ⟨by rfl, ?_⟩) hHeld ?_ ?_
           rotate_left
           ·rintro w' ⟨s0, s1, s2, s3⟩
            go_simp
            with_reducible rfl
           rotate_left
           ·simp only [Act.put, sA_, sB_, sC_, i64_w, i32_w]
            rfl
           refine take_ (i := 5) (N := some 70) (v := ?_) (a' := ?_) (tf 13 115) rfl rfl (take_ofW HT_.out HW_.out (by kernel_rfl)) (fun _ _ _ h => h) (Or.inl ⟨by rfl, ?_⟩) hHeld ?_ ?_
           rotate_left
           ·rintro w' ⟨s0, s1, s2, s3⟩
            go_simp
            with_reducible rfl
           rotate_left
           ·simp only [Act.put, sA_, sB_, sC_, i64_w, i32_w]
            rfl
           refine take_ (i := 7) (N := some 72) (v := ?_) (a' := ?_) (tf 13 243) rfl rfl (take_ofW HT_.out HW_.out (by kernel_rfl)) (fun _ _ _ h => h) (Or.inl ⟨by rfl, ?_⟩) hHeld ?_ ?_
           rotate_left
           ·rintro w' ⟨s0, s1, s2, s3⟩
            go_simp
            with_reducible rfl
           rotate_left
           ·simp only [Act.put, sA_, sB_, sC_, i64_w, i32_w]
            rfl
           refine pure_ (i := 8) (N := some 73) (v := ?_) (a' := ?_) (tf 13 499) rfl rfl (any_of HT_.out (by kernel_rfl)) (fun _ _ _ h => h) (Or.inl ⟨by rfl, ?_⟩) ?_ ?_
           rotate_left
           ·intro w'
            go_simp
            with_reducible rfl
           rotate_left
           ·simp only [Act.put, sA_, sB_, sC_, i64_w, i32_w]
            rfl
           refine pure_ (i := 9) (N := some 74) (v := ?_) (a' := ?_) (tf 13 1011) rfl rfl (any_of HT_.out (by kernel_rfl)) (fun _ _ _ h => h) (Or.inl ⟨by rfl, ?_⟩) ?_ ?_
           rotate_left
           ·intro w'
            go_simp
            with_reducible rfl
           rotate_left
           ·simp only [Act.put, sA_, sB_, sC_, i64_w, i32_w]
            rfl
           refine pure_ (i := 10) (N := some 75) (v := ?_) (a' := ?_) (tf 13 2035) rfl rfl (any_of HT_.out (by kernel_rfl)) (fun _ _ _ h => h) (Or.inl ⟨by rfl, ?_⟩) ?_ ?_
           rotate_left
           ·intro w'
            go_simp
            with_reducible rfl
           rotate_left
           ·simp only [Act.put, sA_, sB_, sC_, i64_w, i32_w]
            rfl
           refine one_ (i := 2) (N := some 67) (tf 13 2039) rfl rfl (one_of HT_.out (by kernel_rfl)) (by decide) (fun K hK => ?_)
           refine goes_ Tryd.func10 (by kernel_rfl) rfl #[.int .i64 a0_3, .int .i64 2] (by rfl) rfl rfl (by (try simp only [List.map_toArray, List.map_cons, List.map_nil]); first | done | rfl) ?_
           with_reducible refine (platformfwhelp_Mod.calls a0_3 2 t298 _ A50.out).mono ?_
           rintro e w' ⟨rfl, ⟨nd, rfl⟩⟩
           refine ⟨_, rfl, ?_⟩
           refine hK.out _ _ (cells4_ BK285.out) (fun hHeld => ?_)
           clear hK K
           refine norm_ (a' := ?_) ?_ ?_
           rotate_left
           ·show Act.put _ (some 67) _ = _
            simp only [Act.put, sA_, sB_, sC_, i64_w, i32_w]
            rfl
           refine pure_ (i := 3) (N := some 68) (v := ?_) (a' := ?_) (tf 13 2047) rfl rfl (any_of HT_.out (by kernel_rfl)) (fun _ _ _ h => h) (Or.inl ⟨by rfl, ?_⟩) ?_ ?_
           rotate_left
           ·intro w'
            go_simp
            with_reducible rfl
           rotate_left
           ·simp only [Act.put, sA_, sB_, sC_, i64_w, i32_w]
            rfl
           refine pure_ (i := 11) (N := some 76) (v := ?_) (a' := ?_) (tf 13 4095) rfl rfl (any_of HT_.out (by kernel_rfl)) (fun _ _ _ h => h) (Or.inl ⟨by rfl, ?_⟩) ?_ ?_
           rotate_left
           ·intro w'
            go_simp
            with_reducible rfl
           rotate_left
           ·simp only [Act.put, sA_, sB_, sC_, i64_w, i32_w]
            rfl
           refine one_ (i := 12) (N := none) (tf 13 8191) rfl rfl (one_of HT_.out (by kernel_rfl)) (by decide) (fun K hK => ?_)
           have hs55 : w54.cell? ⟨gb286, 0, none⟩ = some (.int .i64 0) := (blk_cell BK286.out 0).trans rfl
           have hfs55 := blk_frozen BK286.out 0
           have hns55_0 := NB285_286.out
           have hms55_0 := NB286_285.out
           have hs56 : w54.cell? ⟨gb286, 1, none⟩ = some (.int .u64 0) := (blk_cell BK286.out 1).trans rfl
           have hfs56 := blk_frozen BK286.out 1
           have hns56_0 := NB285_286.out
           have hms56_0 := NB286_285.out
           have hs57 : w54.cell? ⟨gb286, 2, none⟩ = some (.string ⟨#[]⟩) := (blk_cell BK286.out 2).trans rfl
           have hfs57 := blk_frozen BK286.out 2
           have hns57_0 := NB285_286.out
           have hms57_0 := NB286_285.out
           have hs58 : w54.cell? ⟨gb286, 3, none⟩ = some (.int .i64 0) := (blk_cell BK286.out 3).trans rfl
           have hfs58 := blk_frozen BK286.out 3
           have hns58_0 := NB285_286.out
           have hms58_0 := NB286_285.out
           refine skip_ (w1 := ?_) (by rfl) rfl ?_ ?_
           rotate_left
           ·go_simp
            rfl
           refine hK.out _ _ ⟨((cell_far (p := ⟨gb286, _, none⟩) NB285_286.out _).trans (((cell_far (p := ⟨gb286, _, none⟩) NB285_286.out _).trans (((cell_far (p := ⟨gb286, _, none⟩) NB285_286.out _).trans (((cell_far (p := ⟨gb286, _, none⟩) NB285_286.out _).trans (hHeld.1)))))))), ((cell_far (p := ⟨gb286, _, none⟩) NB285_286.out _).trans (((cell_far (p := ⟨gb286, _, none⟩) NB285_286.out _).trans (((cell_far (p := ⟨gb286, _, none⟩) NB285_286.out _).trans (((cell_far (p := ⟨gb286, _, none⟩) NB285_286.out _).trans (hHeld.2.1)))))))), ((cell_far (p := ⟨gb286, _, none⟩) NB285_286.out _).trans (((cell_far (p := ⟨gb286, _, none⟩) NB285_286.out _).trans (((cell_far (p := ⟨gb286, _, none⟩) NB285_286.out _).trans (((cell_far (p := ⟨gb286, _, none⟩) NB285_286.out _).trans (hHeld.2.2.1)))))))), ((cell_far (p := ⟨gb286, _, none⟩) NB285_286.out _).trans (((cell_far (p := ⟨gb286, _, none⟩) NB285_286.out _).trans (((cell_far (p := ⟨gb286, _, none⟩) NB285_286.out _).trans (((cell_far (p := ⟨gb286, _, none⟩) NB285_286.out _).trans (hHeld.2.2.2))))))))⟩ (fun hHeld => ?_)
           clear hK K
           refine done_ (done_of HT_.out (by kernel_rfl)) ?_
           try go_wp2
           refine bodyPost_ret (results_cell_row rfl _ _ gb286 24 #[.int .i64 (wrap64 (2 + t298)), .int .u64 0, .string (a0_2.extract 0 ((ji51) : Int).toNat), .int .i64 0] (0, 0) _ rfl (by (with_reducible repeat (first | apply kN_ | apply kD_ | apply kA_)); refine blk_put (cs := #[.int .i64 (wrap64 (2 + t298)), .int .u64 0, .string (a0_2.extract 0 ((ji51) : Int).toNat), .int .i64 0]) ?_ 3 _ rfl; (with_reducible repeat (first | apply kN_ | apply kD_ | apply kA_)); refine blk_put (cs := #[.int .i64 (wrap64 (2 + t298)), .int .u64 0, .string ⟨#[]⟩, .int .i64 0]) ?_ 2 _ rfl; (with_reducible repeat (first | apply kN_ | apply kD_ | apply kA_)); refine blk_put (cs := #[.int .i64 (wrap64 (2 + t298)), .int .u64 0, .string ⟨#[]⟩, .int .i64 0]) ?_ 1 _ rfl; (with_reducible repeat (first | apply kN_ | apply kD_ | apply kA_)); refine blk_put (cs := #[.int .i64 0, .int .u64 0, .string ⟨#[]⟩, .int .i64 0]) ?_ 0 _ rfl; (with_reducible repeat (first | apply kN_ | apply kD_ | apply kA_)); exact BK286.out) Tryd.underlying24 rfl (by kernel_rfl)) rfl ?_
           exact ⟨by first | rfl | (simp [errW_none, errW_some] <;> rfl) | (simp only [← hji51]; first | rfl | (simp [errW_none, errW_some] <;> rfl)) | (simp [*, errW_none, errW_some] <;> rfl), by repeat (first | (with_reducible first | exact HB.out | apply bA_ | apply bN_ | apply bD_ | refine bS_ ?_ GE285.out | refine bS_ ?_ GE286.out) | exact HB.out)⟩
          ·rw [if_neg c53] at H
           exact absurd H (by simp)
         ·rw [if_neg c52] at H
          exact absurd H (by simp)
        ·rw [if_neg c49] at H
         have c49b0 : (t287 == 6) = false := beq_eq_false_iff_ne.mpr c49
         have c49b1 : (t287 != 6) = true := bne_iff_ne.mpr c49
         simp only [Option.some.injEq, Prod.mk.injEq] at H
         obtain ⟨rfl, rfl, rfl, rfl⟩ := H
         have hnb59 := NB285_286.out
         have hnc59 := NB286_285.out
         obtain ⟨hcz60_0, hcz60_1, hcz60_2, hcz60_3⟩ := cells4_ BK285.out
         obtain ⟨hfz60_0, hfz60_1, hfz60_2, hfz60_3⟩ := froz4_ BK285.out
         obtain ⟨hcz61_0, hcz61_1, hcz61_2, hcz61_3⟩ := cells4_ BK286.out
         obtain ⟨hfz61_0, hfz61_1, hfz61_2, hfz61_3⟩ := froz4_ BK286.out
         go_wp2
         refine bodyPost_ret (results_cell_row rfl _ _ gb286 24 #[.int .i64 a0_0, .int .u64 a0_1, .string a0_2, .int .i64 a0_3] (0, 0) _ rfl (by (with_reducible repeat (first | apply kN_ | apply kD_ | apply kA_)); refine blk_put (cs := #[.int .i64 a0_0, .int .u64 a0_1, .string a0_2, .int .i64 0]) ?_ 3 _ rfl; (with_reducible repeat (first | apply kN_ | apply kD_ | apply kA_)); refine blk_put (cs := #[.int .i64 a0_0, .int .u64 a0_1, .string ⟨#[]⟩, .int .i64 0]) ?_ 2 _ rfl; (with_reducible repeat (first | apply kN_ | apply kD_ | apply kA_)); refine blk_put (cs := #[.int .i64 a0_0, .int .u64 0, .string ⟨#[]⟩, .int .i64 0]) ?_ 1 _ rfl; (with_reducible repeat (first | apply kN_ | apply kD_ | apply kA_)); refine blk_put (cs := #[.int .i64 0, .int .u64 0, .string ⟨#[]⟩, .int .i64 0]) ?_ 0 _ rfl; (with_reducible repeat (first | apply kN_ | apply kD_ | apply kA_)); exact BK286.out) Tryd.underlying24 rfl (by kernel_rfl)) rfl ?_
         exact ⟨by first | rfl | (simp [errW_none, errW_some] <;> rfl) | (simp [*, errW_none, errW_some] <;> rfl), by repeat (first | (with_reducible first | exact HB.out | apply bA_ | apply bN_ | apply bD_ | refine bS_ ?_ GE285.out | refine bS_ ?_ GE286.out) | exact HB.out)⟩

end Go.Proofs.YtdmeglmmihaonaaDoor.PValueMid
