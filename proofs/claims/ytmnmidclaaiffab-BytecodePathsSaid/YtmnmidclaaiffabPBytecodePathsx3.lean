-- Written by a program of this session's (wip/print_patch.py over the kit's print) out of the translation; Lean checks it.
import Derived.Test.YtmnmidclaaiffabPBytecodePathsx0
import Derived.Test.YtmnmidclaaiffabPBytecodePathsx2
import Derived.Test.YtmnmidclaaiffabExtP
namespace Go.Proofs.Ytmnmidclaaiffab.PBytecodePaths
open Go.RowKit Go.Proofs.Ytmnmidclaaiffab.Ext Go.Proofs.YtmnmidclaaiffabW.PrintWords Go.Proofs.YtmnmidclaaiffabW.PrintLast Go.Proofs.YtmnmidclaaiffabW.PrintMore
attribute [local go_sem] max2_int min2_int max_two min_two max_three min_three max_four min_four   -- for this text's walks alone
set_option linter.unusedVariables false
set_option linter.unusedSimpArgs false

/-! ### bytecode_AppendPath: function 5 -/
mutual
def bytecode_AppendPath.j0 : Nat → ByteArray → ByteArray → Bool → Int → List ByteArray → Option (ByteArray)
 | 0, _, _, _, _, _ => none
 | k + 1, x0, x5, x114000, x114001, x114002 => if (x114002.length : Int) = 0 then ((some (([0] : List Int) : List Int)).bind fun y122 => (if x5.size + (strOfNums y122).size ≤ 9223372036854775807 then (bytecode_AppendPath.j1 k x0 (x5 ++ (strOfNums y122)) x114000 x114001 x114002) else (none))) else (if (x114002.length : Int) = 1 then (bytecode_AppendPath.j1 k x0 x5 x114000 x114001 x114002) else (if (x114002.length : Int) = 2 then ((some (([46] : List Int) : List Int)).bind fun y125 => (if x5.size + (strOfNums y125).size ≤ 9223372036854775807 then (bytecode_AppendPath.j1 k x0 (x5 ++ (strOfNums y125)) x114000 x114001 x114002) else (none))) else ((some (([47, ((x114002.length : Int)) % 256] : List Int) : List Int)).bind fun y128 => (if x5.size + (strOfNums y128).size ≤ 9223372036854775807 then (bytecode_AppendPath.j1 k x0 (x5 ++ (strOfNums y128)) x114000 x114001 x114002) else (none)))))
def bytecode_AppendPath.j1 : Nat → ByteArray → ByteArray → Bool → Int → List ByteArray → Option (ByteArray)
 | 0, _, _, _, _, _ => none
 | k + 1, x0, x5, x114000, x114001, x114002 => bytecode_AppendPath.l0 k x0 x5 x114002 (x114002.length : Int) 0
def bytecode_AppendPath.l0 : Nat → ByteArray → ByteArray → List ByteArray → Int → Int → Option (ByteArray)
 | 0, _, _, _, _, _ => none
 | k + 1, x0, x5, x47, x48, x49 => if x49 < x48 then (if 0 ≤ x49 then (if x49 < (x47.length : Int) then ((strings_Repeat.f (⟨#[0]⟩ : ByteArray) (wrap64 (4 - ((rdOf ByteArray.empty x47 x49).size : Int)))).bind fun t132 => (if (rdOf ByteArray.empty x47 x49).size + t132.size ≤ 9223372036854775807 then (if x5.size + ((rdOf ByteArray.empty x47 x49).size + t132.size) ≤ 9223372036854775807 then (bytecode_AppendPath.l0 k x0 (x5 ++ ((rdOf ByteArray.empty x47 x49) ++ t132)) x47 x48 (wrap64 (x49 + 1))) else (none)) else (none))) else (none)) else (none)) else (if x0.size + x5.size ≤ 9223372036854775807 then (some (x0 ++ x5)) else (none))
end
def bytecode_AppendPath.f (k : Nat) (a0 : ByteArray) (a1_0 : Bool) (a1_1 : Int) (l1_2 : List ByteArray) : Option (ByteArray) := (nspath_Valid.f a1_0 a1_1 l1_2).bind fun t114 => (if t114 = true then ((strings_Repeat.f (strOfNums (([94] : List Int))) a1_1).bind fun t118 => (if a1_0 = true then (bytecode_AppendPath.j0 k a0 (strOfNums (([92] : List Int))) a1_0 a1_1 l1_2) else (bytecode_AppendPath.j0 k a0 t118 a1_0 a1_1 l1_2))) else (some a0))
theorem bytecode_AppendPath.mono_l : ∀ k, (∀ y0 y1 y2 y3 y4, LeO (bytecode_AppendPath.j0 k y0 y1 y2 y3 y4) (bytecode_AppendPath.j0 (k + 1) y0 y1 y2 y3 y4)) ∧ (∀ y0 y1 y2 y3 y4, LeO (bytecode_AppendPath.j1 k y0 y1 y2 y3 y4) (bytecode_AppendPath.j1 (k + 1) y0 y1 y2 y3 y4)) ∧ (∀ y0 y1 y2 y3 y4, LeO (bytecode_AppendPath.l0 k y0 y1 y2 y3 y4) (bytecode_AppendPath.l0 (k + 1) y0 y1 y2 y3 y4))
 | 0 => ⟨fun _ _ _ _ _ r h => by simp [bytecode_AppendPath.j0] at h, fun _ _ _ _ _ r h => by simp [bytecode_AppendPath.j1] at h, fun _ _ _ _ _ r h => by simp [bytecode_AppendPath.l0] at h⟩
 | k + 1 => by
  obtain ⟨ih0, ih1, ih2⟩ := bytecode_AppendPath.mono_l k
  refine ⟨?_, ?_, ?_⟩
  ·intro y0 y1 y2 y3 y4
   unfold bytecode_AppendPath.j0
   repeat' first
   | (with_reducible exact ih0 _ _ _ _ _)
   | (with_reducible exact ih1 _ _ _ _ _)
   | (with_reducible exact ih2 _ _ _ _ _)
   | (with_reducible exact LeO.refl _)
   | (with_reducible exact LeO.none _)
   | (with_reducible refine LeO.ite ?_ ?_)
   | (with_reducible refine LeO.bind ?_ (fun _ => ?_))
   | exact ih0 _ _ _ _ _
   | exact ih1 _ _ _ _ _
   | exact ih2 _ _ _ _ _
   | exact LeO.none _
   | refine LeO.ite ?_ ?_
   | refine LeO.bind ?_ (fun _ => ?_)
  ·intro y0 y1 y2 y3 y4
   unfold bytecode_AppendPath.j1
   repeat' first
   | (with_reducible exact ih0 _ _ _ _ _)
   | (with_reducible exact ih1 _ _ _ _ _)
   | (with_reducible exact ih2 _ _ _ _ _)
   | (with_reducible exact LeO.refl _)
   | (with_reducible exact LeO.none _)
   | (with_reducible refine LeO.ite ?_ ?_)
   | (with_reducible refine LeO.bind ?_ (fun _ => ?_))
   | exact ih0 _ _ _ _ _
   | exact ih1 _ _ _ _ _
   | exact ih2 _ _ _ _ _
   | exact LeO.none _
   | refine LeO.ite ?_ ?_
   | refine LeO.bind ?_ (fun _ => ?_)
  ·intro y0 y1 y2 y3 y4
   unfold bytecode_AppendPath.l0
   repeat' first
   | (with_reducible exact ih0 _ _ _ _ _)
   | (with_reducible exact ih1 _ _ _ _ _)
   | (with_reducible exact ih2 _ _ _ _ _)
   | (with_reducible exact LeO.refl _)
   | (with_reducible exact LeO.none _)
   | (with_reducible refine LeO.ite ?_ ?_)
   | (with_reducible refine LeO.bind ?_ (fun _ => ?_))
   | exact ih0 _ _ _ _ _
   | exact ih1 _ _ _ _ _
   | exact ih2 _ _ _ _ _
   | exact LeO.none _
   | refine LeO.ite ?_ ?_
   | refine LeO.bind ?_ (fun _ => ?_)
theorem bytecode_AppendPath.mono : ∀ a0 a1 a2 a3 k, LeO (bytecode_AppendPath.f k a0 a1 a2 a3) (bytecode_AppendPath.f (k + 1) a0 a1 a2 a3) := by
 intro a0 a1 a2 a3 k
 obtain ⟨ih0, ih1, ih2⟩ := bytecode_AppendPath.mono_l k
 unfold bytecode_AppendPath.f
 repeat' first
   | (with_reducible exact ih0 _ _ _ _ _)
   | (with_reducible exact ih1 _ _ _ _ _)
   | (with_reducible exact ih2 _ _ _ _ _)
   | (with_reducible exact LeO.refl _)
   | (with_reducible exact LeO.none _)
   | (with_reducible refine LeO.ite ?_ ?_)
   | (with_reducible refine LeO.bind ?_ (fun _ => ?_))
   | exact ih0 _ _ _ _ _
   | exact ih1 _ _ _ _ _
   | exact ih2 _ _ _ _ _
   | exact LeO.none _
   | refine LeO.ite ?_ ?_
   | refine LeO.bind ?_ (fun _ => ?_)
set_option maxHeartbeats 8000000 in
set_option maxRecDepth 100000 in
theorem bytecode_AppendPath.calls (k : Nat) (a0 : ByteArray) (a1_0 : Bool) (a1_1 : Int) (A1_2 : Option Addr) (c1_2 : Nat) (l1_2 : List ByteArray) (r : ByteArray) (w : World) (hr1_2 : Kd.C Kd.string w A1_2 l1_2.length l1_2) (hc1_2 : l1_2.length ≤ c1_2) (h : bytecode_AppendPath.f k a0 a1_0 a1_1 l1_2 = some r) :
  Calls Try.prog 5 #[.string a0, .agg #[.bool a1_0, .int .i64 a1_1, .slice A1_2 l1_2.length c1_2]] w fun e w' => e = .returned (.string r) ∧ Below w.heap.size w w' := by
 have hu24 := Try.underlying24
 have HR1_2 := Aside0.mk hr1_2
 have HC1_2 := Aside0.mk hc1_2
 clear hr1_2 hc1_2
 have HB := Aside0.mk (Below.refl w.heap.size w)
 have H : ((nspath_Valid.f a1_0 a1_1 l1_2).bind fun t114 => (if t114 = true then ((strings_Repeat.f (strOfNums (([94] : List Int))) a1_1).bind fun t118 => (if a1_0 = true then (bytecode_AppendPath.j0 k a0 (strOfNums (([92] : List Int))) a1_0 a1_1 l1_2) else (bytecode_AppendPath.j0 k a0 t118 a1_0 a1_1 l1_2))) else (some a0))) = some r := h
 clear h
 replace H := Option.bind_eq_some_iff.mp H
 obtain ⟨t114, A30, H⟩ := H
 replace H : (if t114 = true then ((strings_Repeat.f (strOfNums (([94] : List Int))) a1_1).bind fun t118 => (if a1_0 = true then (bytecode_AppendPath.j0 k a0 (strOfNums (([92] : List Int))) a1_0 a1_1 l1_2) else (bytecode_AppendPath.j0 k a0 t118 a1_0 a1_1 l1_2))) else (some a0)) = some r := H
 have A3 := Aside0.mk A30
 clear A30
 by_cases c4 : t114 = true
 ·subst c4
  have H1 : ((strings_Repeat.f (strOfNums (([94] : List Int))) a1_1).bind fun t118 => (if a1_0 = true then (bytecode_AppendPath.j0 k a0 (strOfNums (([92] : List Int))) a1_0 a1_1 l1_2) else (bytecode_AppendPath.j0 k a0 t118 a1_0 a1_1 l1_2))) = some r := by rw [if_pos rfl] at H; exact H
  clear H
  have H := H1
  clear H1
  obtain ⟨y115, hy115⟩ : ∃ y_ : List Int, y_ = (([94] : List Int)) := ⟨_, rfl⟩
  replace H : ((strings_Repeat.f (strOfNums y115) a1_1).bind fun t118 => (if a1_0 = true then (bytecode_AppendPath.j0 k a0 (strOfNums (([92] : List Int))) a1_0 a1_1 l1_2) else (bytecode_AppendPath.j0 k a0 t118 a1_0 a1_1 l1_2))) = some r := by first | (rw [hy115]; with_reducible exact H) | (have H2_ := (Option.bind_some _ _).symm.trans H; rw [hy115]; with_reducible exact H2_) | (have H2_ := (Option.bind_some _ _).symm.trans H; with_reducible exact H2_) | with_reducible exact H | (rw [hy115]; exact H) | exact H
  have Ny115 := Aside0.mk hy115
  clear hy115
  replace H := Option.bind_eq_some_iff.mp H
  obtain ⟨t118, A50, H⟩ := H
  replace H : (if a1_0 = true then (bytecode_AppendPath.j0 k a0 (strOfNums (([92] : List Int))) a1_0 a1_1 l1_2) else (bytecode_AppendPath.j0 k a0 t118 a1_0 a1_1 l1_2)) = some r := H
  have A5 := Aside0.mk A50
  clear A50
  have HC6 := Aside0.mk H
  clear H
  go_enter Try.func5, Try.ntmps5
  go_upto_if 19 with (first | ((with_reducible refine gate_dst (N := 3) rfl ?_); refine box_event ?hg (N := 3) ?hd (cs := #[.bool a1_0, .int .i64 a1_1, .slice A1_2 l1_2.length c1_2]) (t := 24) ?hr ?_; (case hd => rfl); (case hg => rfl); (case hr => first | (go_simp; done) | (go_simp; rfl)); intro gb113 hg w7 hbox hb; have n0_ := Aside0.mk (below_step (by repeat (first | (with_reducible first | exact HB.out | apply bA_ | apply bN_ | apply bD_) | exact HB.out)) hb); have n1_ := Aside0.mk (hbox); have n2_ := Aside0.mk ((by rw [hg]; exact (below_size (by repeat (first | (with_reducible first | exact HB.out | apply bA_ | apply bN_ | apply bD_) | exact HB.out))) : w.heap.size ≤ gb113)); have n3_ := Aside0.mk ((by rw [hg]; exact (below_size (by repeat (first | (with_reducible first | exact HB.out | apply bA_ | apply bN_ | apply bD_) | exact HB.out))) : w.heap.size ≤ gb113)); clear HB; have HB := n0_; have BK113 := n1_; have GW113 := n2_; have GE113 := n3_; clear n0_ n1_ n2_ n3_; clear hb hbox hg; obtain ⟨hcz8_0, hcz8_1, hcz8_2⟩ := cells3_ BK113.out; obtain ⟨hfz8_0, hfz8_1, hfz8_2⟩ := froz3_ BK113.out) | ((with_reducible refine gate_callee (f := 12) rfl ?_); refine goesL_ (some 10) rfl rfl Try.func12 (by kernel_rfl) rfl #[.agg #[.bool a1_0, .int .i64 a1_1, .slice A1_2 l1_2.length c1_2]] rfl (by (try simp only [List.map_toArray, List.map_cons, List.map_nil]); first | done | rfl | (simp only [List.length_drop, List.length_take]; rfl)) ?_; (with_reducible refine (nspath_Valid.calls a1_0 a1_1 _ _ l1_2 true _ ?side1 ?side2 A3.out).mono ?_); (case side1 => repeat (first | exact (Kd.C_below HR1_2.out HB.out) | (with_reducible refine Kd.C_alloc ?_ _) | (with_reducible refine Kd.C_drewN ?_ _) | (with_reducible refine Kd.C_drew ?_))); (case side2 => exact HC1_2.out); rintro e w9 ⟨rfl, hb⟩; refine ⟨_, rfl, ?_⟩; have n0_ := Aside0.mk (blk_below (g := gb113) (o := .cells #[.bool a1_0, .int .i64 a1_1, .slice A1_2 l1_2.length c1_2] 24 (0, 0)) (by (with_reducible repeat (first | refine kN_ ?_ _ | refine kD_ ?_ | refine kA_ ?_ _)); exact BK113.out) hb); have n1_ := Aside0.mk (below_step (by repeat (first | (with_reducible first | exact HB.out | apply bA_ | apply bN_ | apply bD_ | refine bS_ ?_ GE113.out) | exact HB.out)) hb); clear BK113; clear HB; have BK113 := n0_; have HB := n1_; clear n0_ n1_; (try clear hb); (try clear hb2); (try clear hk); (try clear hi)) | ((with_reducible refine gate_dst (N := 13) rfl ?_); refine Kd.R_lit (Kd.int .u8) _ 5 ?hg (N := 13) ?hd (xs := ([94] : List Int)) (inner := [.int .u8 94]) (ok := fun _ => True) (okp := fun _ => True) ?hr ?hp (fun _ hk => hk) trivial (Below.refl _ _) (Nat.le_refl _) (by simp) ?_; (case hd => rfl); (case hg => rfl); (case hr => first | (go_simp; done) | (go_simp; rfl)); (case hp => exact (Reps.one (show Kd.M (Kd.int .u8) _ _ _ 94 [.int .u8 94] from rfl) (Reps.none _ _))); intro v116 w10 ho11 hb hg_ hnew_; clear hg_ hnew_; (first | rw [← Ny115.out] at ho11 | (simp only [Int.reduceToNat] at ho11; rw [← Ny115.out] at ho11)); have n0_ := Aside0.mk (Kd.R_lower ho11 (below_size (by repeat (first | (with_reducible first | exact HB.out | apply bA_ | apply bN_ | apply bD_ | refine bS_ ?_ GE113.out) | exact HB.out)))); have n1_ := Aside0.mk (blk_below (g := gb113) (o := .cells #[.bool a1_0, .int .i64 a1_1, .slice A1_2 l1_2.length c1_2] 24 (0, 0)) (by (with_reducible repeat (first | refine kN_ ?_ _ | refine kD_ ?_ | refine kA_ ?_ _)); exact BK113.out) hb); have n2_ := Aside0.mk (below_step (by repeat (first | (with_reducible first | exact HB.out | apply bA_ | apply bN_ | apply bD_ | refine bS_ ?_ GE113.out) | exact HB.out)) hb); clear BK113; clear HB; have HO117 := n0_; have BK113 := n1_; have HB := n2_; clear n0_ n1_ n2_; clear hb ho11; have hcv12 := own_string (P := Try.prog) Try.underlying37 Try.underlying5 Try.underlying9 (Kd.own_of_R HO117.out); obtain ⟨hcz13_0, hcz13_1, hcz13_2⟩ := cells3_ BK113.out; obtain ⟨hfz13_0, hfz13_1, hfz13_2⟩ := froz3_ BK113.out) | ((with_reducible refine gate_callee (f := 13) rfl ?_); refine goesL_ (some 17) rfl rfl Try.func13 (by kernel_rfl) rfl #[.string (strOfNums y115), .int .i64 a1_1] rfl (by (try simp only [List.map_toArray, List.map_cons, List.map_nil]); first | done | rfl | (simp only [List.length_drop, List.length_take]; rfl)) ?_; (with_reducible refine (strings_Repeat.calls (strOfNums y115) a1_1 t118 _ A5.out).mono ?_); rintro e w14 ⟨rfl, hb⟩; refine ⟨_, rfl, ?_⟩; have n0_ := Aside0.mk (Kd.R_below (by (with_reducible repeat (first | apply Kd.R_alloc | apply Kd.R_drewN | apply Kd.R_drew)); exact HO117.out) hb); have n1_ := Aside0.mk (blk_below (g := gb113) (o := .cells #[.bool a1_0, .int .i64 a1_1, .slice A1_2 l1_2.length c1_2] 24 (0, 0)) (by (with_reducible repeat (first | refine kN_ ?_ _ | refine kD_ ?_ | refine kA_ ?_ _)); exact BK113.out) hb); have n2_ := Aside0.mk (below_step (by repeat (first | (with_reducible first | exact HB.out | apply bA_ | apply bN_ | apply bD_ | refine bS_ ?_ GE113.out) | exact HB.out)) hb); clear HO117; clear BK113; clear HB; have HO117 := n0_; have BK113 := n1_; have HB := n2_; clear n0_ n1_ n2_; (try clear hb); (try clear hb2); (try clear hk); (try clear hi); obtain ⟨hcz15_0, hcz15_1, hcz15_2⟩ := cells3_ BK113.out; obtain ⟨hfz15_0, hfz15_1, hfz15_2⟩ := froz3_ BK113.out))
  (try simp only [Act.put, sA_, sB_, sC_])
  go_cut [5] (fun v5 wc => ∃ (kq : Nat) (x5_5 : ByteArray), v5 = .string x5_5 ∧ Aside0 (bytecode_AppendPath.j0 kq a0 x5_5 a1_0 a1_1 l1_2 = some r) ∧ Aside0 (kq ≤ k) ∧ Aside0 (wc.heap[gb113]? = some (.cells #[.bool a1_0, .int .i64 a1_1, (.slice A1_2 l1_2.length c1_2)] 24 (0, 0))) ∧ Aside0 (Below w.heap.size w wc))
  case first =>
   have H := HC6.out
   clear HC6
   by_cases c16 : a1_0 = true
   ·subst c16
    have H1 : (bytecode_AppendPath.j0 k a0 (strOfNums (([92] : List Int))) true a1_1 l1_2) = some r := by rw [if_pos rfl] at H; exact H
    clear H
    have H := H1
    clear H1
    obtain ⟨y119, hy119⟩ : ∃ y_ : List Int, y_ = (([92] : List Int)) := ⟨_, rfl⟩
    replace H : (bytecode_AppendPath.j0 k a0 (strOfNums y119) true a1_1 l1_2) = some r := by first | (rw [hy119]; with_reducible exact H) | (have H2_ := (Option.bind_some _ _).symm.trans H; rw [hy119]; with_reducible exact H2_) | (have H2_ := (Option.bind_some _ _).symm.trans H; with_reducible exact H2_) | with_reducible exact H | (rw [hy119]; exact H) | exact H
    have Ny119 := Aside0.mk hy119
    clear hy119
    have H' := Aside0.mk H
    clear H
    go_wp2_with (first | ((with_reducible refine gate_dst (N := 20) rfl ?_); refine Kd.R_lit (Kd.int .u8) _ 5 ?hg (N := 20) ?hd (xs := ([92] : List Int)) (inner := [.int .u8 92]) (ok := fun _ => True) (okp := fun _ => True) ?hr ?hp (fun _ hk => hk) trivial (Below.refl _ _) (Nat.le_refl _) (by simp) ?_; (case hd => rfl); (case hg => rfl); (case hr => first | (go_simp; done) | (go_simp; rfl)); (case hp => exact (Reps.one (show Kd.M (Kd.int .u8) _ _ _ 92 [.int .u8 92] from rfl) (Reps.none _ _))); intro v120 w17 ho18 hb hg_ hnew_; clear hg_ hnew_; (first | rw [← Ny119.out] at ho18 | (simp only [Int.reduceToNat] at ho18; rw [← Ny119.out] at ho18)); have n0_ := Aside0.mk (Kd.R_elder' (by (with_reducible repeat (first | apply Kd.R_alloc | apply Kd.R_drewN | apply Kd.R_drew)); exact HO117.out) (Kd.R_base ho18) hb); have n1_ := Aside0.mk (Kd.R_lower (Kd.R_new' ho18 (Kd.R_lt (by (with_reducible repeat (first | apply Kd.R_alloc | apply Kd.R_drewN | apply Kd.R_drew)); exact HO117.out))) (below_size (by repeat (first | (with_reducible first | exact HB.out | apply bA_ | apply bN_ | apply bD_ | refine bS_ ?_ GE113.out) | exact HB.out)))); have n2_ := Aside0.mk (blk_below (g := gb113) (o := .cells #[.bool true, .int .i64 a1_1, .slice A1_2 l1_2.length c1_2] 24 (0, 0)) (by (with_reducible repeat (first | refine kN_ ?_ _ | refine kD_ ?_ | refine kA_ ?_ _)); exact BK113.out) hb); have n3_ := Aside0.mk (below_step (by repeat (first | (with_reducible first | exact HB.out | apply bA_ | apply bN_ | apply bD_ | refine bS_ ?_ GE113.out) | exact HB.out)) hb); clear HO117; clear BK113; clear HB; have HO117 := n0_; have HO121 := n1_; have BK113 := n2_; have HB := n3_; clear n0_ n1_ n2_ n3_; clear hb ho18; have hcv19 := own_string (P := Try.prog) Try.underlying37 Try.underlying5 Try.underlying9 (Kd.own_of_R HO121.out)))
    go_meet
    case rel => exact ⟨_, (strOfNums y119), (by first | rfl | (simp; done) | (simp [*]; done)), H', ⟨by first | omega | exact Nat.le_refl _⟩, ⟨by (with_reducible repeat (first | refine kN_ ?_ _ | refine kD_ ?_ | refine kA_ ?_ _)); exact BK113.out⟩, ⟨by repeat (first | (with_reducible first | exact HB.out | apply bA_ | apply bN_ | apply bD_ | refine bS_ ?_ GE113.out) | exact HB.out)⟩⟩
   ·replace c16 := Bool.eq_false_iff.mpr c16
    subst c16
    have H1 : (bytecode_AppendPath.j0 k a0 t118 false a1_1 l1_2) = some r := by rw [if_neg (show ¬ (false = true) by decide)] at H; exact H
    clear H
    have H := H1
    clear H1
    have H' := Aside0.mk H
    clear H
    go_wp2
    go_meet
    case rel => exact ⟨_, (t118), (by first | rfl | (simp; done) | (simp [*]; done)), H', ⟨by first | omega | exact Nat.le_refl _⟩, ⟨by (with_reducible repeat (first | refine kN_ ?_ _ | refine kD_ ?_ | refine kA_ ?_ _)); exact BK113.out⟩, ⟨by repeat (first | (with_reducible first | exact HB.out | apply bA_ | apply bN_ | apply bD_ | refine bS_ ?_ GE113.out) | exact HB.out)⟩⟩
  case rest =>
   clear HC6
   try clear c1
   try clear hcv1
   try clear p2
   try clear c4
   try clear c5
   try clear c12
   try clear hcv12
   try clear c13
   try clear c16
   try clear hcv19
   try clear hcz13_0 hcz13_1 hcz13_2
   try clear hcz15_0 hcz15_1 hcz15_2
   try clear hcz8_0 hcz8_1 hcz8_2
   try clear hfz13_0 hfz13_1 hfz13_2
   try clear hfz15_0 hfz15_1 hfz15_2
   try clear hfz8_0 hfz8_1 hfz8_2
   obtain ⟨kq, x5_5, rfl, HA, HJ5, BK113, HB⟩ := hcut
   cases kq with
   | zero => exact absurd HA.out (by simp [bytecode_AppendPath.j0])
   | succ kj5 =>
    have H := HA.out
    clear HA
    simp only [bytecode_AppendPath.j0] at H
    have HC20 := Aside0.mk H
    clear H
    obtain ⟨hcz21_0, hcz21_1, hcz21_2⟩ := cells3_ BK113.out
    obtain ⟨hfz21_0, hfz21_1, hfz21_2⟩ := froz3_ BK113.out
    go_upto_block 0 with (fail)
    go_cut [5] (fun v5 wc => ∃ (kq : Nat) (x5_19 : ByteArray), v5 = .string x5_19 ∧ Aside0 (bytecode_AppendPath.j1 kq a0 x5_19 a1_0 a1_1 l1_2 = some r) ∧ Aside0 (kq ≤ kj5) ∧ Aside0 (wc.heap[gb113]? = some (.cells #[.bool a1_0, .int .i64 a1_1, (.slice A1_2 l1_2.length c1_2)] 24 (0, 0))) ∧ Aside0 (Below w.heap.size w wc))
    case first =>
     have H := HC20.out
     clear HC20
     by_cases c22 : (l1_2.length : Int) = 0
     ·rw [if_pos c22] at H
      have c22b0 : ((l1_2.length : Int) == 0) = true := beq_iff_eq.mpr c22
      have c22b1 : ((l1_2.length : Int) != 0) = false := bne_eq_false_iff_eq.mpr c22
      clear c22
      (first | rw [c22b0] | (simp only [i64_w, i32_w]; rw [c22b0]) | skip)
      obtain ⟨y122, hy122⟩ : ∃ y_ : List Int, y_ = (([0] : List Int)) := ⟨_, rfl⟩
      replace H : (if x5_5.size + (strOfNums y122).size ≤ 9223372036854775807 then (bytecode_AppendPath.j1 kj5 a0 (x5_5 ++ (strOfNums y122)) a1_0 a1_1 l1_2) else (none)) = some r := by first | (rw [hy122]; with_reducible exact H) | (have H2_ := (Option.bind_some _ _).symm.trans H; rw [hy122]; with_reducible exact H2_) | (have H2_ := (Option.bind_some _ _).symm.trans H; with_reducible exact H2_) | with_reducible exact H | (rw [hy122]; exact H) | exact H
      have Ny122 := Aside0.mk hy122
      clear hy122
      by_cases c23 : x5_5.size + (strOfNums y122).size ≤ 9223372036854775807
      ·rw [if_pos c23] at H
       have c23b0 := eq_true c23
       have c23b1 : decide (x5_5.size + (strOfNums y122).size ≤ 9223372036854775807) = true := decide_eq_true c23
       try have c23b2 : (9223372036854775807 < x5_5.size + (strOfNums y122).size) = False := eq_false (Nat.not_lt.2 c23)
       clear c23
       have H' := Aside0.mk H
       clear H
       go_wp2_with (first | ((with_reducible refine gate_dst (N := 35) rfl ?_); refine Kd.R_lit (Kd.int .u8) _ 5 ?hg (N := 35) ?hd (xs := ([0] : List Int)) (inner := [.int .u8 0]) (ok := fun _ => True) (okp := fun _ => True) ?hr ?hp (fun _ hk => hk) trivial (Below.refl _ _) (Nat.le_refl _) (by simp) ?_; (case hd => rfl); (case hg => rfl); (case hr => first | (go_simp; done) | (go_simp; rfl)); (case hp => exact (Reps.one (show Kd.M (Kd.int .u8) _ _ _ 0 [.int .u8 0] from rfl) (Reps.none _ _))); intro v123 w24 ho25 hb hg_ hnew_; clear hg_ hnew_; (first | rw [← Ny122.out] at ho25 | (simp only [Int.reduceToNat] at ho25; rw [← Ny122.out] at ho25)); have n0_ := Aside0.mk (Kd.R_lower ho25 (below_size (by repeat (first | (with_reducible first | exact HB.out | apply bA_ | apply bN_ | apply bD_ | refine bS_ ?_ GE113.out) | exact HB.out)))); have n1_ := Aside0.mk (blk_below (g := gb113) (o := .cells #[.bool a1_0, .int .i64 a1_1, .slice A1_2 l1_2.length c1_2] 24 (0, 0)) (by (with_reducible repeat (first | refine kN_ ?_ _ | refine kD_ ?_ | refine kA_ ?_ _)); exact BK113.out) hb); have n2_ := Aside0.mk (below_step (by repeat (first | (with_reducible first | exact HB.out | apply bA_ | apply bN_ | apply bD_ | refine bS_ ?_ GE113.out) | exact HB.out)) hb); clear BK113; clear HB; have HO124 := n0_; have BK113 := n1_; have HB := n2_; clear n0_ n1_ n2_; clear hb ho25; have hcv26 := own_string (P := Try.prog) Try.underlying37 Try.underlying5 Try.underlying9 (Kd.own_of_R HO124.out)))
       go_meet
       case rel => exact ⟨_, (x5_5 ++ (strOfNums y122)), (by first | rfl | (simp; done) | (simp [*]; done)), H', ⟨by have := HJ5.out; first | omega | exact Nat.le_refl _⟩, ⟨by (with_reducible repeat (first | refine kN_ ?_ _ | refine kD_ ?_ | refine kA_ ?_ _)); exact BK113.out⟩, ⟨by repeat (first | (with_reducible first | exact HB.out | apply bA_ | apply bN_ | apply bD_ | refine bS_ ?_ GE113.out) | exact HB.out)⟩⟩
      ·rw [if_neg c23] at H
       exact absurd H (by simp)
     ·rw [if_neg c22] at H
      have c22b0 : ((l1_2.length : Int) == 0) = false := beq_eq_false_iff_ne.mpr c22
      have c22b1 : ((l1_2.length : Int) != 0) = true := bne_iff_ne.mpr c22
      have c22b2 : ¬ (l1_2 = []) := fun h_ => c22 (by rw [h_]; rfl)
      (first | rw [c22b0] | (simp only [i64_w, i32_w]; rw [c22b0]) | skip)
      by_cases c27 : (l1_2.length : Int) = 1
      ·rw [if_pos c27] at H
       have c27b0 : ((l1_2.length : Int) == 1) = true := beq_iff_eq.mpr c27
       have c27b1 : ((l1_2.length : Int) != 1) = false := bne_eq_false_iff_eq.mpr c27
       clear c27
       have H' := Aside0.mk H
       clear H
       go_wp2
       go_meet
       case rel => exact ⟨_, (x5_5), (by first | rfl | (simp; done) | (simp [*]; done)), H', ⟨by have := HJ5.out; first | omega | exact Nat.le_refl _⟩, ⟨by (with_reducible repeat (first | refine kN_ ?_ _ | refine kD_ ?_ | refine kA_ ?_ _)); exact BK113.out⟩, ⟨by repeat (first | (with_reducible first | exact HB.out | apply bA_ | apply bN_ | apply bD_ | refine bS_ ?_ GE113.out) | exact HB.out)⟩⟩
      ·rw [if_neg c27] at H
       have c27b0 : ((l1_2.length : Int) == 1) = false := beq_eq_false_iff_ne.mpr c27
       have c27b1 : ((l1_2.length : Int) != 1) = true := bne_iff_ne.mpr c27
       by_cases c28 : (l1_2.length : Int) = 2
       ·rw [if_pos c28] at H
        have c28b0 : ((l1_2.length : Int) == 2) = true := beq_iff_eq.mpr c28
        have c28b1 : ((l1_2.length : Int) != 2) = false := bne_eq_false_iff_eq.mpr c28
        clear c28
        obtain ⟨y125, hy125⟩ : ∃ y_ : List Int, y_ = (([46] : List Int)) := ⟨_, rfl⟩
        replace H : (if x5_5.size + (strOfNums y125).size ≤ 9223372036854775807 then (bytecode_AppendPath.j1 kj5 a0 (x5_5 ++ (strOfNums y125)) a1_0 a1_1 l1_2) else (none)) = some r := by first | (rw [hy125]; with_reducible exact H) | (have H2_ := (Option.bind_some _ _).symm.trans H; rw [hy125]; with_reducible exact H2_) | (have H2_ := (Option.bind_some _ _).symm.trans H; with_reducible exact H2_) | with_reducible exact H | (rw [hy125]; exact H) | exact H
        have Ny125 := Aside0.mk hy125
        clear hy125
        by_cases c29 : x5_5.size + (strOfNums y125).size ≤ 9223372036854775807
        ·rw [if_pos c29] at H
         have c29b0 := eq_true c29
         have c29b1 : decide (x5_5.size + (strOfNums y125).size ≤ 9223372036854775807) = true := decide_eq_true c29
         try have c29b2 : (9223372036854775807 < x5_5.size + (strOfNums y125).size) = False := eq_false (Nat.not_lt.2 c29)
         clear c29
         have H' := Aside0.mk H
         clear H
         go_wp2_with (first | ((with_reducible refine gate_dst (N := 43) rfl ?_); refine Kd.R_lit (Kd.int .u8) _ 5 ?hg (N := 43) ?hd (xs := ([46] : List Int)) (inner := [.int .u8 46]) (ok := fun _ => True) (okp := fun _ => True) ?hr ?hp (fun _ hk => hk) trivial (Below.refl _ _) (Nat.le_refl _) (by simp) ?_; (case hd => rfl); (case hg => rfl); (case hr => first | (go_simp; done) | (go_simp; rfl)); (case hp => exact (Reps.one (show Kd.M (Kd.int .u8) _ _ _ 46 [.int .u8 46] from rfl) (Reps.none _ _))); intro v126 w30 ho31 hb hg_ hnew_; clear hg_ hnew_; (first | rw [← Ny125.out] at ho31 | (simp only [Int.reduceToNat] at ho31; rw [← Ny125.out] at ho31)); have n0_ := Aside0.mk (Kd.R_lower ho31 (below_size (by repeat (first | (with_reducible first | exact HB.out | apply bA_ | apply bN_ | apply bD_ | refine bS_ ?_ GE113.out) | exact HB.out)))); have n1_ := Aside0.mk (blk_below (g := gb113) (o := .cells #[.bool a1_0, .int .i64 a1_1, .slice A1_2 l1_2.length c1_2] 24 (0, 0)) (by (with_reducible repeat (first | refine kN_ ?_ _ | refine kD_ ?_ | refine kA_ ?_ _)); exact BK113.out) hb); have n2_ := Aside0.mk (below_step (by repeat (first | (with_reducible first | exact HB.out | apply bA_ | apply bN_ | apply bD_ | refine bS_ ?_ GE113.out) | exact HB.out)) hb); clear BK113; clear HB; have HO127 := n0_; have BK113 := n1_; have HB := n2_; clear n0_ n1_ n2_; clear hb ho31; have hcv32 := own_string (P := Try.prog) Try.underlying37 Try.underlying5 Try.underlying9 (Kd.own_of_R HO127.out)))
         go_meet
         case rel => exact ⟨_, (x5_5 ++ (strOfNums y125)), (by first | rfl | (simp; done) | (simp [*]; done)), H', ⟨by have := HJ5.out; first | omega | exact Nat.le_refl _⟩, ⟨by (with_reducible repeat (first | refine kN_ ?_ _ | refine kD_ ?_ | refine kA_ ?_ _)); exact BK113.out⟩, ⟨by repeat (first | (with_reducible first | exact HB.out | apply bA_ | apply bN_ | apply bD_ | refine bS_ ?_ GE113.out) | exact HB.out)⟩⟩
        ·rw [if_neg c29] at H
         exact absurd H (by simp)
       ·rw [if_neg c28] at H
        have c28b0 : ((l1_2.length : Int) == 2) = false := beq_eq_false_iff_ne.mpr c28
        have c28b1 : ((l1_2.length : Int) != 2) = true := bne_iff_ne.mpr c28
        obtain ⟨y128, hy128⟩ : ∃ y_ : List Int, y_ = (([47, ((l1_2.length : Int)) % 256] : List Int)) := ⟨_, rfl⟩
        replace H : (if x5_5.size + (strOfNums y128).size ≤ 9223372036854775807 then (bytecode_AppendPath.j1 kj5 a0 (x5_5 ++ (strOfNums y128)) a1_0 a1_1 l1_2) else (none)) = some r := by first | (rw [hy128]; with_reducible exact H) | (have H2_ := (Option.bind_some _ _).symm.trans H; rw [hy128]; with_reducible exact H2_) | (have H2_ := (Option.bind_some _ _).symm.trans H; with_reducible exact H2_) | with_reducible exact H | (rw [hy128]; exact H) | exact H
        have Ny128 := Aside0.mk hy128
        clear hy128
        by_cases c33 : x5_5.size + (strOfNums y128).size ≤ 9223372036854775807
        ·rw [if_pos c33] at H
         have c33b0 := eq_true c33
         have c33b1 : decide (x5_5.size + (strOfNums y128).size ≤ 9223372036854775807) = true := decide_eq_true c33
         try have c33b2 : (9223372036854775807 < x5_5.size + (strOfNums y128).size) = False := eq_false (Nat.not_lt.2 c33)
         clear c33
         have H' := Aside0.mk H
         clear H
         go_wp2_with (first | ((with_reducible refine gate_dst (N := 29) rfl ?_); refine Kd.R_lit (Kd.int .u8) _ 5 ?hg (N := 29) ?hd (xs := ([47, ((l1_2.length : Int)) % 256] : List Int)) (inner := [.int .u8 47, .int .u8 (((l1_2.length : Int)) % 256)]) (ok := fun _ => True) (okp := fun _ => True) ?hr ?hp (fun _ hk => hk) trivial (Below.refl _ _) (Nat.le_refl _) (by simp) ?_; (case hd => rfl); (case hg => rfl); (case hr => first | (go_simp; done) | (go_simp; rfl)); (case hp => exact (Reps.one (show Kd.M (Kd.int .u8) _ _ _ 47 [.int .u8 47] from rfl) (Reps.one (show Kd.M (Kd.int .u8) _ _ _ (((l1_2.length : Int)) % 256) [.int .u8 (((l1_2.length : Int)) % 256)] from rfl) (Reps.none _ _)))); intro v129 w34 ho35 hb hg_ hnew_; clear hg_ hnew_; (first | rw [← Ny128.out] at ho35 | (simp only [Int.reduceToNat] at ho35; rw [← Ny128.out] at ho35)); have n0_ := Aside0.mk (Kd.R_lower ho35 (below_size (by repeat (first | (with_reducible first | exact HB.out | apply bA_ | apply bN_ | apply bD_ | refine bS_ ?_ GE113.out) | exact HB.out)))); have n1_ := Aside0.mk (blk_below (g := gb113) (o := .cells #[.bool a1_0, .int .i64 a1_1, .slice A1_2 l1_2.length c1_2] 24 (0, 0)) (by (with_reducible repeat (first | refine kN_ ?_ _ | refine kD_ ?_ | refine kA_ ?_ _)); exact BK113.out) hb); have n2_ := Aside0.mk (below_step (by repeat (first | (with_reducible first | exact HB.out | apply bA_ | apply bN_ | apply bD_ | refine bS_ ?_ GE113.out) | exact HB.out)) hb); clear BK113; clear HB; have HO130 := n0_; have BK113 := n1_; have HB := n2_; clear n0_ n1_ n2_; clear hb ho35; have hcv36 := own_string (P := Try.prog) Try.underlying37 Try.underlying5 Try.underlying9 (Kd.own_of_R HO130.out)))
         go_meet
         case rel => exact ⟨_, (x5_5 ++ (strOfNums y128)), (by first | rfl | (simp; done) | (simp [*]; done)), H', ⟨by have := HJ5.out; first | omega | exact Nat.le_refl _⟩, ⟨by (with_reducible repeat (first | refine kN_ ?_ _ | refine kD_ ?_ | refine kA_ ?_ _)); exact BK113.out⟩, ⟨by repeat (first | (with_reducible first | exact HB.out | apply bA_ | apply bN_ | apply bD_ | refine bS_ ?_ GE113.out) | exact HB.out)⟩⟩
        ·rw [if_neg c33] at H
         exact absurd H (by simp)
    case rest =>
     clear HC20
     try clear c1
     try clear hcv1
     try clear c2
     try clear p2
     try clear hcv2
     try clear c3
     try clear hcv3
     try clear c4
     try clear c5
     try clear c12
     try clear hcv12
     try clear c13
     try clear c16
     try clear hcv19
     try clear c22
     try clear c22b0
     try clear c22b1
     try clear c22b2
     try clear c23
     try clear c23b0
     try clear c23b1
     try clear c23b2
     try clear hcv26
     try clear c27
     try clear c27b0
     try clear c27b1
     try clear c28
     try clear c28b0
     try clear c28b1
     try clear c29
     try clear c29b0
     try clear c29b1
     try clear c29b2
     try clear hcv32
     try clear c33
     try clear c33b0
     try clear c33b1
     try clear c33b2
     try clear hcv36
     try clear hcz13_0 hcz13_1 hcz13_2
     try clear hcz15_0 hcz15_1 hcz15_2
     try clear hcz21_0 hcz21_1 hcz21_2
     try clear hcz8_0 hcz8_1 hcz8_2
     try clear hfz13_0 hfz13_1 hfz13_2
     try clear hfz15_0 hfz15_1 hfz15_2
     try clear hfz21_0 hfz21_1 hfz21_2
     try clear hfz8_0 hfz8_1 hfz8_2
     try clear p2
     obtain ⟨kq, x5_19, rfl, HA, HJ19, BK113, HB⟩ := hcut
     cases kq with
     | zero => exact absurd HA.out (by simp [bytecode_AppendPath.j1])
     | succ kj19 =>
      have H := HA.out
      clear HA
      simp only [bytecode_AppendPath.j1] at H
      have H' := Aside0.mk H
      clear H
      obtain ⟨hcz37_0, hcz37_1, hcz37_2⟩ := cells3_ BK113.out
      obtain ⟨hfz37_0, hfz37_1, hfz37_2⟩ := froz3_ BK113.out
      go_wp2
      go_loopg [5, 49] kj19 (fun kq v5 v49 w' => ∃ (x5_3 : ByteArray) (x49_3 : Int), v5 = .string x5_3 ∧ v49 = .int .i64 x49_3 ∧ Aside0 (bytecode_AppendPath.l0 kq a0 x5_3 l1_2 (l1_2.length : Int) x49_3 = some r) ∧ Aside0 (kq ≤ kj19) ∧ Aside0 (w'.heap[gb113]? = some (.cells #[.bool a1_0, .int .i64 a1_1, (.slice A1_2 l1_2.length c1_2)] 24 (0, 0))) ∧ Aside0 (Below w.heap.size w w'))
      case atStart => exact ⟨(x5_19), (0), (by first | rfl | (simp; done) | (simp [*]; done)), (by first | rfl | (simp; done) | (simp [*]; done)), H', ⟨Nat.le_refl _⟩, ⟨by (with_reducible repeat (first | refine kN_ ?_ _ | refine kD_ ?_ | refine kA_ ?_ _)); exact BK113.out⟩, ⟨by repeat (first | (with_reducible first | exact HB.out | apply bA_ | apply bN_ | apply bD_ | refine bS_ ?_ GE113.out) | exact HB.out)⟩⟩
      case round =>
       clear H'
       try clear c1
       try clear hcv1
       try clear c2
       try clear p2
       try clear hcv2
       try clear c3
       try clear hcv3
       try clear c4
       try clear c5
       try clear c12
       try clear hcv12
       try clear c13
       try clear c16
       try clear hcv19
       try clear c22
       try clear c22b0
       try clear c22b1
       try clear c22b2
       try clear c23
       try clear c23b0
       try clear c23b1
       try clear c23b2
       try clear hcv26
       try clear c27
       try clear c27b0
       try clear c27b1
       try clear c28
       try clear c28b0
       try clear c28b1
       try clear c29
       try clear c29b0
       try clear c29b1
       try clear c29b2
       try clear hcv32
       try clear c33
       try clear c33b0
       try clear c33b1
       try clear c33b2
       try clear hcv36
       try clear hcz13_0 hcz13_1 hcz13_2
       try clear hcz15_0 hcz15_1 hcz15_2
       try clear hcz21_0 hcz21_1 hcz21_2
       try clear hcz37_0 hcz37_1 hcz37_2
       try clear hcz8_0 hcz8_1 hcz8_2
       try clear hfz13_0 hfz13_1 hfz13_2
       try clear hfz15_0 hfz15_1 hfz15_2
       try clear hfz21_0 hfz21_1 hfz21_2
       try clear hfz37_0 hfz37_1 hfz37_2
       try clear hfz8_0 hfz8_1 hfz8_2
       try clear p2
       obtain ⟨x5_3, x49_3, rfl, rfl, HA, HK3, BK113, HB⟩ := hrel
       cases gk with
       | zero => exact absurd HA.out (by simp [bytecode_AppendPath.l0])
       | succ k3 =>
        have H := HA.out
        clear HA
        simp only [bytecode_AppendPath.l0] at H
        by_cases c38 : x49_3 < (l1_2.length : Int)
        ·rw [if_pos c38] at H
         have c38b0 : decide (x49_3 < (l1_2.length : Int)) = true := decide_eq_true c38
         clear c38
         by_cases c39 : 0 ≤ x49_3
         ·rw [if_pos c39] at H
          have c39b0 : decide (0 ≤ x49_3) = true := decide_eq_true c39
          clear c39
          by_cases c40 : x49_3 < (l1_2.length : Int)
          ·rw [if_pos c40] at H
           have c40b0 : decide (x49_3 < (l1_2.length : Int)) = true := decide_eq_true c40
           clear c40
           replace H := Option.bind_eq_some_iff.mp H
           obtain ⟨t132, A410, H⟩ := H
           replace H : (if (rdOf ByteArray.empty l1_2 x49_3).size + t132.size ≤ 9223372036854775807 then (if x5_3.size + ((rdOf ByteArray.empty l1_2 x49_3).size + t132.size) ≤ 9223372036854775807 then (bytecode_AppendPath.l0 k3 a0 (x5_3 ++ ((rdOf ByteArray.empty l1_2 x49_3) ++ t132)) l1_2 (l1_2.length : Int) (wrap64 (x49_3 + 1))) else (none)) else (none)) = some r := H
           have A41 := Aside0.mk A410
           clear A410
           by_cases c42 : (rdOf ByteArray.empty l1_2 x49_3).size + t132.size ≤ 9223372036854775807
           ·rw [if_pos c42] at H
            have c42b0 := eq_true c42
            have c42b1 : decide ((rdOf ByteArray.empty l1_2 x49_3).size + t132.size ≤ 9223372036854775807) = true := decide_eq_true c42
            try have c42b2 : (9223372036854775807 < (rdOf ByteArray.empty l1_2 x49_3).size + t132.size) = False := eq_false (Nat.not_lt.2 c42)
            clear c42
            by_cases c43 : x5_3.size + ((rdOf ByteArray.empty l1_2 x49_3).size + t132.size) ≤ 9223372036854775807
            ·rw [if_pos c43] at H
             have c43b0 := eq_true c43
             have c43b1 : decide (x5_3.size + ((rdOf ByteArray.empty l1_2 x49_3).size + t132.size) ≤ 9223372036854775807) = true := decide_eq_true c43
             try have c43b2 : (9223372036854775807 < x5_3.size + ((rdOf ByteArray.empty l1_2 x49_3).size + t132.size)) = False := eq_false (Nat.not_lt.2 c43)
             clear c43
             have H' := Aside0.mk H
             clear H
             have p131 : 0 ≤ (x49_3 : Int) := of_decide_eq_true (by first | (with_reducible assumption) | assumption)
             have q131 : x49_3 < (l1_2.length : Int) := of_decide_eq_true (by first | (with_reducible assumption) | assumption)
             obtain ⟨ad131, e131, hx131_0⟩ := Kd.at_string HR1_2.out x49_3 p131 q131
             cases e131
             replace hx131_0 := (HB.out.cell (World.block_lt_of_cell? w _ hx131_0)).trans hx131_0
             replace p131 := eq_true p131
             replace q131 := eq_true q131
             go_wp2_with (first | ((with_reducible refine gate_callee (f := 13) rfl ?_); refine goesL_ (some 58) rfl rfl Try.func13 (by kernel_rfl) rfl #[.string (⟨#[0]⟩ : ByteArray), .int .i64 (wrap64 (4 - ((rdOf ByteArray.empty l1_2 x49_3).size : Int)))] rfl (by (try simp only [List.map_toArray, List.map_cons, List.map_nil]); first | done | rfl | (simp only [List.length_drop, List.length_take]; rfl)) ?_; (with_reducible refine (strings_Repeat.calls (⟨#[0]⟩ : ByteArray) (wrap64 (4 - ((rdOf ByteArray.empty l1_2 x49_3).size : Int))) t132 _ A41.out).mono ?_); rintro e w44 ⟨rfl, hb⟩; refine ⟨_, rfl, ?_⟩; have n0_ := Aside0.mk (blk_below (g := gb113) (o := .cells #[.bool a1_0, .int .i64 a1_1, .slice (some ad131) l1_2.length c1_2] 24 (0, 0)) (by (with_reducible repeat (first | refine kN_ ?_ _ | refine kD_ ?_ | refine kA_ ?_ _)); exact BK113.out) hb); have n1_ := Aside0.mk (below_step (by repeat (first | (with_reducible first | exact HB.out | apply bA_ | apply bN_ | apply bD_ | refine bS_ ?_ GE113.out) | exact HB.out)) hb); clear BK113; clear HB; have BK113 := n0_; have HB := n1_; clear n0_ n1_; (try clear hb); (try clear hb2); (try clear hk); (try clear hi)))
             go_roundg k3
             case measure => have := HJ5.out; have := HJ19.out; have := HK3.out; omega
             case rel => exact ⟨(x5_3 ++ ((rdOf ByteArray.empty l1_2 x49_3) ++ t132)), (wrap64 (x49_3 + 1)), (by first | rfl | (simp; done) | (simp [*]; done)), (by first | rfl | (simp; done) | (simp [*]; done)), H', ⟨by have := HJ5.out; have := HJ19.out; have := HK3.out; omega⟩, ⟨by (with_reducible repeat (first | refine kN_ ?_ _ | refine kD_ ?_ | refine kA_ ?_ _)); exact BK113.out⟩, ⟨by repeat (first | (with_reducible first | exact HB.out | apply bA_ | apply bN_ | apply bD_ | refine bS_ ?_ GE113.out) | exact HB.out)⟩⟩
            ·rw [if_neg c43] at H
             exact absurd H (by simp)
           ·rw [if_neg c42] at H
            exact absurd H (by simp)
          ·rw [if_neg c40] at H
           exact absurd H (by simp)
         ·rw [if_neg c39] at H
          exact absurd H (by simp)
        ·rw [if_neg c38] at H
         have c38b0 : decide (x49_3 < (l1_2.length : Int)) = false := decide_eq_false c38
         clear c38
         by_cases c45 : a0.size + x5_3.size ≤ 9223372036854775807
         ·rw [if_pos c45] at H
          have c45b0 := eq_true c45
          have c45b1 : decide (a0.size + x5_3.size ≤ 9223372036854775807) = true := decide_eq_true c45
          try have c45b2 : (9223372036854775807 < a0.size + x5_3.size) = False := eq_false (Nat.not_lt.2 c45)
          clear c45
          obtain rfl := Option.some.inj H
          go_wp2
          go_ret
          exact ⟨by first | rfl | (simp [errW_none, errW_some] <;> rfl) | (simp [*, errW_none, errW_some] <;> rfl), by repeat (first | (with_reducible first | exact HB.out | apply bA_ | apply bN_ | apply bD_ | refine bS_ ?_ GE113.out) | exact HB.out)⟩
         ·rw [if_neg c45] at H
          exact absurd H (by simp)
 ·replace c4 := Bool.eq_false_iff.mpr c4
  subst c4
  have H1 : (some a0) = some r := by rw [if_neg (show ¬ (false = true) by decide)] at H; exact H
  clear H
  have H := H1
  clear H1
  obtain rfl := Option.some.inj H
  go_enter Try.func5, Try.ntmps5
  go_wp2_with (first | ((with_reducible refine gate_dst (N := 3) rfl ?_); refine box_event ?hg (N := 3) ?hd (cs := #[.bool a1_0, .int .i64 a1_1, .slice A1_2 l1_2.length c1_2]) (t := 24) ?hr ?_; (case hd => rfl); (case hg => rfl); (case hr => first | (go_simp; done) | (go_simp; rfl)); intro gb113 hg w46 hbox hb; have n0_ := Aside0.mk (below_step (by repeat (first | (with_reducible first | exact HB.out | apply bA_ | apply bN_ | apply bD_) | exact HB.out)) hb); have n1_ := Aside0.mk (hbox); have n2_ := Aside0.mk ((by rw [hg]; exact (below_size (by repeat (first | (with_reducible first | exact HB.out | apply bA_ | apply bN_ | apply bD_) | exact HB.out))) : w.heap.size ≤ gb113)); have n3_ := Aside0.mk ((by rw [hg]; exact (below_size (by repeat (first | (with_reducible first | exact HB.out | apply bA_ | apply bN_ | apply bD_) | exact HB.out))) : w.heap.size ≤ gb113)); clear HB; have HB := n0_; have BK113 := n1_; have GW113 := n2_; have GE113 := n3_; clear n0_ n1_ n2_ n3_; clear hb hbox hg; obtain ⟨hcz47_0, hcz47_1, hcz47_2⟩ := cells3_ BK113.out; obtain ⟨hfz47_0, hfz47_1, hfz47_2⟩ := froz3_ BK113.out) | ((with_reducible refine gate_callee (f := 12) rfl ?_); refine goesL_ (some 10) rfl rfl Try.func12 (by kernel_rfl) rfl #[.agg #[.bool a1_0, .int .i64 a1_1, .slice A1_2 l1_2.length c1_2]] rfl (by (try simp only [List.map_toArray, List.map_cons, List.map_nil]); first | done | rfl | (simp only [List.length_drop, List.length_take]; rfl)) ?_; (with_reducible refine (nspath_Valid.calls a1_0 a1_1 _ _ l1_2 false _ ?side1 ?side2 A3.out).mono ?_); (case side1 => repeat (first | exact (Kd.C_below HR1_2.out HB.out) | (with_reducible refine Kd.C_alloc ?_ _) | (with_reducible refine Kd.C_drewN ?_ _) | (with_reducible refine Kd.C_drew ?_))); (case side2 => exact HC1_2.out); rintro e w48 ⟨rfl, hb⟩; refine ⟨_, rfl, ?_⟩; have n0_ := Aside0.mk (blk_below (g := gb113) (o := .cells #[.bool a1_0, .int .i64 a1_1, .slice A1_2 l1_2.length c1_2] 24 (0, 0)) (by (with_reducible repeat (first | refine kN_ ?_ _ | refine kD_ ?_ | refine kA_ ?_ _)); exact BK113.out) hb); have n1_ := Aside0.mk (below_step (by repeat (first | (with_reducible first | exact HB.out | apply bA_ | apply bN_ | apply bD_ | refine bS_ ?_ GE113.out) | exact HB.out)) hb); clear BK113; clear HB; have BK113 := n0_; have HB := n1_; clear n0_ n1_; (try clear hb); (try clear hb2); (try clear hk); (try clear hi)))
  go_ret
  exact ⟨by first | rfl | (simp [errW_none, errW_some] <;> rfl) | (simp [*, errW_none, errW_some] <;> rfl), by repeat (first | (with_reducible first | exact HB.out | apply bA_ | apply bN_ | apply bD_ | refine bS_ ?_ GE113.out) | exact HB.out)⟩

/-! ### platformfwhelp_Mod: function 14 -/
def platformfwhelp_Mod.f (a0 : Int) (a1 : Int) : Option (Int) := if (IntKind.u64.wrap (a1)) = 0 then (none) else (some (wrap64 (Int.tmod (IntKind.u64.wrap (a0)) (IntKind.u64.wrap (a1)))))
set_option maxHeartbeats 8000000 in
set_option maxRecDepth 100000 in
theorem platformfwhelp_Mod.calls (a0 : Int) (a1 : Int) (r : Int) (w : World) (h : platformfwhelp_Mod.f a0 a1 = some r) :
  Calls Try.prog 14 #[.int .i64 a0, .int .i64 a1] w fun e w' => e = .returned (.int .i64 r) ∧ Drawn0 w w' := by
 have H : (if (IntKind.u64.wrap (a1)) = 0 then (none) else (some (wrap64 (Int.tmod (IntKind.u64.wrap (a0)) (IntKind.u64.wrap (a1)))))) = some r := h
 clear h
 by_cases c3 : (IntKind.u64.wrap (a1)) = 0
 ·rw [if_pos c3] at H
  exact absurd H (by simp)
 ·rw [if_neg c3] at H
  have c3b0 : ((IntKind.u64.wrap (a1)) == 0) = false := beq_eq_false_iff_ne.mpr c3
  have c3b1 : ((IntKind.u64.wrap (a1)) != 0) = true := bne_iff_ne.mpr c3
  obtain rfl := Option.some.inj H
  go_enter Try.func14, Try.ntmps14
  go_wp2
  go_ret
  exact ⟨by first | rfl | (simp; done) | (simp [*]; done), by repeat (first | exact Drawn0.refl _ | apply Drawn0.step)⟩

end Go.Proofs.Ytmnmidclaaiffab.PBytecodePaths
