-- Written by a program of this session's (wip/print_patch.py over the kit's print) out of the translation; Lean checks it.
import Derived.Test.YtmnmidclaaiffabPBytecodePathsx0
import Derived.Test.YtmnmidclaaiffabPBytecodePathsx3
import Derived.Test.YtmnmidclaaiffabExtP
namespace Go.Proofs.Ytmnmidclaaiffab.PBytecodePaths
open Go.RowKit Go.Proofs.Ytmnmidclaaiffab.Ext Go.Proofs.YtmnmidclaaiffabW.PrintWords Go.Proofs.YtmnmidclaaiffabW.PrintLast Go.Proofs.YtmnmidclaaiffabW.PrintMore
attribute [local go_sem] max2_int min2_int max_two min_two max_three min_three max_four min_four   -- for this text's walks alone
set_option linter.unusedVariables false
set_option linter.unusedSimpArgs false

/-! ### platformfwlaw05_path: function 6 -/
mutual
def platformfwlaw05_path.j0 : Nat → Bool → Int → List ByteArray → Bool → Int → Option (Bool × Int × List ByteArray)
 | 0, _, _, _, _, _ => none
 | k + 1, x134000, x134001, x134002, x137000, x137001 => platformfwlaw05_path.l0 k 0 x134000 x134001 x134002 x137000 x137001 ([] : List ByteArray)
def platformfwlaw05_path.l0 : Nat → Int → Bool → Int → List ByteArray → Bool → Int → List ByteArray → Option (Bool × Int × List ByteArray)
 | 0, _, _, _, _, _, _, _ => none
 | k + 1, x4, x134000, x134001, x134002, x137000, x137001, x137002 => if x4 < (x134002.length : Int) then (if x4 < 30 then ((some (([(⟨#[65]⟩ : ByteArray), (⟨#[95, 83, 66]⟩ : ByteArray), (⟨#[66, 95]⟩ : ByteArray), (⟨#[65, 66, 67, 68]⟩ : ByteArray), (⟨#[67, 49]⟩ : ByteArray)] : List ByteArray) : List ByteArray)).bind fun y137 => (if 0 ≤ x4 then (if 0 ≤ (Int.tmod (wrap64 (((rdOf ByteArray.empty x134002 x4).size : Int) + x4)) 5) then (if (Int.tmod (wrap64 (((rdOf ByteArray.empty x134002 x4).size : Int) + x4)) 5) < (y137.length : Int) then (if x137002.length < 8796093022208 then (platformfwlaw05_path.l0 k (wrap64 (x4 + 1)) x134000 x134001 x134002 x137000 x137001 (x137002 ++ [rdOf ByteArray.empty y137 (Int.tmod (wrap64 (((rdOf ByteArray.empty x134002 x4).size : Int) + x4)) 5)])) else (none)) else (none)) else (none)) else (none))) else (some (x137000, x137001, x137002))) else (some (x137000, x137001, x137002))
end
def platformfwlaw05_path.f (k : Nat) (a0_0 : Bool) (a0_1 : Int) (l0_2 : List ByteArray) : Option (Bool × Int × List ByteArray) := (platformfwhelp_Mod.f a0_1 5).bind fun t135 => (if a0_0 = true then (platformfwlaw05_path.j0 k a0_0 a0_1 l0_2 a0_0 0) else (platformfwlaw05_path.j0 k a0_0 a0_1 l0_2 a0_0 t135))
theorem platformfwlaw05_path.mono_l : ∀ k, (∀ y0 y1 y2 y3 y4, LeO (platformfwlaw05_path.j0 k y0 y1 y2 y3 y4) (platformfwlaw05_path.j0 (k + 1) y0 y1 y2 y3 y4)) ∧ (∀ y0 y1 y2 y3 y4 y5 y6, LeO (platformfwlaw05_path.l0 k y0 y1 y2 y3 y4 y5 y6) (platformfwlaw05_path.l0 (k + 1) y0 y1 y2 y3 y4 y5 y6))
 | 0 => ⟨fun _ _ _ _ _ r h => by simp [platformfwlaw05_path.j0] at h, fun _ _ _ _ _ _ _ r h => by simp [platformfwlaw05_path.l0] at h⟩
 | k + 1 => by
  obtain ⟨ih0, ih1⟩ := platformfwlaw05_path.mono_l k
  refine ⟨?_, ?_⟩
  ·intro y0 y1 y2 y3 y4
   unfold platformfwlaw05_path.j0
   repeat' first
   | (with_reducible exact ih0 _ _ _ _ _)
   | (with_reducible exact ih1 _ _ _ _ _ _ _)
   | (with_reducible exact LeO.refl _)
   | (with_reducible exact LeO.none _)
   | (with_reducible refine LeO.ite ?_ ?_)
   | (with_reducible refine LeO.bind ?_ (fun _ => ?_))
   | exact ih0 _ _ _ _ _
   | exact ih1 _ _ _ _ _ _ _
   | exact LeO.none _
   | refine LeO.ite ?_ ?_
   | refine LeO.bind ?_ (fun _ => ?_)
  ·intro y0 y1 y2 y3 y4 y5 y6
   unfold platformfwlaw05_path.l0
   repeat' first
   | (with_reducible exact ih0 _ _ _ _ _)
   | (with_reducible exact ih1 _ _ _ _ _ _ _)
   | (with_reducible exact LeO.refl _)
   | (with_reducible exact LeO.none _)
   | (with_reducible refine LeO.ite ?_ ?_)
   | (with_reducible refine LeO.bind ?_ (fun _ => ?_))
   | exact ih0 _ _ _ _ _
   | exact ih1 _ _ _ _ _ _ _
   | exact LeO.none _
   | refine LeO.ite ?_ ?_
   | refine LeO.bind ?_ (fun _ => ?_)
theorem platformfwlaw05_path.mono : ∀ a0 a1 a2 k, LeO (platformfwlaw05_path.f k a0 a1 a2) (platformfwlaw05_path.f (k + 1) a0 a1 a2) := by
 intro a0 a1 a2 k
 obtain ⟨ih0, ih1⟩ := platformfwlaw05_path.mono_l k
 unfold platformfwlaw05_path.f
 repeat' first
   | (with_reducible exact ih0 _ _ _ _ _)
   | (with_reducible exact ih1 _ _ _ _ _ _ _)
   | (with_reducible exact LeO.refl _)
   | (with_reducible exact LeO.none _)
   | (with_reducible refine LeO.ite ?_ ?_)
   | (with_reducible refine LeO.bind ?_ (fun _ => ?_))
   | exact ih0 _ _ _ _ _
   | exact ih1 _ _ _ _ _ _ _
   | exact LeO.none _
   | refine LeO.ite ?_ ?_
   | refine LeO.bind ?_ (fun _ => ?_)
def platformfwlaw05_path.T1 : Bool × List (List Nat × List Nat) := (true, [([], []), ([0], [0]), ([], []), ([2], [2]), ([3], [3]), ([1, 4], [1, 4]), ([], []), ([6, 5, 4, 0, 1, 2, 3, 4, 5, 6], [5, 6])])
def platformfwlaw05_path.B1 : List Nat := [0, 1, 0, 4, 12, 31, 0, 127]
theorem platformfwlaw05_path.tab1 : rtab .any (opsOf Try.f6 1) = platformfwlaw05_path.T1 := by kernel_rfl
theorem platformfwlaw05_path.bits1 : waitsOk platformfwlaw05_path.T1.2 platformfwlaw05_path.B1 = true := by kernel_rfl
def platformfwlaw05_path.T7 : Bool × List (List Nat × List Nat) := (true, [([], []), ([0], [0]), ([], []), ([], []), ([3], [3]), ([], []), ([4, 5], [4, 5]), ([6], [6]), ([7], [7]), ([], []), ([8, 9], [8, 9]), ([10], [10]), ([2, 11], [2, 11]), ([12], [12]), ([13], [13]), ([1, 14], [1, 14]), ([0, 1, 2, 3, 4, 5, 6, 7, 8, 9, 10, 11, 12, 13, 14, 15], []), ([16, 15, 15, 0, 1, 2, 3, 4, 5, 6, 7, 8, 9, 10, 11, 12, 13, 14, 15], [15, 16])])
def platformfwlaw05_path.B7 : List Nat := [0, 1, 0, 0, 8, 0, 56, 120, 248, 0, 1016, 2040, 4092, 8188, 16380, 32767, 65535, 131071]
theorem platformfwlaw05_path.tab7 : rtab .any (opsOf Try.f6 7) = platformfwlaw05_path.T7 := by kernel_rfl
theorem platformfwlaw05_path.bits7 : waitsOk platformfwlaw05_path.T7.2 platformfwlaw05_path.B7 = true := by kernel_rfl
set_option maxHeartbeats 8000000 in
set_option maxRecDepth 100000 in
theorem platformfwlaw05_path.calls (k : Nat) (a0_0 : Bool) (a0_1 : Int) (A0_2 : Option Addr) (c0_2 : Nat) (l0_2 : List ByteArray) (r1 : Bool) (r2 : Int) (r3 : List ByteArray) (w : World) (hr0_2 : Kd.C Kd.string w A0_2 l0_2.length l0_2) (hc0_2 : l0_2.length ≤ c0_2) (h : platformfwlaw05_path.f k a0_0 a0_1 l0_2 = some (r1, r2, r3)) :
  Calls Try.prog 6 #[.agg #[.bool a0_0, .int .i64 a0_1, .slice A0_2 l0_2.length c0_2]] w fun e w' => ∃ v2_ : Value, e = .returned (.agg #[.bool r1, .int .i64 r2, v2_]) ∧ Kd.R Kd.string 9 w' w.heap.size (fun _ => True) v2_ r3 ∧ Below w.heap.size w w' := by
 have hu24 := Try.underlying24
 have HR0_2 := Aside0.mk hr0_2
 have HC0_2 := Aside0.mk hc0_2
 clear hr0_2 hc0_2
 have HB := Aside0.mk (Below.refl w.heap.size w)
 have H : ((platformfwhelp_Mod.f a0_1 5).bind fun t135 => (if a0_0 = true then (platformfwlaw05_path.j0 k a0_0 a0_1 l0_2 a0_0 0) else (platformfwlaw05_path.j0 k a0_0 a0_1 l0_2 a0_0 t135))) = some (r1, r2, r3) := h
 clear h
 replace H := Option.bind_eq_some_iff.mp H
 obtain ⟨t135, A20, H⟩ := H
 replace H : (if a0_0 = true then (platformfwlaw05_path.j0 k a0_0 a0_1 l0_2 a0_0 0) else (platformfwlaw05_path.j0 k a0_0 a0_1 l0_2 a0_0 t135)) = some (r1, r2, r3) := H
 have A2 := Aside0.mk A20
 clear A20
 have HC3 := Aside0.mk H
 clear H
 go_enter Try.func6, Try.ntmps6
 try go_wp2_with (first | ((with_reducible refine gate_dst (N := 1) rfl ?_); refine box_event ?hg (N := 1) ?hd (cs := #[.bool a0_0, .int .i64 a0_1, .slice A0_2 l0_2.length c0_2]) (t := 24) ?hr ?_; (case hd => rfl); (case hg => rfl); (case hr => first | (go_simp; done) | (go_simp; rfl)); intro gb133 hg w4 hbox hb; have n0_ := Aside0.mk (below_step (by repeat (first | (with_reducible first | exact HB.out | apply bA_ | apply bN_ | apply bD_) | exact HB.out)) hb); have n1_ := Aside0.mk (hbox); have n2_ := Aside0.mk ((by rw [hg]; exact (below_size (by repeat (first | (with_reducible first | exact HB.out | apply bA_ | apply bN_ | apply bD_) | exact HB.out))) : w.heap.size ≤ gb133)); have n3_ := Aside0.mk ((by rw [hg]; exact (below_size (by repeat (first | (with_reducible first | exact HB.out | apply bA_ | apply bN_ | apply bD_) | exact HB.out))) : w.heap.size ≤ gb133)); clear HB; have HB := n0_; have BK133 := n1_; have GW133 := n2_; have GE133 := n3_; clear n0_ n1_ n2_ n3_; clear hb hbox hg) | ((with_reducible refine gate_dst (N := 2) rfl ?_); refine box_event ?hg (N := 2) ?hd (cs := #[.bool false, .int .i64 0, .slice none 0 0]) (t := 24) ?hr ?_; (case hd => rfl); (case hg => rfl); (case hr => first | (go_simp; done) | (go_simp; rfl)); intro gb134 hg w5 hbox hb; have n0_ := Aside0.mk (blk_below (g := gb133) (o := .cells #[.bool a0_0, .int .i64 a0_1, .slice A0_2 l0_2.length c0_2] 24 (0, 0)) (by (with_reducible repeat (first | refine kN_ ?_ _ | refine kD_ ?_ | refine kA_ ?_ _)); exact BK133.out) hb); have n1_ := Aside0.mk (below_step (by repeat (first | (with_reducible first | exact HB.out | apply bA_ | apply bN_ | apply bD_ | refine bS_ ?_ GE133.out) | exact HB.out)) hb); have n2_ := Aside0.mk (hbox); have n3_ := Aside0.mk ((by rw [hg]; exact (below_size (by repeat (first | (with_reducible first | exact HB.out | apply bA_ | apply bN_ | apply bD_ | refine bS_ ?_ GE133.out) | exact HB.out))) : w.heap.size ≤ gb134)); have n4_ := Aside0.mk ((by rw [hg]; exact (below_size (by repeat (first | (with_reducible first | exact HB.out | apply bA_ | apply bN_ | apply bD_ | refine bS_ ?_ GE133.out) | exact HB.out))) : w.heap.size ≤ gb134)); have n5_ := Aside0.mk ((by rw [hg]; exact Nat.ne_of_lt (blk_lt (g := gb133) (o := .cells #[.bool a0_0, .int .i64 a0_1, .slice A0_2 l0_2.length c0_2] 24 (0, 0)) (by (with_reducible repeat (first | refine kN_ ?_ _ | refine kD_ ?_ | refine kA_ ?_ _)); exact BK133.out)) : gb133 ≠ gb134)); have n6_ := Aside0.mk ((by rw [hg]; exact Nat.ne_of_gt (blk_lt (g := gb133) (o := .cells #[.bool a0_0, .int .i64 a0_1, .slice A0_2 l0_2.length c0_2] 24 (0, 0)) (by (with_reducible repeat (first | refine kN_ ?_ _ | refine kD_ ?_ | refine kA_ ?_ _)); exact BK133.out)) : gb134 ≠ gb133)); clear BK133; clear HB; have BK133 := n0_; have HB := n1_; have BK134 := n2_; have GW134 := n3_; have GE134 := n4_; have NB133_134 := n5_; have NB134_133 := n6_; clear n0_ n1_ n2_ n3_ n4_ n5_ n6_; clear hb hbox hg))
 have n0_ := Aside0.mk (kD_ BK133.out)
 have n1_ := Aside0.mk (kD_ BK134.out)
 have n2_ := Aside0.mk (bD_ HB.out)
 clear BK133
 clear BK134
 clear HB
 have BK133 := n0_
 have BK134 := n1_
 have HB := n2_
 clear n0_ n1_ n2_
 refine start_ (n := 8) (S := fun w' => w'.cell? ⟨gb133, 0, none⟩ = some (.bool a0_0) ∧ w'.cell? ⟨gb133, 1, none⟩ = some (.int .i64 a0_1) ∧ w'.cell? ⟨gb133, 2, none⟩ = some (.slice A0_2 l0_2.length c0_2)) (ds := []) #[false, false, false, false, false, false, false, false] (by kernel_rfl) rfl rfl (cells3_ BK133.out) (fun hHeld => ?_); refine with_tabW platformfwlaw05_path.tab1 platformfwlaw05_path.bits1 (fun HT_ HW_ => ?_)
 generalize w5.drew = w6 at BK133 BK134 HB hHeld ⊢
 refine pure_ (i := 0) (N := some 5) (v := ?_) (a' := ?_) (tf 8 1) rfl rfl (any_of HT_.out (by kernel_rfl)) (fun _ _ _ h => h) (Or.inl ⟨by rfl, ?_⟩) ?_ ?_
 rotate_left
 ·intro w'
  go_simp
  with_reducible rfl
 rotate_left
 ·simp only [Act.put, sA_, sB_, sC_, i64_w, i32_w]
  rfl
 refine pure_ (i := 2) (N := some 7) (v := ?_) (a' := ?_) (tf 8 5) rfl rfl (any_of HT_.out (by kernel_rfl)) (fun _ _ _ h => h) (Or.inl ⟨by rfl, ?_⟩) ?_ ?_
 rotate_left
 ·intro w'
  go_simp
  with_reducible rfl
 rotate_left
 ·simp only [Act.put, sA_, sB_, sC_, i64_w, i32_w]
  rfl
 refine take_ (i := 1) (N := some 6) (v := ?_) (a' := ?_) (tf 8 7) rfl rfl (take_ofW HT_.out HW_.out (by kernel_rfl)) (fun _ _ _ h => h) (Or.inl ⟨by rfl, ?_⟩) hHeld ?_ ?_
 rotate_left
 ·rintro w' ⟨s0, s1, s2⟩
  go_simp
  with_reducible rfl
 rotate_left
 ·simp only [Act.put, sA_, sB_, sC_, i64_w, i32_w]
  rfl
 refine take_ (i := 3) (N := some 8) (v := ?_) (a' := ?_) (tf 8 15) rfl rfl (take_ofW HT_.out HW_.out (by kernel_rfl)) (fun _ _ _ h => h) (Or.inl ⟨by rfl, ?_⟩) hHeld ?_ ?_
 rotate_left
 ·rintro w' ⟨s0, s1, s2⟩
  go_simp
  with_reducible rfl
 rotate_left
 ·simp only [Act.put, sA_, sB_, sC_, i64_w, i32_w]
  rfl
 refine join_ (σ := Nat) 1 #[true, true, true, true, true, true, true, false] (fun s_ => [(9, .int .i64 t135), (3, .pointer (some ⟨s_, 0, none⟩)), (10, .agg #[.bool a0_0, .int .i64 t135, .slice none 0 0])]) (fun s_ w' => (w'.cell? ⟨gb133, 0, none⟩ = some (.bool a0_0) ∧ w'.cell? ⟨gb133, 1, none⟩ = some (.int .i64 a0_1) ∧ w'.cell? ⟨gb133, 2, none⟩ = some (.slice A0_2 l0_2.length c0_2)) ∧ (w'.heap[gb133]? = some (.cells #[.bool a0_0, .int .i64 a0_1, .slice A0_2 l0_2.length c0_2] 24 (0, 0))) ∧ (w'.heap[gb134]? = some (.cells #[.bool false, .int .i64 0, .slice none 0 0] 24 (0, 0))) ∧ (w'.heap[s_]? = some (.cells #[.bool false, .int .i64 0, .slice none 0 0] 24 (0, 0))) ∧ (w.heap.size ≤ s_) ∧ (w.heap.size ≤ s_) ∧ (gb133 ≠ s_) ∧ (s_ ≠ gb133) ∧ (gb134 ≠ s_) ∧ (s_ ≠ gb134) ∧ (Below w.heap.size w w')) ?_ ?_
 rotate_left
 ·intro hCont
  refine two_ (i := 4) (j := 6) (Ni := some 9) (Nj := some 3) #[true, true, true, true, true, false, false, false] #[true, true, true, true, false, false, true, false] rfl rfl rfl rfl (two_of HT_.out (by kernel_rfl)) (by decide) (by decide) (fun K hK => ?_) (fun K hK => ?_)
  ·skip
   refine goes_ Try.func14 (by kernel_rfl) rfl #[.int .i64 a0_1, .int .i64 5] (by rfl) rfl rfl (by (try simp only [List.map_toArray, List.map_cons, List.map_nil]); first | done | rfl | (simp only [List.length_drop, List.length_take]; rfl)) ?_
   with_reducible refine (platformfwhelp_Mod.calls a0_1 5 t135 _ A2.out).mono ?_
   rintro e w' ⟨rfl, ⟨nd, rfl⟩⟩
   refine ⟨_, rfl, ?_⟩
   refine hK.out _ _ (cells3_ BK133.out) (fun hHeld => ?_)
   clear hK K
   refine norm_ (a' := ?_) ?_ ?_
   rotate_left
   ·show Act.put _ (some 9) _ = _
    simp only [Act.put, sA_, sB_, sC_, i64_w, i32_w]
    rfl
   refine pure_ (i := 5) (N := some 10) (v := ?_) (a' := ?_) (tf 8 63) rfl rfl (any_of HT_.out (by kernel_rfl)) (fun _ _ _ h => h) (Or.inl ⟨by rfl, ?_⟩) ?_ ?_
   rotate_left
   ·intro w'
    go_simp
    with_reducible rfl
   rotate_left
   ·simp only [Act.put, sA_, sB_, sC_, i64_w, i32_w]
    rfl
   refine one_ (i := 6) (N := some 3) (tf 8 127) rfl rfl (one_of HT_.out (by kernel_rfl)) (by decide) (fun K hK => ?_)
   refine box_step ?hg (N := 3) ?hd (cs := #[.bool false, .int .i64 0, .slice none 0 0]) (t := 24) ?hr ?_; (case hd => rfl); (case hg => rfl); (case hr => first | (go_simp; done) | (go_simp; rfl))
   intro gb136 hg w7 hbox hb
   have n0_ := Aside0.mk (blk_below (g := gb133) (o := .cells #[.bool a0_0, .int .i64 a0_1, .slice A0_2 l0_2.length c0_2] 24 (0, 0)) (by (with_reducible repeat (first | refine kN_ ?_ _ | refine kD_ ?_ | refine kA_ ?_ _)); exact BK133.out) hb)
   have n1_ := Aside0.mk (blk_below (g := gb134) (o := .cells #[.bool false, .int .i64 0, .slice none 0 0] 24 (0, 0)) (by (with_reducible repeat (first | refine kN_ ?_ _ | refine kD_ ?_ | refine kA_ ?_ _)); exact BK134.out) hb)
   have n2_ := Aside0.mk (below_step (by repeat (first | (with_reducible first | exact HB.out | apply bA_ | apply bN_ | apply bD_ | refine bS_ ?_ GE133.out | refine bS_ ?_ GE134.out) | exact HB.out)) hb)
   have n3_ := Aside0.mk (hbox)
   have n4_ := Aside0.mk ((by rw [hg]; exact (below_size (by repeat (first | (with_reducible first | exact HB.out | apply bA_ | apply bN_ | apply bD_ | refine bS_ ?_ GE133.out | refine bS_ ?_ GE134.out) | exact HB.out))) : w.heap.size ≤ gb136))
   have n5_ := Aside0.mk ((by rw [hg]; exact (below_size (by repeat (first | (with_reducible first | exact HB.out | apply bA_ | apply bN_ | apply bD_ | refine bS_ ?_ GE133.out | refine bS_ ?_ GE134.out) | exact HB.out))) : w.heap.size ≤ gb136))
   have n6_ := Aside0.mk ((by rw [hg]; exact Nat.ne_of_lt (blk_lt (g := gb133) (o := .cells #[.bool a0_0, .int .i64 a0_1, .slice A0_2 l0_2.length c0_2] 24 (0, 0)) (by (with_reducible repeat (first | refine kN_ ?_ _ | refine kD_ ?_ | refine kA_ ?_ _)); exact BK133.out)) : gb133 ≠ gb136))
   have n7_ := Aside0.mk ((by rw [hg]; exact Nat.ne_of_gt (blk_lt (g := gb133) (o := .cells #[.bool a0_0, .int .i64 a0_1, .slice A0_2 l0_2.length c0_2] 24 (0, 0)) (by (with_reducible repeat (first | refine kN_ ?_ _ | refine kD_ ?_ | refine kA_ ?_ _)); exact BK133.out)) : gb136 ≠ gb133))
   have n8_ := Aside0.mk ((by rw [hg]; exact Nat.ne_of_lt (blk_lt (g := gb134) (o := .cells #[.bool false, .int .i64 0, .slice none 0 0] 24 (0, 0)) (by (with_reducible repeat (first | refine kN_ ?_ _ | refine kD_ ?_ | refine kA_ ?_ _)); exact BK134.out)) : gb134 ≠ gb136))
   have n9_ := Aside0.mk ((by rw [hg]; exact Nat.ne_of_gt (blk_lt (g := gb134) (o := .cells #[.bool false, .int .i64 0, .slice none 0 0] 24 (0, 0)) (by (with_reducible repeat (first | refine kN_ ?_ _ | refine kD_ ?_ | refine kA_ ?_ _)); exact BK134.out)) : gb136 ≠ gb134))
   clear BK133
   clear BK134
   clear HB
   have BK133 := n0_
   have BK134 := n1_
   have HB := n2_
   have BK136 := n3_
   have GW136 := n4_
   have GE136 := n5_
   have NB133_136 := n6_
   have NB136_133 := n7_
   have NB134_136 := n8_
   have NB136_134 := n9_
   clear n0_ n1_ n2_ n3_ n4_ n5_ n6_ n7_ n8_ n9_
   clear hb hbox hg
   refine hK.out _ _ (cells3_ BK133.out) (fun hHeld => ?_)
   clear hK K
   refine norm_ (a' := ?_) ?_ ?_
   rotate_left
   ·show Act.put _ (some 3) _ = _
    simp only [Act.put, sA_, sB_, sC_, i64_w, i32_w]
    rfl
   exact norm_ (by simp only [putAll, Act.put, sA_, sB_, sC_]) (hCont (gb136) _ ⟨hHeld, (by (with_reducible repeat (first | refine kN_ ?_ _ | refine kD_ ?_ | refine kA_ ?_ _)); exact BK133.out), (by (with_reducible repeat (first | refine kN_ ?_ _ | refine kD_ ?_ | refine kA_ ?_ _)); exact BK134.out), (by (with_reducible repeat (first | refine kN_ ?_ _ | refine kD_ ?_ | refine kA_ ?_ _)); exact BK136.out), GW136.out, GE136.out, NB133_136.out, NB136_133.out, NB134_136.out, NB136_134.out, (by repeat (first | (with_reducible first | exact HB.out | apply bA_ | apply bN_ | apply bD_ | refine bS_ ?_ GE133.out | refine bS_ ?_ GE134.out | refine bS_ ?_ GE136.out) | exact HB.out))⟩)
  ·skip
   refine box_step ?hg (N := 3) ?hd (cs := #[.bool false, .int .i64 0, .slice none 0 0]) (t := 24) ?hr ?_; (case hd => rfl); (case hg => rfl); (case hr => first | (go_simp; done) | (go_simp; rfl))
   intro gb136 hg w7 hbox hb
   have n0_ := Aside0.mk (blk_below (g := gb133) (o := .cells #[.bool a0_0, .int .i64 a0_1, .slice A0_2 l0_2.length c0_2] 24 (0, 0)) (by (with_reducible repeat (first | refine kN_ ?_ _ | refine kD_ ?_ | refine kA_ ?_ _)); exact BK133.out) hb)
   have n1_ := Aside0.mk (blk_below (g := gb134) (o := .cells #[.bool false, .int .i64 0, .slice none 0 0] 24 (0, 0)) (by (with_reducible repeat (first | refine kN_ ?_ _ | refine kD_ ?_ | refine kA_ ?_ _)); exact BK134.out) hb)
   have n2_ := Aside0.mk (below_step (by repeat (first | (with_reducible first | exact HB.out | apply bA_ | apply bN_ | apply bD_ | refine bS_ ?_ GE133.out | refine bS_ ?_ GE134.out) | exact HB.out)) hb)
   have n3_ := Aside0.mk (hbox)
   have n4_ := Aside0.mk ((by rw [hg]; exact (below_size (by repeat (first | (with_reducible first | exact HB.out | apply bA_ | apply bN_ | apply bD_ | refine bS_ ?_ GE133.out | refine bS_ ?_ GE134.out) | exact HB.out))) : w.heap.size ≤ gb136))
   have n5_ := Aside0.mk ((by rw [hg]; exact (below_size (by repeat (first | (with_reducible first | exact HB.out | apply bA_ | apply bN_ | apply bD_ | refine bS_ ?_ GE133.out | refine bS_ ?_ GE134.out) | exact HB.out))) : w.heap.size ≤ gb136))
   have n6_ := Aside0.mk ((by rw [hg]; exact Nat.ne_of_lt (blk_lt (g := gb133) (o := .cells #[.bool a0_0, .int .i64 a0_1, .slice A0_2 l0_2.length c0_2] 24 (0, 0)) (by (with_reducible repeat (first | refine kN_ ?_ _ | refine kD_ ?_ | refine kA_ ?_ _)); exact BK133.out)) : gb133 ≠ gb136))
   have n7_ := Aside0.mk ((by rw [hg]; exact Nat.ne_of_gt (blk_lt (g := gb133) (o := .cells #[.bool a0_0, .int .i64 a0_1, .slice A0_2 l0_2.length c0_2] 24 (0, 0)) (by (with_reducible repeat (first | refine kN_ ?_ _ | refine kD_ ?_ | refine kA_ ?_ _)); exact BK133.out)) : gb136 ≠ gb133))
   have n8_ := Aside0.mk ((by rw [hg]; exact Nat.ne_of_lt (blk_lt (g := gb134) (o := .cells #[.bool false, .int .i64 0, .slice none 0 0] 24 (0, 0)) (by (with_reducible repeat (first | refine kN_ ?_ _ | refine kD_ ?_ | refine kA_ ?_ _)); exact BK134.out)) : gb134 ≠ gb136))
   have n9_ := Aside0.mk ((by rw [hg]; exact Nat.ne_of_gt (blk_lt (g := gb134) (o := .cells #[.bool false, .int .i64 0, .slice none 0 0] 24 (0, 0)) (by (with_reducible repeat (first | refine kN_ ?_ _ | refine kD_ ?_ | refine kA_ ?_ _)); exact BK134.out)) : gb136 ≠ gb134))
   clear BK133
   clear BK134
   clear HB
   have BK133 := n0_
   have BK134 := n1_
   have HB := n2_
   have BK136 := n3_
   have GW136 := n4_
   have GE136 := n5_
   have NB133_136 := n6_
   have NB136_133 := n7_
   have NB134_136 := n8_
   have NB136_134 := n9_
   clear n0_ n1_ n2_ n3_ n4_ n5_ n6_ n7_ n8_ n9_
   clear hb hbox hg
   refine hK.out _ _ (cells3_ BK133.out) (fun hHeld => ?_)
   clear hK K
   refine norm_ (a' := ?_) ?_ ?_
   rotate_left
   ·show Act.put _ (some 3) _ = _
    simp only [Act.put, sA_, sB_, sC_, i64_w, i32_w]
    rfl
   refine one_ (i := 4) (N := some 9) (tf 8 95) rfl rfl (one_of HT_.out (by kernel_rfl)) (by decide) (fun K hK => ?_)
   refine goes_ Try.func14 (by kernel_rfl) rfl #[.int .i64 a0_1, .int .i64 5] (by rfl) rfl rfl (by (try simp only [List.map_toArray, List.map_cons, List.map_nil]); first | done | rfl | (simp only [List.length_drop, List.length_take]; rfl)) ?_
   with_reducible refine (platformfwhelp_Mod.calls a0_1 5 t135 _ A2.out).mono ?_
   rintro e w' ⟨rfl, ⟨nd, rfl⟩⟩
   refine ⟨_, rfl, ?_⟩
   refine hK.out _ _ (cells3_ BK133.out) (fun hHeld => ?_)
   clear hK K
   refine norm_ (a' := ?_) ?_ ?_
   rotate_left
   ·show Act.put _ (some 9) _ = _
    simp only [Act.put, sA_, sB_, sC_, i64_w, i32_w]
    rfl
   refine pure_ (i := 5) (N := some 10) (v := ?_) (a' := ?_) (tf 8 127) rfl rfl (any_of HT_.out (by kernel_rfl)) (fun _ _ _ h => h) (Or.inl ⟨by rfl, ?_⟩) ?_ ?_
   rotate_left
   ·intro w'
    go_simp
    with_reducible rfl
   rotate_left
   ·simp only [Act.put, sA_, sB_, sC_, i64_w, i32_w]
    rfl
   exact norm_ (by simp only [putAll, Act.put, sA_, sB_, sC_]) (hCont (gb136) _ ⟨hHeld, (by (with_reducible repeat (first | refine kN_ ?_ _ | refine kD_ ?_ | refine kA_ ?_ _)); exact BK133.out), (by (with_reducible repeat (first | refine kN_ ?_ _ | refine kD_ ?_ | refine kA_ ?_ _)); exact BK134.out), (by (with_reducible repeat (first | refine kN_ ?_ _ | refine kD_ ?_ | refine kA_ ?_ _)); exact BK136.out), GW136.out, GE136.out, NB133_136.out, NB136_133.out, NB134_136.out, NB136_134.out, (by repeat (first | (with_reducible first | exact HB.out | apply bA_ | apply bN_ | apply bD_ | refine bS_ ?_ GE133.out | refine bS_ ?_ GE134.out | refine bS_ ?_ GE136.out) | exact HB.out))⟩)
 rintro gb136 w8 ⟨hS_, h0_, h1_, h2_, h3_, h4_, h5_, h6_, h7_, h8_, h9_⟩
 have n0_ : Aside0 (w8.heap[gb133]? = some (.cells #[.bool a0_0, .int .i64 a0_1, .slice A0_2 l0_2.length c0_2] 24 (0, 0))) := ⟨h0_⟩
 have n1_ : Aside0 (w8.heap[gb134]? = some (.cells #[.bool false, .int .i64 0, .slice none 0 0] 24 (0, 0))) := ⟨h1_⟩
 have n2_ : Aside0 (w8.heap[gb136]? = some (.cells #[.bool false, .int .i64 0, .slice none 0 0] 24 (0, 0))) := ⟨h2_⟩
 have n3_ : Aside0 (w.heap.size ≤ gb136) := ⟨h3_⟩
 have n4_ : Aside0 (w.heap.size ≤ gb136) := ⟨h4_⟩
 have n5_ : Aside0 (gb133 ≠ gb136) := ⟨h5_⟩
 have n6_ : Aside0 (gb136 ≠ gb133) := ⟨h6_⟩
 have n7_ : Aside0 (gb134 ≠ gb136) := ⟨h7_⟩
 have n8_ : Aside0 (gb136 ≠ gb134) := ⟨h8_⟩
 have n9_ : Aside0 (Below w.heap.size w w8) := ⟨h9_⟩
 clear BK133
 clear BK134
 clear HB
 clear h0_ h1_ h2_ h3_ h4_ h5_ h6_ h7_ h8_ h9_
 have BK133 := n0_
 have BK134 := n1_
 have BK136 := n2_
 have GW136 := n3_
 have GE136 := n4_
 have NB133_136 := n5_
 have NB136_133 := n6_
 have NB134_136 := n7_
 have NB136_134 := n8_
 have HB := n9_
 clear n0_ n1_ n2_ n3_ n4_ n5_ n6_ n7_ n8_ n9_
 have hHeld : w8.cell? ⟨gb133, 0, none⟩ = some (.bool a0_0) ∧ w8.cell? ⟨gb133, 1, none⟩ = some (.int .i64 a0_1) ∧ w8.cell? ⟨gb133, 2, none⟩ = some (.slice A0_2 l0_2.length c0_2) := hS_
 refine norm_ (a' := ?_) ?_ ?_
 rotate_left
 ·simp only [putAll, Act.put, sA_, sB_, sC_]
  rfl
 refine one_ (i := 7) (N := none) (tf 8 255) rfl rfl (one_of HT_.out (by kernel_rfl)) (by decide) (fun K hK => ?_)
 have hs9 : w8.cell? ⟨gb136, 0, none⟩ = some (.bool false) := (blk_cell BK136.out 0).trans rfl
 have hfs9 := blk_frozen BK136.out 0
 have hns9_0 := NB133_136.out
 have hns9_1 := NB134_136.out
 have hms9_0 := NB136_133.out
 have hms9_1 := NB136_134.out
 have hs10 : w8.cell? ⟨gb136, 1, none⟩ = some (.int .i64 0) := (blk_cell BK136.out 1).trans rfl
 have hfs10 := blk_frozen BK136.out 1
 have hns10_0 := NB133_136.out
 have hns10_1 := NB134_136.out
 have hms10_0 := NB136_133.out
 have hms10_1 := NB136_134.out
 have hs11 : w8.cell? ⟨gb136, 2, none⟩ = some (.slice none 0 0) := (blk_cell BK136.out 2).trans rfl
 have hfs11 := blk_frozen BK136.out 2
 have hns11_0 := NB133_136.out
 have hns11_1 := NB134_136.out
 have hms11_0 := NB136_133.out
 have hms11_1 := NB136_134.out
 refine skip_ (w1 := ?_) (by rfl) rfl ?_ ?_
 rotate_left
 ·go_simp
  rfl
 refine hK.out _ _ ⟨((cell_far (p := ⟨gb136, _, none⟩) NB133_136.out _).trans (((cell_far (p := ⟨gb136, _, none⟩) NB133_136.out _).trans (((cell_far (p := ⟨gb136, _, none⟩) NB133_136.out _).trans (hHeld.1)))))), ((cell_far (p := ⟨gb136, _, none⟩) NB133_136.out _).trans (((cell_far (p := ⟨gb136, _, none⟩) NB133_136.out _).trans (((cell_far (p := ⟨gb136, _, none⟩) NB133_136.out _).trans (hHeld.2.1)))))), ((cell_far (p := ⟨gb136, _, none⟩) NB133_136.out _).trans (((cell_far (p := ⟨gb136, _, none⟩) NB133_136.out _).trans (((cell_far (p := ⟨gb136, _, none⟩) NB133_136.out _).trans (hHeld.2.2))))))⟩ (fun hHeld => ?_)
 clear hK K
 refine done_ (done_of HT_.out (by kernel_rfl)) ?_
 have hnb12 := NB133_134.out
 have hnc12 := NB134_133.out
 have hnb13 := NB133_136.out
 have hnc13 := NB136_133.out
 obtain ⟨hcz14_0, hcz14_1, hcz14_2⟩ := cells3_ BK133.out
 obtain ⟨hfz14_0, hfz14_1, hfz14_2⟩ := froz3_ BK133.out
 go_upto_if 12 with (fail)
 go_cut [] (fun wc => ∃ (kq : Nat) (x137001_2 : Int), Aside0 (platformfwlaw05_path.j0 kq a0_0 a0_1 l0_2 a0_0 x137001_2 = some (r1, r2, r3)) ∧ Aside0 (kq ≤ k) ∧ Aside0 (wc.heap[gb133]? = some (.cells #[.bool a0_0, .int .i64 a0_1, (.slice A0_2 l0_2.length c0_2)] 24 (0, 0))) ∧ Aside0 (wc.heap[gb134]? = some (.cells #[.bool false, .int .i64 0, (.slice none 0 0)] 24 (0, 0))) ∧ Aside0 (wc.heap[gb136]? = some (.cells #[.bool a0_0, .int .i64 x137001_2, (.slice none 0 0)] 24 (0, 0))) ∧ Aside0 (Below w.heap.size w wc))
 case first =>
  have H := HC3.out
  clear HC3
  by_cases c15 : a0_0 = true
  ·subst c15
   have H1 : (platformfwlaw05_path.j0 k true a0_1 l0_2 true 0) = some (r1, r2, r3) := by rw [if_pos rfl] at H; exact H
   clear H
   have H := H1
   clear H1
   have H' := Aside0.mk H
   clear H
   have hnb16 := NB136_133.out
   have hnc16 := NB133_136.out
   have hnb17 := NB136_134.out
   have hnc17 := NB134_136.out
   have hcz18_0 : w8.cell? ⟨gb136, 0, none⟩ = some (.bool false) := (blk_cell BK136.out 0).trans rfl
   have hcz18_1 : w8.cell? ⟨gb136, 1, none⟩ = some (.int .i64 0) := (blk_cell BK136.out 1).trans rfl
   have hcz18_2 : w8.cell? ⟨gb136, 2, none⟩ = some (.slice none 0 0) := (blk_cell BK136.out 2).trans rfl
   have hfz18_0 := blk_frozen BK136.out 0
   have hfz18_1 := blk_frozen BK136.out 1
   have hfz18_2 := blk_frozen BK136.out 2
   go_wp2
   go_meet
   case rel => exact ⟨_, (0), H', ⟨by first | omega | exact Nat.le_refl _⟩, ⟨by (with_reducible repeat (first | refine kN_ ?_ _ | refine kD_ ?_ | refine kA_ ?_ _)); refine blk_far ?_ NB133_136.out _; (with_reducible repeat (first | refine kN_ ?_ _ | refine kD_ ?_ | refine kA_ ?_ _)); refine blk_far ?_ NB133_136.out _; (with_reducible repeat (first | refine kN_ ?_ _ | refine kD_ ?_ | refine kA_ ?_ _)); refine blk_far ?_ NB133_136.out _; (with_reducible repeat (first | refine kN_ ?_ _ | refine kD_ ?_ | refine kA_ ?_ _)); refine blk_far ?_ NB133_136.out _; (with_reducible repeat (first | refine kN_ ?_ _ | refine kD_ ?_ | refine kA_ ?_ _)); exact BK133.out⟩, ⟨by (with_reducible repeat (first | refine kN_ ?_ _ | refine kD_ ?_ | refine kA_ ?_ _)); refine blk_far ?_ NB134_136.out _; (with_reducible repeat (first | refine kN_ ?_ _ | refine kD_ ?_ | refine kA_ ?_ _)); refine blk_far ?_ NB134_136.out _; (with_reducible repeat (first | refine kN_ ?_ _ | refine kD_ ?_ | refine kA_ ?_ _)); refine blk_far ?_ NB134_136.out _; (with_reducible repeat (first | refine kN_ ?_ _ | refine kD_ ?_ | refine kA_ ?_ _)); refine blk_far ?_ NB134_136.out _; (with_reducible repeat (first | refine kN_ ?_ _ | refine kD_ ?_ | refine kA_ ?_ _)); exact BK134.out⟩, ⟨by (with_reducible repeat (first | refine kN_ ?_ _ | refine kD_ ?_ | refine kA_ ?_ _)); refine blk_put (cs := #[.bool true, .int .i64 t135, .slice none 0 0]) ?_ 1 _ rfl; (with_reducible repeat (first | refine kN_ ?_ _ | refine kD_ ?_ | refine kA_ ?_ _)); refine blk_put (cs := #[.bool true, .int .i64 t135, .slice none 0 0]) ?_ 2 _ rfl; (with_reducible repeat (first | refine kN_ ?_ _ | refine kD_ ?_ | refine kA_ ?_ _)); refine blk_put (cs := #[.bool true, .int .i64 0, .slice none 0 0]) ?_ 1 _ rfl; (with_reducible repeat (first | refine kN_ ?_ _ | refine kD_ ?_ | refine kA_ ?_ _)); refine blk_put (cs := #[.bool false, .int .i64 0, .slice none 0 0]) ?_ 0 _ rfl; (with_reducible repeat (first | refine kN_ ?_ _ | refine kD_ ?_ | refine kA_ ?_ _)); exact BK136.out⟩, ⟨by repeat (first | (with_reducible first | exact HB.out | apply bA_ | apply bN_ | apply bD_ | refine bS_ ?_ GE133.out | refine bS_ ?_ GE134.out | refine bS_ ?_ GE136.out) | exact HB.out)⟩⟩
  ·replace c15 := Bool.eq_false_iff.mpr c15
   subst c15
   have H1 : (platformfwlaw05_path.j0 k false a0_1 l0_2 false t135) = some (r1, r2, r3) := by rw [if_neg (show ¬ (false = true) by decide)] at H; exact H
   clear H
   have H := H1
   clear H1
   have H' := Aside0.mk H
   clear H
   go_wp2
   go_meet
   case rel => exact ⟨_, (t135), H', ⟨by first | omega | exact Nat.le_refl _⟩, ⟨by (with_reducible repeat (first | refine kN_ ?_ _ | refine kD_ ?_ | refine kA_ ?_ _)); refine blk_far ?_ NB133_136.out _; (with_reducible repeat (first | refine kN_ ?_ _ | refine kD_ ?_ | refine kA_ ?_ _)); refine blk_far ?_ NB133_136.out _; (with_reducible repeat (first | refine kN_ ?_ _ | refine kD_ ?_ | refine kA_ ?_ _)); refine blk_far ?_ NB133_136.out _; (with_reducible repeat (first | refine kN_ ?_ _ | refine kD_ ?_ | refine kA_ ?_ _)); exact BK133.out⟩, ⟨by (with_reducible repeat (first | refine kN_ ?_ _ | refine kD_ ?_ | refine kA_ ?_ _)); refine blk_far ?_ NB134_136.out _; (with_reducible repeat (first | refine kN_ ?_ _ | refine kD_ ?_ | refine kA_ ?_ _)); refine blk_far ?_ NB134_136.out _; (with_reducible repeat (first | refine kN_ ?_ _ | refine kD_ ?_ | refine kA_ ?_ _)); refine blk_far ?_ NB134_136.out _; (with_reducible repeat (first | refine kN_ ?_ _ | refine kD_ ?_ | refine kA_ ?_ _)); exact BK134.out⟩, ⟨by (with_reducible repeat (first | refine kN_ ?_ _ | refine kD_ ?_ | refine kA_ ?_ _)); refine blk_put (cs := #[.bool false, .int .i64 t135, .slice none 0 0]) ?_ 2 _ rfl; (with_reducible repeat (first | refine kN_ ?_ _ | refine kD_ ?_ | refine kA_ ?_ _)); refine blk_put (cs := #[.bool false, .int .i64 0, .slice none 0 0]) ?_ 1 _ rfl; (with_reducible repeat (first | refine kN_ ?_ _ | refine kD_ ?_ | refine kA_ ?_ _)); refine blk_put (cs := #[.bool false, .int .i64 0, .slice none 0 0]) ?_ 0 _ rfl; (with_reducible repeat (first | refine kN_ ?_ _ | refine kD_ ?_ | refine kA_ ?_ _)); exact BK136.out⟩, ⟨by repeat (first | (with_reducible first | exact HB.out | apply bA_ | apply bN_ | apply bD_ | refine bS_ ?_ GE133.out | refine bS_ ?_ GE134.out | refine bS_ ?_ GE136.out) | exact HB.out)⟩⟩
 case rest =>
  clear HC3
  try clear c1
  try clear p2
  try clear c6
  try clear c12
  try clear c13
  try clear c14
  try clear c15
  try clear c16
  try clear c17
  try clear hcz14_0 hcz14_1 hcz14_2
  try clear hcz18_0 hcz18_1 hcz18_2
  try clear hfz14_0 hfz14_1 hfz14_2
  try clear hfz18_0 hfz18_1 hfz18_2
  obtain ⟨kq, x137001_2, HA, HJ2, BK133, BK134, BK136, HB⟩ := hcut
  cases kq with
  | zero => exact absurd HA.out (by simp [platformfwlaw05_path.j0])
  | succ kj2 =>
   have H := HA.out
   clear HA
   simp only [platformfwlaw05_path.j0] at H
   have H' := Aside0.mk H
   clear H
   go_wp2
   go_loopg [4] kj2 (fun kq v4 w' => ∃ (x4_2 : Int) (x137002_2 : List ByteArray) (u137002 : Value), v4 = .int .i64 x4_2 ∧ Aside0 (platformfwlaw05_path.l0 kq x4_2 a0_0 a0_1 l0_2 a0_0 x137001_2 x137002_2 = some (r1, r2, r3)) ∧ Aside0 (kq ≤ kj2) ∧ Aside0 (Kd.R Kd.string 9 w' w.heap.size (fun _ => True) u137002 x137002_2) ∧ Aside0 (w'.heap[gb133]? = some (.cells #[.bool a0_0, .int .i64 a0_1, (.slice A0_2 l0_2.length c0_2)] 24 (0, 0))) ∧ Aside0 (w'.heap[gb134]? = some (.cells #[.bool false, .int .i64 0, (.slice none 0 0)] 24 (0, 0))) ∧ Aside0 (w'.heap[gb136]? = some (.cells #[.bool a0_0, .int .i64 x137001_2, u137002] 24 (0, 0))) ∧ Aside0 (Below w.heap.size w w'))
   case atStart => exact ⟨(0), (([] : List ByteArray)), (.slice none 0 0), (by first | rfl | (simp; done) | (simp [*]; done)), H', ⟨Nat.le_refl _⟩, ⟨by first | exact Kd.R_nil _ _ _ _ _ | exact Kd.N_nil _ _ _ _ _ | exact Kd.V_nil _ _ _ _ _ | exact Kd.Q_nil _ _ _ _ _ | exact Kd.S_nil _ _ _ _ _⟩, ⟨by (with_reducible repeat (first | refine kN_ ?_ _ | refine kD_ ?_ | refine kA_ ?_ _)); exact BK133.out⟩, ⟨by (with_reducible repeat (first | refine kN_ ?_ _ | refine kD_ ?_ | refine kA_ ?_ _)); exact BK134.out⟩, ⟨by (with_reducible repeat (first | refine kN_ ?_ _ | refine kD_ ?_ | refine kA_ ?_ _)); exact BK136.out⟩, ⟨by repeat (first | (with_reducible first | exact HB.out | apply bA_ | apply bN_ | apply bD_ | refine bS_ ?_ GE133.out | refine bS_ ?_ GE134.out | refine bS_ ?_ GE136.out) | exact HB.out)⟩⟩
   case round =>
    clear H'
    try clear c1
    try clear p2
    try clear c6
    try clear c12
    try clear c13
    try clear c14
    try clear c15
    try clear c16
    try clear c17
    try clear hcz14_0 hcz14_1 hcz14_2
    try clear hcz18_0 hcz18_1 hcz18_2
    try clear hfz14_0 hfz14_1 hfz14_2
    try clear hfz18_0 hfz18_1 hfz18_2
    try clear p2
    obtain ⟨x4_2, x137002_2, u137002, rfl, HA, HK2, HO_137002, BK133, BK134, BK136, HB⟩ := hrel
    cases gk with
    | zero => exact absurd HA.out (by simp [platformfwlaw05_path.l0])
    | succ k2 =>
     have H := HA.out
     clear HA
     simp only [platformfwlaw05_path.l0] at H
     by_cases c19 : x4_2 < (l0_2.length : Int)
     ·rw [if_pos c19] at H
      have c19b0 : decide (x4_2 < (l0_2.length : Int)) = true := decide_eq_true c19
      clear c19
      by_cases c20 : x4_2 < 30
      ·rw [if_pos c20] at H
       have c20b0 : decide (x4_2 < 30) = true := decide_eq_true c20
       clear c20
       obtain ⟨y137, hy137⟩ : ∃ y_ : List ByteArray, y_ = (([(⟨#[65]⟩ : ByteArray), (⟨#[95, 83, 66]⟩ : ByteArray), (⟨#[66, 95]⟩ : ByteArray), (⟨#[65, 66, 67, 68]⟩ : ByteArray), (⟨#[67, 49]⟩ : ByteArray)] : List ByteArray)) := ⟨_, rfl⟩
       replace H : (if 0 ≤ x4_2 then (if 0 ≤ (Int.tmod (wrap64 (((rdOf ByteArray.empty l0_2 x4_2).size : Int) + x4_2)) 5) then (if (Int.tmod (wrap64 (((rdOf ByteArray.empty l0_2 x4_2).size : Int) + x4_2)) 5) < (y137.length : Int) then (if x137002_2.length < 8796093022208 then (platformfwlaw05_path.l0 k2 (wrap64 (x4_2 + 1)) a0_0 a0_1 l0_2 a0_0 x137001_2 (x137002_2 ++ [rdOf ByteArray.empty y137 (Int.tmod (wrap64 (((rdOf ByteArray.empty l0_2 x4_2).size : Int) + x4_2)) 5)])) else (none)) else (none)) else (none)) else (none)) = some (r1, r2, r3) := by first | (rw [hy137]; with_reducible exact H) | (have H2_ := (Option.bind_some _ _).symm.trans H; rw [hy137]; with_reducible exact H2_) | (have H2_ := (Option.bind_some _ _).symm.trans H; with_reducible exact H2_) | with_reducible exact H | (rw [hy137]; exact H) | exact H
       have Ny137 := Aside0.mk hy137
       clear hy137
       by_cases c21 : 0 ≤ x4_2
       ·rw [if_pos c21] at H
        have c21b0 : decide (0 ≤ x4_2) = true := decide_eq_true c21
        clear c21
        obtain ⟨ji22, hji22⟩ : ∃ j_ : Int, (Int.tmod (wrap64 (((rdOf ByteArray.empty l0_2 x4_2).size : Int) + x4_2)) 5) = j_ := ⟨_, rfl⟩
        replace H : (if 0 ≤ (ji22) then (if (ji22) < (y137.length : Int) then (if x137002_2.length < 8796093022208 then (platformfwlaw05_path.l0 k2 (wrap64 (x4_2 + 1)) a0_0 a0_1 l0_2 a0_0 x137001_2 (x137002_2 ++ [rdOf ByteArray.empty y137 (ji22)])) else (none)) else (none)) else (none)) = some (r1, r2, r3) := by first | (rw [hji22] at H; exact H) | (simp only [hji22] at H ⊢; exact H)
        by_cases c23 : 0 ≤ (ji22)
        ·rw [if_pos c23] at H
         have c23b0 : decide (0 ≤ (ji22)) = true := decide_eq_true c23
         clear c23
         by_cases c24 : (ji22) < (y137.length : Int)
         ·rw [if_pos c24] at H
          have c24b0 : decide ((ji22) < (y137.length : Int)) = true := decide_eq_true c24
          clear c24
          by_cases c25 : x137002_2.length < 8796093022208
          ·rw [if_pos c25] at H
           have LMc25 := Aside0.mk c25
           clear c25
           obtain ⟨y142, hy142⟩ : ∃ y_ : List ByteArray, y_ = (x137002_2 ++ [rdOf ByteArray.empty y137 (ji22)]) := ⟨_, rfl⟩
           replace H : (platformfwlaw05_path.l0 k2 (wrap64 (x4_2 + 1)) a0_0 a0_1 l0_2 a0_0 x137001_2 y142) = some (r1, r2, r3) := by first | (rw [hy142]; with_reducible exact H) | (have H2_ := (Option.bind_some _ _).symm.trans H; rw [hy142]; with_reducible exact H2_) | (have H2_ := (Option.bind_some _ _).symm.trans H; with_reducible exact H2_) | with_reducible exact H | (rw [hy142]; exact H) | exact H
           have Ny142 := Aside0.mk hy142
           clear hy142
           have H' := Aside0.mk H
           clear H
           have hnb26 := NB133_134.out
           have hnc26 := NB134_133.out
           have hnb27 := NB133_136.out
           have hnc27 := NB136_133.out
           obtain ⟨hcz28_0, hcz28_1, hcz28_2⟩ := cells3_ BK133.out
           obtain ⟨hfz28_0, hfz28_1, hfz28_2⟩ := froz3_ BK133.out
           try go_wp2
           have pi141 : (0 ≤ ((ji22) : Int)) = True := eq_true (of_decide_eq_true (by first | (with_reducible assumption) | assumption))
           have qi141 : ((ji22) < (y137.length : Int)) = True := eq_true (of_decide_eq_true (by first | (with_reducible assumption) | assumption))
           have n0_ := Aside0.mk (Kd.R_drew HO_137002.out)
           have n1_ := Aside0.mk (kD_ BK133.out)
           have n2_ := Aside0.mk (kD_ BK134.out)
           have n3_ := Aside0.mk (kD_ BK136.out)
           have n4_ := Aside0.mk (bD_ HB.out)
           clear HO_137002
           clear BK133
           clear BK134
           clear BK136
           clear HB
           have HO_137002 := n0_
           have BK133 := n1_
           have BK134 := n2_
           have BK136 := n3_
           have HB := n4_
           clear n0_ n1_ n2_ n3_ n4_
           have p140 : 0 ≤ (x4_2 : Int) := of_decide_eq_true (by first | (with_reducible assumption) | assumption)
           have q140 : x4_2 < (l0_2.length : Int) := of_decide_eq_true (by first | (with_reducible assumption) | assumption)
           obtain ⟨ad140, e140, hx140_0⟩ := Kd.at_string HR0_2.out x4_2 p140 q140
           have hw140_0 := hx140_0
           cases e140
           replace hx140_0 := (HB.out.cell (World.block_lt_of_cell? w _ hx140_0)).trans hx140_0
           replace p140 := eq_true p140
           replace q140 := eq_true q140
           refine start_ (n := 18) (S := fun w' => w'.cell? ⟨gb136, 0, none⟩ = some (.bool a0_0) ∧ w'.cell? ⟨gb136, 1, none⟩ = some (.int .i64 x137001_2) ∧ w'.cell? ⟨gb136, 2, none⟩ = some (u137002) ∧ w'.cell? ⟨gb133, 0, none⟩ = some (.bool a0_0) ∧ w'.cell? ⟨gb133, 1, none⟩ = some (.int .i64 a0_1) ∧ w'.cell? ⟨gb133, 2, none⟩ = some (.slice (some ad140) l0_2.length c0_2) ∧ w'.cell? (ad140.add (x4_2).toNat) = some (.string (rdOf ByteArray.empty l0_2 x4_2))) (ds := [17]) #[false, false, false, false, false, false, false, false, false, false, false, false, false, false, false, false, false, false] (by kernel_rfl) rfl rfl ⟨(blk_cell BK136.out 0).trans rfl, (blk_cell BK136.out 1).trans rfl, (blk_cell BK136.out 2).trans rfl, (blk_cell BK133.out 0).trans rfl, (blk_cell BK133.out 1).trans rfl, (blk_cell BK133.out 2).trans rfl, ((HB.out.cell (World.block_lt_of_cell? w _ hw140_0)).trans hw140_0)⟩ (fun hHeld => ?_); refine with_tabW platformfwlaw05_path.tab7 platformfwlaw05_path.bits7 (fun HT_ HW_ => ?_)
           generalize wr.drew = w29 at HO_137002 BK133 BK134 BK136 HB hx140_0 hHeld ⊢
           refine pure_ (i := 0) (N := some 25) (v := ?_) (a' := ?_) (tf 18 1) rfl rfl (any_of HT_.out (by kernel_rfl)) (fun _ _ _ h => h) (Or.inl ⟨by rfl, ?_⟩) ?_ ?_
           rotate_left
           ·intro w'
            go_simp
            with_reducible rfl
           rotate_left
           ·simp only [Act.put, sA_, sB_, sC_, i64_w, i32_w]
            rfl
           refine pure_ (i := 3) (N := some 28) (v := ?_) (a' := ?_) (tf 18 9) rfl rfl (any_of HT_.out (by kernel_rfl)) (fun _ _ _ h => h) (Or.inl ⟨by rfl, ?_⟩) ?_ ?_
           rotate_left
           ·intro w'
            go_simp
            with_reducible rfl
           rotate_left
           ·simp only [Act.put, sA_, sB_, sC_, i64_w, i32_w]
            rfl
           refine pure_ (i := 5) (N := some 30) (v := ?_) (a' := ?_) (tf 18 41) rfl rfl (any_of HT_.out (by kernel_rfl)) (fun _ _ _ h => h) (Or.inl ⟨by rfl, ?_⟩) ?_ ?_
           rotate_left
           ·intro w'
            go_simp
            with_reducible rfl
           rotate_left
           ·simp only [Act.put, sA_, sB_, sC_, i64_w, i32_w]
            rfl
           refine pure_ (i := 9) (N := some 34) (v := ?_) (a' := ?_) (tf 18 553) rfl rfl (any_of HT_.out (by kernel_rfl)) (fun _ _ _ h => h) (Or.inl ⟨by rfl, ?_⟩) ?_ ?_
           rotate_left
           ·intro w'
            go_simp
            with_reducible rfl
           rotate_left
           ·simp only [Act.put, sA_, sB_, sC_, i64_w, i32_w]
            rfl
           refine take_ (i := 1) (N := some 26) (v := ?_) (a' := ?_) (tf 18 555) rfl rfl (take_ofW HT_.out HW_.out (by kernel_rfl)) (fun _ _ _ h => h) (Or.inl ⟨by rfl, ?_⟩) hHeld ?_ ?_
           rotate_left
           ·rintro w' ⟨s0, s1, s2, s3, s4, s5, s6⟩
            go_simp
            with_reducible rfl
           rotate_left
           ·simp only [Act.put, sA_, sB_, sC_, i64_w, i32_w]
            rfl
           refine take_ (i := 4) (N := some 29) (v := ?_) (a' := ?_) (tf 18 571) rfl rfl (take_ofW HT_.out HW_.out (by kernel_rfl)) (fun _ _ _ h => h) (Or.inl ⟨by rfl, ?_⟩) hHeld ?_ ?_
           rotate_left
           ·rintro w' ⟨s0, s1, s2, s3, s4, s5, s6⟩
            go_simp
            with_reducible rfl
           rotate_left
           ·simp only [Act.put, sA_, sB_, sC_, i64_w, i32_w]
            rfl
           refine pure_ (i := 6) (N := some 31) (v := ?_) (a' := ?_) (tf 18 635) rfl rfl (any_of HT_.out (by kernel_rfl)) (fun _ _ _ h => h) (Or.inl ⟨by rfl, ?_⟩) ?_ ?_
           rotate_left
           ·intro w'
            go_simp
            with_reducible rfl
           rotate_left
           ·simp only [Act.put, sA_, sB_, sC_, i64_w, i32_w]
            rfl
           refine take_ (i := 7) (N := some 32) (v := ?_) (a' := ?_) (tf 18 763) rfl rfl (take_ofW HT_.out HW_.out (by kernel_rfl)) (fun _ _ _ h => h) (Or.inl ⟨by rfl, ?_⟩) hHeld ?_ ?_
           rotate_left
           ·rintro w' ⟨s0, s1, s2, s3, s4, s5, s6⟩
            go_simp
            with_reducible rfl
           rotate_left
           ·simp only [Act.put, sA_, sB_, sC_, i64_w, i32_w]
            rfl
           refine pure_ (i := 8) (N := some 33) (v := ?_) (a' := ?_) (tf 18 1019) rfl rfl (any_of HT_.out (by kernel_rfl)) (fun _ _ _ h => h) (Or.inl ⟨by rfl, ?_⟩) ?_ ?_
           rotate_left
           ·intro w'
            go_simp
            with_reducible rfl
           rotate_left
           ·simp only [Act.put, sA_, sB_, sC_, i64_w, i32_w]
            rfl
           refine pure_ (i := 10) (N := some 35) (v := ?_) (a' := ?_) (tf 18 2043) rfl rfl (any_of HT_.out (by kernel_rfl)) (fun _ _ _ h => h) (Or.inl ⟨by rfl, ?_⟩) ?_ ?_
           rotate_left
           ·intro w'
            go_simp
            with_reducible rfl
           rotate_left
           ·simp only [Act.put, sA_, sB_, sC_, i64_w, i32_w]
            rfl
           refine pure_ (i := 11) (N := some 36) (v := ?_) (a' := ?_) (tf 18 4091) rfl rfl (any_of HT_.out (by kernel_rfl)) (fun _ _ _ h => h) (Or.inl ⟨by rfl, ?_⟩) ?_ ?_
           rotate_left
           ·intro w'
            go_simp
            with_reducible rfl
           rotate_left
           ·simp only [Act.put, sA_, sB_, sC_, i64_w, i32_w]
            rfl
           refine one_ (i := 2) (N := some 27) (tf 18 4095) rfl rfl (one_of HT_.out (by kernel_rfl)) (by decide) (fun K hK => ?_)
           refine Kd.R_lit_step Kd.string _ 9 ?hg (N := 27) ?hd (xs := ([(⟨#[65]⟩ : ByteArray), (⟨#[95, 83, 66]⟩ : ByteArray), (⟨#[66, 95]⟩ : ByteArray), (⟨#[65, 66, 67, 68]⟩ : ByteArray), (⟨#[67, 49]⟩ : ByteArray)] : List ByteArray)) (inner := [.string (⟨#[65]⟩ : ByteArray), .string (⟨#[95, 83, 66]⟩ : ByteArray), .string (⟨#[66, 95]⟩ : ByteArray), .string (⟨#[65, 66, 67, 68]⟩ : ByteArray), .string (⟨#[67, 49]⟩ : ByteArray)]) (ok := fun _ => True) (okp := fun _ => True) ?hr ?hp (fun _ hk => hk) trivial (Below.refl _ _) (Nat.le_refl _) (by simp) ?_; (case hd => rfl); (case hg => rfl); (case hr => first | (go_simp; done) | (go_simp; rfl)); (case hp => exact (Reps.one (show Kd.M Kd.string _ _ _ (⟨#[65]⟩ : ByteArray) [.string (⟨#[65]⟩ : ByteArray)] from rfl) (Reps.one (show Kd.M Kd.string _ _ _ (⟨#[95, 83, 66]⟩ : ByteArray) [.string (⟨#[95, 83, 66]⟩ : ByteArray)] from rfl) (Reps.one (show Kd.M Kd.string _ _ _ (⟨#[66, 95]⟩ : ByteArray) [.string (⟨#[66, 95]⟩ : ByteArray)] from rfl) (Reps.one (show Kd.M Kd.string _ _ _ (⟨#[65, 66, 67, 68]⟩ : ByteArray) [.string (⟨#[65, 66, 67, 68]⟩ : ByteArray)] from rfl) (Reps.one (show Kd.M Kd.string _ _ _ (⟨#[67, 49]⟩ : ByteArray) [.string (⟨#[67, 49]⟩ : ByteArray)] from rfl) (Reps.none _ _)))))))
           intro v138 w30 ho31 hb hg_ hnew_
           clear hg_ hnew_
           (first | rw [← Ny137.out] at ho31 | (simp only [Int.reduceToNat] at ho31; rw [← Ny137.out] at ho31))
           have n0_ := Aside0.mk (Kd.R_elder' (by (with_reducible repeat (first | apply Kd.R_alloc | apply Kd.R_drewN | apply Kd.R_drew)); exact HO_137002.out) (Kd.R_base ho31) hb)
           have n1_ := Aside0.mk (Kd.R_lower (Kd.R_new' ho31 (Kd.R_lt (by (with_reducible repeat (first | apply Kd.R_alloc | apply Kd.R_drewN | apply Kd.R_drew)); exact HO_137002.out))) (below_size (by repeat (first | (with_reducible first | exact HB.out | apply bA_ | apply bN_ | apply bD_ | refine bS_ ?_ GE133.out | refine bS_ ?_ GE134.out | refine bS_ ?_ GE136.out) | exact HB.out))))
           have n2_ := Aside0.mk (blk_below (g := gb133) (o := .cells #[.bool a0_0, .int .i64 a0_1, .slice (some ad140) l0_2.length c0_2] 24 (0, 0)) (by (with_reducible repeat (first | refine kN_ ?_ _ | refine kD_ ?_ | refine kA_ ?_ _)); exact BK133.out) hb)
           have n3_ := Aside0.mk (blk_below (g := gb134) (o := .cells #[.bool false, .int .i64 0, .slice none 0 0] 24 (0, 0)) (by (with_reducible repeat (first | refine kN_ ?_ _ | refine kD_ ?_ | refine kA_ ?_ _)); exact BK134.out) hb)
           have n4_ := Aside0.mk (blk_below (g := gb136) (o := .cells #[.bool a0_0, .int .i64 x137001_2, u137002] 24 (0, 0)) (by (with_reducible repeat (first | refine kN_ ?_ _ | refine kD_ ?_ | refine kA_ ?_ _)); exact BK136.out) hb)
           have n5_ := Aside0.mk (below_step (by repeat (first | (with_reducible first | exact HB.out | apply bA_ | apply bN_ | apply bD_ | refine bS_ ?_ GE133.out | refine bS_ ?_ GE134.out | refine bS_ ?_ GE136.out) | exact HB.out)) hb)
           clear HO_137002
           clear BK133
           clear BK134
           clear BK136
           clear HB
           have HO_137002 := n0_
           have HO139 := n1_
           have BK133 := n2_
           have BK134 := n3_
           have BK136 := n4_
           have HB := n5_
           clear n0_ n1_ n2_ n3_ n4_ n5_
           clear hb ho31
           obtain ⟨Ao32, co32, eo32⟩ := Kd.R_slice HO139.out
           subst eo32
           obtain ⟨ado32, fo32, _⟩ := Kd.at_string (Kd.R_reads' HO139.out).2.2 0 (by decide) (by rw [Ny137.out]; simp)
           cases fo32
           refine hK.out _ _ ⟨(blk_cell BK136.out 0).trans rfl, (blk_cell BK136.out 1).trans rfl, (blk_cell BK136.out 2).trans rfl, (blk_cell BK133.out 0).trans rfl, (blk_cell BK133.out 1).trans rfl, (blk_cell BK133.out 2).trans rfl, ((HB.out.cell (World.block_lt_of_cell? w _ hw140_0)).trans hw140_0)⟩ (fun hHeld => ?_)
           clear hK K
           refine norm_ (a' := ?_) ?_ ?_
           rotate_left
           ·show Act.put _ (some 27) _ = _
            simp only [Act.put, sA_, sB_, sC_, i64_w, i32_w]
            rfl
           refine pure_ (i := 12) (N := some 37) (v := ?_) (a' := ?_) (tf 18 8191) rfl rfl (any_of HT_.out (by kernel_rfl)) (fun _ _ _ h => h) (Or.inl ⟨by rfl, ?_⟩) ?_ ?_
           rotate_left
           ·intro w'
            go_simp
            with_reducible rfl
           rotate_left
           ·simp only [Act.put, sA_, sB_, sC_, i64_w, i32_w]
            rfl
           refine one_ (i := 13) (N := some 38) (tf 18 16383) rfl rfl (one_of HT_.out (by kernel_rfl)) (by decide) (fun K hK => ?_)
           (have p141 : 0 ≤ ((ji22) : Int) := of_decide_eq_true (by first | (with_reducible assumption) | assumption); have q141 : (ji22) < (y137.length : Int) := of_decide_eq_true (by first | (with_reducible assumption) | assumption); obtain ⟨ad141, e141, hx141_0⟩ := Kd.at_string (Kd.R_reads' HO139.out).2.2 (ji22) p141 q141; obtain rfl : ado32 = ad141 := (by injection e141))
           refine value_ (w1 := ?_) (v := ?_) (by rfl) rfl ?_ ?_
           rotate_left 2
           ·go_simp
            constructor
            ·rfl
            ·rfl
           clear hx141_0
           refine hK.out _ _ ⟨(blk_cell BK136.out 0).trans rfl, (blk_cell BK136.out 1).trans rfl, (blk_cell BK136.out 2).trans rfl, (blk_cell BK133.out 0).trans rfl, (blk_cell BK133.out 1).trans rfl, (blk_cell BK133.out 2).trans rfl, ((HB.out.cell (World.block_lt_of_cell? w _ hw140_0)).trans hw140_0)⟩ (fun hHeld => ?_)
           clear hK K
           refine norm_ (a' := ?_) ?_ ?_
           rotate_left
           ·show Act.put _ (some 38) _ = _
            simp only [Act.put, sA_, sB_, sC_, i64_w, i32_w]
            rfl
           refine one_ (i := 14) (N := some 39) (tf 18 32767) rfl rfl (one_of HT_.out (by kernel_rfl)) (by decide) (fun K hK => ?_)
           refine value_ (w1 := ?_) (v := ?_) (by rfl) rfl ?_ ?_
           rotate_left 2
           ·go_simp
            constructor
            ·rfl
            ·rfl
           refine hK.out _ _ ⟨(blk_cell (kA_ BK136.out _) 0).trans rfl, (blk_cell (kA_ BK136.out _) 1).trans rfl, (blk_cell (kA_ BK136.out _) 2).trans rfl, (blk_cell (kA_ BK133.out _) 0).trans rfl, (blk_cell (kA_ BK133.out _) 1).trans rfl, (blk_cell (kA_ BK133.out _) 2).trans rfl, (World.cell?_alloc_lt _ _ _ (World.block_lt_of_cell? _ _ (((HB.out.cell (World.block_lt_of_cell? w _ hw140_0)).trans hw140_0)))).trans (((HB.out.cell (World.block_lt_of_cell? w _ hw140_0)).trans hw140_0))⟩ (fun hHeld => ?_)
           clear hK K
           refine norm_ (a' := ?_) ?_ ?_
           rotate_left
           ·show Act.put _ (some 39) _ = _
            simp only [Act.put, sA_, sB_, sC_, i64_w, i32_w]
            rfl
           refine one_ (i := 15) (N := some 40) (tf 18 65535) rfl rfl (one_of HT_.out (by kernel_rfl)) (by decide) (fun K hK => ?_)
           refine Kd.R_append_step Kd.string (w0 := w) w.heap.size (by rfl) (.tmp 26) (.tmp 39) 22 9 (.string ⟨#[]⟩) 16 rfl Try.underlying22 info9 rfl (by decide) (by omega) u137002 x137002_2 (rdOf ByteArray.empty y137 (ji22)) [.string (rdOf ByteArray.empty y137 (ji22))] (fun k_ => some k_ ≠ (.slice (some ado32) y137.length co32 : Value).ownBlock) (fun _ => False) rfl rfl ?aP (fun _ hk => hk.elim) ?aF ?aO ?aB ?aS ?aL ?_
           (case aP => exact rfl)
           (case aB => exact (by repeat (first | (with_reducible first | exact HB.out | apply bA_ | apply bN_ | apply bD_ | refine bS_ ?_ GE133.out | refine bS_ ?_ GE134.out | refine bS_ ?_ GE136.out) | exact HB.out)))
           (case aF => exact (fun k_ hk => Kd.fresh' (Kd.R_lt (by (with_reducible repeat (first | apply Kd.R_alloc | apply Kd.R_drewN | apply Kd.R_drew)); exact HO139.out)) k_ hk))
           (case aO => exact (by (with_reducible repeat (first | apply Kd.R_alloc | apply Kd.R_drewN | apply Kd.R_drew)); exact Kd.R_mono HO_137002.out (fun _ hk => hk.2)))
           (case aS => exact (below_size (by repeat (first | (with_reducible first | exact HB.out | apply bA_ | apply bN_ | apply bD_ | refine bS_ ?_ GE133.out | refine bS_ ?_ GE134.out | refine bS_ ?_ GE136.out) | exact HB.out))))
           (case aL => have := LMc25.out; omega)
           intro v143 w33 ho hb hg hat
           rw [← Ny142.out] at ho
           have n0_ := Aside0.mk (blk_grown (g := gb133) (o := .cells #[.bool a0_0, .int .i64 a0_1, .slice (some ad140) l0_2.length c0_2] 24 (0, 0)) (by (with_reducible repeat (first | refine kN_ ?_ _ | refine kD_ ?_ | refine kA_ ?_ _)); exact BK133.out) hg (Kd.R_ne HO_137002.out BK133.out (by decide)))
           have n1_ := Aside0.mk (blk_grown (g := gb134) (o := .cells #[.bool false, .int .i64 0, .slice none 0 0] 24 (0, 0)) (by (with_reducible repeat (first | refine kN_ ?_ _ | refine kD_ ?_ | refine kA_ ?_ _)); exact BK134.out) hg (Kd.R_ne HO_137002.out BK134.out (by decide)))
           have n2_ := Aside0.mk (blk_grown (g := gb136) (o := .cells #[.bool a0_0, .int .i64 x137001_2, u137002] 24 (0, 0)) (by (with_reducible repeat (first | refine kN_ ?_ _ | refine kD_ ?_ | refine kA_ ?_ _)); exact BK136.out) hg (Kd.R_ne HO_137002.out BK136.out (by decide)))
           have n3_ := Aside0.mk (Kd.R_after (ok := (fun _ => True)) (by (with_reducible repeat (first | apply Kd.R_alloc | apply Kd.R_drewN | apply Kd.R_drew)); exact HO139.out) hg hat)
           have n4_ := Aside0.mk (hb)
           have n5_ := Aside0.mk (ho)
           clear BK133
           clear BK134
           clear BK136
           clear HO139
           clear HB
           clear HO_137002
           have BK133 := n0_
           have BK134 := n1_
           have BK136 := n2_
           have HO139 := n3_
           have HB := n4_
           have HO144 := n5_
           clear n0_ n1_ n2_ n3_ n4_ n5_
           clear ho hb hg hat
           obtain ⟨Ao34, co34, eo34⟩ := Kd.R_slice HO144.out
           (first | subst eo34 | (injection eo34 with f1_ f2_ f3_; have f4_ := f1_.symm; have f5_ := f3_.symm; clear f1_ f2_ f3_; subst f4_; subst f5_))
           refine hK.out _ _ ⟨(blk_cell BK136.out 0).trans rfl, (blk_cell BK136.out 1).trans rfl, (blk_cell BK136.out 2).trans rfl, (blk_cell BK133.out 0).trans rfl, (blk_cell BK133.out 1).trans rfl, (blk_cell BK133.out 2).trans rfl, ((HB.out.cell (World.block_lt_of_cell? w _ hw140_0)).trans hw140_0)⟩ (fun hHeld => ?_)
           clear hK K
           refine norm_ (a' := ?_) ?_ ?_
           rotate_left
           ·show Act.put _ (some 40) _ = _
            simp only [Act.put, sA_, sB_, sC_, i64_w, i32_w]
            rfl
           refine pure_ (i := 16) (N := some 41) (v := ?_) (a' := ?_) (tf 18 131071) rfl rfl (any_of HT_.out (by kernel_rfl)) (fun _ _ _ h => h) (Or.inl ⟨by rfl, ?_⟩) ?_ ?_
           rotate_left
           ·intro w'
            go_simp
            with_reducible rfl
           rotate_left
           ·simp only [Act.put, sA_, sB_, sC_, i64_w, i32_w]
            rfl
           refine last_ (i := 17) (N := none) (tf 18 262143) rfl rfl (one_of HT_.out (by kernel_rfl)) (by decide) (fun K hK => ?_)
           have hs35 : w33.cell? ⟨gb136, 2, none⟩ = some (u137002) := (blk_cell BK136.out 2).trans rfl
           have hfs35 := blk_frozen BK136.out 2
           have hns35_0 := NB133_136.out
           have hns35_1 := NB134_136.out
           have hms35_0 := NB136_133.out
           have hms35_1 := NB136_134.out
           refine skip_ (w1 := ?_) (by rfl) rfl ?_ ?_
           rotate_left
           ·go_simp
            rfl
           refine hK.out _ _ ?_
           clear hK K
           refine done_ (done_of HT_.out (by kernel_rfl)) ?_
           try go_wp2
           go_roundg k2
           case measure => have := HJ2.out; have := HK2.out; omega
           case rel => exact ⟨(wrap64 (x4_2 + 1)), (y142), (.slice Ao34 y142.length co34), (by first | rfl | (simp; done) | (simp [*]; done)), H', ⟨by have := HJ2.out; have := HK2.out; omega⟩, ⟨by (with_reducible repeat (first | apply Kd.R_alloc | apply Kd.R_drewN | apply Kd.R_drew)); exact Kd.R_mono (Kd.R_far (p := ⟨gb136, 2, none⟩) (Kd.R_types HO144.out BK136.out (by decide)) (fun _ hk => hk.2) (.slice Ao34 y142.length co34)) (fun _ hk => trivial)⟩, ⟨by (with_reducible repeat (first | refine kN_ ?_ _ | refine kD_ ?_ | refine kA_ ?_ _)); refine blk_far ?_ NB133_136.out _; (with_reducible repeat (first | refine kN_ ?_ _ | refine kD_ ?_ | refine kA_ ?_ _)); exact BK133.out⟩, ⟨by (with_reducible repeat (first | refine kN_ ?_ _ | refine kD_ ?_ | refine kA_ ?_ _)); refine blk_far ?_ NB134_136.out _; (with_reducible repeat (first | refine kN_ ?_ _ | refine kD_ ?_ | refine kA_ ?_ _)); exact BK134.out⟩, ⟨by (with_reducible repeat (first | refine kN_ ?_ _ | refine kD_ ?_ | refine kA_ ?_ _)); refine blk_put (cs := #[.bool a0_0, .int .i64 x137001_2, u137002]) ?_ 2 _ rfl; (with_reducible repeat (first | refine kN_ ?_ _ | refine kD_ ?_ | refine kA_ ?_ _)); exact BK136.out⟩, ⟨by repeat (first | (with_reducible first | exact HB.out | apply bA_ | apply bN_ | apply bD_ | refine bS_ ?_ GE133.out | refine bS_ ?_ GE134.out | refine bS_ ?_ GE136.out) | exact HB.out)⟩⟩
          ·rw [if_neg c25] at H
           exact absurd H (by simp)
         ·rw [if_neg c24] at H
          exact absurd H (by simp)
        ·rw [if_neg c23] at H
         exact absurd H (by simp)
       ·rw [if_neg c21] at H
        exact absurd H (by simp)
      ·rw [if_neg c20] at H
       have c20b0 : decide (x4_2 < 30) = false := decide_eq_false c20
       clear c20
       simp only [Option.some.injEq, Prod.mk.injEq] at H
       obtain ⟨rfl, rfl, rfl⟩ := H
       have hnb36 := NB133_134.out
       have hnc36 := NB134_133.out
       have hnb37 := NB133_136.out
       have hnc37 := NB136_133.out
       obtain ⟨hcz38_0, hcz38_1, hcz38_2⟩ := cells3_ BK133.out
       obtain ⟨hfz38_0, hfz38_1, hfz38_2⟩ := froz3_ BK133.out
       have hnb39 := NB136_134.out
       have hnc39 := NB134_136.out
       obtain ⟨hcz40_0, hcz40_1, hcz40_2⟩ := cells3_ BK136.out
       obtain ⟨hfz40_0, hfz40_1, hfz40_2⟩ := froz3_ BK136.out
       obtain ⟨hcz41_0, hcz41_1, hcz41_2⟩ := cells3_ BK134.out
       obtain ⟨hfz41_0, hfz41_1, hfz41_2⟩ := froz3_ BK134.out
       obtain ⟨Ao42, co42, eo42⟩ := Kd.R_slice HO_137002.out
       subst eo42
       go_wp2
       refine bodyPost_ret (results_cell_row rfl _ _ gb134 24 #[.bool a0_0, .int .i64 x137001_2, .slice Ao42 x137002_2.length co42] (0, 0) _ rfl (by (with_reducible repeat (first | refine kN_ ?_ _ | refine kD_ ?_ | refine kA_ ?_ _)); refine blk_put (cs := #[.bool a0_0, .int .i64 x137001_2, .slice none 0 0]) ?_ 2 _ rfl; (with_reducible repeat (first | refine kN_ ?_ _ | refine kD_ ?_ | refine kA_ ?_ _)); refine blk_put (cs := #[.bool a0_0, .int .i64 0, .slice none 0 0]) ?_ 1 _ rfl; (with_reducible repeat (first | refine kN_ ?_ _ | refine kD_ ?_ | refine kA_ ?_ _)); refine blk_put (cs := #[.bool false, .int .i64 0, .slice none 0 0]) ?_ 0 _ rfl; (with_reducible repeat (first | refine kN_ ?_ _ | refine kD_ ?_ | refine kA_ ?_ _)); exact BK134.out) Try.underlying24 rfl (by kernel_rfl)) rfl ?_
       exact ⟨_, by first | rfl | (simp [errW_none, errW_some] <;> rfl) | (simp [*, errW_none, errW_some] <;> rfl), by (with_reducible repeat (first | apply Kd.R_alloc | apply Kd.R_drewN | apply Kd.R_drew)); exact Kd.R_mono (Kd.R_far (p := ⟨gb134, 2, none⟩) (Kd.R_far (p := ⟨gb134, 1, none⟩) (Kd.R_far (p := ⟨gb134, 0, none⟩) (Kd.R_types HO_137002.out BK134.out (by decide)) (fun _ hk => hk.2) (.bool a0_0)) (fun _ hk => hk.2) (.int .i64 x137001_2)) (fun _ hk => hk.2) (.slice Ao42 x137002_2.length co42)) (fun _ hk => trivial), by repeat (first | (with_reducible first | exact HB.out | apply bA_ | apply bN_ | apply bD_ | refine bS_ ?_ GE133.out | refine bS_ ?_ GE134.out | refine bS_ ?_ GE136.out) | exact HB.out)⟩
     ·rw [if_neg c19] at H
      have c19b0 : decide (x4_2 < (l0_2.length : Int)) = false := decide_eq_false c19
      clear c19
      simp only [Option.some.injEq, Prod.mk.injEq] at H
      obtain ⟨rfl, rfl, rfl⟩ := H
      have hnb43 := NB133_134.out
      have hnc43 := NB134_133.out
      have hnb44 := NB133_136.out
      have hnc44 := NB136_133.out
      obtain ⟨hcz45_0, hcz45_1, hcz45_2⟩ := cells3_ BK133.out
      obtain ⟨hfz45_0, hfz45_1, hfz45_2⟩ := froz3_ BK133.out
      have hnb46 := NB136_134.out
      have hnc46 := NB134_136.out
      obtain ⟨hcz47_0, hcz47_1, hcz47_2⟩ := cells3_ BK136.out
      obtain ⟨hfz47_0, hfz47_1, hfz47_2⟩ := froz3_ BK136.out
      obtain ⟨hcz48_0, hcz48_1, hcz48_2⟩ := cells3_ BK134.out
      obtain ⟨hfz48_0, hfz48_1, hfz48_2⟩ := froz3_ BK134.out
      obtain ⟨Ao49, co49, eo49⟩ := Kd.R_slice HO_137002.out
      subst eo49
      go_wp2
      refine bodyPost_ret (results_cell_row rfl _ _ gb134 24 #[.bool a0_0, .int .i64 x137001_2, .slice Ao49 x137002_2.length co49] (0, 0) _ rfl (by (with_reducible repeat (first | refine kN_ ?_ _ | refine kD_ ?_ | refine kA_ ?_ _)); refine blk_put (cs := #[.bool a0_0, .int .i64 x137001_2, .slice none 0 0]) ?_ 2 _ rfl; (with_reducible repeat (first | refine kN_ ?_ _ | refine kD_ ?_ | refine kA_ ?_ _)); refine blk_put (cs := #[.bool a0_0, .int .i64 0, .slice none 0 0]) ?_ 1 _ rfl; (with_reducible repeat (first | refine kN_ ?_ _ | refine kD_ ?_ | refine kA_ ?_ _)); refine blk_put (cs := #[.bool false, .int .i64 0, .slice none 0 0]) ?_ 0 _ rfl; (with_reducible repeat (first | refine kN_ ?_ _ | refine kD_ ?_ | refine kA_ ?_ _)); exact BK134.out) Try.underlying24 rfl (by kernel_rfl)) rfl ?_
      exact ⟨_, by first | rfl | (simp [errW_none, errW_some] <;> rfl) | (simp [*, errW_none, errW_some] <;> rfl), by (with_reducible repeat (first | apply Kd.R_alloc | apply Kd.R_drewN | apply Kd.R_drew)); exact Kd.R_mono (Kd.R_far (p := ⟨gb134, 2, none⟩) (Kd.R_far (p := ⟨gb134, 1, none⟩) (Kd.R_far (p := ⟨gb134, 0, none⟩) (Kd.R_types HO_137002.out BK134.out (by decide)) (fun _ hk => hk.2) (.bool a0_0)) (fun _ hk => hk.2) (.int .i64 x137001_2)) (fun _ hk => hk.2) (.slice Ao49 x137002_2.length co49)) (fun _ hk => trivial), by repeat (first | (with_reducible first | exact HB.out | apply bA_ | apply bN_ | apply bD_ | refine bS_ ?_ GE133.out | refine bS_ ?_ GE134.out | refine bS_ ?_ GE136.out) | exact HB.out)⟩

end Go.Proofs.Ytmnmidclaaiffab.PBytecodePaths
