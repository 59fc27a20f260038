-- Written by a program of this session's (wip/print_patch.py over the kit's print) out of the translation; Lean checks it.
import Derived.Test.YtpjajjmipbjliaaDoorPNspathRoundTripx0
import Derived.Test.YtpjajjmipbjliaaDoorPNspathRoundTripx3
import Derived.Test.YtpjajjmipbjliaaDoorExtP
namespace Go.Proofs.YtpjajjmipbjliaaDoor.PNspathRoundTrip
open Go.RowKit Go.Proofs.YtpjajjmipbjliaaDoor.Ext Go.Proofs.YtpjajjmipbjliaaDoorW.PrintWords Go.Proofs.YtpjajjmipbjliaaDoorW.PrintLast Go.Proofs.YtpjajjmipbjliaaDoorW.PrintMore
attribute [local go_sem] max2_int min2_int max_two min_two max_three min_three max_four min_four   -- for this text's walks alone
set_option linter.unusedVariables false
set_option linter.unusedSimpArgs false

/-! ### platformfwlaw02_path: function 13 -/
mutual
def platformfwlaw02_path.j0 : Nat → Bool → Bool → Int → List ByteArray → Bool → Int → Option (Bool × Int × List ByteArray)
 | 0, _, _, _, _, _, _ => none
 | k + 1, x18, x230000, x230001, x230002, x233000, x233001 => if x18 = true then (platformfwlaw02_path.j1 k x230000 x230001 x230002 x233000 0) else (platformfwlaw02_path.j1 k x230000 x230001 x230002 x233000 x233001)
def platformfwlaw02_path.j1 : Nat → Bool → Int → List ByteArray → Bool → Int → Option (Bool × Int × List ByteArray)
 | 0, _, _, _, _, _ => none
 | k + 1, x230000, x230001, x230002, x233000, x233001 => platformfwlaw02_path.l0 k 0 x230000 x230001 x230002 x233000 x233001 ([] : List ByteArray)
def platformfwlaw02_path.l0 : Nat → Int → Bool → Int → List ByteArray → Bool → Int → List ByteArray → Option (Bool × Int × List ByteArray)
 | 0, _, _, _, _, _, _, _ => none
 | k + 1, x4, x230000, x230001, x230002, x233000, x233001, x233002 => if x4 < (x230002.length : Int) then (platformfwlaw02_path.j3 k x4 (decide (x4 < 34)) x230000 x230001 x230002 x233000 x233001 x233002) else (platformfwlaw02_path.j3 k x4 false x230000 x230001 x230002 x233000 x233001 x233002)
def platformfwlaw02_path.j3 : Nat → Int → Bool → Bool → Int → List ByteArray → Bool → Int → List ByteArray → Option (Bool × Int × List ByteArray)
 | 0, _, _, _, _, _, _, _, _ => none
 | k + 1, x4, x28, x230000, x230001, x230002, x233000, x233001, x233002 => if x28 = true then (if 0 ≤ x4 then (if x4 < (x230002.length : Int) then ((platformfwlaw02_seg.f (rdOf ByteArray.empty x230002 x4)).bind fun t234 => ((platformfwref01_Segment.f k t234).bind fun t235 => (if t235 = true then (if x233002.length < 8796093022208 then (platformfwlaw02_path.l0 k (wrap64 (x4 + 1)) x230000 x230001 x230002 x233000 x233001 (x233002 ++ [t234])) else (none)) else (if (Int.tmod x4 3) > 0 then (if x233002.length < 8796093022208 then (platformfwlaw02_path.l0 k (wrap64 (x4 + 1)) x230000 x230001 x230002 x233000 x233001 (x233002 ++ [(⟨#[90]⟩ : ByteArray)])) else (none)) else (if x233002.length < 8796093022208 then (platformfwlaw02_path.l0 k (wrap64 (x4 + 1)) x230000 x230001 x230002 x233000 x233001 (x233002 ++ [t234])) else (none)))))) else (none)) else (none)) else (some (x233000, x233001, x233002))
end
def platformfwlaw02_path.f (k : Nat) (a0_0 : Bool) (a0_1 : Int) (l0_2 : List ByteArray) : Option (Bool × Int × List ByteArray) := (platformfwhelp_Mod.f a0_1 7).bind fun t231 => (if a0_0 = true then (platformfwlaw02_path.j0 k true a0_0 a0_1 l0_2 a0_0 t231) else (platformfwlaw02_path.j0 k (decide (t231 > 3)) a0_0 a0_1 l0_2 a0_0 t231))
theorem platformfwlaw02_path.mono_l : ∀ k, (∀ y0 y1 y2 y3 y4 y5, LeO (platformfwlaw02_path.j0 k y0 y1 y2 y3 y4 y5) (platformfwlaw02_path.j0 (k + 1) y0 y1 y2 y3 y4 y5)) ∧ (∀ y0 y1 y2 y3 y4, LeO (platformfwlaw02_path.j1 k y0 y1 y2 y3 y4) (platformfwlaw02_path.j1 (k + 1) y0 y1 y2 y3 y4)) ∧ (∀ y0 y1 y2 y3 y4 y5 y6, LeO (platformfwlaw02_path.l0 k y0 y1 y2 y3 y4 y5 y6) (platformfwlaw02_path.l0 (k + 1) y0 y1 y2 y3 y4 y5 y6)) ∧ (∀ y0 y1 y2 y3 y4 y5 y6 y7, LeO (platformfwlaw02_path.j3 k y0 y1 y2 y3 y4 y5 y6 y7) (platformfwlaw02_path.j3 (k + 1) y0 y1 y2 y3 y4 y5 y6 y7))
 | 0 => ⟨fun _ _ _ _ _ _ r h => by simp [platformfwlaw02_path.j0] at h, fun _ _ _ _ _ r h => by simp [platformfwlaw02_path.j1] at h, fun _ _ _ _ _ _ _ r h => by simp [platformfwlaw02_path.l0] at h, fun _ _ _ _ _ _ _ _ r h => by simp [platformfwlaw02_path.j3] at h⟩
 | k + 1 => by
  obtain ⟨ih0, ih1, ih2, ih3⟩ := platformfwlaw02_path.mono_l k
  refine ⟨?_, ?_, ?_, ?_⟩
  ·intro y0 y1 y2 y3 y4 y5
   unfold platformfwlaw02_path.j0
   repeat' first
   | (with_reducible exact ih0 _ _ _ _ _ _)
   | (with_reducible exact ih1 _ _ _ _ _)
   | (with_reducible exact ih2 _ _ _ _ _ _ _)
   | (with_reducible exact ih3 _ _ _ _ _ _ _ _)
   | (with_reducible exact platformfwref01_Segment.mono _ _)
   | (with_reducible exact LeO.refl _)
   | (with_reducible exact LeO.none _)
   | (with_reducible refine LeO.ite ?_ ?_)
   | (with_reducible refine LeO.bind ?_ (fun _ => ?_))
   | exact ih0 _ _ _ _ _ _
   | exact ih1 _ _ _ _ _
   | exact ih2 _ _ _ _ _ _ _
   | exact ih3 _ _ _ _ _ _ _ _
   | exact platformfwref01_Segment.mono _ _
   | exact LeO.none _
   | refine LeO.ite ?_ ?_
   | refine LeO.bind ?_ (fun _ => ?_)
  ·intro y0 y1 y2 y3 y4
   unfold platformfwlaw02_path.j1
   repeat' first
   | (with_reducible exact ih0 _ _ _ _ _ _)
   | (with_reducible exact ih1 _ _ _ _ _)
   | (with_reducible exact ih2 _ _ _ _ _ _ _)
   | (with_reducible exact ih3 _ _ _ _ _ _ _ _)
   | (with_reducible exact platformfwref01_Segment.mono _ _)
   | (with_reducible exact LeO.refl _)
   | (with_reducible exact LeO.none _)
   | (with_reducible refine LeO.ite ?_ ?_)
   | (with_reducible refine LeO.bind ?_ (fun _ => ?_))
   | exact ih0 _ _ _ _ _ _
   | exact ih1 _ _ _ _ _
   | exact ih2 _ _ _ _ _ _ _
   | exact ih3 _ _ _ _ _ _ _ _
   | exact platformfwref01_Segment.mono _ _
   | exact LeO.none _
   | refine LeO.ite ?_ ?_
   | refine LeO.bind ?_ (fun _ => ?_)
  ·intro y0 y1 y2 y3 y4 y5 y6
   unfold platformfwlaw02_path.l0
   repeat' first
   | (with_reducible exact ih0 _ _ _ _ _ _)
   | (with_reducible exact ih1 _ _ _ _ _)
   | (with_reducible exact ih2 _ _ _ _ _ _ _)
   | (with_reducible exact ih3 _ _ _ _ _ _ _ _)
   | (with_reducible exact platformfwref01_Segment.mono _ _)
   | (with_reducible exact LeO.refl _)
   | (with_reducible exact LeO.none _)
   | (with_reducible refine LeO.ite ?_ ?_)
   | (with_reducible refine LeO.bind ?_ (fun _ => ?_))
   | exact ih0 _ _ _ _ _ _
   | exact ih1 _ _ _ _ _
   | exact ih2 _ _ _ _ _ _ _
   | exact ih3 _ _ _ _ _ _ _ _
   | exact platformfwref01_Segment.mono _ _
   | exact LeO.none _
   | refine LeO.ite ?_ ?_
   | refine LeO.bind ?_ (fun _ => ?_)
  ·intro y0 y1 y2 y3 y4 y5 y6 y7
   unfold platformfwlaw02_path.j3
   repeat' first
   | (with_reducible exact ih0 _ _ _ _ _ _)
   | (with_reducible exact ih1 _ _ _ _ _)
   | (with_reducible exact ih2 _ _ _ _ _ _ _)
   | (with_reducible exact ih3 _ _ _ _ _ _ _ _)
   | (with_reducible exact platformfwref01_Segment.mono _ _)
   | (with_reducible exact LeO.refl _)
   | (with_reducible exact LeO.none _)
   | (with_reducible refine LeO.ite ?_ ?_)
   | (with_reducible refine LeO.bind ?_ (fun _ => ?_))
   | exact ih0 _ _ _ _ _ _
   | exact ih1 _ _ _ _ _
   | exact ih2 _ _ _ _ _ _ _
   | exact ih3 _ _ _ _ _ _ _ _
   | exact platformfwref01_Segment.mono _ _
   | exact LeO.none _
   | refine LeO.ite ?_ ?_
   | refine LeO.bind ?_ (fun _ => ?_)
theorem platformfwlaw02_path.mono : ∀ a0 a1 a2 k, LeO (platformfwlaw02_path.f k a0 a1 a2) (platformfwlaw02_path.f (k + 1) a0 a1 a2) := by
 intro a0 a1 a2 k
 obtain ⟨ih0, ih1, ih2, ih3⟩ := platformfwlaw02_path.mono_l k
 unfold platformfwlaw02_path.f
 repeat' first
   | (with_reducible exact ih0 _ _ _ _ _ _)
   | (with_reducible exact ih1 _ _ _ _ _)
   | (with_reducible exact ih2 _ _ _ _ _ _ _)
   | (with_reducible exact ih3 _ _ _ _ _ _ _ _)
   | (with_reducible exact platformfwref01_Segment.mono _ _)
   | (with_reducible exact LeO.refl _)
   | (with_reducible exact LeO.none _)
   | (with_reducible refine LeO.ite ?_ ?_)
   | (with_reducible refine LeO.bind ?_ (fun _ => ?_))
   | exact ih0 _ _ _ _ _ _
   | exact ih1 _ _ _ _ _
   | exact ih2 _ _ _ _ _ _ _
   | exact ih3 _ _ _ _ _ _ _ _
   | exact platformfwref01_Segment.mono _ _
   | exact LeO.none _
   | refine LeO.ite ?_ ?_
   | refine LeO.bind ?_ (fun _ => ?_)
def platformfwlaw02_path.T1 : Bool × List (List Nat × List Nat) := (true, [([], []), ([0], [0]), ([], []), ([2], [2]), ([3], [3]), ([1, 4], [1, 4]), ([], []), ([6, 5, 4, 0, 1, 2, 3, 4, 5, 6], [5, 6])])
def platformfwlaw02_path.B1 : List Nat := [0, 1, 0, 4, 12, 31, 0, 127]
theorem platformfwlaw02_path.tab1 : rtab .any (opsOf Tryd.f13 1) = platformfwlaw02_path.T1 := by kernel_rfl
theorem platformfwlaw02_path.bits1 : waitsOk platformfwlaw02_path.T1.2 platformfwlaw02_path.B1 = true := by kernel_rfl
set_option maxHeartbeats 8000000 in
set_option maxRecDepth 100000 in
theorem platformfwlaw02_path.calls (k : Nat) (a0_0 : Bool) (a0_1 : Int) (A0_2 : Option Addr) (c0_2 : Nat) (l0_2 : List ByteArray) (r1 : Bool) (r2 : Int) (r3 : List ByteArray) (w : World) (hr0_2 : Kd.C Kd.string w A0_2 l0_2.length l0_2) (hc0_2 : l0_2.length ≤ c0_2) (h : platformfwlaw02_path.f k a0_0 a0_1 l0_2 = some (r1, r2, r3)) :
  Calls Tryd.prog 13 #[.agg #[.bool a0_0, .int .i64 a0_1, .slice A0_2 l0_2.length c0_2]] w fun e w' => ∃ v2_ : Value, e = .returned (.agg #[.bool r1, .int .i64 r2, v2_]) ∧ Kd.R Kd.string 9 w' w.heap.size (fun _ => True) v2_ r3 ∧ Below w.heap.size w w' := by
 have hu24 := Tryd.underlying24
 have HR0_2 := Aside0.mk hr0_2
 have HC0_2 := Aside0.mk hc0_2
 clear hr0_2 hc0_2
 have HB := Aside0.mk (Below.refl w.heap.size w)
 have H : ((platformfwhelp_Mod.f a0_1 7).bind fun t231 => (if a0_0 = true then (platformfwlaw02_path.j0 k true a0_0 a0_1 l0_2 a0_0 t231) else (platformfwlaw02_path.j0 k (decide (t231 > 3)) a0_0 a0_1 l0_2 a0_0 t231))) = some (r1, r2, r3) := h
 clear h
 replace H := Option.bind_eq_some_iff.mp H
 obtain ⟨t231, A20, H⟩ := H
 replace H : (if a0_0 = true then (platformfwlaw02_path.j0 k true a0_0 a0_1 l0_2 a0_0 t231) else (platformfwlaw02_path.j0 k (decide (t231 > 3)) a0_0 a0_1 l0_2 a0_0 t231)) = some (r1, r2, r3) := H
 have A2 := Aside0.mk A20
 clear A20
 have HC3 := Aside0.mk H
 clear H
 go_enter Tryd.func13, Tryd.ntmps13
 try go_wp2_with (first | ((with_reducible refine gate_dst (N := 1) rfl ?_); refine box_event ?hg (N := 1) ?hd (cs := #[.bool a0_0, .int .i64 a0_1, .slice A0_2 l0_2.length c0_2]) (t := 24) ?hr ?_; (case hd => rfl); (case hg => rfl); (case hr => first | (go_simp; done) | (go_simp; rfl)); intro gb229 hg w4 hbox hb; have n0_ := Aside0.mk (below_step (by repeat (first | (with_reducible first | exact HB.out | apply bA_ | apply bN_ | apply bD_) | exact HB.out)) hb); have n1_ := Aside0.mk (hbox); have n2_ := Aside0.mk ((by rw [hg]; exact (below_size (by repeat (first | (with_reducible first | exact HB.out | apply bA_ | apply bN_ | apply bD_) | exact HB.out))) : w.heap.size ≤ gb229)); have n3_ := Aside0.mk ((by rw [hg]; exact (below_size (by repeat (first | (with_reducible first | exact HB.out | apply bA_ | apply bN_ | apply bD_) | exact HB.out))) : w.heap.size ≤ gb229)); clear HB; have HB := n0_; have BK229 := n1_; have GW229 := n2_; have GE229 := n3_; clear n0_ n1_ n2_ n3_; clear hb hbox hg) | ((with_reducible refine gate_dst (N := 2) rfl ?_); refine box_event ?hg (N := 2) ?hd (cs := #[.bool false, .int .i64 0, .slice none 0 0]) (t := 24) ?hr ?_; (case hd => rfl); (case hg => rfl); (case hr => first | (go_simp; done) | (go_simp; rfl)); intro gb230 hg w5 hbox hb; have n0_ := Aside0.mk (blk_below (g := gb229) (o := .cells #[.bool a0_0, .int .i64 a0_1, .slice A0_2 l0_2.length c0_2] 24 (0, 0)) (by (with_reducible repeat (first | refine kN_ ?_ _ | refine kD_ ?_ | refine kA_ ?_ _)); exact BK229.out) hb); have n1_ := Aside0.mk (below_step (by repeat (first | (with_reducible first | exact HB.out | apply bA_ | apply bN_ | apply bD_ | refine bS_ ?_ GE229.out) | exact HB.out)) hb); have n2_ := Aside0.mk (hbox); have n3_ := Aside0.mk ((by rw [hg]; exact (below_size (by repeat (first | (with_reducible first | exact HB.out | apply bA_ | apply bN_ | apply bD_ | refine bS_ ?_ GE229.out) | exact HB.out))) : w.heap.size ≤ gb230)); have n4_ := Aside0.mk ((by rw [hg]; exact (below_size (by repeat (first | (with_reducible first | exact HB.out | apply bA_ | apply bN_ | apply bD_ | refine bS_ ?_ GE229.out) | exact HB.out))) : w.heap.size ≤ gb230)); have n5_ := Aside0.mk ((by rw [hg]; exact Nat.ne_of_lt (blk_lt (g := gb229) (o := .cells #[.bool a0_0, .int .i64 a0_1, .slice A0_2 l0_2.length c0_2] 24 (0, 0)) (by (with_reducible repeat (first | refine kN_ ?_ _ | refine kD_ ?_ | refine kA_ ?_ _)); exact BK229.out)) : gb229 ≠ gb230)); have n6_ := Aside0.mk ((by rw [hg]; exact Nat.ne_of_gt (blk_lt (g := gb229) (o := .cells #[.bool a0_0, .int .i64 a0_1, .slice A0_2 l0_2.length c0_2] 24 (0, 0)) (by (with_reducible repeat (first | refine kN_ ?_ _ | refine kD_ ?_ | refine kA_ ?_ _)); exact BK229.out)) : gb230 ≠ gb229)); clear BK229; clear HB; have BK229 := n0_; have HB := n1_; have BK230 := n2_; have GW230 := n3_; have GE230 := n4_; have NB229_230 := n5_; have NB230_229 := n6_; clear n0_ n1_ n2_ n3_ n4_ n5_ n6_; clear hb hbox hg))
 have n0_ := Aside0.mk (kD_ BK229.out)
 have n1_ := Aside0.mk (kD_ BK230.out)
 have n2_ := Aside0.mk (bD_ HB.out)
 clear BK229
 clear BK230
 clear HB
 have BK229 := n0_
 have BK230 := n1_
 have HB := n2_
 clear n0_ n1_ n2_
 refine start_ (n := 8) (S := fun w' => w'.cell? ⟨gb229, 0, none⟩ = some (.bool a0_0) ∧ w'.cell? ⟨gb229, 1, none⟩ = some (.int .i64 a0_1) ∧ w'.cell? ⟨gb229, 2, none⟩ = some (.slice A0_2 l0_2.length c0_2)) (ds := []) #[false, false, false, false, false, false, false, false] (by kernel_rfl) rfl rfl (cells3_ BK229.out) (fun hHeld => ?_); refine with_tabW platformfwlaw02_path.tab1 platformfwlaw02_path.bits1 (fun HT_ HW_ => ?_)
 generalize w5.drew = w6 at BK229 BK230 HB hHeld ⊢
 refine pure_ (i := 0) (N := some 6) (v := ?_) (a' := ?_) (tf 8 1) rfl rfl (any_of HT_.out (by kernel_rfl)) (fun _ _ _ h => h) (Or.inl ⟨by rfl, ?_⟩) ?_ ?_
 rotate_left
 ·intro w'
  go_simp
  with_reducible rfl
 rotate_left
 ·simp only [Act.put, sA_, sB_, sC_, i64_w, i32_w]
  rfl
 refine pure_ (i := 2) (N := some 8) (v := ?_) (a' := ?_) (tf 8 5) rfl rfl (any_of HT_.out (by kernel_rfl)) (fun _ _ _ h => h) (Or.inl ⟨by rfl, ?_⟩) ?_ ?_
 rotate_left
 ·intro w'
  go_simp
  with_reducible rfl
 rotate_left
 ·simp only [Act.put, sA_, sB_, sC_, i64_w, i32_w]
  rfl
 refine take_ (i := 1) (N := some 7) (v := ?_) (a' := ?_) (tf 8 7) rfl rfl (take_ofW HT_.out HW_.out (by kernel_rfl)) (fun _ _ _ h => h) (Or.inl ⟨by rfl, ?_⟩) hHeld ?_ ?_
 rotate_left
 ·rintro w' ⟨s0, s1, s2⟩
  go_simp
  with_reducible rfl
 rotate_left
 ·simp only [Act.put, sA_, sB_, sC_, i64_w, i32_w]
  rfl
 refine take_ (i := 3) (N := some 9) (v := ?_) (a' := ?_) (tf 8 15) rfl rfl (take_ofW HT_.out HW_.out (by kernel_rfl)) (fun _ _ _ h => h) (Or.inl ⟨by rfl, ?_⟩) hHeld ?_ ?_
 rotate_left
 ·rintro w' ⟨s0, s1, s2⟩
  go_simp
  with_reducible rfl
 rotate_left
 ·simp only [Act.put, sA_, sB_, sC_, i64_w, i32_w]
  rfl
 refine join_ (σ := Nat) 1 #[true, true, true, true, true, true, true, false] (fun s_ => [(10, .int .i64 t231), (3, .pointer (some ⟨s_, 0, none⟩)), (11, .agg #[.bool a0_0, .int .i64 t231, .slice none 0 0])]) (fun s_ w' => (w'.cell? ⟨gb229, 0, none⟩ = some (.bool a0_0) ∧ w'.cell? ⟨gb229, 1, none⟩ = some (.int .i64 a0_1) ∧ w'.cell? ⟨gb229, 2, none⟩ = some (.slice A0_2 l0_2.length c0_2)) ∧ (w'.heap[gb229]? = some (.cells #[.bool a0_0, .int .i64 a0_1, .slice A0_2 l0_2.length c0_2] 24 (0, 0))) ∧ (w'.heap[gb230]? = some (.cells #[.bool false, .int .i64 0, .slice none 0 0] 24 (0, 0))) ∧ (w'.heap[s_]? = some (.cells #[.bool false, .int .i64 0, .slice none 0 0] 24 (0, 0))) ∧ (w.heap.size ≤ s_) ∧ (w.heap.size ≤ s_) ∧ (gb229 ≠ s_) ∧ (s_ ≠ gb229) ∧ (gb230 ≠ s_) ∧ (s_ ≠ gb230) ∧ (Below w.heap.size w w')) ?_ ?_
 rotate_left
 ·intro hCont
  refine two_ (i := 4) (j := 6) (Ni := some 10) (Nj := some 3) #[true, true, true, true, true, false, false, false] #[true, true, true, true, false, false, true, false] rfl rfl rfl rfl (two_of HT_.out (by kernel_rfl)) (by decide) (by decide) (fun K hK => ?_) (fun K hK => ?_)
  ·skip
   refine goes_ Tryd.func36 (by kernel_rfl) rfl #[.int .i64 a0_1, .int .i64 7] (by rfl) rfl rfl (by (try simp only [List.map_toArray, List.map_cons, List.map_nil]); first | done | rfl | (simp only [List.length_drop, List.length_take]; rfl)) ?_
   with_reducible refine (platformfwhelp_Mod.calls a0_1 7 t231 _ A2.out).mono ?_
   rintro e w' ⟨rfl, ⟨nd, rfl⟩⟩
   refine ⟨_, rfl, ?_⟩
   refine hK.out _ _ (cells3_ BK229.out) (fun hHeld => ?_)
   clear hK K
   refine norm_ (a' := ?_) ?_ ?_
   rotate_left
   ·show Act.put _ (some 10) _ = _
    simp only [Act.put, sA_, sB_, sC_, i64_w, i32_w]
    rfl
   refine pure_ (i := 5) (N := some 11) (v := ?_) (a' := ?_) (tf 8 63) rfl rfl (any_of HT_.out (by kernel_rfl)) (fun _ _ _ h => h) (Or.inl ⟨by rfl, ?_⟩) ?_ ?_
   rotate_left
   ·intro w'
    go_simp
    with_reducible rfl
   rotate_left
   ·simp only [Act.put, sA_, sB_, sC_, i64_w, i32_w]
    rfl
   refine one_ (i := 6) (N := some 3) (tf 8 127) rfl rfl (one_of HT_.out (by kernel_rfl)) (by decide) (fun K hK => ?_)
   refine box_step ?hg (N := 3) ?hd (cs := #[.bool false, .int .i64 0, .slice none 0 0]) (t := 24) ?hr ?_; (case hd => rfl); (case hg => rfl); (case hr => first | (go_simp; done) | (go_simp; rfl))
   intro gb232 hg w7 hbox hb
   have n0_ := Aside0.mk (blk_below (g := gb229) (o := .cells #[.bool a0_0, .int .i64 a0_1, .slice A0_2 l0_2.length c0_2] 24 (0, 0)) (by (with_reducible repeat (first | refine kN_ ?_ _ | refine kD_ ?_ | refine kA_ ?_ _)); exact BK229.out) hb)
   have n1_ := Aside0.mk (blk_below (g := gb230) (o := .cells #[.bool false, .int .i64 0, .slice none 0 0] 24 (0, 0)) (by (with_reducible repeat (first | refine kN_ ?_ _ | refine kD_ ?_ | refine kA_ ?_ _)); exact BK230.out) hb)
   have n2_ := Aside0.mk (below_step (by repeat (first | (with_reducible first | exact HB.out | apply bA_ | apply bN_ | apply bD_ | refine bS_ ?_ GE229.out | refine bS_ ?_ GE230.out) | exact HB.out)) hb)
   have n3_ := Aside0.mk (hbox)
   have n4_ := Aside0.mk ((by rw [hg]; exact (below_size (by repeat (first | (with_reducible first | exact HB.out | apply bA_ | apply bN_ | apply bD_ | refine bS_ ?_ GE229.out | refine bS_ ?_ GE230.out) | exact HB.out))) : w.heap.size ≤ gb232))
   have n5_ := Aside0.mk ((by rw [hg]; exact (below_size (by repeat (first | (with_reducible first | exact HB.out | apply bA_ | apply bN_ | apply bD_ | refine bS_ ?_ GE229.out | refine bS_ ?_ GE230.out) | exact HB.out))) : w.heap.size ≤ gb232))
   have n6_ := Aside0.mk ((by rw [hg]; exact Nat.ne_of_lt (blk_lt (g := gb229) (o := .cells #[.bool a0_0, .int .i64 a0_1, .slice A0_2 l0_2.length c0_2] 24 (0, 0)) (by (with_reducible repeat (first | refine kN_ ?_ _ | refine kD_ ?_ | refine kA_ ?_ _)); exact BK229.out)) : gb229 ≠ gb232))
   have n7_ := Aside0.mk ((by rw [hg]; exact Nat.ne_of_gt (blk_lt (g := gb229) (o := .cells #[.bool a0_0, .int .i64 a0_1, .slice A0_2 l0_2.length c0_2] 24 (0, 0)) (by (with_reducible repeat (first | refine kN_ ?_ _ | refine kD_ ?_ | refine kA_ ?_ _)); exact BK229.out)) : gb232 ≠ gb229))
   have n8_ := Aside0.mk ((by rw [hg]; exact Nat.ne_of_lt (blk_lt (g := gb230) (o := .cells #[.bool false, .int .i64 0, .slice none 0 0] 24 (0, 0)) (by (with_reducible repeat (first | refine kN_ ?_ _ | refine kD_ ?_ | refine kA_ ?_ _)); exact BK230.out)) : gb230 ≠ gb232))
   have n9_ := Aside0.mk ((by rw [hg]; exact Nat.ne_of_gt (blk_lt (g := gb230) (o := .cells #[.bool false, .int .i64 0, .slice none 0 0] 24 (0, 0)) (by (with_reducible repeat (first | refine kN_ ?_ _ | refine kD_ ?_ | refine kA_ ?_ _)); exact BK230.out)) : gb232 ≠ gb230))
   clear BK229
   clear BK230
   clear HB
   have BK229 := n0_
   have BK230 := n1_
   have HB := n2_
   have BK232 := n3_
   have GW232 := n4_
   have GE232 := n5_
   have NB229_232 := n6_
   have NB232_229 := n7_
   have NB230_232 := n8_
   have NB232_230 := n9_
   clear n0_ n1_ n2_ n3_ n4_ n5_ n6_ n7_ n8_ n9_
   clear hb hbox hg
   refine hK.out _ _ (cells3_ BK229.out) (fun hHeld => ?_)
   clear hK K
   refine norm_ (a' := ?_) ?_ ?_
   rotate_left
   ·show Act.put _ (some 3) _ = _
    simp only [Act.put, sA_, sB_, sC_, i64_w, i32_w]
    rfl
   exact norm_ (by simp only [putAll, Act.put, sA_, sB_, sC_]) (hCont (gb232) _ ⟨hHeld, (by (with_reducible repeat (first | refine kN_ ?_ _ | refine kD_ ?_ | refine kA_ ?_ _)); exact BK229.out), (by (with_reducible repeat (first | refine kN_ ?_ _ | refine kD_ ?_ | refine kA_ ?_ _)); exact BK230.out), (by (with_reducible repeat (first | refine kN_ ?_ _ | refine kD_ ?_ | refine kA_ ?_ _)); exact BK232.out), GW232.out, GE232.out, NB229_232.out, NB232_229.out, NB230_232.out, NB232_230.out, (by repeat (first | (with_reducible first | exact HB.out | apply bA_ | apply bN_ | apply bD_ | refine bS_ ?_ GE229.out | refine bS_ ?_ GE230.out | refine bS_ ?_ GE232.out) | exact HB.out))⟩)
  ·skip
   refine box_step ?hg (N := 3) ?hd (cs := #[.bool false, .int .i64 0, .slice none 0 0]) (t := 24) ?hr ?_; (case hd => rfl); (case hg => rfl); (case hr => first | (go_simp; done) | (go_simp; rfl))
   intro gb232 hg w7 hbox hb
   have n0_ := Aside0.mk (blk_below (g := gb229) (o := .cells #[.bool a0_0, .int .i64 a0_1, .slice A0_2 l0_2.length c0_2] 24 (0, 0)) (by (with_reducible repeat (first | refine kN_ ?_ _ | refine kD_ ?_ | refine kA_ ?_ _)); exact BK229.out) hb)
   have n1_ := Aside0.mk (blk_below (g := gb230) (o := .cells #[.bool false, .int .i64 0, .slice none 0 0] 24 (0, 0)) (by (with_reducible repeat (first | refine kN_ ?_ _ | refine kD_ ?_ | refine kA_ ?_ _)); exact BK230.out) hb)
   have n2_ := Aside0.mk (below_step (by repeat (first | (with_reducible first | exact HB.out | apply bA_ | apply bN_ | apply bD_ | refine bS_ ?_ GE229.out | refine bS_ ?_ GE230.out) | exact HB.out)) hb)
   have n3_ := Aside0.mk (hbox)
   have n4_ := Aside0.mk ((by rw [hg]; exact (below_size (by repeat (first | (with_reducible first | exact HB.out | apply bA_ | apply bN_ | apply bD_ | refine bS_ ?_ GE229.out | refine bS_ ?_ GE230.out) | exact HB.out))) : w.heap.size ≤ gb232))
   have n5_ := Aside0.mk ((by rw [hg]; exact (below_size (by repeat (first | (with_reducible first | exact HB.out | apply bA_ | apply bN_ | apply bD_ | refine bS_ ?_ GE229.out | refine bS_ ?_ GE230.out) | exact HB.out))) : w.heap.size ≤ gb232))
   have n6_ := Aside0.mk ((by rw [hg]; exact Nat.ne_of_lt (blk_lt (g := gb229) (o := .cells #[.bool a0_0, .int .i64 a0_1, .slice A0_2 l0_2.length c0_2] 24 (0, 0)) (by (with_reducible repeat (first | refine kN_ ?_ _ | refine kD_ ?_ | refine kA_ ?_ _)); exact BK229.out)) : gb229 ≠ gb232))
   have n7_ := Aside0.mk ((by rw [hg]; exact Nat.ne_of_gt (blk_lt (g := gb229) (o := .cells #[.bool a0_0, .int .i64 a0_1, .slice A0_2 l0_2.length c0_2] 24 (0, 0)) (by (with_reducible repeat (first | refine kN_ ?_ _ | refine kD_ ?_ | refine kA_ ?_ _)); exact BK229.out)) : gb232 ≠ gb229))
   have n8_ := Aside0.mk ((by rw [hg]; exact Nat.ne_of_lt (blk_lt (g := gb230) (o := .cells #[.bool false, .int .i64 0, .slice none 0 0] 24 (0, 0)) (by (with_reducible repeat (first | refine kN_ ?_ _ | refine kD_ ?_ | refine kA_ ?_ _)); exact BK230.out)) : gb230 ≠ gb232))
   have n9_ := Aside0.mk ((by rw [hg]; exact Nat.ne_of_gt (blk_lt (g := gb230) (o := .cells #[.bool false, .int .i64 0, .slice none 0 0] 24 (0, 0)) (by (with_reducible repeat (first | refine kN_ ?_ _ | refine kD_ ?_ | refine kA_ ?_ _)); exact BK230.out)) : gb232 ≠ gb230))
   clear BK229
   clear BK230
   clear HB
   have BK229 := n0_
   have BK230 := n1_
   have HB := n2_
   have BK232 := n3_
   have GW232 := n4_
   have GE232 := n5_
   have NB229_232 := n6_
   have NB232_229 := n7_
   have NB230_232 := n8_
   have NB232_230 := n9_
   clear n0_ n1_ n2_ n3_ n4_ n5_ n6_ n7_ n8_ n9_
   clear hb hbox hg
   refine hK.out _ _ (cells3_ BK229.out) (fun hHeld => ?_)
   clear hK K
   refine norm_ (a' := ?_) ?_ ?_
   rotate_left
   ·show Act.put _ (some 3) _ = _
    simp only [Act.put, sA_, sB_, sC_, i64_w, i32_w]
    rfl
   refine one_ (i := 4) (N := some 10) (tf 8 95) rfl rfl (one_of HT_.out (by kernel_rfl)) (by decide) (fun K hK => ?_)
   refine goes_ Tryd.func36 (by kernel_rfl) rfl #[.int .i64 a0_1, .int .i64 7] (by rfl) rfl rfl (by (try simp only [List.map_toArray, List.map_cons, List.map_nil]); first | done | rfl | (simp only [List.length_drop, List.length_take]; rfl)) ?_
   with_reducible refine (platformfwhelp_Mod.calls a0_1 7 t231 _ A2.out).mono ?_
   rintro e w' ⟨rfl, ⟨nd, rfl⟩⟩
   refine ⟨_, rfl, ?_⟩
   refine hK.out _ _ (cells3_ BK229.out) (fun hHeld => ?_)
   clear hK K
   refine norm_ (a' := ?_) ?_ ?_
   rotate_left
   ·show Act.put _ (some 10) _ = _
    simp only [Act.put, sA_, sB_, sC_, i64_w, i32_w]
    rfl
   refine pure_ (i := 5) (N := some 11) (v := ?_) (a' := ?_) (tf 8 127) rfl rfl (any_of HT_.out (by kernel_rfl)) (fun _ _ _ h => h) (Or.inl ⟨by rfl, ?_⟩) ?_ ?_
   rotate_left
   ·intro w'
    go_simp
    with_reducible rfl
   rotate_left
   ·simp only [Act.put, sA_, sB_, sC_, i64_w, i32_w]
    rfl
   exact norm_ (by simp only [putAll, Act.put, sA_, sB_, sC_]) (hCont (gb232) _ ⟨hHeld, (by (with_reducible repeat (first | refine kN_ ?_ _ | refine kD_ ?_ | refine kA_ ?_ _)); exact BK229.out), (by (with_reducible repeat (first | refine kN_ ?_ _ | refine kD_ ?_ | refine kA_ ?_ _)); exact BK230.out), (by (with_reducible repeat (first | refine kN_ ?_ _ | refine kD_ ?_ | refine kA_ ?_ _)); exact BK232.out), GW232.out, GE232.out, NB229_232.out, NB232_229.out, NB230_232.out, NB232_230.out, (by repeat (first | (with_reducible first | exact HB.out | apply bA_ | apply bN_ | apply bD_ | refine bS_ ?_ GE229.out | refine bS_ ?_ GE230.out | refine bS_ ?_ GE232.out) | exact HB.out))⟩)
 rintro gb232 w8 ⟨hS_, h0_, h1_, h2_, h3_, h4_, h5_, h6_, h7_, h8_, h9_⟩
 have n0_ : Aside0 (w8.heap[gb229]? = some (.cells #[.bool a0_0, .int .i64 a0_1, .slice A0_2 l0_2.length c0_2] 24 (0, 0))) := ⟨h0_⟩
 have n1_ : Aside0 (w8.heap[gb230]? = some (.cells #[.bool false, .int .i64 0, .slice none 0 0] 24 (0, 0))) := ⟨h1_⟩
 have n2_ : Aside0 (w8.heap[gb232]? = some (.cells #[.bool false, .int .i64 0, .slice none 0 0] 24 (0, 0))) := ⟨h2_⟩
 have n3_ : Aside0 (w.heap.size ≤ gb232) := ⟨h3_⟩
 have n4_ : Aside0 (w.heap.size ≤ gb232) := ⟨h4_⟩
 have n5_ : Aside0 (gb229 ≠ gb232) := ⟨h5_⟩
 have n6_ : Aside0 (gb232 ≠ gb229) := ⟨h6_⟩
 have n7_ : Aside0 (gb230 ≠ gb232) := ⟨h7_⟩
 have n8_ : Aside0 (gb232 ≠ gb230) := ⟨h8_⟩
 have n9_ : Aside0 (Below w.heap.size w w8) := ⟨h9_⟩
 clear BK229
 clear BK230
 clear HB
 clear h0_ h1_ h2_ h3_ h4_ h5_ h6_ h7_ h8_ h9_
 have BK229 := n0_
 have BK230 := n1_
 have BK232 := n2_
 have GW232 := n3_
 have GE232 := n4_
 have NB229_232 := n5_
 have NB232_229 := n6_
 have NB230_232 := n7_
 have NB232_230 := n8_
 have HB := n9_
 clear n0_ n1_ n2_ n3_ n4_ n5_ n6_ n7_ n8_ n9_
 have hHeld : w8.cell? ⟨gb229, 0, none⟩ = some (.bool a0_0) ∧ w8.cell? ⟨gb229, 1, none⟩ = some (.int .i64 a0_1) ∧ w8.cell? ⟨gb229, 2, none⟩ = some (.slice A0_2 l0_2.length c0_2) := hS_
 refine norm_ (a' := ?_) ?_ ?_
 rotate_left
 ·simp only [putAll, Act.put, sA_, sB_, sC_]
  rfl
 refine one_ (i := 7) (N := none) (tf 8 255) rfl rfl (one_of HT_.out (by kernel_rfl)) (by decide) (fun K hK => ?_)
 have hs9 : w8.cell? ⟨gb232, 0, none⟩ = some (.bool false) := (blk_cell BK232.out 0).trans rfl
 have hfs9 := blk_frozen BK232.out 0
 have hns9_0 := NB229_232.out
 have hns9_1 := NB230_232.out
 have hms9_0 := NB232_229.out
 have hms9_1 := NB232_230.out
 have hs10 : w8.cell? ⟨gb232, 1, none⟩ = some (.int .i64 0) := (blk_cell BK232.out 1).trans rfl
 have hfs10 := blk_frozen BK232.out 1
 have hns10_0 := NB229_232.out
 have hns10_1 := NB230_232.out
 have hms10_0 := NB232_229.out
 have hms10_1 := NB232_230.out
 have hs11 : w8.cell? ⟨gb232, 2, none⟩ = some (.slice none 0 0) := (blk_cell BK232.out 2).trans rfl
 have hfs11 := blk_frozen BK232.out 2
 have hns11_0 := NB229_232.out
 have hns11_1 := NB230_232.out
 have hms11_0 := NB232_229.out
 have hms11_1 := NB232_230.out
 refine skip_ (w1 := ?_) (by rfl) rfl ?_ ?_
 rotate_left
 ·go_simp
  rfl
 refine hK.out _ _ ⟨((cell_far (p := ⟨gb232, _, none⟩) NB229_232.out _).trans (((cell_far (p := ⟨gb232, _, none⟩) NB229_232.out _).trans (((cell_far (p := ⟨gb232, _, none⟩) NB229_232.out _).trans (hHeld.1)))))), ((cell_far (p := ⟨gb232, _, none⟩) NB229_232.out _).trans (((cell_far (p := ⟨gb232, _, none⟩) NB229_232.out _).trans (((cell_far (p := ⟨gb232, _, none⟩) NB229_232.out _).trans (hHeld.2.1)))))), ((cell_far (p := ⟨gb232, _, none⟩) NB229_232.out _).trans (((cell_far (p := ⟨gb232, _, none⟩) NB229_232.out _).trans (((cell_far (p := ⟨gb232, _, none⟩) NB229_232.out _).trans (hHeld.2.2))))))⟩ (fun hHeld => ?_)
 clear hK K
 refine done_ (done_of HT_.out (by kernel_rfl)) ?_
 go_upto_region 2 with (fail)
 go_cut [18] (fun v18 wc => ∃ (kq : Nat) (x18_2 : Bool), v18 = .bool x18_2 ∧ Aside0 (platformfwlaw02_path.j0 kq x18_2 a0_0 a0_1 l0_2 a0_0 t231 = some (r1, r2, r3)) ∧ Aside0 (kq ≤ k) ∧ Aside0 (wc.heap[gb229]? = some (.cells #[.bool a0_0, .int .i64 a0_1, (.slice A0_2 l0_2.length c0_2)] 24 (0, 0))) ∧ Aside0 (wc.heap[gb230]? = some (.cells #[.bool false, .int .i64 0, (.slice none 0 0)] 24 (0, 0))) ∧ Aside0 (wc.heap[gb232]? = some (.cells #[.bool a0_0, .int .i64 t231, (.slice none 0 0)] 24 (0, 0))) ∧ Aside0 (Below w.heap.size w wc))
 case first =>
  have H := HC3.out
  clear HC3
  by_cases c12 : a0_0 = true
  ·subst c12
   have H1 : (platformfwlaw02_path.j0 k true true a0_1 l0_2 true t231) = some (r1, r2, r3) := by rw [if_pos rfl] at H; exact H
   clear H
   have H := H1
   clear H1
   have H' := Aside0.mk H
   clear H
   have hnb13 := NB229_230.out
   have hnc13 := NB230_229.out
   have hnb14 := NB229_232.out
   have hnc14 := NB232_229.out
   obtain ⟨hcz15_0, hcz15_1, hcz15_2⟩ := cells3_ BK229.out
   obtain ⟨hfz15_0, hfz15_1, hfz15_2⟩ := froz3_ BK229.out
   go_wp2
   go_meet
   case rel => exact ⟨_, (true), (by first | rfl | (simp; done) | (simp [*]; done)), H', ⟨by first | omega | exact Nat.le_refl _⟩, ⟨by (with_reducible repeat (first | refine kN_ ?_ _ | refine kD_ ?_ | refine kA_ ?_ _)); refine blk_far ?_ NB229_232.out _; (with_reducible repeat (first | refine kN_ ?_ _ | refine kD_ ?_ | refine kA_ ?_ _)); refine blk_far ?_ NB229_232.out _; (with_reducible repeat (first | refine kN_ ?_ _ | refine kD_ ?_ | refine kA_ ?_ _)); refine blk_far ?_ NB229_232.out _; (with_reducible repeat (first | refine kN_ ?_ _ | refine kD_ ?_ | refine kA_ ?_ _)); exact BK229.out⟩, ⟨by (with_reducible repeat (first | refine kN_ ?_ _ | refine kD_ ?_ | refine kA_ ?_ _)); refine blk_far ?_ NB230_232.out _; (with_reducible repeat (first | refine kN_ ?_ _ | refine kD_ ?_ | refine kA_ ?_ _)); refine blk_far ?_ NB230_232.out _; (with_reducible repeat (first | refine kN_ ?_ _ | refine kD_ ?_ | refine kA_ ?_ _)); refine blk_far ?_ NB230_232.out _; (with_reducible repeat (first | refine kN_ ?_ _ | refine kD_ ?_ | refine kA_ ?_ _)); exact BK230.out⟩, ⟨by (with_reducible repeat (first | refine kN_ ?_ _ | refine kD_ ?_ | refine kA_ ?_ _)); refine blk_put (cs := #[.bool true, .int .i64 t231, .slice none 0 0]) ?_ 2 _ rfl; (with_reducible repeat (first | refine kN_ ?_ _ | refine kD_ ?_ | refine kA_ ?_ _)); refine blk_put (cs := #[.bool true, .int .i64 0, .slice none 0 0]) ?_ 1 _ rfl; (with_reducible repeat (first | refine kN_ ?_ _ | refine kD_ ?_ | refine kA_ ?_ _)); refine blk_put (cs := #[.bool false, .int .i64 0, .slice none 0 0]) ?_ 0 _ rfl; (with_reducible repeat (first | refine kN_ ?_ _ | refine kD_ ?_ | refine kA_ ?_ _)); exact BK232.out⟩, ⟨by repeat (first | (with_reducible first | exact HB.out | apply bA_ | apply bN_ | apply bD_ | refine bS_ ?_ GE229.out | refine bS_ ?_ GE230.out | refine bS_ ?_ GE232.out) | exact HB.out)⟩⟩
  ·replace c12 := Bool.eq_false_iff.mpr c12
   subst c12
   have H1 : (platformfwlaw02_path.j0 k (decide (t231 > 3)) false a0_1 l0_2 false t231) = some (r1, r2, r3) := by rw [if_neg (show ¬ (false = true) by decide)] at H; exact H
   clear H
   have H := H1
   clear H1
   have H' := Aside0.mk H
   clear H
   have hnb16 := NB229_230.out
   have hnc16 := NB230_229.out
   have hnb17 := NB229_232.out
   have hnc17 := NB232_229.out
   obtain ⟨hcz18_0, hcz18_1, hcz18_2⟩ := cells3_ BK229.out
   obtain ⟨hfz18_0, hfz18_1, hfz18_2⟩ := froz3_ BK229.out
   have hnb19 := NB232_230.out
   have hnc19 := NB230_232.out
   have hcz20_0 : w8.cell? ⟨gb232, 0, none⟩ = some (.bool false) := (blk_cell BK232.out 0).trans rfl
   have hcz20_1 : w8.cell? ⟨gb232, 1, none⟩ = some (.int .i64 0) := (blk_cell BK232.out 1).trans rfl
   have hcz20_2 : w8.cell? ⟨gb232, 2, none⟩ = some (.slice none 0 0) := (blk_cell BK232.out 2).trans rfl
   have hfz20_0 := blk_frozen BK232.out 0
   have hfz20_1 := blk_frozen BK232.out 1
   have hfz20_2 := blk_frozen BK232.out 2
   go_wp2
   go_meet
   case rel => exact ⟨_, (decide (t231 > 3)), (by first | rfl | (simp; done) | (simp [*]; done)), H', ⟨by first | omega | exact Nat.le_refl _⟩, ⟨by (with_reducible repeat (first | refine kN_ ?_ _ | refine kD_ ?_ | refine kA_ ?_ _)); refine blk_far ?_ NB229_232.out _; (with_reducible repeat (first | refine kN_ ?_ _ | refine kD_ ?_ | refine kA_ ?_ _)); refine blk_far ?_ NB229_232.out _; (with_reducible repeat (first | refine kN_ ?_ _ | refine kD_ ?_ | refine kA_ ?_ _)); refine blk_far ?_ NB229_232.out _; (with_reducible repeat (first | refine kN_ ?_ _ | refine kD_ ?_ | refine kA_ ?_ _)); exact BK229.out⟩, ⟨by (with_reducible repeat (first | refine kN_ ?_ _ | refine kD_ ?_ | refine kA_ ?_ _)); refine blk_far ?_ NB230_232.out _; (with_reducible repeat (first | refine kN_ ?_ _ | refine kD_ ?_ | refine kA_ ?_ _)); refine blk_far ?_ NB230_232.out _; (with_reducible repeat (first | refine kN_ ?_ _ | refine kD_ ?_ | refine kA_ ?_ _)); refine blk_far ?_ NB230_232.out _; (with_reducible repeat (first | refine kN_ ?_ _ | refine kD_ ?_ | refine kA_ ?_ _)); exact BK230.out⟩, ⟨by (with_reducible repeat (first | refine kN_ ?_ _ | refine kD_ ?_ | refine kA_ ?_ _)); refine blk_put (cs := #[.bool false, .int .i64 t231, .slice none 0 0]) ?_ 2 _ rfl; (with_reducible repeat (first | refine kN_ ?_ _ | refine kD_ ?_ | refine kA_ ?_ _)); refine blk_put (cs := #[.bool false, .int .i64 0, .slice none 0 0]) ?_ 1 _ rfl; (with_reducible repeat (first | refine kN_ ?_ _ | refine kD_ ?_ | refine kA_ ?_ _)); refine blk_put (cs := #[.bool false, .int .i64 0, .slice none 0 0]) ?_ 0 _ rfl; (with_reducible repeat (first | refine kN_ ?_ _ | refine kD_ ?_ | refine kA_ ?_ _)); exact BK232.out⟩, ⟨by repeat (first | (with_reducible first | exact HB.out | apply bA_ | apply bN_ | apply bD_ | refine bS_ ?_ GE229.out | refine bS_ ?_ GE230.out | refine bS_ ?_ GE232.out) | exact HB.out)⟩⟩
 case rest =>
  clear HC3
  try clear c1
  try clear p2
  try clear c3
  try clear c12
  try clear c13
  try clear c14
  try clear c16
  try clear c17
  try clear c19
  try clear hcz15_0 hcz15_1 hcz15_2
  try clear hcz18_0 hcz18_1 hcz18_2
  try clear hcz20_0 hcz20_1 hcz20_2
  try clear hfz15_0 hfz15_1 hfz15_2
  try clear hfz18_0 hfz18_1 hfz18_2
  try clear hfz20_0 hfz20_1 hfz20_2
  obtain ⟨kq, x18_2, rfl, HA, HJ2, BK229, BK230, BK232, HB⟩ := hcut
  cases kq with
  | zero => exact absurd HA.out (by simp [platformfwlaw02_path.j0])
  | succ kj2 =>
   have H := HA.out
   clear HA
   simp only [platformfwlaw02_path.j0] at H
   have HC21 := Aside0.mk H
   clear H
   go_upto_if 18 with (fail)
   go_cut [] (fun wc => ∃ (kq : Nat) (x233001_20 : Int), Aside0 (platformfwlaw02_path.j1 kq a0_0 a0_1 l0_2 a0_0 x233001_20 = some (r1, r2, r3)) ∧ Aside0 (kq ≤ kj2) ∧ Aside0 (wc.heap[gb229]? = some (.cells #[.bool a0_0, .int .i64 a0_1, (.slice A0_2 l0_2.length c0_2)] 24 (0, 0))) ∧ Aside0 (wc.heap[gb230]? = some (.cells #[.bool false, .int .i64 0, (.slice none 0 0)] 24 (0, 0))) ∧ Aside0 (wc.heap[gb232]? = some (.cells #[.bool a0_0, .int .i64 x233001_20, (.slice none 0 0)] 24 (0, 0))) ∧ Aside0 (Below w.heap.size w wc))
   case first =>
    have H := HC21.out
    clear HC21
    by_cases c22 : x18_2 = true
    ·subst c22
     have H1 : (platformfwlaw02_path.j1 kj2 a0_0 a0_1 l0_2 a0_0 0) = some (r1, r2, r3) := by rw [if_pos rfl] at H; exact H
     clear H
     have H := H1
     clear H1
     have H' := Aside0.mk H
     clear H
     have hnb23 := NB232_229.out
     have hnc23 := NB229_232.out
     have hnb24 := NB232_230.out
     have hnc24 := NB230_232.out
     obtain ⟨hcz25_0, hcz25_1, hcz25_2⟩ := cells3_ BK232.out
     obtain ⟨hfz25_0, hfz25_1, hfz25_2⟩ := froz3_ BK232.out
     go_wp2
     go_meet
     case rel => exact ⟨_, (0), H', ⟨by have := HJ2.out; first | omega | exact Nat.le_refl _⟩, ⟨by (with_reducible repeat (first | refine kN_ ?_ _ | refine kD_ ?_ | refine kA_ ?_ _)); refine blk_far ?_ NB229_232.out _; (with_reducible repeat (first | refine kN_ ?_ _ | refine kD_ ?_ | refine kA_ ?_ _)); exact BK229.out⟩, ⟨by (with_reducible repeat (first | refine kN_ ?_ _ | refine kD_ ?_ | refine kA_ ?_ _)); refine blk_far ?_ NB230_232.out _; (with_reducible repeat (first | refine kN_ ?_ _ | refine kD_ ?_ | refine kA_ ?_ _)); exact BK230.out⟩, ⟨by (with_reducible repeat (first | refine kN_ ?_ _ | refine kD_ ?_ | refine kA_ ?_ _)); refine blk_put (cs := #[.bool a0_0, .int .i64 t231, .slice none 0 0]) ?_ 1 _ rfl; (with_reducible repeat (first | refine kN_ ?_ _ | refine kD_ ?_ | refine kA_ ?_ _)); exact BK232.out⟩, ⟨by repeat (first | (with_reducible first | exact HB.out | apply bA_ | apply bN_ | apply bD_ | refine bS_ ?_ GE229.out | refine bS_ ?_ GE230.out | refine bS_ ?_ GE232.out) | exact HB.out)⟩⟩
    ·replace c22 := Bool.eq_false_iff.mpr c22
     subst c22
     have H1 : (platformfwlaw02_path.j1 kj2 a0_0 a0_1 l0_2 a0_0 t231) = some (r1, r2, r3) := by rw [if_neg (show ¬ (false = true) by decide)] at H; exact H
     clear H
     have H := H1
     clear H1
     have H' := Aside0.mk H
     clear H
     go_wp2
     go_meet
     case rel => exact ⟨_, (t231), H', ⟨by have := HJ2.out; first | omega | exact Nat.le_refl _⟩, ⟨by (with_reducible repeat (first | refine kN_ ?_ _ | refine kD_ ?_ | refine kA_ ?_ _)); exact BK229.out⟩, ⟨by (with_reducible repeat (first | refine kN_ ?_ _ | refine kD_ ?_ | refine kA_ ?_ _)); exact BK230.out⟩, ⟨by (with_reducible repeat (first | refine kN_ ?_ _ | refine kD_ ?_ | refine kA_ ?_ _)); exact BK232.out⟩, ⟨by repeat (first | (with_reducible first | exact HB.out | apply bA_ | apply bN_ | apply bD_ | refine bS_ ?_ GE229.out | refine bS_ ?_ GE230.out | refine bS_ ?_ GE232.out) | exact HB.out)⟩⟩
   case rest =>
    clear HC21
    try clear c1
    try clear c2
    try clear p2
    try clear c3
    try clear c12
    try clear c13
    try clear c14
    try clear c16
    try clear c17
    try clear c19
    try clear c22
    try clear c23
    try clear c24
    try clear hcz15_0 hcz15_1 hcz15_2
    try clear hcz18_0 hcz18_1 hcz18_2
    try clear hcz20_0 hcz20_1 hcz20_2
    try clear hcz25_0 hcz25_1 hcz25_2
    try clear hfz15_0 hfz15_1 hfz15_2
    try clear hfz18_0 hfz18_1 hfz18_2
    try clear hfz20_0 hfz20_1 hfz20_2
    try clear hfz25_0 hfz25_1 hfz25_2
    try clear p2
    obtain ⟨kq, x233001_20, HA, HJ20, BK229, BK230, BK232, HB⟩ := hcut
    cases kq with
    | zero => exact absurd HA.out (by simp [platformfwlaw02_path.j1])
    | succ kj20 =>
     have H := HA.out
     clear HA
     simp only [platformfwlaw02_path.j1] at H
     have H' := Aside0.mk H
     clear H
     go_wp2
     go_loopg [4] kj20 (fun kq v4 w' => ∃ (x4_3 : Int) (x233002_3 : List ByteArray) (u233002 : Value), v4 = .int .i64 x4_3 ∧ Aside0 (platformfwlaw02_path.l0 kq x4_3 a0_0 a0_1 l0_2 a0_0 x233001_20 x233002_3 = some (r1, r2, r3)) ∧ Aside0 (kq ≤ kj20) ∧ Aside0 (Kd.R Kd.string 9 w' w.heap.size (fun _ => True) u233002 x233002_3) ∧ Aside0 (w'.heap[gb229]? = some (.cells #[.bool a0_0, .int .i64 a0_1, (.slice A0_2 l0_2.length c0_2)] 24 (0, 0))) ∧ Aside0 (w'.heap[gb230]? = some (.cells #[.bool false, .int .i64 0, (.slice none 0 0)] 24 (0, 0))) ∧ Aside0 (w'.heap[gb232]? = some (.cells #[.bool a0_0, .int .i64 x233001_20, u233002] 24 (0, 0))) ∧ Aside0 (Below w.heap.size w w'))
     case atStart => exact ⟨(0), (([] : List ByteArray)), (.slice none 0 0), (by first | rfl | (simp; done) | (simp [*]; done)), H', ⟨Nat.le_refl _⟩, ⟨by first | exact Kd.R_nil _ _ _ _ _ | exact Kd.N_nil _ _ _ _ _ | exact Kd.V_nil _ _ _ _ _ | exact Kd.Q_nil _ _ _ _ _ | exact Kd.S_nil _ _ _ _ _⟩, ⟨by (with_reducible repeat (first | refine kN_ ?_ _ | refine kD_ ?_ | refine kA_ ?_ _)); exact BK229.out⟩, ⟨by (with_reducible repeat (first | refine kN_ ?_ _ | refine kD_ ?_ | refine kA_ ?_ _)); exact BK230.out⟩, ⟨by (with_reducible repeat (first | refine kN_ ?_ _ | refine kD_ ?_ | refine kA_ ?_ _)); exact BK232.out⟩, ⟨by repeat (first | (with_reducible first | exact HB.out | apply bA_ | apply bN_ | apply bD_ | refine bS_ ?_ GE229.out | refine bS_ ?_ GE230.out | refine bS_ ?_ GE232.out) | exact HB.out)⟩⟩
     case round =>
      clear H'
      try clear c1
      try clear c2
      try clear p2
      try clear c3
      try clear c12
      try clear c13
      try clear c14
      try clear c16
      try clear c17
      try clear c19
      try clear c22
      try clear c23
      try clear c24
      try clear hcz15_0 hcz15_1 hcz15_2
      try clear hcz18_0 hcz18_1 hcz18_2
      try clear hcz20_0 hcz20_1 hcz20_2
      try clear hcz25_0 hcz25_1 hcz25_2
      try clear hfz15_0 hfz15_1 hfz15_2
      try clear hfz18_0 hfz18_1 hfz18_2
      try clear hfz20_0 hfz20_1 hfz20_2
      try clear hfz25_0 hfz25_1 hfz25_2
      try clear p2
      obtain ⟨x4_3, x233002_3, u233002, rfl, HA, HK3, HO_233002, BK229, BK230, BK232, HB⟩ := hrel
      cases gk with
      | zero => exact absurd HA.out (by simp [platformfwlaw02_path.l0])
      | succ k3 =>
       have H := HA.out
       clear HA
       simp only [platformfwlaw02_path.l0] at H
       have HC26 := Aside0.mk H
       clear H
       go_upto_region 5 with (fail)
       go_cut [28] (fun v28 wc => ∃ (kq : Nat) (x28_25 : Bool), v28 = .bool x28_25 ∧ Aside0 (platformfwlaw02_path.j3 kq x4_3 x28_25 a0_0 a0_1 l0_2 a0_0 x233001_20 x233002_3 = some (r1, r2, r3)) ∧ Aside0 (kq ≤ k3) ∧ Aside0 (Kd.R Kd.string 9 wc w.heap.size (fun _ => True) u233002 x233002_3) ∧ Aside0 (wc.heap[gb229]? = some (.cells #[.bool a0_0, .int .i64 a0_1, (.slice A0_2 l0_2.length c0_2)] 24 (0, 0))) ∧ Aside0 (wc.heap[gb230]? = some (.cells #[.bool false, .int .i64 0, (.slice none 0 0)] 24 (0, 0))) ∧ Aside0 (wc.heap[gb232]? = some (.cells #[.bool a0_0, .int .i64 x233001_20, u233002] 24 (0, 0))) ∧ Aside0 (Below w.heap.size w wc))
       case first =>
        have H := HC26.out
        clear HC26
        by_cases c27 : x4_3 < (l0_2.length : Int)
        ·rw [if_pos c27] at H
         have c27b0 : decide (x4_3 < (l0_2.length : Int)) = true := decide_eq_true c27
         clear c27
         (first | rw [c27b0] | (simp only [i64_w, i32_w]; rw [c27b0]) | skip)
         have H' := Aside0.mk H
         clear H
         have hnb28 := NB229_230.out
         have hnc28 := NB230_229.out
         have hnb29 := NB229_232.out
         have hnc29 := NB232_229.out
         obtain ⟨hcz30_0, hcz30_1, hcz30_2⟩ := cells3_ BK229.out
         obtain ⟨hfz30_0, hfz30_1, hfz30_2⟩ := froz3_ BK229.out
         go_wp2
         go_meet
         case rel => exact ⟨_, (decide (x4_3 < 34)), (by first | rfl | (simp; done) | (simp [*]; done)), H', ⟨by have := HJ2.out; have := HJ20.out; have := HK3.out; first | omega | exact Nat.le_refl _⟩, ⟨by (with_reducible repeat (first | apply Kd.R_alloc | apply Kd.R_drewN | apply Kd.R_drew)); exact HO_233002.out⟩, ⟨by (with_reducible repeat (first | refine kN_ ?_ _ | refine kD_ ?_ | refine kA_ ?_ _)); exact BK229.out⟩, ⟨by (with_reducible repeat (first | refine kN_ ?_ _ | refine kD_ ?_ | refine kA_ ?_ _)); exact BK230.out⟩, ⟨by (with_reducible repeat (first | refine kN_ ?_ _ | refine kD_ ?_ | refine kA_ ?_ _)); exact BK232.out⟩, ⟨by repeat (first | (with_reducible first | exact HB.out | apply bA_ | apply bN_ | apply bD_ | refine bS_ ?_ GE229.out | refine bS_ ?_ GE230.out | refine bS_ ?_ GE232.out) | exact HB.out)⟩⟩
        ·rw [if_neg c27] at H
         have c27b0 : decide (x4_3 < (l0_2.length : Int)) = false := decide_eq_false c27
         clear c27
         (first | rw [c27b0] | (simp only [i64_w, i32_w]; rw [c27b0]) | skip)
         have H' := Aside0.mk H
         clear H
         have hnb31 := NB229_230.out
         have hnc31 := NB230_229.out
         have hnb32 := NB229_232.out
         have hnc32 := NB232_229.out
         obtain ⟨hcz33_0, hcz33_1, hcz33_2⟩ := cells3_ BK229.out
         obtain ⟨hfz33_0, hfz33_1, hfz33_2⟩ := froz3_ BK229.out
         go_wp2
         go_meet
         case rel => exact ⟨_, (false), (by first | rfl | (simp; done) | (simp [*]; done)), H', ⟨by have := HJ2.out; have := HJ20.out; have := HK3.out; first | omega | exact Nat.le_refl _⟩, ⟨by (with_reducible repeat (first | apply Kd.R_alloc | apply Kd.R_drewN | apply Kd.R_drew)); exact HO_233002.out⟩, ⟨by (with_reducible repeat (first | refine kN_ ?_ _ | refine kD_ ?_ | refine kA_ ?_ _)); exact BK229.out⟩, ⟨by (with_reducible repeat (first | refine kN_ ?_ _ | refine kD_ ?_ | refine kA_ ?_ _)); exact BK230.out⟩, ⟨by (with_reducible repeat (first | refine kN_ ?_ _ | refine kD_ ?_ | refine kA_ ?_ _)); exact BK232.out⟩, ⟨by repeat (first | (with_reducible first | exact HB.out | apply bA_ | apply bN_ | apply bD_ | refine bS_ ?_ GE229.out | refine bS_ ?_ GE230.out | refine bS_ ?_ GE232.out) | exact HB.out)⟩⟩
       case rest =>
        clear HC26
        try clear c1
        try clear c2
        try clear p2
        try clear c3
        try clear c12
        try clear c13
        try clear c14
        try clear c16
        try clear c17
        try clear c19
        try clear c22
        try clear c23
        try clear c24
        try clear c27
        try clear c27b0
        try clear c28
        try clear c29
        try clear c31
        try clear c32
        try clear hcz15_0 hcz15_1 hcz15_2
        try clear hcz18_0 hcz18_1 hcz18_2
        try clear hcz20_0 hcz20_1 hcz20_2
        try clear hcz25_0 hcz25_1 hcz25_2
        try clear hcz30_0 hcz30_1 hcz30_2
        try clear hcz33_0 hcz33_1 hcz33_2
        try clear hfz15_0 hfz15_1 hfz15_2
        try clear hfz18_0 hfz18_1 hfz18_2
        try clear hfz20_0 hfz20_1 hfz20_2
        try clear hfz25_0 hfz25_1 hfz25_2
        try clear hfz30_0 hfz30_1 hfz30_2
        try clear hfz33_0 hfz33_1 hfz33_2
        try clear p2
        obtain ⟨kq, x28_25, rfl, HA, HJ25, HO_233002, BK229, BK230, BK232, HB⟩ := hcut
        cases kq with
        | zero => exact absurd HA.out (by simp [platformfwlaw02_path.j3])
        | succ kj25 =>
         have H := HA.out
         clear HA
         simp only [platformfwlaw02_path.j3] at H
         by_cases c34 : x28_25 = true
         ·subst c34
          have H1 : (if 0 ≤ x4_3 then (if x4_3 < (l0_2.length : Int) then ((platformfwlaw02_seg.f (rdOf ByteArray.empty l0_2 x4_3)).bind fun t234 => ((platformfwref01_Segment.f kj25 t234).bind fun t235 => (if t235 = true then (if x233002_3.length < 8796093022208 then (platformfwlaw02_path.l0 kj25 (wrap64 (x4_3 + 1)) a0_0 a0_1 l0_2 a0_0 x233001_20 (x233002_3 ++ [t234])) else (none)) else (if (Int.tmod x4_3 3) > 0 then (if x233002_3.length < 8796093022208 then (platformfwlaw02_path.l0 kj25 (wrap64 (x4_3 + 1)) a0_0 a0_1 l0_2 a0_0 x233001_20 (x233002_3 ++ [(⟨#[90]⟩ : ByteArray)])) else (none)) else (if x233002_3.length < 8796093022208 then (platformfwlaw02_path.l0 kj25 (wrap64 (x4_3 + 1)) a0_0 a0_1 l0_2 a0_0 x233001_20 (x233002_3 ++ [t234])) else (none)))))) else (none)) else (none)) = some (r1, r2, r3) := by rw [if_pos rfl] at H; exact H
          clear H
          have H := H1
          clear H1
          by_cases c35 : 0 ≤ x4_3
          ·rw [if_pos c35] at H
           have c35b0 : decide (0 ≤ x4_3) = true := decide_eq_true c35
           clear c35
           by_cases c36 : x4_3 < (l0_2.length : Int)
           ·rw [if_pos c36] at H
            have c36b0 : decide (x4_3 < (l0_2.length : Int)) = true := decide_eq_true c36
            clear c36
            replace H := Option.bind_eq_some_iff.mp H
            obtain ⟨t234, A370, H⟩ := H
            replace H : ((platformfwref01_Segment.f kj25 t234).bind fun t235 => (if t235 = true then (if x233002_3.length < 8796093022208 then (platformfwlaw02_path.l0 kj25 (wrap64 (x4_3 + 1)) a0_0 a0_1 l0_2 a0_0 x233001_20 (x233002_3 ++ [t234])) else (none)) else (if (Int.tmod x4_3 3) > 0 then (if x233002_3.length < 8796093022208 then (platformfwlaw02_path.l0 kj25 (wrap64 (x4_3 + 1)) a0_0 a0_1 l0_2 a0_0 x233001_20 (x233002_3 ++ [(⟨#[90]⟩ : ByteArray)])) else (none)) else (if x233002_3.length < 8796093022208 then (platformfwlaw02_path.l0 kj25 (wrap64 (x4_3 + 1)) a0_0 a0_1 l0_2 a0_0 x233001_20 (x233002_3 ++ [t234])) else (none))))) = some (r1, r2, r3) := H
            have A37 := Aside0.mk A370
            clear A370
            replace H := Option.bind_eq_some_iff.mp H
            obtain ⟨t235, A380, H⟩ := H
            replace H : (if t235 = true then (if x233002_3.length < 8796093022208 then (platformfwlaw02_path.l0 kj25 (wrap64 (x4_3 + 1)) a0_0 a0_1 l0_2 a0_0 x233001_20 (x233002_3 ++ [t234])) else (none)) else (if (Int.tmod x4_3 3) > 0 then (if x233002_3.length < 8796093022208 then (platformfwlaw02_path.l0 kj25 (wrap64 (x4_3 + 1)) a0_0 a0_1 l0_2 a0_0 x233001_20 (x233002_3 ++ [(⟨#[90]⟩ : ByteArray)])) else (none)) else (if x233002_3.length < 8796093022208 then (platformfwlaw02_path.l0 kj25 (wrap64 (x4_3 + 1)) a0_0 a0_1 l0_2 a0_0 x233001_20 (x233002_3 ++ [t234])) else (none)))) = some (r1, r2, r3) := H
            have A38 := Aside0.mk A380
            clear A380
            by_cases c39 : t235 = true
            ·subst c39
             have H1 : (if x233002_3.length < 8796093022208 then (platformfwlaw02_path.l0 kj25 (wrap64 (x4_3 + 1)) a0_0 a0_1 l0_2 a0_0 x233001_20 (x233002_3 ++ [t234])) else (none)) = some (r1, r2, r3) := by rw [if_pos rfl] at H; exact H
             clear H
             have H := H1
             clear H1
             by_cases c40 : x233002_3.length < 8796093022208
             ·rw [if_pos c40] at H
              have LMc40 := Aside0.mk c40
              clear c40
              obtain ⟨y236, hy236⟩ : ∃ y_ : List ByteArray, y_ = (x233002_3 ++ [t234]) := ⟨_, rfl⟩
              replace H : (platformfwlaw02_path.l0 kj25 (wrap64 (x4_3 + 1)) a0_0 a0_1 l0_2 a0_0 x233001_20 y236) = some (r1, r2, r3) := by first | (rw [hy236]; with_reducible exact H) | (have H2_ := (Option.bind_some _ _).symm.trans H; rw [hy236]; with_reducible exact H2_) | (have H2_ := (Option.bind_some _ _).symm.trans H; with_reducible exact H2_) | with_reducible exact H | (rw [hy236]; exact H) | exact H
              have Ny236 := Aside0.mk hy236
              clear hy236
              have H' := Aside0.mk H
              clear H
              have hnb41 := NB229_230.out
              have hnc41 := NB230_229.out
              have hnb42 := NB229_232.out
              have hnc42 := NB232_229.out
              obtain ⟨hcz43_0, hcz43_1, hcz43_2⟩ := cells3_ BK229.out
              obtain ⟨hfz43_0, hfz43_1, hfz43_2⟩ := froz3_ BK229.out
              have p233 : 0 ≤ (x4_3 : Int) := of_decide_eq_true (by first | (with_reducible assumption) | assumption)
              have q233 : x4_3 < (l0_2.length : Int) := of_decide_eq_true (by first | (with_reducible assumption) | assumption)
              obtain ⟨ad233, e233, hx233_0⟩ := Kd.at_string HR0_2.out x4_3 p233 q233
              cases e233
              replace hx233_0 := (HB.out.cell (World.block_lt_of_cell? w _ hx233_0)).trans hx233_0
              replace p233 := eq_true p233
              replace q233 := eq_true q233
              go_wp2_with (first | ((with_reducible refine gate_callee (f := 26) rfl ?_); refine goesL_ (some 36) rfl rfl Tryd.func26 (by kernel_rfl) rfl #[.string (rdOf ByteArray.empty l0_2 x4_3)] rfl (by (try simp only [List.map_toArray, List.map_cons, List.map_nil]); first | done | rfl | (simp only [List.length_drop, List.length_take]; rfl)) ?_; (with_reducible refine (platformfwlaw02_seg.calls (rdOf ByteArray.empty l0_2 x4_3) t234 _ A37.out).mono ?_); rintro e w44 ⟨rfl, hb⟩; refine ⟨_, rfl, ?_⟩; have n0_ := Aside0.mk (Kd.R_below (by (with_reducible repeat (first | apply Kd.R_alloc | apply Kd.R_drewN | apply Kd.R_drew)); exact HO_233002.out) hb); have n1_ := Aside0.mk (blk_below (g := gb229) (o := .cells #[.bool a0_0, .int .i64 a0_1, .slice (some ad233) l0_2.length c0_2] 24 (0, 0)) (by (with_reducible repeat (first | refine kN_ ?_ _ | refine kD_ ?_ | refine kA_ ?_ _)); exact BK229.out) hb); have n2_ := Aside0.mk (blk_below (g := gb230) (o := .cells #[.bool false, .int .i64 0, .slice none 0 0] 24 (0, 0)) (by (with_reducible repeat (first | refine kN_ ?_ _ | refine kD_ ?_ | refine kA_ ?_ _)); exact BK230.out) hb); have n3_ := Aside0.mk (blk_below (g := gb232) (o := .cells #[.bool a0_0, .int .i64 x233001_20, u233002] 24 (0, 0)) (by (with_reducible repeat (first | refine kN_ ?_ _ | refine kD_ ?_ | refine kA_ ?_ _)); exact BK232.out) hb); have n4_ := Aside0.mk (below_step (by repeat (first | (with_reducible first | exact HB.out | apply bA_ | apply bN_ | apply bD_ | refine bS_ ?_ GE229.out | refine bS_ ?_ GE230.out | refine bS_ ?_ GE232.out) | exact HB.out)) hb); clear HO_233002; clear BK229; clear BK230; clear BK232; clear HB; have HO_233002 := n0_; have BK229 := n1_; have BK230 := n2_; have BK232 := n3_; have HB := n4_; clear n0_ n1_ n2_ n3_ n4_; (try clear hb); (try clear hb2); (try clear hk); (try clear hi)) | ((with_reducible refine gate_callee (f := 27) rfl ?_); refine goesL_ (some 38) rfl rfl Tryd.func27 (by kernel_rfl) rfl #[.string t234] rfl (by (try simp only [List.map_toArray, List.map_cons, List.map_nil]); first | done | rfl | (simp only [List.length_drop, List.length_take]; rfl)) ?_; (with_reducible refine (platformfwref01_Segment.calls kj25 t234 true _ A38.out).mono ?_); rintro e w' ⟨rfl, ⟨nd, rfl⟩⟩; refine ⟨_, rfl, ?_⟩; (try (rw [drewN_self w44]; generalize hq_ : World.drewN w44 _ = w44; have n0_ : Aside0 (Kd.R Kd.string 9 w44 w.heap.size (fun _ => True) u233002 x233002_3) := ⟨by rw [← hq_]; exact (by (with_reducible repeat (first | apply Kd.R_alloc | apply Kd.R_drewN | apply Kd.R_drew)); exact HO_233002.out)⟩; have n1_ : Aside0 (w44.heap[gb229]? = some (.cells #[.bool a0_0, .int .i64 a0_1, .slice (some ad233) l0_2.length c0_2] 24 (0, 0))) := ⟨by rw [← hq_]; exact (by (with_reducible repeat (first | refine kN_ ?_ _ | refine kD_ ?_ | refine kA_ ?_ _)); exact BK229.out)⟩; have n2_ : Aside0 (w44.heap[gb230]? = some (.cells #[.bool false, .int .i64 0, .slice none 0 0] 24 (0, 0))) := ⟨by rw [← hq_]; exact (by (with_reducible repeat (first | refine kN_ ?_ _ | refine kD_ ?_ | refine kA_ ?_ _)); exact BK230.out)⟩; have n3_ : Aside0 (w44.heap[gb232]? = some (.cells #[.bool a0_0, .int .i64 x233001_20, u233002] 24 (0, 0))) := ⟨by rw [← hq_]; exact (by (with_reducible repeat (first | refine kN_ ?_ _ | refine kD_ ?_ | refine kA_ ?_ _)); exact BK232.out)⟩; have n4_ : Aside0 (Below w.heap.size w w44) := ⟨by rw [← hq_]; exact (by repeat (first | (with_reducible first | exact HB.out | apply bA_ | apply bN_ | apply bD_ | refine bS_ ?_ GE229.out | refine bS_ ?_ GE230.out | refine bS_ ?_ GE232.out) | exact HB.out))⟩; clear HO_233002 BK229 BK230 BK232 HB hq_; have HO_233002 := n0_; have BK229 := n1_; have BK230 := n2_; have BK232 := n3_; have HB := n4_; clear n0_ n1_ n2_ n3_ n4_)); have hnb45 := NB232_230.out; have hnc45 := NB230_232.out; obtain ⟨hcz46_0, hcz46_1, hcz46_2⟩ := cells3_ BK232.out; obtain ⟨hfz46_0, hfz46_1, hfz46_2⟩ := froz3_ BK232.out) | ((with_reducible refine gate_builtin (b := .append) (xs := #[.tmp 46, .tmp 48]) rfl ?_); at_builtin; refine Kd.R_append Kd.string (w0 := w) w.heap.size rfl (.tmp 46) (.tmp 48) 22 9 (.string ⟨#[]⟩) 16 rfl Tryd.underlying22 info9 rfl (by decide) (by omega) u233002 x233002_3 t234 [.string t234] (fun _ => True) (fun _ => False) rfl rfl ?aP (fun _ hk => hk.elim) ?aF ?aO ?aB ?aS ?aL ?_; (case aP => exact rfl); (case aB => exact (by repeat (first | (with_reducible first | exact HB.out | apply bA_ | apply bN_ | apply bD_ | refine bS_ ?_ GE229.out | refine bS_ ?_ GE230.out | refine bS_ ?_ GE232.out) | exact HB.out))); (case aF => exact (fun _ _ => trivial)); (case aO => exact (by (with_reducible repeat (first | apply Kd.R_alloc | apply Kd.R_drewN | apply Kd.R_drew)); exact HO_233002.out)); (case aS => exact (below_size (by repeat (first | (with_reducible first | exact HB.out | apply bA_ | apply bN_ | apply bD_ | refine bS_ ?_ GE229.out | refine bS_ ?_ GE230.out | refine bS_ ?_ GE232.out) | exact HB.out)))); (case aL => have := LMc40.out; omega); intro v237 w47 ho hb hg hat; rw [← Ny236.out] at ho; have n0_ := Aside0.mk (blk_grown (g := gb229) (o := .cells #[.bool a0_0, .int .i64 a0_1, .slice (some ad233) l0_2.length c0_2] 24 (0, 0)) (by (with_reducible repeat (first | refine kN_ ?_ _ | refine kD_ ?_ | refine kA_ ?_ _)); exact BK229.out) hg (Kd.R_ne HO_233002.out BK229.out (by decide))); have n1_ := Aside0.mk (blk_grown (g := gb230) (o := .cells #[.bool false, .int .i64 0, .slice none 0 0] 24 (0, 0)) (by (with_reducible repeat (first | refine kN_ ?_ _ | refine kD_ ?_ | refine kA_ ?_ _)); exact BK230.out) hg (Kd.R_ne HO_233002.out BK230.out (by decide))); have n2_ := Aside0.mk (blk_grown (g := gb232) (o := .cells #[.bool a0_0, .int .i64 x233001_20, u233002] 24 (0, 0)) (by (with_reducible repeat (first | refine kN_ ?_ _ | refine kD_ ?_ | refine kA_ ?_ _)); exact BK232.out) hg (Kd.R_ne HO_233002.out BK232.out (by decide))); have n3_ := Aside0.mk (hb); have n4_ := Aside0.mk (ho); clear BK229; clear BK230; clear BK232; clear HB; clear HO_233002; have BK229 := n0_; have BK230 := n1_; have BK232 := n2_; have HB := n3_; have HO238 := n4_; clear n0_ n1_ n2_ n3_ n4_; clear ho hb hg hat; obtain ⟨Ao48, co48, eo48⟩ := Kd.R_slice HO238.out; subst eo48; obtain ⟨hcz49_0, hcz49_1, hcz49_2⟩ := cells3_ BK232.out; obtain ⟨hfz49_0, hfz49_1, hfz49_2⟩ := froz3_ BK232.out))
              go_roundg kj25
              case measure => have := HJ2.out; have := HJ20.out; have := HK3.out; have := HJ25.out; omega
              case rel => exact ⟨(wrap64 (x4_3 + 1)), (y236), (.slice Ao48 y236.length co48), (by first | rfl | (simp; done) | (simp [*]; done)), H', ⟨by have := HJ2.out; have := HJ20.out; have := HK3.out; have := HJ25.out; omega⟩, ⟨by (with_reducible repeat (first | apply Kd.R_alloc | apply Kd.R_drewN | apply Kd.R_drew)); exact Kd.R_mono (Kd.R_far (p := ⟨gb232, 2, none⟩) (Kd.R_types HO238.out BK232.out (by decide)) (fun _ hk => hk.2) (.slice Ao48 y236.length co48)) (fun _ hk => trivial)⟩, ⟨by (with_reducible repeat (first | refine kN_ ?_ _ | refine kD_ ?_ | refine kA_ ?_ _)); refine blk_far ?_ NB229_232.out _; (with_reducible repeat (first | refine kN_ ?_ _ | refine kD_ ?_ | refine kA_ ?_ _)); exact BK229.out⟩, ⟨by (with_reducible repeat (first | refine kN_ ?_ _ | refine kD_ ?_ | refine kA_ ?_ _)); refine blk_far ?_ NB230_232.out _; (with_reducible repeat (first | refine kN_ ?_ _ | refine kD_ ?_ | refine kA_ ?_ _)); exact BK230.out⟩, ⟨by (with_reducible repeat (first | refine kN_ ?_ _ | refine kD_ ?_ | refine kA_ ?_ _)); refine blk_put (cs := #[.bool a0_0, .int .i64 x233001_20, u233002]) ?_ 2 _ rfl; (with_reducible repeat (first | refine kN_ ?_ _ | refine kD_ ?_ | refine kA_ ?_ _)); exact BK232.out⟩, ⟨by repeat (first | (with_reducible first | exact HB.out | apply bA_ | apply bN_ | apply bD_ | refine bS_ ?_ GE229.out | refine bS_ ?_ GE230.out | refine bS_ ?_ GE232.out) | exact HB.out)⟩⟩
             ·rw [if_neg c40] at H
              exact absurd H (by simp)
            ·replace c39 := Bool.eq_false_iff.mpr c39
             subst c39
             have H1 : (if (Int.tmod x4_3 3) > 0 then (if x233002_3.length < 8796093022208 then (platformfwlaw02_path.l0 kj25 (wrap64 (x4_3 + 1)) a0_0 a0_1 l0_2 a0_0 x233001_20 (x233002_3 ++ [(⟨#[90]⟩ : ByteArray)])) else (none)) else (if x233002_3.length < 8796093022208 then (platformfwlaw02_path.l0 kj25 (wrap64 (x4_3 + 1)) a0_0 a0_1 l0_2 a0_0 x233001_20 (x233002_3 ++ [t234])) else (none))) = some (r1, r2, r3) := by rw [if_neg (show ¬ (false = true) by decide)] at H; exact H
             clear H
             have H := H1
             clear H1
             by_cases c50 : (Int.tmod x4_3 3) > 0
             ·rw [if_pos c50] at H
              have c50b0 : decide (0 < (Int.tmod x4_3 3)) = true := decide_eq_true c50
              clear c50
              by_cases c51 : x233002_3.length < 8796093022208
              ·rw [if_pos c51] at H
               have LMc51 := Aside0.mk c51
               clear c51
               obtain ⟨y239, hy239⟩ : ∃ y_ : List ByteArray, y_ = (x233002_3 ++ [(⟨#[90]⟩ : ByteArray)]) := ⟨_, rfl⟩
               replace H : (platformfwlaw02_path.l0 kj25 (wrap64 (x4_3 + 1)) a0_0 a0_1 l0_2 a0_0 x233001_20 y239) = some (r1, r2, r3) := by first | (rw [hy239]; with_reducible exact H) | (have H2_ := (Option.bind_some _ _).symm.trans H; rw [hy239]; with_reducible exact H2_) | (have H2_ := (Option.bind_some _ _).symm.trans H; with_reducible exact H2_) | with_reducible exact H | (rw [hy239]; exact H) | exact H
               have Ny239 := Aside0.mk hy239
               clear hy239
               have H' := Aside0.mk H
               clear H
               have hnb52 := NB229_230.out
               have hnc52 := NB230_229.out
               have hnb53 := NB229_232.out
               have hnc53 := NB232_229.out
               obtain ⟨hcz54_0, hcz54_1, hcz54_2⟩ := cells3_ BK229.out
               obtain ⟨hfz54_0, hfz54_1, hfz54_2⟩ := froz3_ BK229.out
               have p233 : 0 ≤ (x4_3 : Int) := of_decide_eq_true (by first | (with_reducible assumption) | assumption)
               have q233 : x4_3 < (l0_2.length : Int) := of_decide_eq_true (by first | (with_reducible assumption) | assumption)
               obtain ⟨ad233, e233, hx233_0⟩ := Kd.at_string HR0_2.out x4_3 p233 q233
               cases e233
               replace hx233_0 := (HB.out.cell (World.block_lt_of_cell? w _ hx233_0)).trans hx233_0
               replace p233 := eq_true p233
               replace q233 := eq_true q233
               go_wp2_with (first | ((with_reducible refine gate_callee (f := 26) rfl ?_); refine goesL_ (some 36) rfl rfl Tryd.func26 (by kernel_rfl) rfl #[.string (rdOf ByteArray.empty l0_2 x4_3)] rfl (by (try simp only [List.map_toArray, List.map_cons, List.map_nil]); first | done | rfl | (simp only [List.length_drop, List.length_take]; rfl)) ?_; (with_reducible refine (platformfwlaw02_seg.calls (rdOf ByteArray.empty l0_2 x4_3) t234 _ A37.out).mono ?_); rintro e w55 ⟨rfl, hb⟩; refine ⟨_, rfl, ?_⟩; have n0_ := Aside0.mk (Kd.R_below (by (with_reducible repeat (first | apply Kd.R_alloc | apply Kd.R_drewN | apply Kd.R_drew)); exact HO_233002.out) hb); have n1_ := Aside0.mk (blk_below (g := gb229) (o := .cells #[.bool a0_0, .int .i64 a0_1, .slice (some ad233) l0_2.length c0_2] 24 (0, 0)) (by (with_reducible repeat (first | refine kN_ ?_ _ | refine kD_ ?_ | refine kA_ ?_ _)); exact BK229.out) hb); have n2_ := Aside0.mk (blk_below (g := gb230) (o := .cells #[.bool false, .int .i64 0, .slice none 0 0] 24 (0, 0)) (by (with_reducible repeat (first | refine kN_ ?_ _ | refine kD_ ?_ | refine kA_ ?_ _)); exact BK230.out) hb); have n3_ := Aside0.mk (blk_below (g := gb232) (o := .cells #[.bool a0_0, .int .i64 x233001_20, u233002] 24 (0, 0)) (by (with_reducible repeat (first | refine kN_ ?_ _ | refine kD_ ?_ | refine kA_ ?_ _)); exact BK232.out) hb); have n4_ := Aside0.mk (below_step (by repeat (first | (with_reducible first | exact HB.out | apply bA_ | apply bN_ | apply bD_ | refine bS_ ?_ GE229.out | refine bS_ ?_ GE230.out | refine bS_ ?_ GE232.out) | exact HB.out)) hb); clear HO_233002; clear BK229; clear BK230; clear BK232; clear HB; have HO_233002 := n0_; have BK229 := n1_; have BK230 := n2_; have BK232 := n3_; have HB := n4_; clear n0_ n1_ n2_ n3_ n4_; (try clear hb); (try clear hb2); (try clear hk); (try clear hi)) | ((with_reducible refine gate_callee (f := 27) rfl ?_); refine goesL_ (some 38) rfl rfl Tryd.func27 (by kernel_rfl) rfl #[.string t234] rfl (by (try simp only [List.map_toArray, List.map_cons, List.map_nil]); first | done | rfl | (simp only [List.length_drop, List.length_take]; rfl)) ?_; (with_reducible refine (platformfwref01_Segment.calls kj25 t234 false _ A38.out).mono ?_); rintro e w' ⟨rfl, ⟨nd, rfl⟩⟩; refine ⟨_, rfl, ?_⟩; (try (rw [drewN_self w55]; generalize hq_ : World.drewN w55 _ = w55; have n0_ : Aside0 (Kd.R Kd.string 9 w55 w.heap.size (fun _ => True) u233002 x233002_3) := ⟨by rw [← hq_]; exact (by (with_reducible repeat (first | apply Kd.R_alloc | apply Kd.R_drewN | apply Kd.R_drew)); exact HO_233002.out)⟩; have n1_ : Aside0 (w55.heap[gb229]? = some (.cells #[.bool a0_0, .int .i64 a0_1, .slice (some ad233) l0_2.length c0_2] 24 (0, 0))) := ⟨by rw [← hq_]; exact (by (with_reducible repeat (first | refine kN_ ?_ _ | refine kD_ ?_ | refine kA_ ?_ _)); exact BK229.out)⟩; have n2_ : Aside0 (w55.heap[gb230]? = some (.cells #[.bool false, .int .i64 0, .slice none 0 0] 24 (0, 0))) := ⟨by rw [← hq_]; exact (by (with_reducible repeat (first | refine kN_ ?_ _ | refine kD_ ?_ | refine kA_ ?_ _)); exact BK230.out)⟩; have n3_ : Aside0 (w55.heap[gb232]? = some (.cells #[.bool a0_0, .int .i64 x233001_20, u233002] 24 (0, 0))) := ⟨by rw [← hq_]; exact (by (with_reducible repeat (first | refine kN_ ?_ _ | refine kD_ ?_ | refine kA_ ?_ _)); exact BK232.out)⟩; have n4_ : Aside0 (Below w.heap.size w w55) := ⟨by rw [← hq_]; exact (by repeat (first | (with_reducible first | exact HB.out | apply bA_ | apply bN_ | apply bD_ | refine bS_ ?_ GE229.out | refine bS_ ?_ GE230.out | refine bS_ ?_ GE232.out) | exact HB.out))⟩; clear HO_233002 BK229 BK230 BK232 HB hq_; have HO_233002 := n0_; have BK229 := n1_; have BK230 := n2_; have BK232 := n3_; have HB := n4_; clear n0_ n1_ n2_ n3_ n4_)); have hnb56 := NB232_230.out; have hnc56 := NB230_232.out; obtain ⟨hcz57_0, hcz57_1, hcz57_2⟩ := cells3_ BK232.out; obtain ⟨hfz57_0, hfz57_1, hfz57_2⟩ := froz3_ BK232.out) | ((with_reducible refine gate_builtin (b := .append) (xs := #[.tmp 46, .tmp 48]) rfl ?_); at_builtin; refine Kd.R_append Kd.string (w0 := w) w.heap.size rfl (.tmp 46) (.tmp 48) 22 9 (.string ⟨#[]⟩) 16 rfl Tryd.underlying22 info9 rfl (by decide) (by omega) u233002 x233002_3 (⟨#[90]⟩ : ByteArray) [.string (⟨#[90]⟩ : ByteArray)] (fun _ => True) (fun _ => False) rfl rfl ?aP (fun _ hk => hk.elim) ?aF ?aO ?aB ?aS ?aL ?_; (case aP => exact rfl); (case aB => exact (by repeat (first | (with_reducible first | exact HB.out | apply bA_ | apply bN_ | apply bD_ | refine bS_ ?_ GE229.out | refine bS_ ?_ GE230.out | refine bS_ ?_ GE232.out) | exact HB.out))); (case aF => exact (fun _ _ => trivial)); (case aO => exact (by (with_reducible repeat (first | apply Kd.R_alloc | apply Kd.R_drewN | apply Kd.R_drew)); exact HO_233002.out)); (case aS => exact (below_size (by repeat (first | (with_reducible first | exact HB.out | apply bA_ | apply bN_ | apply bD_ | refine bS_ ?_ GE229.out | refine bS_ ?_ GE230.out | refine bS_ ?_ GE232.out) | exact HB.out)))); (case aL => have := LMc51.out; omega); intro v240 w58 ho hb hg hat; rw [← Ny239.out] at ho; have n0_ := Aside0.mk (blk_grown (g := gb229) (o := .cells #[.bool a0_0, .int .i64 a0_1, .slice (some ad233) l0_2.length c0_2] 24 (0, 0)) (by (with_reducible repeat (first | refine kN_ ?_ _ | refine kD_ ?_ | refine kA_ ?_ _)); exact BK229.out) hg (Kd.R_ne HO_233002.out BK229.out (by decide))); have n1_ := Aside0.mk (blk_grown (g := gb230) (o := .cells #[.bool false, .int .i64 0, .slice none 0 0] 24 (0, 0)) (by (with_reducible repeat (first | refine kN_ ?_ _ | refine kD_ ?_ | refine kA_ ?_ _)); exact BK230.out) hg (Kd.R_ne HO_233002.out BK230.out (by decide))); have n2_ := Aside0.mk (blk_grown (g := gb232) (o := .cells #[.bool a0_0, .int .i64 x233001_20, u233002] 24 (0, 0)) (by (with_reducible repeat (first | refine kN_ ?_ _ | refine kD_ ?_ | refine kA_ ?_ _)); exact BK232.out) hg (Kd.R_ne HO_233002.out BK232.out (by decide))); have n3_ := Aside0.mk (hb); have n4_ := Aside0.mk (ho); clear BK229; clear BK230; clear BK232; clear HB; clear HO_233002; have BK229 := n0_; have BK230 := n1_; have BK232 := n2_; have HB := n3_; have HO241 := n4_; clear n0_ n1_ n2_ n3_ n4_; clear ho hb hg hat; obtain ⟨Ao59, co59, eo59⟩ := Kd.R_slice HO241.out; subst eo59; obtain ⟨hcz60_0, hcz60_1, hcz60_2⟩ := cells3_ BK232.out; obtain ⟨hfz60_0, hfz60_1, hfz60_2⟩ := froz3_ BK232.out))
               go_roundg kj25
               case measure => have := HJ2.out; have := HJ20.out; have := HK3.out; have := HJ25.out; omega
               case rel => exact ⟨(wrap64 (x4_3 + 1)), (y239), (.slice Ao59 y239.length co59), (by first | rfl | (simp; done) | (simp [*]; done)), H', ⟨by have := HJ2.out; have := HJ20.out; have := HK3.out; have := HJ25.out; omega⟩, ⟨by (with_reducible repeat (first | apply Kd.R_alloc | apply Kd.R_drewN | apply Kd.R_drew)); exact Kd.R_mono (Kd.R_far (p := ⟨gb232, 2, none⟩) (Kd.R_types HO241.out BK232.out (by decide)) (fun _ hk => hk.2) (.slice Ao59 y239.length co59)) (fun _ hk => trivial)⟩, ⟨by (with_reducible repeat (first | refine kN_ ?_ _ | refine kD_ ?_ | refine kA_ ?_ _)); refine blk_far ?_ NB229_232.out _; (with_reducible repeat (first | refine kN_ ?_ _ | refine kD_ ?_ | refine kA_ ?_ _)); exact BK229.out⟩, ⟨by (with_reducible repeat (first | refine kN_ ?_ _ | refine kD_ ?_ | refine kA_ ?_ _)); refine blk_far ?_ NB230_232.out _; (with_reducible repeat (first | refine kN_ ?_ _ | refine kD_ ?_ | refine kA_ ?_ _)); exact BK230.out⟩, ⟨by (with_reducible repeat (first | refine kN_ ?_ _ | refine kD_ ?_ | refine kA_ ?_ _)); refine blk_put (cs := #[.bool a0_0, .int .i64 x233001_20, u233002]) ?_ 2 _ rfl; (with_reducible repeat (first | refine kN_ ?_ _ | refine kD_ ?_ | refine kA_ ?_ _)); exact BK232.out⟩, ⟨by repeat (first | (with_reducible first | exact HB.out | apply bA_ | apply bN_ | apply bD_ | refine bS_ ?_ GE229.out | refine bS_ ?_ GE230.out | refine bS_ ?_ GE232.out) | exact HB.out)⟩⟩
              ·rw [if_neg c51] at H
               exact absurd H (by simp)
             ·rw [if_neg c50] at H
              have c50b0 : decide (0 < (Int.tmod x4_3 3)) = false := decide_eq_false c50
              clear c50
              by_cases c61 : x233002_3.length < 8796093022208
              ·rw [if_pos c61] at H
               have LMc61 := Aside0.mk c61
               clear c61
               obtain ⟨y242, hy242⟩ : ∃ y_ : List ByteArray, y_ = (x233002_3 ++ [t234]) := ⟨_, rfl⟩
               replace H : (platformfwlaw02_path.l0 kj25 (wrap64 (x4_3 + 1)) a0_0 a0_1 l0_2 a0_0 x233001_20 y242) = some (r1, r2, r3) := by first | (rw [hy242]; with_reducible exact H) | (have H2_ := (Option.bind_some _ _).symm.trans H; rw [hy242]; with_reducible exact H2_) | (have H2_ := (Option.bind_some _ _).symm.trans H; with_reducible exact H2_) | with_reducible exact H | (rw [hy242]; exact H) | exact H
               have Ny242 := Aside0.mk hy242
               clear hy242
               have H' := Aside0.mk H
               clear H
               have hnb62 := NB229_230.out
               have hnc62 := NB230_229.out
               have hnb63 := NB229_232.out
               have hnc63 := NB232_229.out
               obtain ⟨hcz64_0, hcz64_1, hcz64_2⟩ := cells3_ BK229.out
               obtain ⟨hfz64_0, hfz64_1, hfz64_2⟩ := froz3_ BK229.out
               have p233 : 0 ≤ (x4_3 : Int) := of_decide_eq_true (by first | (with_reducible assumption) | assumption)
               have q233 : x4_3 < (l0_2.length : Int) := of_decide_eq_true (by first | (with_reducible assumption) | assumption)
               obtain ⟨ad233, e233, hx233_0⟩ := Kd.at_string HR0_2.out x4_3 p233 q233
               cases e233
               replace hx233_0 := (HB.out.cell (World.block_lt_of_cell? w _ hx233_0)).trans hx233_0
               replace p233 := eq_true p233
               replace q233 := eq_true q233
               go_wp2_with (first | ((with_reducible refine gate_callee (f := 26) rfl ?_); refine goesL_ (some 36) rfl rfl Tryd.func26 (by kernel_rfl) rfl #[.string (rdOf ByteArray.empty l0_2 x4_3)] rfl (by (try simp only [List.map_toArray, List.map_cons, List.map_nil]); first | done | rfl | (simp only [List.length_drop, List.length_take]; rfl)) ?_; (with_reducible refine (platformfwlaw02_seg.calls (rdOf ByteArray.empty l0_2 x4_3) t234 _ A37.out).mono ?_); rintro e w65 ⟨rfl, hb⟩; refine ⟨_, rfl, ?_⟩; have n0_ := Aside0.mk (Kd.R_below (by (with_reducible repeat (first | apply Kd.R_alloc | apply Kd.R_drewN | apply Kd.R_drew)); exact HO_233002.out) hb); have n1_ := Aside0.mk (blk_below (g := gb229) (o := .cells #[.bool a0_0, .int .i64 a0_1, .slice (some ad233) l0_2.length c0_2] 24 (0, 0)) (by (with_reducible repeat (first | refine kN_ ?_ _ | refine kD_ ?_ | refine kA_ ?_ _)); exact BK229.out) hb); have n2_ := Aside0.mk (blk_below (g := gb230) (o := .cells #[.bool false, .int .i64 0, .slice none 0 0] 24 (0, 0)) (by (with_reducible repeat (first | refine kN_ ?_ _ | refine kD_ ?_ | refine kA_ ?_ _)); exact BK230.out) hb); have n3_ := Aside0.mk (blk_below (g := gb232) (o := .cells #[.bool a0_0, .int .i64 x233001_20, u233002] 24 (0, 0)) (by (with_reducible repeat (first | refine kN_ ?_ _ | refine kD_ ?_ | refine kA_ ?_ _)); exact BK232.out) hb); have n4_ := Aside0.mk (below_step (by repeat (first | (with_reducible first | exact HB.out | apply bA_ | apply bN_ | apply bD_ | refine bS_ ?_ GE229.out | refine bS_ ?_ GE230.out | refine bS_ ?_ GE232.out) | exact HB.out)) hb); clear HO_233002; clear BK229; clear BK230; clear BK232; clear HB; have HO_233002 := n0_; have BK229 := n1_; have BK230 := n2_; have BK232 := n3_; have HB := n4_; clear n0_ n1_ n2_ n3_ n4_; (try clear hb); (try clear hb2); (try clear hk); (try clear hi)) | ((with_reducible refine gate_callee (f := 27) rfl ?_); refine goesL_ (some 38) rfl rfl Tryd.func27 (by kernel_rfl) rfl #[.string t234] rfl (by (try simp only [List.map_toArray, List.map_cons, List.map_nil]); first | done | rfl | (simp only [List.length_drop, List.length_take]; rfl)) ?_; (with_reducible refine (platformfwref01_Segment.calls kj25 t234 false _ A38.out).mono ?_); rintro e w' ⟨rfl, ⟨nd, rfl⟩⟩; refine ⟨_, rfl, ?_⟩; (try (rw [drewN_self w65]; generalize hq_ : World.drewN w65 _ = w65; have n0_ : Aside0 (Kd.R Kd.string 9 w65 w.heap.size (fun _ => True) u233002 x233002_3) := ⟨by rw [← hq_]; exact (by (with_reducible repeat (first | apply Kd.R_alloc | apply Kd.R_drewN | apply Kd.R_drew)); exact HO_233002.out)⟩; have n1_ : Aside0 (w65.heap[gb229]? = some (.cells #[.bool a0_0, .int .i64 a0_1, .slice (some ad233) l0_2.length c0_2] 24 (0, 0))) := ⟨by rw [← hq_]; exact (by (with_reducible repeat (first | refine kN_ ?_ _ | refine kD_ ?_ | refine kA_ ?_ _)); exact BK229.out)⟩; have n2_ : Aside0 (w65.heap[gb230]? = some (.cells #[.bool false, .int .i64 0, .slice none 0 0] 24 (0, 0))) := ⟨by rw [← hq_]; exact (by (with_reducible repeat (first | refine kN_ ?_ _ | refine kD_ ?_ | refine kA_ ?_ _)); exact BK230.out)⟩; have n3_ : Aside0 (w65.heap[gb232]? = some (.cells #[.bool a0_0, .int .i64 x233001_20, u233002] 24 (0, 0))) := ⟨by rw [← hq_]; exact (by (with_reducible repeat (first | refine kN_ ?_ _ | refine kD_ ?_ | refine kA_ ?_ _)); exact BK232.out)⟩; have n4_ : Aside0 (Below w.heap.size w w65) := ⟨by rw [← hq_]; exact (by repeat (first | (with_reducible first | exact HB.out | apply bA_ | apply bN_ | apply bD_ | refine bS_ ?_ GE229.out | refine bS_ ?_ GE230.out | refine bS_ ?_ GE232.out) | exact HB.out))⟩; clear HO_233002 BK229 BK230 BK232 HB hq_; have HO_233002 := n0_; have BK229 := n1_; have BK230 := n2_; have BK232 := n3_; have HB := n4_; clear n0_ n1_ n2_ n3_ n4_)); have hnb66 := NB232_230.out; have hnc66 := NB230_232.out; obtain ⟨hcz67_0, hcz67_1, hcz67_2⟩ := cells3_ BK232.out; obtain ⟨hfz67_0, hfz67_1, hfz67_2⟩ := froz3_ BK232.out) | ((with_reducible refine gate_builtin (b := .append) (xs := #[.tmp 46, .tmp 48]) rfl ?_); at_builtin; refine Kd.R_append Kd.string (w0 := w) w.heap.size rfl (.tmp 46) (.tmp 48) 22 9 (.string ⟨#[]⟩) 16 rfl Tryd.underlying22 info9 rfl (by decide) (by omega) u233002 x233002_3 t234 [.string t234] (fun _ => True) (fun _ => False) rfl rfl ?aP (fun _ hk => hk.elim) ?aF ?aO ?aB ?aS ?aL ?_; (case aP => exact rfl); (case aB => exact (by repeat (first | (with_reducible first | exact HB.out | apply bA_ | apply bN_ | apply bD_ | refine bS_ ?_ GE229.out | refine bS_ ?_ GE230.out | refine bS_ ?_ GE232.out) | exact HB.out))); (case aF => exact (fun _ _ => trivial)); (case aO => exact (by (with_reducible repeat (first | apply Kd.R_alloc | apply Kd.R_drewN | apply Kd.R_drew)); exact HO_233002.out)); (case aS => exact (below_size (by repeat (first | (with_reducible first | exact HB.out | apply bA_ | apply bN_ | apply bD_ | refine bS_ ?_ GE229.out | refine bS_ ?_ GE230.out | refine bS_ ?_ GE232.out) | exact HB.out)))); (case aL => have := LMc61.out; omega); intro v243 w68 ho hb hg hat; rw [← Ny242.out] at ho; have n0_ := Aside0.mk (blk_grown (g := gb229) (o := .cells #[.bool a0_0, .int .i64 a0_1, .slice (some ad233) l0_2.length c0_2] 24 (0, 0)) (by (with_reducible repeat (first | refine kN_ ?_ _ | refine kD_ ?_ | refine kA_ ?_ _)); exact BK229.out) hg (Kd.R_ne HO_233002.out BK229.out (by decide))); have n1_ := Aside0.mk (blk_grown (g := gb230) (o := .cells #[.bool false, .int .i64 0, .slice none 0 0] 24 (0, 0)) (by (with_reducible repeat (first | refine kN_ ?_ _ | refine kD_ ?_ | refine kA_ ?_ _)); exact BK230.out) hg (Kd.R_ne HO_233002.out BK230.out (by decide))); have n2_ := Aside0.mk (blk_grown (g := gb232) (o := .cells #[.bool a0_0, .int .i64 x233001_20, u233002] 24 (0, 0)) (by (with_reducible repeat (first | refine kN_ ?_ _ | refine kD_ ?_ | refine kA_ ?_ _)); exact BK232.out) hg (Kd.R_ne HO_233002.out BK232.out (by decide))); have n3_ := Aside0.mk (hb); have n4_ := Aside0.mk (ho); clear BK229; clear BK230; clear BK232; clear HB; clear HO_233002; have BK229 := n0_; have BK230 := n1_; have BK232 := n2_; have HB := n3_; have HO244 := n4_; clear n0_ n1_ n2_ n3_ n4_; clear ho hb hg hat; obtain ⟨Ao69, co69, eo69⟩ := Kd.R_slice HO244.out; subst eo69; obtain ⟨hcz70_0, hcz70_1, hcz70_2⟩ := cells3_ BK232.out; obtain ⟨hfz70_0, hfz70_1, hfz70_2⟩ := froz3_ BK232.out))
               go_roundg kj25
               case measure => have := HJ2.out; have := HJ20.out; have := HK3.out; have := HJ25.out; omega
               case rel => exact ⟨(wrap64 (x4_3 + 1)), (y242), (.slice Ao69 y242.length co69), (by first | rfl | (simp; done) | (simp [*]; done)), H', ⟨by have := HJ2.out; have := HJ20.out; have := HK3.out; have := HJ25.out; omega⟩, ⟨by (with_reducible repeat (first | apply Kd.R_alloc | apply Kd.R_drewN | apply Kd.R_drew)); exact Kd.R_mono (Kd.R_far (p := ⟨gb232, 2, none⟩) (Kd.R_types HO244.out BK232.out (by decide)) (fun _ hk => hk.2) (.slice Ao69 y242.length co69)) (fun _ hk => trivial)⟩, ⟨by (with_reducible repeat (first | refine kN_ ?_ _ | refine kD_ ?_ | refine kA_ ?_ _)); refine blk_far ?_ NB229_232.out _; (with_reducible repeat (first | refine kN_ ?_ _ | refine kD_ ?_ | refine kA_ ?_ _)); exact BK229.out⟩, ⟨by (with_reducible repeat (first | refine kN_ ?_ _ | refine kD_ ?_ | refine kA_ ?_ _)); refine blk_far ?_ NB230_232.out _; (with_reducible repeat (first | refine kN_ ?_ _ | refine kD_ ?_ | refine kA_ ?_ _)); exact BK230.out⟩, ⟨by (with_reducible repeat (first | refine kN_ ?_ _ | refine kD_ ?_ | refine kA_ ?_ _)); refine blk_put (cs := #[.bool a0_0, .int .i64 x233001_20, u233002]) ?_ 2 _ rfl; (with_reducible repeat (first | refine kN_ ?_ _ | refine kD_ ?_ | refine kA_ ?_ _)); exact BK232.out⟩, ⟨by repeat (first | (with_reducible first | exact HB.out | apply bA_ | apply bN_ | apply bD_ | refine bS_ ?_ GE229.out | refine bS_ ?_ GE230.out | refine bS_ ?_ GE232.out) | exact HB.out)⟩⟩
              ·rw [if_neg c61] at H
               exact absurd H (by simp)
           ·rw [if_neg c36] at H
            exact absurd H (by simp)
          ·rw [if_neg c35] at H
           exact absurd H (by simp)
         ·replace c34 := Bool.eq_false_iff.mpr c34
          subst c34
          have H1 : (some (a0_0, x233001_20, x233002_3)) = some (r1, r2, r3) := by rw [if_neg (show ¬ (false = true) by decide)] at H; exact H
          clear H
          have H := H1
          clear H1
          simp only [Option.some.injEq, Prod.mk.injEq] at H
          obtain ⟨rfl, rfl, rfl⟩ := H
          have hnb71 := NB232_229.out
          have hnc71 := NB229_232.out
          have hnb72 := NB232_230.out
          have hnc72 := NB230_232.out
          obtain ⟨hcz73_0, hcz73_1, hcz73_2⟩ := cells3_ BK232.out
          obtain ⟨hfz73_0, hfz73_1, hfz73_2⟩ := froz3_ BK232.out
          have hnb74 := NB230_229.out
          have hnc74 := NB229_230.out
          obtain ⟨hcz75_0, hcz75_1, hcz75_2⟩ := cells3_ BK230.out
          obtain ⟨hfz75_0, hfz75_1, hfz75_2⟩ := froz3_ BK230.out
          obtain ⟨Ao76, co76, eo76⟩ := Kd.R_slice HO_233002.out
          subst eo76
          go_wp2
          refine bodyPost_ret (results_cell_row rfl _ _ gb230 24 #[.bool a0_0, .int .i64 x233001_20, .slice Ao76 x233002_3.length co76] (0, 0) _ rfl (by (with_reducible repeat (first | refine kN_ ?_ _ | refine kD_ ?_ | refine kA_ ?_ _)); refine blk_put (cs := #[.bool a0_0, .int .i64 x233001_20, .slice none 0 0]) ?_ 2 _ rfl; (with_reducible repeat (first | refine kN_ ?_ _ | refine kD_ ?_ | refine kA_ ?_ _)); refine blk_put (cs := #[.bool a0_0, .int .i64 0, .slice none 0 0]) ?_ 1 _ rfl; (with_reducible repeat (first | refine kN_ ?_ _ | refine kD_ ?_ | refine kA_ ?_ _)); refine blk_put (cs := #[.bool false, .int .i64 0, .slice none 0 0]) ?_ 0 _ rfl; (with_reducible repeat (first | refine kN_ ?_ _ | refine kD_ ?_ | refine kA_ ?_ _)); exact BK230.out) Tryd.underlying24 rfl (by kernel_rfl)) rfl ?_
          exact ⟨_, by first | rfl | (simp [errW_none, errW_some] <;> rfl) | (simp [*, errW_none, errW_some] <;> rfl), by (with_reducible repeat (first | apply Kd.R_alloc | apply Kd.R_drewN | apply Kd.R_drew)); exact Kd.R_mono (Kd.R_far (p := ⟨gb230, 2, none⟩) (Kd.R_far (p := ⟨gb230, 1, none⟩) (Kd.R_far (p := ⟨gb230, 0, none⟩) (Kd.R_types HO_233002.out BK230.out (by decide)) (fun _ hk => hk.2) (.bool a0_0)) (fun _ hk => hk.2) (.int .i64 x233001_20)) (fun _ hk => hk.2) (.slice Ao76 x233002_3.length co76)) (fun _ hk => trivial), by repeat (first | (with_reducible first | exact HB.out | apply bA_ | apply bN_ | apply bD_ | refine bS_ ?_ GE229.out | refine bS_ ?_ GE230.out | refine bS_ ?_ GE232.out) | exact HB.out)⟩

end Go.Proofs.YtpjajjmipbjliaaDoor.PNspathRoundTrip
