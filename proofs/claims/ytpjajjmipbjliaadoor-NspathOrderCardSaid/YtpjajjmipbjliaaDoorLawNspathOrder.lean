/- The row of the law NspathOrder, out of its plain law and the walk. -/
import Derived.Test.YtpjajjmipbjliaaDoorCards
import Derived.Test.YtpjajjmipbjliaaDoorTie
import Derived.Test.YtpjajjmipbjliaaDoorPureNspathOrder
import Derived.Test.YtpjajjmipbjliaaDoorOpen
import Derived.Test.YtpjajjmipbjliaaDoorPNspathOrderx5
import Derived.WalkKit
import Derived.ProofKit
import Derived.OpenShut
import Derived.ShutString
import Derived.ChangeOld
import Derived.Below
import Derived.SizedLaws
import Derived.Carry
import Derived.Deep.DeepHandedRow
import Derived.Lib.LaidTab
import Derived.LaidMore
import Derived.Lay
namespace Go.Proofs.YtpjajjmipbjliaaDoor.nspathOrder
open Go.ChangeShapes Go.WideShapes Go.ChangeAt Go.RowKit Go.Proofs.YtpjajjmipbjliaaDoor.PNspathOrder Go.Proofs.YtpjajjmipbjliaaDoorW.PrintWords Go.Proofs.YtpjajjmipbjliaaDoor.Plain
open Go.ChangeMaps (open_string shut_string)
set_option linter.unusedVariables false
set_option maxRecDepth 100000
theorem own : ownKnob Tryd.prog.godebug = none := by kernel_rfl
theorem laidOut : laidOutB Tryd.prog = true := by kernel_rfl
theorem seg (cs : List Value) (o c : Nat) : cs.drop o = (cs.drop o).take c ++ cs.drop (o + c) := by rw [← List.drop_drop, List.take_append_drop]
theorem el9 {H : Type} {enc : TypeId × Value → H} {W : World} (fuel : Nat) (cs : List Value) (y : DataW H × List MemPlace) (h : DataW.trod enc Tryd.prog W 0 (fun _ => true) true fuel 9 cs = some y) (hw : Light Tryd.prog 9 y.1) : ∃ x, Kd.K Kd.string W x cs ∧ x.size ≤ 140737488351232 := by
  obtain ⟨n, rfl, hn⟩ := open_str Tryd.underlying9 h hw
  exact ⟨n, rfl, hn⟩
theorem opT24 {H : Type} {enc : TypeId × Value → H} {W : World} {fuel : Nat} {cs : List Value} {y : DataW H × List MemPlace} (h : DataW.trod enc Tryd.prog W 0 (fun _ => true) true fuel 24 cs = some y) (hw : Light Tryd.prog 24 y.1) : ∃ (x_0 : Bool) (x_1 : Int) (Ax_2 : Option Addr) (cx_2 : Nat) (x_2 : List ByteArray), cs = [.bool x_0, .int .i64 x_1, .slice Ax_2 x_2.length cx_2] ∧ ((Lit.int .i64 x_1).wf = true) ∧ (x_2.length ≤ cx_2 ∧ Kd.C Kd.string W Ax_2 x_2.length x_2 ∧ x_2.length * 16 ≤ 140737488351232 ∧ (∀ z_ ∈ x_2, z_.size ≤ 140737488351232)) := by
  obtain ⟨xs, n, rfl, rfl, hl, hlen, hf⟩ := DataW.trod_struct Tryd.underlying24 h
  rw [show Tryd.prog.cellsOf 24 = 3 by kernel_rfl] at hl
  have hxl : xs.length = 3 := hlen
  have g0 : DataW.trod enc Tryd.prog W 0 (fun _ => true) true n 4 ((cs.drop 0).take (Tryd.prog.cellsOf 4)) = some (xs[0]'(by omega)) := (hf 0 _ rfl).trans (List.getElem?_eq_getElem (by omega))
  rw [show Tryd.prog.cellsOf 4 = 1 by kernel_rfl] at g0
  obtain ⟨x_0, e0⟩ := open_bit Tryd.underlying4 g0
  have g1 : DataW.trod enc Tryd.prog W 0 (fun _ => true) true n 3 ((cs.drop 1).take (Tryd.prog.cellsOf 3)) = some (xs[1]'(by omega)) := (hf 1 _ rfl).trans (List.getElem?_eq_getElem (by omega))
  rw [show Tryd.prog.cellsOf 3 = 1 by kernel_rfl] at g1
  obtain ⟨x_1, e1, hox_1⟩ := open_num Tryd.underlying3 g1
  have g2 : DataW.trod enc Tryd.prog W 0 (fun _ => true) true n 22 ((cs.drop 2).take (Tryd.prog.cellsOf 22)) = some (xs[2]'(by omega)) := (hf 2 _ rfl).trans (List.getElem?_eq_getElem (by omega))
  rw [show Tryd.prog.cellsOf 22 = 1 by kernel_rfl] at g2
  obtain ⟨Ax_2, cx_2, x_2, e2, hlx_2, hcx_2, hbx_2, hzx_2⟩ := open_slice Kd.string (fun z_ => z_.size ≤ 140737488351232) Tryd.underlying22 (by kernel_rfl) el9 g2 (light_field Tryd.underlying24 hw (j := 2) rfl (by rw [List.getElem?_map, List.getElem?_eq_getElem (show 2 < xs.length by omega)]; rfl))
  rw [show Tryd.prog.bytesOf 9 = 16 by kernel_rfl] at hbx_2
  have d3 : cs.drop 3 = [] := List.drop_of_length_le (by omega)
  have d2 := seg cs 2 1
  rw [e2, show 2 + 1 = 3 from rfl, d3] at d2
  have d1 := seg cs 1 1
  rw [e1, show 1 + 1 = 2 from rfl, d2] at d1
  have d0 := seg cs 0 1
  rw [e0, show 0 + 1 = 1 from rfl, d1] at d0
  exact ⟨x_0, x_1, Ax_2, cx_2, x_2, d0, hox_1, ⟨hlx_2, hcx_2, hbx_2, hzx_2⟩⟩
set_option maxHeartbeats 4000000 in
theorem contract (H : Type) (enc : TypeId × Value → H) (W : World) (base : Nat) (args : Array Value) (ds gs : List (DataW H)) (before : List MemPlace)
    (hval0 : ∀ (j : Nat) t v, Tryd.f9.params[j]? = some t → args[j]? = some v → Value.okWide Tryd.prog W .any base t v)
    (hW : DataW.Whole enc Tryd.prog Tryd.f9.params.toList Rows.nspathOrderSpec.vars false W args.toList ds gs before)
    (hsz : (DataW.weightsEach Tryd.prog (Tryd.f9.params.toList ++ Rows.nspathOrderSpec.plain.varTypes Tryd.prog) (ds ++ gs)).all (· ≤ reachBytes) = true) :
    Calls Tryd.prog 9 args W fun e W' => ∃ v, e = .returned v ∧ Rows.nspathOrderSpec.post enc Tryd.prog Tryd.f9 false true false false W args v W' := by
  have hval : ∀ (j : Nat) t v, Tryd.f9.params[j]? = some t → args[j]? = some v → Value.okWide Tryd.prog W .any base t v := hval0
  have hW' := hW
  obtain ⟨p, q, hA0, hV, rfl, hfz, hnd⟩ := hW
  have hA : DataW.TrodAll enc Tryd.prog W 0 (fun _ => true) true Tryd.f9.params.toList args.toList ds p := hA0
  rw [Tryd.params9] at hA hval hsz
  obtain ⟨v0, vs0, d0, ds0, p0, q0, hargs, rfl, rfl, h0, r0⟩ := trodAll_cons hA
  obtain ⟨v1, vs1, d1, ds1, p1, q1, rfl, rfl, rfl, h1, r1⟩ := trodAll_cons r0
  obtain ⟨v2, vs2, d2, ds2, p2, q2, rfl, rfl, rfl, h2, r2⟩ := trodAll_cons r1
  obtain ⟨rfl, rfl, rfl⟩ := trodAll_nil r2
  obtain rfl : args = #[v0, v1, v2] := by cases args; simp_all
  obtain ⟨rfl, rfl⟩ := trodVars_none hV
  have k0 := h0
  have lt0 : ∀ x ∈ p0, x.block < W.heap.size := by obtain ⟨m, hm⟩ := k0; exact DataW.trod_lt m _ _ _ hm
  obtain ⟨fuel0, hf0⟩ := h0
  obtain ⟨cs0, rfl, _⟩ := okWide_struct Tryd.underlying24 (hval 0 24 v0 rfl rfl)
  obtain ⟨a0_0, a0_1, A0_2, c0_2, l0_2, e0, hb0_1, ⟨hc0_2, hr0_2, hb0_2⟩⟩ := opT24 (cs := cs0.toList) hf0 (light_of_all hsz (j := 0) (t := 24) rfl rfl)
  obtain rfl : cs0 = #[.bool a0_0, .int .i64 a0_1, .slice A0_2 l0_2.length c0_2] := Array.toList_inj.1 e0
  have k1 := h1
  have lt1 : ∀ x ∈ p1, x.block < W.heap.size := by obtain ⟨m, hm⟩ := k1; exact DataW.trod_lt m _ _ _ hm
  obtain ⟨fuel1, hf1⟩ := h1
  obtain ⟨cs1, rfl, _⟩ := okWide_struct Tryd.underlying24 (hval 1 24 v1 rfl rfl)
  obtain ⟨a1_0, a1_1, A1_2, c1_2, l1_2, e1, hb1_1, ⟨hc1_2, hr1_2, hb1_2⟩⟩ := opT24 (cs := cs1.toList) hf1 (light_of_all hsz (j := 1) (t := 24) rfl rfl)
  obtain rfl : cs1 = #[.bool a1_0, .int .i64 a1_1, .slice A1_2 l1_2.length c1_2] := Array.toList_inj.1 e1
  have k2 := h2
  have lt2 : ∀ x ∈ p2, x.block < W.heap.size := by obtain ⟨m, hm⟩ := k2; exact DataW.trod_lt m _ _ _ hm
  obtain ⟨fuel2, hf2⟩ := h2
  obtain ⟨cs2, rfl, _⟩ := okWide_struct Tryd.underlying24 (hval 2 24 v2 rfl rfl)
  obtain ⟨a2_0, a2_1, A2_2, c2_2, l2_2, e2, hb2_1, ⟨hc2_2, hr2_2, hb2_2⟩⟩ := opT24 (cs := cs2.toList) hf2 (light_of_all hsz (j := 2) (t := 24) rfl rfl)
  obtain rfl : cs2 = #[.bool a2_0, .int .i64 a2_1, .slice A2_2 l2_2.length c2_2] := Array.toList_inj.1 e2
  obtain ⟨k, hk⟩ := Pure.NspathOrder a0_0 a0_1 l0_2 a1_0 a1_1 l1_2 a2_0 a2_1 l2_2 hb0_1 hb0_2 hb1_1 hb1_2 hb2_1 hb2_2
  refine (platformfwlaw02_NspathOrder.calls k a0_0 a0_1 A0_2 c0_2 l0_2 a1_0 a1_1 A1_2 c1_2 l1_2 a2_0 a2_1 A2_2 c2_2 l2_2 true W hr0_2 hc0_2 hr1_2 hc1_2 hr2_2 hc2_2 ⟨rfl⟩ hk).mono fun e W' ⟨he, bel⟩ => ?_
  subst he
  exact ⟨_, rfl, _, _, _, [], _, [], hW', trodAll_mk1 (shut_bool Tryd.underlying4 _), (trodAll_cons_mk (Below.trod laidOut (by kernel_rfl) (of_decide_eq_true (by kernel_rfl)) k0 bel lt0) (trodAll_cons_mk (Below.trod laidOut (by kernel_rfl) (of_decide_eq_true (by kernel_rfl)) k1 bel lt1) (trodAll_cons_mk (Below.trod laidOut (by kernel_rfl) (of_decide_eq_true (by kernel_rfl)) k2 bel lt2) trodAll_mk0))), rfl, bel.frame _, fun h => by cases h⟩
/-- The world of the witness: what the row lists is laid. -/
noncomputable def lw (os : Os) : World := World.laidAll Tryd.prog os Rows.nspathOrderRow.laid
theorem laid_met (os : Os) : laidMet Tryd.prog Rows.nspathOrderRow.laid ((lw os).forCall (fun _ _ => 0) ⟨#[], #[.agg #[.bool false, .int .i64 0, .slice none 0 0], .agg #[.bool false, .int .i64 0, .slice none 0 0], .agg #[.bool false, .int .i64 0, .slice none 0 0]], []⟩).memory := laidMet_laidAll _ (by kernel_rfl) (by kernel_rfl)
theorem reads (os : Os) {H : Type} (enc : TypeId × Value → H) : ∃ places, DataW.whole enc Tryd.prog ((lw os).forCall (fun _ _ => 0) ⟨#[], #[.agg #[.bool false, .int .i64 0, .slice none 0 0], .agg #[.bool false, .int .i64 0, .slice none 0 0], .agg #[.bool false, .int .i64 0, .slice none 0 0]], []⟩).memory Tryd.f9.params.toList Rows.nspathOrderSpec.vars false (#[.agg #[.bool false, .int .i64 0, .slice none 0 0], .agg #[.bool false, .int .i64 0, .slice none 0 0], .agg #[.bool false, .int .i64 0, .slice none 0 0]] : Array Value).toList 8 = some ([.agg [.lit (.bool false), .lit (.int .i64 0), .nil], .agg [.lit (.bool false), .lit (.int .i64 0), .nil], .agg [.lit (.bool false), .lit (.int .i64 0), .nil]], [], places) :=
  ⟨[], by kernel_rfl⟩
theorem lifted (os : Os) (started : os.Started) (H : Type) (enc : TypeId × Value → H) (F : Stop.Interp) :
    ReturnsInHanded {} Tryd.checked os 9 .any ((OpenSpec.ofChange Rows.nspathOrderSpec).preRow enc Tryd.prog Tryd.f9 Rows.nspathOrderRow.domain false Rows.nspathOrderRow.laid) (((OpenSpec.ofChange Rows.nspathOrderSpec).at F).post enc Tryd.prog Tryd.f9 false true false false) := by
  obtain ⟨places, hx⟩ := reads os enc
  refine returnsInHanded_of_row (C := Tryd.checked) (s := OpenSpec.ofChange Rows.nspathOrderSpec) own started (by kernel_rfl) Tryd.func9
    (witness_row_at (enc := enc) (C := Tryd.checked) false (lw os) #[.agg #[.bool false, .int .i64 0, .slice none 0 0], .agg #[.bool false, .int .i64 0, .slice none 0 0], .agg #[.bool false, .int .i64 0, .slice none 0 0]] rfl (by kernel_rfl) (by kernel_rfl) (by kernel_rfl)
      (OpenSpec.preRow_of_cond 8 hx (by kernel_rfl) (fun k hk => by cases hk) (by kernel_rfl) (laid_met os))) ?_
  intro W base args ds gs before hval hW _ _ hsz _ _ _
  exact contract H enc W base args ds gs before hval hW hsz
theorem said : Rows.nspathOrderRow.holds Tryd.pinned (OpenSpec.ofChange Rows.nspathOrderSpec) :=
  OpenClaim.holds_of_cond 9 Tryd.f9 rfl rfl rfl rfl rfl rfl rfl ⟨rfl, rfl, rfl, rfl, rfl⟩ rfl rfl rfl rfl rfl (by kernel_rfl) Tryd.func9 (by kernel_rfl)
    (of_decide_eq_true (by kernel_rfl)) (by unfold Func.isWrapper; first | (rw [if_pos (by decide +kernel)]; kernel_rfl) | (rw [if_neg (by decide +kernel)]; exact ⟨rfl, rfl⟩))
    (fun os started H enc _ F => by rw [OpenClaim.pre_eq_preRow]; exact lifted os started H enc F)
theorem plain (f : FuncId) (fn : Func) (hf : Tryd.pinned.checked.prog.funcNamed "platformfw/platformfwlaw02.NspathOrder" = some f) (hfn : Tryd.pinned.checked.prog.funcs[f]? = some fn) :
    false = Tryd.pinned.checked.prog.looks [] ∧ ∀ (j : Nat) t, fn.params[j]? = some t → Tryd.pinned.checked.prog.wantsStandIn t = false := by
  obtain rfl : f = 9 := Option.some.inj ((show Tryd.prog.funcNamed "platformfw/platformfwlaw02.NspathOrder" = some 9 by kernel_rfl).symm.trans hf) |>.symm
  obtain rfl : fn = Tryd.f9 := (Option.some.inj (Tryd.func9.symm.trans hfn)).symm
  refine ⟨by kernel_rfl, fun j t ht => ?_⟩
  rw [Tryd.params9] at ht
  have hm := Array.mem_of_getElem? ht
  simp only [List.mem_toArray, List.mem_cons, List.not_mem_nil, or_false] at hm
  rcases hm with rfl | rfl | rfl
  all_goals (first | exact (show Tryd.prog.wantsStandIn 24 = false by kernel_rfl) | exact (show Tryd.prog.wantsStandIn 24 = false by kernel_rfl) | exact (show Tryd.prog.wantsStandIn 24 = false by kernel_rfl))
theorem proved : Rows.NspathOrderCardSaid :=
  Claim7.holds_tied_plain_at .later [] _ _ _ _ said (fun _ h => by cases h) (by kernel_rfl) (fun _ h => by cases h) nspathOrder_row_tie rfl ⟨rfl, rfl⟩ (by kernel_rfl) rfl plain (by kernel_rfl)
#print axioms proved
end Go.Proofs.YtpjajjmipbjliaaDoor.nspathOrder
namespace Go.Proofs.YtpjajjmipbjliaaDoor
/-- The card, under a short name, for the claim. -/
theorem nspathOrder_holds : Rows.NspathOrderCardSaid := nspathOrder.proved
end Go.Proofs.YtpjajjmipbjliaaDoor
