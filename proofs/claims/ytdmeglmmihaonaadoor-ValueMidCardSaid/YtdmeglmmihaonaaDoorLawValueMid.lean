/- The row of the law ValueMid, out of its plain law and the walk. -/
import Derived.Test.YtdmeglmmihaonaaDoorCards
import Derived.Test.YtdmeglmmihaonaaDoorTie
import Derived.Test.YtdmeglmmihaonaaDoorPureValueMid
import Derived.Test.YtdmeglmmihaonaaDoorVValueMidOpen
import Derived.Test.YtdmeglmmihaonaaDoorPValueMidx12
import Derived.WalkKit
import Derived.ProofKit
import Derived.OpenShut
import Derived.ShutString
import Derived.ChangeOld
import Derived.Below
import Derived.SizedLaws
import Derived.Carry
import Derived.Deep.DeepHandedRow
import Derived.Lib.LaidTab
import Derived.LaidMore
import Derived.Lay
import Derived.Lib.LaidU8
import Derived.MakeChecks
import Derived.Deep.DeepWitnessRowRef
namespace Go.Proofs.YtdmeglmmihaonaaDoor.valueMid
open Go.ChangeShapes Go.WideShapes Go.ChangeAt Go.RowKit Go.Proofs.YtdmeglmmihaonaaDoor.PValueMid Go.Proofs.YtdmeglmmihaonaaDoorW.PrintWords Go.Proofs.YtdmeglmmihaonaaDoor.Plain
open Go.ChangeMaps (open_string shut_string)
set_option linter.unusedVariables false
set_option maxRecDepth 100000
theorem own : ownKnob Tryd.prog.godebug = none := by kernel_rfl
theorem laidOut : laidOutB Tryd.prog = true := by kernel_rfl
theorem seg (cs : List Value) (o c : Nat) : cs.drop o = (cs.drop o).take c ++ cs.drop (o + c) := by rw [← List.drop_drop, List.take_append_drop]
theorem opT24 {H : Type} {enc : TypeId × Value → H} {W : World} {fuel : Nat} {cs : List Value} {y : DataW H × List MemPlace} (h : DataW.trod enc Tryd.prog W 0 (fun _ => true) true fuel 24 cs = some y) (hw : Light Tryd.prog 24 y.1) : ∃ (x_0 : Int) (x_1 : Int) (x_2 : ByteArray) (x_3 : Int), cs = [.int .i64 x_0, .int .u64 x_1, .string x_2, .int .i64 x_3] ∧ ((Lit.int .i64 x_0).wf = true) ∧ ((Lit.int .u64 x_1).wf = true) ∧ (x_2.size ≤ 140737488351232) ∧ ((Lit.int .i64 x_3).wf = true) := by
  obtain ⟨xs, n, rfl, rfl, hl, hlen, hf⟩ := DataW.trod_struct Tryd.underlying24 h
  rw [show Tryd.prog.cellsOf 24 = 4 by kernel_rfl] at hl
  have hxl : xs.length = 4 := hlen
  have g0 : DataW.trod enc Tryd.prog W 0 (fun _ => true) true n 3 ((cs.drop 0).take (Tryd.prog.cellsOf 3)) = some (xs[0]'(by omega)) := (hf 0 _ rfl).trans (List.getElem?_eq_getElem (by omega))
  rw [show Tryd.prog.cellsOf 3 = 1 by kernel_rfl] at g0
  obtain ⟨x_0, e0, hox_0⟩ := open_num Tryd.underlying3 g0
  have g1 : DataW.trod enc Tryd.prog W 0 (fun _ => true) true n 22 ((cs.drop 1).take (Tryd.prog.cellsOf 22)) = some (xs[1]'(by omega)) := (hf 1 _ rfl).trans (List.getElem?_eq_getElem (by omega))
  rw [show Tryd.prog.cellsOf 22 = 1 by kernel_rfl] at g1
  obtain ⟨x_1, e1, hox_1⟩ := open_num Tryd.underlying22 g1
  have g2 : DataW.trod enc Tryd.prog W 0 (fun _ => true) true n 9 ((cs.drop 2).take (Tryd.prog.cellsOf 9)) = some (xs[2]'(by omega)) := (hf 2 _ rfl).trans (List.getElem?_eq_getElem (by omega))
  rw [show Tryd.prog.cellsOf 9 = 1 by kernel_rfl] at g2
  obtain ⟨x_2, e2, hox_2⟩ := open_str Tryd.underlying9 g2 (light_field Tryd.underlying24 hw (j := 2) rfl (by rw [List.getElem?_map, List.getElem?_eq_getElem (show 2 < xs.length by omega)]; rfl))
  have g3 : DataW.trod enc Tryd.prog W 0 (fun _ => true) true n 3 ((cs.drop 3).take (Tryd.prog.cellsOf 3)) = some (xs[3]'(by omega)) := (hf 3 _ rfl).trans (List.getElem?_eq_getElem (by omega))
  rw [show Tryd.prog.cellsOf 3 = 1 by kernel_rfl] at g3
  obtain ⟨x_3, e3, hox_3⟩ := open_num Tryd.underlying3 g3
  have d4 : cs.drop 4 = [] := List.drop_of_length_le (by omega)
  have d3 := seg cs 3 1
  rw [e3, show 3 + 1 = 4 from rfl, d4] at d3
  have d2 := seg cs 2 1
  rw [e2, show 2 + 1 = 3 from rfl, d3] at d2
  have d1 := seg cs 1 1
  rw [e1, show 1 + 1 = 2 from rfl, d2] at d1
  have d0 := seg cs 0 1
  rw [e0, show 0 + 1 = 1 from rfl, d1] at d0
  exact ⟨x_0, x_1, x_2, x_3, d0, hox_0, hox_1, hox_2, hox_3⟩
theorem tabCell {W : World} (h : laidMetH Tryd.prog Rows.valueMidRow.laid W) : W.cell? ⟨6, 15, none⟩ = some (.int .u8 4) := by
  rw [MakeChecks.laidMetH_plain _ _ _ (by kernel_rfl)] at h
  obtain ⟨g, t, cs, fuel, p, hg, ht, hv, hd⟩ := Lib.laidMet.reads h (.tail _ (.head _))
  obtain rfl : g = 6 := Option.some.inj (hg.symm.trans (by kernel_rfl))
  obtain rfl : t = 134 := Option.some.inj (ht.symm.trans (by kernel_rfl))
  have hcs := Lib.cells_of_tab (k := .u8) (zs := [0, 1, 56, 2, 57, 49, 28, 3, 61, 58, 42, 50, 38, 29, 17, 4, 62, 47, 59, 36, 45, 43, 51, 22, 53, 39, 33, 30, 24, 18, 12, 5, 63, 55, 48, 27, 60, 41, 37, 16, 46, 35, 44, 21, 52, 32, 23, 11, 54, 26, 40, 15, 34, 20, 31, 10, 25, 14, 19, 9, 13, 8, 7, 6]) Tryd.underlying134 Tryd.underlying5 (by kernel_rfl) (by kernel_rfl) hd
  rw [World.var?_cell hg hv 15, ← Array.getElem?_toList, hcs]
  rfl
set_option maxHeartbeats 4000000 in
theorem contract (H : Type) (enc : TypeId × Value → H) (W : World) (base : Nat) (args : Array Value) (ds gs : List (DataW H)) (before : List MemPlace)
    (hval0 : ∀ (j : Nat) t v, Tryd.f5.params[j]? = some t → args[j]? = some v → Value.okWide Tryd.prog W .any base t v)
    (hW : DataW.Whole enc Tryd.prog Tryd.f5.params.toList Rows.valueMidSpec.vars false W args.toList ds gs before)
    (hsz : (DataW.weightsEach Tryd.prog (Tryd.f5.params.toList ++ Rows.valueMidSpec.plain.varTypes Tryd.prog) (ds ++ gs)).all (· ≤ reachBytes) = true) (hlaid : laidMetH Tryd.prog Rows.valueMidRow.laid W) :
    Calls Tryd.prog 5 args W fun e W' => ∃ v, e = .returned v ∧ Rows.valueMidSpec.post enc Tryd.prog Tryd.f5 false true false false W args v W' := by
  have hval : ∀ (j : Nat) t v, Tryd.f5.params[j]? = some t → args[j]? = some v → Value.okWide Tryd.prog W .any base t v := hval0
  have hW' := hW
  obtain ⟨p, q, hA0, hV, rfl, hfz, hnd⟩ := hW
  have hA : DataW.TrodAll enc Tryd.prog W 0 (fun _ => true) true Tryd.f5.params.toList args.toList ds p := hA0
  rw [Tryd.params5] at hA hval hsz
  obtain ⟨v0, vs0, d0, ds0, p0, q0, hargs, rfl, rfl, h0, r0⟩ := trodAll_cons hA
  obtain ⟨v1, vs1, d1, ds1, p1, q1, rfl, rfl, rfl, h1, r1⟩ := trodAll_cons r0
  obtain ⟨v2, vs2, d2, ds2, p2, q2, rfl, rfl, rfl, h2, r2⟩ := trodAll_cons r1
  obtain ⟨v3, vs3, d3, ds3, p3, q3, rfl, rfl, rfl, h3, r3⟩ := trodAll_cons r2
  obtain ⟨v4, vs4, d4, ds4, p4, q4, rfl, rfl, rfl, h4, r4⟩ := trodAll_cons r3
  obtain ⟨rfl, rfl, rfl⟩ := trodAll_nil r4
  obtain rfl : args = #[v0, v1, v2, v3, v4] := by cases args; simp_all
  obtain ⟨rfl, rfl⟩ := trodVars_none hV
  have k0 := h0
  have lt0 : ∀ x ∈ p0, x.block < W.heap.size := by obtain ⟨m, hm⟩ := k0; exact DataW.trod_lt m _ _ _ hm
  obtain ⟨fuel0, hf0⟩ := h0
  obtain ⟨cs0, rfl, _⟩ := okWide_struct Tryd.underlying24 (hval 0 24 v0 rfl rfl)
  obtain ⟨a0_0, a0_1, a0_2, a0_3, e0, hb0_0, hb0_1, hb0_2, hb0_3⟩ := opT24 (cs := cs0.toList) hf0 (light_of_all hsz (j := 0) (t := 24) rfl rfl)
  obtain rfl : cs0 = #[.int .i64 a0_0, .int .u64 a0_1, .string a0_2, .int .i64 a0_3] := Array.toList_inj.1 e0
  have k1 := h1
  have lt1 : ∀ x ∈ p1, x.block < W.heap.size := by obtain ⟨m, hm⟩ := k1; exact DataW.trod_lt m _ _ _ hm
  obtain ⟨fuel1, hf1⟩ := h1
  obtain ⟨cs1, rfl, _⟩ := okWide_struct Tryd.underlying24 (hval 1 24 v1 rfl rfl)
  obtain ⟨a1_0, a1_1, a1_2, a1_3, e1, hb1_0, hb1_1, hb1_2, hb1_3⟩ := opT24 (cs := cs1.toList) hf1 (light_of_all hsz (j := 1) (t := 24) rfl rfl)
  obtain rfl : cs1 = #[.int .i64 a1_0, .int .u64 a1_1, .string a1_2, .int .i64 a1_3] := Array.toList_inj.1 e1
  have k2 := h2
  have lt2 : ∀ x ∈ p2, x.block < W.heap.size := by obtain ⟨m, hm⟩ := k2; exact DataW.trod_lt m _ _ _ hm
  obtain ⟨fuel2, hf2⟩ := h2
  obtain ⟨a2, rfl⟩ := okWide_int Tryd.underlying22 (hval 2 22 v2 rfl rfl)
  obtain ⟨b2, e2, hb2⟩ := open_num Tryd.underlying22 hf2
  simp [Value.cells] at e2
  subst e2
  have k3 := h3
  have lt3 : ∀ x ∈ p3, x.block < W.heap.size := by obtain ⟨m, hm⟩ := k3; exact DataW.trod_lt m _ _ _ hm
  obtain ⟨fuel3, hf3⟩ := h3
  obtain ⟨a3, rfl⟩ := okWide_int Tryd.underlying22 (hval 3 22 v3 rfl rfl)
  obtain ⟨b3, e3, hb3⟩ := open_num Tryd.underlying22 hf3
  simp [Value.cells] at e3
  subst e3
  have k4 := h4
  have lt4 : ∀ x ∈ p4, x.block < W.heap.size := by obtain ⟨m, hm⟩ := k4; exact DataW.trod_lt m _ _ _ hm
  obtain ⟨fuel4, hf4⟩ := h4
  obtain ⟨a4, rfl⟩ := okWide_bool Tryd.underlying4 (hval 4 4 v4 rfl rfl)
  obtain ⟨k, hk⟩ := Pure.ValueMid a0_0 a0_1 a0_2 a0_3 a1_0 a1_1 a1_2 a1_3 a2 a3 a4 hb0_0 hb0_1 hb0_2 hb0_3 hb1_0 hb1_1 hb1_2 hb1_3 hb2 hb3
  refine (platformfwlaw08_ValueMid.calls k a0_0 a0_1 a0_2 a0_3 a1_0 a1_1 a1_2 a1_3 a2 a3 a4 true W (tabCell hlaid) ⟨rfl⟩ hk).mono fun e W' ⟨he, bel⟩ => ?_
  subst he
  exact ⟨_, rfl, _, _, _, [], _, [], hW', trodAll_mk1 (shut_bool Tryd.underlying4 _), (trodAll_cons_mk (Below.trod laidOut (by kernel_rfl) (of_decide_eq_true (by kernel_rfl)) k0 bel lt0) (trodAll_cons_mk (Below.trod laidOut (by kernel_rfl) (of_decide_eq_true (by kernel_rfl)) k1 bel lt1) (trodAll_cons_mk (Below.trod laidOut (by kernel_rfl) (of_decide_eq_true (by kernel_rfl)) k2 bel lt2) (trodAll_cons_mk (Below.trod laidOut (by kernel_rfl) (of_decide_eq_true (by kernel_rfl)) k3 bel lt3) (trodAll_cons_mk (Below.trod laidOut (by kernel_rfl) (of_decide_eq_true (by kernel_rfl)) k4 bel lt4) trodAll_mk0))))), rfl, bel.frame _, fun h => by cases h⟩
/-- The world of the witness: what the row lists is laid. -/
noncomputable def lw (os : Os) : World := World.laidAll Tryd.prog os Rows.valueMidRow.laid
theorem laid_met (os : Os) : laidMet Tryd.prog Rows.valueMidRow.laid ((lw os).forCall (fun _ _ => 0) ⟨#[], #[.agg #[.int .i64 0, .int .u64 0, .string ByteArray.empty, .int .i64 0], .agg #[.int .i64 0, .int .u64 0, .string ByteArray.empty, .int .i64 0], .int .u64 0, .int .u64 0, .bool false], []⟩).memory := laidMet_laidAll _ (by kernel_rfl) (by kernel_rfl)
theorem reads (os : Os) {H : Type} (enc : TypeId × Value → H) : ∃ places, DataW.whole enc Tryd.prog ((lw os).forCall (fun _ _ => 0) ⟨#[], #[.agg #[.int .i64 0, .int .u64 0, .string ByteArray.empty, .int .i64 0], .agg #[.int .i64 0, .int .u64 0, .string ByteArray.empty, .int .i64 0], .int .u64 0, .int .u64 0, .bool false], []⟩).memory Tryd.f5.params.toList Rows.valueMidSpec.vars false (#[.agg #[.int .i64 0, .int .u64 0, .string ByteArray.empty, .int .i64 0], .agg #[.int .i64 0, .int .u64 0, .string ByteArray.empty, .int .i64 0], .int .u64 0, .int .u64 0, .bool false] : Array Value).toList 8 = some ([.agg [.lit (.int .i64 0), .lit (.int .u64 0), .lit (.string []), .lit (.int .i64 0)], .agg [.lit (.int .i64 0), .lit (.int .u64 0), .lit (.string []), .lit (.int .i64 0)], .lit (.int .u64 0), .lit (.int .u64 0), .lit (.bool false)], [], places) :=
  ⟨[], by kernel_rfl⟩
theorem lifted (os : Os) (started : os.Started) (H : Type) (enc : TypeId × Value → H) (F : Stop.Interp) :
    ReturnsInHanded {} Tryd.checked os 5 .any ((OpenSpec.ofChange Rows.valueMidSpec).preRow enc Tryd.prog Tryd.f5 Rows.valueMidRow.domain false Rows.valueMidRow.laid) (((OpenSpec.ofChange Rows.valueMidSpec).at F).post enc Tryd.prog Tryd.f5 false true false false) := by
  obtain ⟨places, hx⟩ := reads os enc
  refine returnsInHanded_of_row (C := Tryd.checked) (s := OpenSpec.ofChange Rows.valueMidSpec) own started (by kernel_rfl) Tryd.func5
    (witness_row_atRef (enc := enc) (C := Tryd.checked) false (lw os) #[.agg #[.int .i64 0, .int .u64 0, .string ByteArray.empty, .int .i64 0], .agg #[.int .i64 0, .int .u64 0, .string ByteArray.empty, .int .i64 0], .int .u64 0, .int .u64 0, .bool false] rfl (by kernel_rfl) (by kernel_rfl) (by kernel_rfl)
      (OpenSpec.preRow_of_cond 8 hx (by kernel_rfl) (fun k hk => by cases hk) (by kernel_rfl) (laid_met os))) ?_
  intro W base args ds gs before hval hW _ _ hsz hlaid _ _
  exact contract H enc W base args ds gs before hval hW hsz hlaid
theorem said : Rows.valueMidRow.holds Tryd.pinned (OpenSpec.ofChange Rows.valueMidSpec) :=
  OpenClaim.holds_of_cond 5 Tryd.f5 rfl rfl rfl rfl rfl rfl rfl ⟨rfl, rfl, rfl, rfl, rfl⟩ rfl rfl rfl rfl rfl (by kernel_rfl) Tryd.func5 (by kernel_rfl)
    (of_decide_eq_true (by kernel_rfl)) (by unfold Func.isWrapper; first | (rw [if_pos (by decide +kernel)]; kernel_rfl) | (rw [if_neg (by decide +kernel)]; exact ⟨rfl, rfl⟩))
    (fun os started H enc _ F => by rw [OpenClaim.pre_eq_preRow]; exact lifted os started H enc F)
theorem plain (f : FuncId) (fn : Func) (hf : Tryd.pinned.checked.prog.funcNamed "platformfw/platformfwlaw08.ValueMid" = some f) (hfn : Tryd.pinned.checked.prog.funcs[f]? = some fn) :
    false = Tryd.pinned.checked.prog.looks [] ∧ ∀ (j : Nat) t, fn.params[j]? = some t → Tryd.pinned.checked.prog.wantsStandIn t = false := by
  obtain rfl : f = 5 := Option.some.inj ((show Tryd.prog.funcNamed "platformfw/platformfwlaw08.ValueMid" = some 5 by kernel_rfl).symm.trans hf) |>.symm
  obtain rfl : fn = Tryd.f5 := (Option.some.inj (Tryd.func5.symm.trans hfn)).symm
  refine ⟨by kernel_rfl, fun j t ht => ?_⟩
  rw [Tryd.params5] at ht
  have hm := Array.mem_of_getElem? ht
  simp only [List.mem_toArray, List.mem_cons, List.not_mem_nil, or_false] at hm
  rcases hm with rfl | rfl | rfl | rfl | rfl
  all_goals (first | exact (show Tryd.prog.wantsStandIn 24 = false by kernel_rfl) | exact (show Tryd.prog.wantsStandIn 24 = false by kernel_rfl) | exact (show Tryd.prog.wantsStandIn 22 = false by kernel_rfl) | exact (show Tryd.prog.wantsStandIn 22 = false by kernel_rfl) | exact (show Tryd.prog.wantsStandIn 4 = false by kernel_rfl))
theorem proved : Rows.ValueMidCardSaid :=
  Claim7.holds_tied_plain_at .later [] _ _ _ _ said (fun _ h => by cases h) (by kernel_rfl) (fun _ h => by cases h) valueMid_row_tie rfl ⟨rfl, rfl⟩ (by kernel_rfl) rfl plain (by kernel_rfl)
#print axioms proved
end Go.Proofs.YtdmeglmmihaonaaDoor.valueMid
namespace Go.Proofs.YtdmeglmmihaonaaDoor
/-- The card, under a short name, for the claim. -/
theorem valueMid_holds : Rows.ValueMidCardSaid := valueMid.proved
end Go.Proofs.YtdmeglmmihaonaaDoor
