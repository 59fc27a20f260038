/- The row of the law FieldConverts, out of its plain law and the walk. -/
import Derived.Test.YtmnmidclaaiffaaRows
import Derived.Test.YtmnmidclaaiffaaPureFieldConverts
import Derived.Test.YtmnmidclaaiffaaVFieldConvertsOpen
import Derived.Test.YtmnmidclaaiffaaPFieldConvertsx15
import Derived.WalkKit
import Derived.ProofKit
import Derived.OpenShut
import Derived.ShutString
import Derived.ChangeOld
import Derived.Below
import Derived.SizedLaws
import Derived.Carry
namespace Go.Proofs.Ytmnmidclaaiffaa.fieldConverts
open Go.ChangeShapes Go.WideShapes Go.ChangeAt Go.RowKit Go.Proofs.Ytmnmidclaaiffaa.PFieldConverts Go.Proofs.YtmnmidclaaiffaaW.PrintWords Go.Proofs.Ytmnmidclaaiffaa.Plain
open Go.ChangeMaps (open_string shut_string)
set_option linter.unusedVariables false
set_option maxRecDepth 100000
theorem own : ownKnob Try.prog.godebug = none := by kernel_rfl
theorem laidOut : laidOutB Try.prog = true := by kernel_rfl
theorem seg (cs : List Value) (o c : Nat) : cs.drop o = (cs.drop o).take c ++ cs.drop (o + c) := by rw [← List.drop_drop, List.take_append_drop]
theorem opT24 {H : Type} {enc : TypeId × Value → H} {W : World} {fuel : Nat} {cs : List Value} {y : DataW H × List MemPlace} (h : DataW.trod enc Try.prog W 0 (fun _ => true) true fuel 24 cs = some y) (hw : Light Try.prog 24 y.1) : ∃ (x_0 : Int) (x_1 : Int) (x_2 : Int), cs = [.int .i64 x_0, .int .u64 x_1, .int .u64 x_2] ∧ ((Lit.int .i64 x_0).wf = true) ∧ ((Lit.int .u64 x_1).wf = true) ∧ ((Lit.int .u64 x_2).wf = true) := by
  obtain ⟨xs, n, rfl, rfl, hl, hlen, hf⟩ := DataW.trod_struct Try.underlying24 h
  rw [show Try.prog.cellsOf 24 = 3 by kernel_rfl] at hl
  have hxl : xs.length = 3 := hlen
  have g0 : DataW.trod enc Try.prog W 0 (fun _ => true) true n 3 ((cs.drop 0).take (Try.prog.cellsOf 3)) = some (xs[0]'(by omega)) := (hf 0 _ rfl).trans (List.getElem?_eq_getElem (by omega))
  rw [show Try.prog.cellsOf 3 = 1 by kernel_rfl] at g0
  obtain ⟨x_0, e0, hox_0⟩ := open_num Try.underlying3 g0
  have g1 : DataW.trod enc Try.prog W 0 (fun _ => true) true n 22 ((cs.drop 1).take (Try.prog.cellsOf 22)) = some (xs[1]'(by omega)) := (hf 1 _ rfl).trans (List.getElem?_eq_getElem (by omega))
  rw [show Try.prog.cellsOf 22 = 1 by kernel_rfl] at g1
  obtain ⟨x_1, e1, hox_1⟩ := open_num Try.underlying22 g1
  have g2 : DataW.trod enc Try.prog W 0 (fun _ => true) true n 22 ((cs.drop 2).take (Try.prog.cellsOf 22)) = some (xs[2]'(by omega)) := (hf 2 _ rfl).trans (List.getElem?_eq_getElem (by omega))
  rw [show Try.prog.cellsOf 22 = 1 by kernel_rfl] at g2
  obtain ⟨x_2, e2, hox_2⟩ := open_num Try.underlying22 g2
  have d3 : cs.drop 3 = [] := List.drop_of_length_le (by omega)
  have d2 := seg cs 2 1
  rw [e2, show 2 + 1 = 3 from rfl, d3] at d2
  have d1 := seg cs 1 1
  rw [e1, show 1 + 1 = 2 from rfl, d2] at d1
  have d0 := seg cs 0 1
  rw [e0, show 0 + 1 = 1 from rfl, d1] at d0
  exact ⟨x_0, x_1, x_2, d0, hox_0, hox_1, hox_2⟩
theorem opT26 {H : Type} {enc : TypeId × Value → H} {W : World} {fuel : Nat} {cs : List Value} {y : DataW H × List MemPlace} (h : DataW.trod enc Try.prog W 0 (fun _ => true) true fuel 26 cs = some y) (hw : Light Try.prog 26 y.1) : ∃ (x_0 : Int) (x_1 : Int) (x_2 : Int) (x_3 : Int) (x_4 : Int) (x_5 : Int) (x_6 : Int) (x_7 : Int) (x_8 : Int), cs = [.int .i64 x_0, .int .u64 x_1, .int .u64 x_2, .int .i64 x_3, .int .i64 x_4, .int .i64 x_5, .int .i64 x_6, .int .i64 x_7, .int .i64 x_8] ∧ ((Lit.int .i64 x_0).wf = true) ∧ ((Lit.int .u64 x_1).wf = true) ∧ ((Lit.int .u64 x_2).wf = true) ∧ ((Lit.int .i64 x_3).wf = true) ∧ ((Lit.int .i64 x_4).wf = true) ∧ ((Lit.int .i64 x_5).wf = true) ∧ ((Lit.int .i64 x_6).wf = true) ∧ ((Lit.int .i64 x_7).wf = true) ∧ ((Lit.int .i64 x_8).wf = true) := by
  obtain ⟨xs, n, rfl, rfl, hl, hlen, hf⟩ := DataW.trod_struct Try.underlying26 h
  rw [show Try.prog.cellsOf 26 = 9 by kernel_rfl] at hl
  have hxl : xs.length = 7 := hlen
  have g0 : DataW.trod enc Try.prog W 0 (fun _ => true) true n 24 ((cs.drop 0).take (Try.prog.cellsOf 24)) = some (xs[0]'(by omega)) := (hf 0 _ rfl).trans (List.getElem?_eq_getElem (by omega))
  rw [show Try.prog.cellsOf 24 = 3 by kernel_rfl] at g0
  obtain ⟨x_0, x_1, x_2, e0, hox_0, hox_1, hox_2⟩ := opT24 g0 (light_field Try.underlying26 hw (j := 0) rfl (by rw [List.getElem?_map, List.getElem?_eq_getElem (show 0 < xs.length by omega)]; rfl))
  have g1 : DataW.trod enc Try.prog W 0 (fun _ => true) true n 3 ((cs.drop 3).take (Try.prog.cellsOf 3)) = some (xs[1]'(by omega)) := (hf 1 _ rfl).trans (List.getElem?_eq_getElem (by omega))
  rw [show Try.prog.cellsOf 3 = 1 by kernel_rfl] at g1
  obtain ⟨x_3, e1, hox_3⟩ := open_num Try.underlying3 g1
  have g2 : DataW.trod enc Try.prog W 0 (fun _ => true) true n 3 ((cs.drop 4).take (Try.prog.cellsOf 3)) = some (xs[2]'(by omega)) := (hf 2 _ rfl).trans (List.getElem?_eq_getElem (by omega))
  rw [show Try.prog.cellsOf 3 = 1 by kernel_rfl] at g2
  obtain ⟨x_4, e2, hox_4⟩ := open_num Try.underlying3 g2
  have g3 : DataW.trod enc Try.prog W 0 (fun _ => true) true n 3 ((cs.drop 5).take (Try.prog.cellsOf 3)) = some (xs[3]'(by omega)) := (hf 3 _ rfl).trans (List.getElem?_eq_getElem (by omega))
  rw [show Try.prog.cellsOf 3 = 1 by kernel_rfl] at g3
  obtain ⟨x_5, e3, hox_5⟩ := open_num Try.underlying3 g3
  have g4 : DataW.trod enc Try.prog W 0 (fun _ => true) true n 3 ((cs.drop 6).take (Try.prog.cellsOf 3)) = some (xs[4]'(by omega)) := (hf 4 _ rfl).trans (List.getElem?_eq_getElem (by omega))
  rw [show Try.prog.cellsOf 3 = 1 by kernel_rfl] at g4
  obtain ⟨x_6, e4, hox_6⟩ := open_num Try.underlying3 g4
  have g5 : DataW.trod enc Try.prog W 0 (fun _ => true) true n 3 ((cs.drop 7).take (Try.prog.cellsOf 3)) = some (xs[5]'(by omega)) := (hf 5 _ rfl).trans (List.getElem?_eq_getElem (by omega))
  rw [show Try.prog.cellsOf 3 = 1 by kernel_rfl] at g5
  obtain ⟨x_7, e5, hox_7⟩ := open_num Try.underlying3 g5
  have g6 : DataW.trod enc Try.prog W 0 (fun _ => true) true n 3 ((cs.drop 8).take (Try.prog.cellsOf 3)) = some (xs[6]'(by omega)) := (hf 6 _ rfl).trans (List.getElem?_eq_getElem (by omega))
  rw [show Try.prog.cellsOf 3 = 1 by kernel_rfl] at g6
  obtain ⟨x_8, e6, hox_8⟩ := open_num Try.underlying3 g6
  have d9 : cs.drop 9 = [] := List.drop_of_length_le (by omega)
  have d8 := seg cs 8 1
  rw [e6, show 8 + 1 = 9 from rfl, d9] at d8
  have d7 := seg cs 7 1
  rw [e5, show 7 + 1 = 8 from rfl, d8] at d7
  have d6 := seg cs 6 1
  rw [e4, show 6 + 1 = 7 from rfl, d7] at d6
  have d5 := seg cs 5 1
  rw [e3, show 5 + 1 = 6 from rfl, d6] at d5
  have d4 := seg cs 4 1
  rw [e2, show 4 + 1 = 5 from rfl, d5] at d4
  have d3 := seg cs 3 1
  rw [e1, show 3 + 1 = 4 from rfl, d4] at d3
  have d0 := seg cs 0 3
  rw [e0, show 0 + 3 = 3 from rfl, d3] at d0
  exact ⟨x_0, x_1, x_2, x_3, x_4, x_5, x_6, x_7, x_8, d0, hox_0, hox_1, hox_2, hox_3, hox_4, hox_5, hox_6, hox_7, hox_8⟩
theorem opT38 {H : Type} {enc : TypeId × Value → H} {W : World} {fuel : Nat} {cs : List Value} {y : DataW H × List MemPlace} (h : DataW.trod enc Try.prog W 0 (fun _ => true) true fuel 38 cs = some y) (hw : Light Try.prog 38 y.1) : ∃ (x_0 : Int) (x_1 : Int) (x_2 : ByteArray) (x_3 : Int), cs = [.int .i64 x_0, .int .u64 x_1, .string x_2, .int .i64 x_3] ∧ ((Lit.int .i64 x_0).wf = true) ∧ ((Lit.int .u64 x_1).wf = true) ∧ (x_2.size ≤ 140737488351232) ∧ ((Lit.int .i64 x_3).wf = true) := by
  obtain ⟨xs, n, rfl, rfl, hl, hlen, hf⟩ := DataW.trod_struct Try.underlying38 h
  rw [show Try.prog.cellsOf 38 = 4 by kernel_rfl] at hl
  have hxl : xs.length = 4 := hlen
  have g0 : DataW.trod enc Try.prog W 0 (fun _ => true) true n 3 ((cs.drop 0).take (Try.prog.cellsOf 3)) = some (xs[0]'(by omega)) := (hf 0 _ rfl).trans (List.getElem?_eq_getElem (by omega))
  rw [show Try.prog.cellsOf 3 = 1 by kernel_rfl] at g0
  obtain ⟨x_0, e0, hox_0⟩ := open_num Try.underlying3 g0
  have g1 : DataW.trod enc Try.prog W 0 (fun _ => true) true n 22 ((cs.drop 1).take (Try.prog.cellsOf 22)) = some (xs[1]'(by omega)) := (hf 1 _ rfl).trans (List.getElem?_eq_getElem (by omega))
  rw [show Try.prog.cellsOf 22 = 1 by kernel_rfl] at g1
  obtain ⟨x_1, e1, hox_1⟩ := open_num Try.underlying22 g1
  have g2 : DataW.trod enc Try.prog W 0 (fun _ => true) true n 9 ((cs.drop 2).take (Try.prog.cellsOf 9)) = some (xs[2]'(by omega)) := (hf 2 _ rfl).trans (List.getElem?_eq_getElem (by omega))
  rw [show Try.prog.cellsOf 9 = 1 by kernel_rfl] at g2
  obtain ⟨x_2, e2, hox_2⟩ := open_str Try.underlying9 g2 (light_field Try.underlying38 hw (j := 2) rfl (by rw [List.getElem?_map, List.getElem?_eq_getElem (show 2 < xs.length by omega)]; rfl))
  have g3 : DataW.trod enc Try.prog W 0 (fun _ => true) true n 3 ((cs.drop 3).take (Try.prog.cellsOf 3)) = some (xs[3]'(by omega)) := (hf 3 _ rfl).trans (List.getElem?_eq_getElem (by omega))
  rw [show Try.prog.cellsOf 3 = 1 by kernel_rfl] at g3
  obtain ⟨x_3, e3, hox_3⟩ := open_num Try.underlying3 g3
  have d4 : cs.drop 4 = [] := List.drop_of_length_le (by omega)
  have d3 := seg cs 3 1
  rw [e3, show 3 + 1 = 4 from rfl, d4] at d3
  have d2 := seg cs 2 1
  rw [e2, show 2 + 1 = 3 from rfl, d3] at d2
  have d1 := seg cs 1 1
  rw [e1, show 1 + 1 = 2 from rfl, d2] at d1
  have d0 := seg cs 0 1
  rw [e0, show 0 + 1 = 1 from rfl, d1] at d0
  exact ⟨x_0, x_1, x_2, x_3, d0, hox_0, hox_1, hox_2, hox_3⟩
set_option maxHeartbeats 4000000 in
theorem lifted (os : Os) (started : os.Started) (H : Type) (enc : TypeId × Value → H) :
    ReturnsInHanded {} Try.checked os 13 .any (Rows.fieldConvertsSpec.pre6 enc Try.prog Try.f13 Rows.fieldConvertsRow.domain false) (Rows.fieldConvertsSpec.post enc Try.prog Try.f13 false true false false) := by
  refine returnsInHanded_of_change_sized (C := Try.checked) own started (by kernel_rfl) Try.func13
    (ChangeSpec.witness6 (enc := enc) (C := Try.checked) false ⟨#[], #[.agg #[.int .i64 0, .int .u64 0, .int .u64 0, .int .i64 0, .int .i64 0, .int .i64 0, .int .i64 0, .int .i64 0, .int .i64 0], .string ByteArray.empty, .agg #[.int .i64 0, .int .u64 0, .string ByteArray.empty, .int .i64 0]], []⟩ 8 (by kernel_rfl) (by kernel_rfl) (by kernel_rfl) (by kernel_rfl)) ?_
  intro W base args ds gs before hval0 hW hcnd hsz0 _
  have hsz : (DataW.weightsEach Try.prog (Try.f13.params.toList ++ Rows.fieldConvertsSpec.plain.varTypes Try.prog) (ds ++ gs)).all (· ≤ reachBytes) = true := hsz0
  have hval : ∀ (j : Nat) t v, Try.f13.params[j]? = some t → args[j]? = some v → Value.okWide Try.prog W .any base t v := hval0
  have hW' := hW
  obtain ⟨p, q, hA0, hV, rfl, hfz, hnd⟩ := hW
  have hA : DataW.TrodAll enc Try.prog W 0 (fun _ => true) true Try.f13.params.toList args.toList ds p := hA0
  rw [Try.params13] at hA hval hsz
  obtain ⟨v0, vs0, d0, ds0, p0, q0, hargs, rfl, rfl, h0, r0⟩ := trodAll_cons hA
  obtain ⟨v1, vs1, d1, ds1, p1, q1, rfl, rfl, rfl, h1, r1⟩ := trodAll_cons r0
  obtain ⟨v2, vs2, d2, ds2, p2, q2, rfl, rfl, rfl, h2, r2⟩ := trodAll_cons r1
  obtain ⟨rfl, rfl, rfl⟩ := trodAll_nil r2
  obtain rfl : args = #[v0, v1, v2] := by cases args; simp_all
  obtain ⟨rfl, rfl⟩ := trodVars_none hV
  have k0 := h0
  have lt0 : ∀ x ∈ p0, x.block < W.heap.size := by obtain ⟨m, hm⟩ := k0; exact DataW.trod_lt m _ _ _ hm
  obtain ⟨fuel0, hf0⟩ := h0
  obtain ⟨cs0, rfl, _⟩ := okWide_struct Try.underlying26 (hval 0 26 v0 rfl rfl)
  obtain ⟨a0_0, a0_1, a0_2, a0_3, a0_4, a0_5, a0_6, a0_7, a0_8, e0, hb0_0, hb0_1, hb0_2, hb0_3, hb0_4, hb0_5, hb0_6, hb0_7, hb0_8⟩ := opT26 (cs := cs0.toList) hf0 (light_of_all hsz (j := 0) (t := 26) rfl rfl)
  obtain rfl : cs0 = #[.int .i64 a0_0, .int .u64 a0_1, .int .u64 a0_2, .int .i64 a0_3, .int .i64 a0_4, .int .i64 a0_5, .int .i64 a0_6, .int .i64 a0_7, .int .i64 a0_8] := Array.toList_inj.1 e0
  have k1 := h1
  have lt1 : ∀ x ∈ p1, x.block < W.heap.size := by obtain ⟨m, hm⟩ := k1; exact DataW.trod_lt m _ _ _ hm
  obtain ⟨fuel1, hf1⟩ := h1
  obtain ⟨a1, rfl⟩ := okWide_string Try.underlying9 (hval 1 9 v1 rfl rfl)
  obtain ⟨b1, e1, hb1⟩ := open_str Try.underlying9 hf1 (light_of_all hsz (j := 1) (t := 9) rfl rfl)
  simp [Value.cells] at e1
  subst e1
  have k2 := h2
  have lt2 : ∀ x ∈ p2, x.block < W.heap.size := by obtain ⟨m, hm⟩ := k2; exact DataW.trod_lt m _ _ _ hm
  obtain ⟨fuel2, hf2⟩ := h2
  obtain ⟨cs2, rfl, _⟩ := okWide_struct Try.underlying38 (hval 2 38 v2 rfl rfl)
  obtain ⟨a2_0, a2_1, a2_2, a2_3, e2, hb2_0, hb2_1, hb2_2, hb2_3⟩ := opT38 (cs := cs2.toList) hf2 (light_of_all hsz (j := 2) (t := 38) rfl rfl)
  obtain rfl : cs2 = #[.int .i64 a2_0, .int .u64 a2_1, .string a2_2, .int .i64 a2_3] := Array.toList_inj.1 e2
  obtain ⟨k, hk⟩ := Pure.FieldConverts a0_0 a0_1 a0_2 a0_3 a0_4 a0_5 a0_6 a0_7 a0_8 a1 a2_0 a2_1 a2_2 a2_3 hb0_0 hb0_1 hb0_2 hb0_3 hb0_4 hb0_5 hb0_6 hb0_7 hb0_8 hb1 hb2_0 hb2_1 hb2_2 hb2_3
  refine (platformfwlaw11_FieldConverts.calls k a0_0 a0_1 a0_2 a0_3 a0_4 a0_5 a0_6 a0_7 a0_8 a1 a2_0 a2_1 a2_2 a2_3 true W ⟨rfl⟩ hk).mono fun e W' ⟨he, bel⟩ => ?_
  subst he
  exact ⟨_, rfl, _, _, _, [], _, [], hW', trodAll_mk1 (shut_bool Try.underlying4 _), (trodAll_cons_mk (Below.trod laidOut (by kernel_rfl) (of_decide_eq_true (by kernel_rfl)) k0 bel lt0) (trodAll_cons_mk (Below.trod laidOut (by kernel_rfl) (of_decide_eq_true (by kernel_rfl)) k1 bel lt1) (trodAll_cons_mk (Below.trod laidOut (by kernel_rfl) (of_decide_eq_true (by kernel_rfl)) k2 bel lt2) trodAll_mk0))), rfl, bel.frame _, fun h => by cases h⟩
theorem over : Rows.fieldConvertsRow.holds Try.pinned (OpenSpec.ofChange Rows.fieldConvertsSpec) :=
  OpenClaim.holds_of_wide 13 Try.f13 rfl rfl rfl rfl rfl rfl rfl ⟨rfl, rfl, rfl, rfl, rfl⟩ rfl rfl rfl rfl rfl (by kernel_rfl) Try.func13 (by kernel_rfl)
    (of_decide_eq_true (by kernel_rfl)) (by unfold Func.isWrapper; first | (rw [if_pos (by decide +kernel)]; kernel_rfl) | (rw [if_neg (by decide +kernel)]; exact ⟨rfl, rfl⟩))
    (fun os started H enc _ => lifted os started H enc)
theorem proved : Rows.FieldConvertsSaid := over
#print axioms proved
end Go.Proofs.Ytmnmidclaaiffaa.fieldConverts
namespace Go.Proofs.Ytmnmidclaaiffaa
/-- The row, under a short name, for the claim. -/
theorem fieldConverts_holds : Rows.FieldConvertsSaid := fieldConverts.proved
end Go.Proofs.Ytmnmidclaaiffaa
