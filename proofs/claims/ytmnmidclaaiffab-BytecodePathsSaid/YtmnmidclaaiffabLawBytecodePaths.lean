/- The row of the law BytecodePaths, out of its plain law and the walk. -/
import Derived.Test.YtmnmidclaaiffabRows
import Derived.Test.YtmnmidclaaiffabPureBytecodePaths
import Derived.Test.YtmnmidclaaiffabOpen
import Derived.Test.YtmnmidclaaiffabPBytecodePathsx11
import Derived.WalkKit
import Derived.ProofKit
import Derived.OpenShut
import Derived.ShutString
import Derived.ChangeOld
import Derived.Below
import Derived.SizedLaws
import Derived.Carry
namespace Go.Proofs.Ytmnmidclaaiffab.bytecodePaths
open Go.ChangeShapes Go.WideShapes Go.ChangeAt Go.RowKit Go.Proofs.Ytmnmidclaaiffab.PBytecodePaths Go.Proofs.YtmnmidclaaiffabW.PrintWords Go.Proofs.Ytmnmidclaaiffab.Plain
open Go.ChangeMaps (open_string shut_string)
set_option linter.unusedVariables false
set_option maxRecDepth 100000
theorem own : ownKnob Try.prog.godebug = none := by kernel_rfl
theorem laidOut : laidOutB Try.prog = true := by kernel_rfl
theorem seg (cs : List Value) (o c : Nat) : cs.drop o = (cs.drop o).take c ++ cs.drop (o + c) := by rw [← List.drop_drop, List.take_append_drop]
theorem el9 {H : Type} {enc : TypeId × Value → H} {W : World} (fuel : Nat) (cs : List Value) (y : DataW H × List MemPlace) (h : DataW.trod enc Try.prog W 0 (fun _ => true) true fuel 9 cs = some y) (hw : Light Try.prog 9 y.1) : ∃ x, Kd.K Kd.string W x cs ∧ x.size ≤ 140737488351232 := by
  obtain ⟨n, rfl, hn⟩ := open_str Try.underlying9 h hw
  exact ⟨n, rfl, hn⟩
theorem opT24 {H : Type} {enc : TypeId × Value → H} {W : World} {fuel : Nat} {cs : List Value} {y : DataW H × List MemPlace} (h : DataW.trod enc Try.prog W 0 (fun _ => true) true fuel 24 cs = some y) (hw : Light Try.prog 24 y.1) : ∃ (x_0 : Bool) (x_1 : Int) (Ax_2 : Option Addr) (cx_2 : Nat) (x_2 : List ByteArray), cs = [.bool x_0, .int .i64 x_1, .slice Ax_2 x_2.length cx_2] ∧ ((Lit.int .i64 x_1).wf = true) ∧ (x_2.length ≤ cx_2 ∧ Kd.C Kd.string W Ax_2 x_2.length x_2 ∧ x_2.length * 16 ≤ 140737488351232 ∧ (∀ z_ ∈ x_2, z_.size ≤ 140737488351232)) := by
  obtain ⟨xs, n, rfl, rfl, hl, hlen, hf⟩ := DataW.trod_struct Try.underlying24 h
  rw [show Try.prog.cellsOf 24 = 3 by kernel_rfl] at hl
  have hxl : xs.length = 3 := hlen
  have g0 : DataW.trod enc Try.prog W 0 (fun _ => true) true n 4 ((cs.drop 0).take (Try.prog.cellsOf 4)) = some (xs[0]'(by omega)) := (hf 0 _ rfl).trans (List.getElem?_eq_getElem (by omega))
  rw [show Try.prog.cellsOf 4 = 1 by kernel_rfl] at g0
  obtain ⟨x_0, e0⟩ := open_bit Try.underlying4 g0
  have g1 : DataW.trod enc Try.prog W 0 (fun _ => true) true n 3 ((cs.drop 1).take (Try.prog.cellsOf 3)) = some (xs[1]'(by omega)) := (hf 1 _ rfl).trans (List.getElem?_eq_getElem (by omega))
  rw [show Try.prog.cellsOf 3 = 1 by kernel_rfl] at g1
  obtain ⟨x_1, e1, hox_1⟩ := open_num Try.underlying3 g1
  have g2 : DataW.trod enc Try.prog W 0 (fun _ => true) true n 22 ((cs.drop 2).take (Try.prog.cellsOf 22)) = some (xs[2]'(by omega)) := (hf 2 _ rfl).trans (List.getElem?_eq_getElem (by omega))
  rw [show Try.prog.cellsOf 22 = 1 by kernel_rfl] at g2
  obtain ⟨Ax_2, cx_2, x_2, e2, hlx_2, hcx_2, hbx_2, hzx_2⟩ := open_slice Kd.string (fun z_ => z_.size ≤ 140737488351232) Try.underlying22 (by kernel_rfl) el9 g2 (light_field Try.underlying24 hw (j := 2) rfl (by rw [List.getElem?_map, List.getElem?_eq_getElem (show 2 < xs.length by omega)]; rfl))
  rw [show Try.prog.bytesOf 9 = 16 by kernel_rfl] at hbx_2
  have d3 : cs.drop 3 = [] := List.drop_of_length_le (by omega)
  have d2 := seg cs 2 1
  rw [e2, show 2 + 1 = 3 from rfl, d3] at d2
  have d1 := seg cs 1 1
  rw [e1, show 1 + 1 = 2 from rfl, d2] at d1
  have d0 := seg cs 0 1
  rw [e0, show 0 + 1 = 1 from rfl, d1] at d0
  exact ⟨x_0, x_1, Ax_2, cx_2, x_2, d0, hox_1, ⟨hlx_2, hcx_2, hbx_2, hzx_2⟩⟩
set_option maxHeartbeats 4000000 in
theorem lifted (os : Os) (started : os.Started) (H : Type) (enc : TypeId × Value → H) :
    ReturnsInHanded {} Try.checked os 3 .any (Rows.bytecodePathsSpec.pre6 enc Try.prog Try.f3 Rows.bytecodePathsRow.domain false) (Rows.bytecodePathsSpec.post enc Try.prog Try.f3 false true false false) := by
  refine returnsInHanded_of_change_sized (C := Try.checked) own started (by kernel_rfl) Try.func3
    (ChangeSpec.witness6 (enc := enc) (C := Try.checked) false ⟨#[], #[.string ByteArray.empty, .agg #[.bool false, .int .i64 0, .slice none 0 0], .string ByteArray.empty], []⟩ 8 (by kernel_rfl) (by kernel_rfl) (by kernel_rfl) (by kernel_rfl)) ?_
  intro W base args ds gs before hval0 hW hcnd hsz0 _
  have hsz : (DataW.weightsEach Try.prog (Try.f3.params.toList ++ Rows.bytecodePathsSpec.plain.varTypes Try.prog) (ds ++ gs)).all (· ≤ reachBytes) = true := hsz0
  have hval : ∀ (j : Nat) t v, Try.f3.params[j]? = some t → args[j]? = some v → Value.okWide Try.prog W .any base t v := hval0
  have hW' := hW
  obtain ⟨p, q, hA0, hV, rfl, hfz, hnd⟩ := hW
  have hA : DataW.TrodAll enc Try.prog W 0 (fun _ => true) true Try.f3.params.toList args.toList ds p := hA0
  rw [Try.params3] at hA hval hsz
  obtain ⟨v0, vs0, d0, ds0, p0, q0, hargs, rfl, rfl, h0, r0⟩ := trodAll_cons hA
  obtain ⟨v1, vs1, d1, ds1, p1, q1, rfl, rfl, rfl, h1, r1⟩ := trodAll_cons r0
  obtain ⟨v2, vs2, d2, ds2, p2, q2, rfl, rfl, rfl, h2, r2⟩ := trodAll_cons r1
  obtain ⟨rfl, rfl, rfl⟩ := trodAll_nil r2
  obtain rfl : args = #[v0, v1, v2] := by cases args; simp_all
  obtain ⟨rfl, rfl⟩ := trodVars_none hV
  have k0 := h0
  have lt0 : ∀ x ∈ p0, x.block < W.heap.size := by obtain ⟨m, hm⟩ := k0; exact DataW.trod_lt m _ _ _ hm
  obtain ⟨fuel0, hf0⟩ := h0
  obtain ⟨a0, rfl⟩ := okWide_string Try.underlying9 (hval 0 9 v0 rfl rfl)
  obtain ⟨b0, e0, hb0⟩ := open_str Try.underlying9 hf0 (light_of_all hsz (j := 0) (t := 9) rfl rfl)
  simp [Value.cells] at e0
  subst e0
  have k1 := h1
  have lt1 : ∀ x ∈ p1, x.block < W.heap.size := by obtain ⟨m, hm⟩ := k1; exact DataW.trod_lt m _ _ _ hm
  obtain ⟨fuel1, hf1⟩ := h1
  obtain ⟨cs1, rfl, _⟩ := okWide_struct Try.underlying24 (hval 1 24 v1 rfl rfl)
  obtain ⟨a1_0, a1_1, A1_2, c1_2, l1_2, e1, hb1_1, ⟨hc1_2, hr1_2, hb1_2⟩⟩ := opT24 (cs := cs1.toList) hf1 (light_of_all hsz (j := 1) (t := 24) rfl rfl)
  obtain rfl : cs1 = #[.bool a1_0, .int .i64 a1_1, .slice A1_2 l1_2.length c1_2] := Array.toList_inj.1 e1
  have k2 := h2
  have lt2 : ∀ x ∈ p2, x.block < W.heap.size := by obtain ⟨m, hm⟩ := k2; exact DataW.trod_lt m _ _ _ hm
  obtain ⟨fuel2, hf2⟩ := h2
  obtain ⟨a2, rfl⟩ := okWide_string Try.underlying9 (hval 2 9 v2 rfl rfl)
  obtain ⟨b2, e2, hb2⟩ := open_str Try.underlying9 hf2 (light_of_all hsz (j := 2) (t := 9) rfl rfl)
  simp [Value.cells] at e2
  subst e2
  obtain ⟨k, hk⟩ := Pure.BytecodePaths a0 a1_0 a1_1 l1_2 a2 hb0 hb1_1 hb1_2 hb2
  refine (platformfwlaw05_BytecodePaths.calls k a0 a1_0 a1_1 A1_2 c1_2 l1_2 a2 true W hr1_2 hc1_2 ⟨rfl⟩ hk).mono fun e W' ⟨he, bel⟩ => ?_
  subst he
  exact ⟨_, rfl, _, _, _, [], _, [], hW', trodAll_mk1 (shut_bool Try.underlying4 _), (trodAll_cons_mk (Below.trod laidOut (by kernel_rfl) (of_decide_eq_true (by kernel_rfl)) k0 bel lt0) (trodAll_cons_mk (Below.trod laidOut (by kernel_rfl) (of_decide_eq_true (by kernel_rfl)) k1 bel lt1) (trodAll_cons_mk (Below.trod laidOut (by kernel_rfl) (of_decide_eq_true (by kernel_rfl)) k2 bel lt2) trodAll_mk0))), rfl, bel.frame _, fun h => by cases h⟩
theorem over : Rows.bytecodePathsRow.holds Try.pinned (OpenSpec.ofChange Rows.bytecodePathsSpec) :=
  OpenClaim.holds_of_wide 3 Try.f3 rfl rfl rfl rfl rfl rfl rfl ⟨rfl, rfl, rfl, rfl, rfl⟩ rfl rfl rfl rfl rfl (by kernel_rfl) Try.func3 (by kernel_rfl)
    (of_decide_eq_true (by kernel_rfl)) (by unfold Func.isWrapper; first | (rw [if_pos (by decide +kernel)]; kernel_rfl) | (rw [if_neg (by decide +kernel)]; exact ⟨rfl, rfl⟩))
    (fun os started H enc _ => lifted os started H enc)
theorem proved : Rows.BytecodePathsSaid := over
#print axioms proved
end Go.Proofs.Ytmnmidclaaiffab.bytecodePaths
namespace Go.Proofs.Ytmnmidclaaiffab
/-- The row, under a short name, for the claim. -/
theorem bytecodePaths_holds : Rows.BytecodePathsSaid := bytecodePaths.proved
end Go.Proofs.Ytmnmidclaaiffab
