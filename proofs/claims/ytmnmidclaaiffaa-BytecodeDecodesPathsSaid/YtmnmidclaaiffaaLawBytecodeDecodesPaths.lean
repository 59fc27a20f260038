/- The row of the law BytecodeDecodesPaths, out of its plain law and the walk. -/
import Derived.Test.YtmnmidclaaiffaaRows
import Derived.Test.YtmnmidclaaiffaaPureBytecodeDecodesPaths
import Derived.Test.YtmnmidclaaiffaaOpen
import Derived.Test.YtmnmidclaaiffaaPBytecodeDecodesPathsx11
import Derived.WalkKit
import Derived.ProofKit
import Derived.OpenShut
import Derived.ShutString
import Derived.ChangeOld
import Derived.Below
import Derived.SizedLaws
import Derived.Carry
namespace Go.Proofs.Ytmnmidclaaiffaa.bytecodeDecodesPaths
open Go.ChangeShapes Go.WideShapes Go.ChangeAt Go.RowKit Go.Proofs.Ytmnmidclaaiffaa.PBytecodeDecodesPaths Go.Proofs.YtmnmidclaaiffaaW.PrintWords Go.Proofs.Ytmnmidclaaiffaa.Plain
open Go.ChangeMaps (open_string shut_string)
set_option linter.unusedVariables false
set_option maxRecDepth 100000
theorem own : ownKnob Try.prog.godebug = none := by kernel_rfl
theorem laidOut : laidOutB Try.prog = true := by kernel_rfl
theorem seg (cs : List Value) (o c : Nat) : cs.drop o = (cs.drop o).take c ++ cs.drop (o + c) := by rw [← List.drop_drop, List.take_append_drop]
theorem el5 {H : Type} {enc : TypeId × Value → H} {W : World} (fuel : Nat) (cs : List Value) (y : DataW H × List MemPlace) (h : DataW.trod enc Try.prog W 0 (fun _ => true) true fuel 5 cs = some y) (hw : Light Try.prog 5 y.1) : ∃ x, Kd.K (Kd.int .u8) W x cs ∧ (Lit.int .u8 x).wf = true := by
  obtain ⟨n, rfl, hn⟩ := open_num Try.underlying5 h
  exact ⟨n, rfl, hn⟩
theorem el9 {H : Type} {enc : TypeId × Value → H} {W : World} (fuel : Nat) (cs : List Value) (y : DataW H × List MemPlace) (h : DataW.trod enc Try.prog W 0 (fun _ => true) true fuel 9 cs = some y) (hw : Light Try.prog 9 y.1) : ∃ x, Kd.K Kd.string W x cs ∧ x.size ≤ 140737488351232 := by
  obtain ⟨n, rfl, hn⟩ := open_str Try.underlying9 h hw
  exact ⟨n, rfl, hn⟩
theorem opT73 {H : Type} {enc : TypeId × Value → H} {W : World} {fuel : Nat} {cs : List Value} {y : DataW H × List MemPlace} (h : DataW.trod enc Try.prog W 0 (fun _ => true) true fuel 73 cs = some y) (hw : Light Try.prog 73 y.1) : ∃ (x_0 : Bool) (x_1 : Int) (Ax_2 : Option Addr) (cx_2 : Nat) (x_2 : List ByteArray), cs = [.bool x_0, .int .i64 x_1, .slice Ax_2 x_2.length cx_2] ∧ ((Lit.int .i64 x_1).wf = true) ∧ (x_2.length ≤ cx_2 ∧ Kd.C Kd.string W Ax_2 x_2.length x_2 ∧ x_2.length * 16 ≤ 140737488351232 ∧ (∀ z_ ∈ x_2, z_.size ≤ 140737488351232)) := by
  obtain ⟨xs, n, rfl, rfl, hl, hlen, hf⟩ := DataW.trod_struct Try.underlying73 h
  rw [show Try.prog.cellsOf 73 = 3 by kernel_rfl] at hl
  have hxl : xs.length = 3 := hlen
  have g0 : DataW.trod enc Try.prog W 0 (fun _ => true) true n 4 ((cs.drop 0).take (Try.prog.cellsOf 4)) = some (xs[0]'(by omega)) := (hf 0 _ rfl).trans (List.getElem?_eq_getElem (by omega))
  rw [show Try.prog.cellsOf 4 = 1 by kernel_rfl] at g0
  obtain ⟨x_0, e0⟩ := open_bit Try.underlying4 g0
  have g1 : DataW.trod enc Try.prog W 0 (fun _ => true) true n 3 ((cs.drop 1).take (Try.prog.cellsOf 3)) = some (xs[1]'(by omega)) := (hf 1 _ rfl).trans (List.getElem?_eq_getElem (by omega))
  rw [show Try.prog.cellsOf 3 = 1 by kernel_rfl] at g1
  obtain ⟨x_1, e1, hox_1⟩ := open_num Try.underlying3 g1
  have g2 : DataW.trod enc Try.prog W 0 (fun _ => true) true n 71 ((cs.drop 2).take (Try.prog.cellsOf 71)) = some (xs[2]'(by omega)) := (hf 2 _ rfl).trans (List.getElem?_eq_getElem (by omega))
  rw [show Try.prog.cellsOf 71 = 1 by kernel_rfl] at g2
  obtain ⟨Ax_2, cx_2, x_2, e2, hlx_2, hcx_2, hbx_2, hzx_2⟩ := open_slice Kd.string (fun z_ => z_.size ≤ 140737488351232) Try.underlying71 (by kernel_rfl) el9 g2 (light_field Try.underlying73 hw (j := 2) rfl (by rw [List.getElem?_map, List.getElem?_eq_getElem (show 2 < xs.length by omega)]; rfl))
  rw [show Try.prog.bytesOf 9 = 16 by kernel_rfl] at hbx_2
  have d3 : cs.drop 3 = [] := List.drop_of_length_le (by omega)
  have d2 := seg cs 2 1
  rw [e2, show 2 + 1 = 3 from rfl, d3] at d2
  have d1 := seg cs 1 1
  rw [e1, show 1 + 1 = 2 from rfl, d2] at d1
  have d0 := seg cs 0 1
  rw [e0, show 0 + 1 = 1 from rfl, d1] at d0
  exact ⟨x_0, x_1, Ax_2, cx_2, x_2, d0, hox_1, ⟨hlx_2, hcx_2, hbx_2, hzx_2⟩⟩
set_option maxHeartbeats 4000000 in
theorem lifted (os : Os) (started : os.Started) (H : Type) (enc : TypeId × Value → H) :
    ReturnsInHanded {} Try.checked os 12 .any (Rows.bytecodeDecodesPathsSpec.pre6 enc Try.prog Try.f12 Rows.bytecodeDecodesPathsRow.domain false) (Rows.bytecodeDecodesPathsSpec.post enc Try.prog Try.f12 false true false false) := by
  refine returnsInHanded_of_change_sized (C := Try.checked) own started (by kernel_rfl) Try.func12
    (ChangeSpec.witness6 (enc := enc) (C := Try.checked) false ⟨#[], #[.string ByteArray.empty, .slice none 0 0, .agg #[.bool false, .int .i64 0, .slice none 0 0], .int .i64 0, .int .u8 0], []⟩ 8 (by kernel_rfl) (by kernel_rfl) (by kernel_rfl) (by kernel_rfl)) ?_
  intro W base args ds gs before hval0 hW hcnd hsz0 _
  have hsz : (DataW.weightsEach Try.prog (Try.f12.params.toList ++ Rows.bytecodeDecodesPathsSpec.plain.varTypes Try.prog) (ds ++ gs)).all (· ≤ reachBytes) = true := hsz0
  have hval : ∀ (j : Nat) t v, Try.f12.params[j]? = some t → args[j]? = some v → Value.okWide Try.prog W .any base t v := hval0
  have hW' := hW
  obtain ⟨p, q, hA0, hV, rfl, hfz, hnd⟩ := hW
  have hA : DataW.TrodAll enc Try.prog W 0 (fun _ => true) true Try.f12.params.toList args.toList ds p := hA0
  rw [Try.params12] at hA hval hsz
  obtain ⟨v0, vs0, d0, ds0, p0, q0, hargs, rfl, rfl, h0, r0⟩ := trodAll_cons hA
  obtain ⟨v1, vs1, d1, ds1, p1, q1, rfl, rfl, rfl, h1, r1⟩ := trodAll_cons r0
  obtain ⟨v2, vs2, d2, ds2, p2, q2, rfl, rfl, rfl, h2, r2⟩ := trodAll_cons r1
  obtain ⟨v3, vs3, d3, ds3, p3, q3, rfl, rfl, rfl, h3, r3⟩ := trodAll_cons r2
  obtain ⟨v4, vs4, d4, ds4, p4, q4, rfl, rfl, rfl, h4, r4⟩ := trodAll_cons r3
  obtain ⟨rfl, rfl, rfl⟩ := trodAll_nil r4
  obtain rfl : args = #[v0, v1, v2, v3, v4] := by cases args; simp_all
  obtain ⟨rfl, rfl⟩ := trodVars_none hV
  have k0 := h0
  have lt0 : ∀ x ∈ p0, x.block < W.heap.size := by obtain ⟨m, hm⟩ := k0; exact DataW.trod_lt m _ _ _ hm
  obtain ⟨fuel0, hf0⟩ := h0
  obtain ⟨a0, rfl⟩ := okWide_string Try.underlying9 (hval 0 9 v0 rfl rfl)
  obtain ⟨b0, e0, hb0⟩ := open_str Try.underlying9 hf0 (light_of_all hsz (j := 0) (t := 9) rfl rfl)
  simp [Value.cells] at e0
  subst e0
  have k1 := h1
  have lt1 : ∀ x ∈ p1, x.block < W.heap.size := by obtain ⟨m, hm⟩ := k1; exact DataW.trod_lt m _ _ _ hm
  obtain ⟨fuel1, hf1⟩ := h1
  obtain ⟨A1_, n1_, m1_, rfl⟩ := okWide_slice Try.underlying63 (hval 1 63 v1 rfl rfl)
  obtain ⟨A1, c1, l1, e1, hc1, hr1, hy1, hz1⟩ := open_slice (Kd.int .u8) (fun z_ => (Lit.int .u8 z_).wf = true) Try.underlying63 (by kernel_rfl) el5 hf1 (light_of_all hsz (j := 1) (t := 63) rfl rfl)
  rw [show Try.prog.bytesOf 5 = 1 by kernel_rfl] at hy1
  simp [Value.cells] at e1
  obtain ⟨ea1, eb1, ec1⟩ := e1
  subst A1_ n1_ m1_
  have k2 := h2
  have lt2 : ∀ x ∈ p2, x.block < W.heap.size := by obtain ⟨m, hm⟩ := k2; exact DataW.trod_lt m _ _ _ hm
  obtain ⟨fuel2, hf2⟩ := h2
  obtain ⟨cs2, rfl, _⟩ := okWide_struct Try.underlying73 (hval 2 73 v2 rfl rfl)
  obtain ⟨a2_0, a2_1, A2_2, c2_2, l2_2, e2, hb2_1, ⟨hc2_2, hr2_2, hb2_2⟩⟩ := opT73 (cs := cs2.toList) hf2 (light_of_all hsz (j := 2) (t := 73) rfl rfl)
  obtain rfl : cs2 = #[.bool a2_0, .int .i64 a2_1, .slice A2_2 l2_2.length c2_2] := Array.toList_inj.1 e2
  have k3 := h3
  have lt3 : ∀ x ∈ p3, x.block < W.heap.size := by obtain ⟨m, hm⟩ := k3; exact DataW.trod_lt m _ _ _ hm
  obtain ⟨fuel3, hf3⟩ := h3
  obtain ⟨a3, rfl⟩ := okWide_int Try.underlying3 (hval 3 3 v3 rfl rfl)
  obtain ⟨b3, e3, hb3⟩ := open_num Try.underlying3 hf3
  simp [Value.cells] at e3
  subst e3
  have k4 := h4
  have lt4 : ∀ x ∈ p4, x.block < W.heap.size := by obtain ⟨m, hm⟩ := k4; exact DataW.trod_lt m _ _ _ hm
  obtain ⟨fuel4, hf4⟩ := h4
  obtain ⟨a4, rfl⟩ := okWide_int Try.underlying5 (hval 4 5 v4 rfl rfl)
  obtain ⟨b4, e4, hb4⟩ := open_num Try.underlying5 hf4
  simp [Value.cells] at e4
  subst e4
  obtain ⟨k, hk⟩ := Pure.BytecodeDecodesPaths a0 l1 a2_0 a2_1 l2_2 a3 a4 hb0 ⟨hy1, hz1⟩ hb2_1 hb2_2 hb3 hb4
  refine (platformfwlaw05_BytecodeDecodesPaths.calls k a0 A1 c1 l1 a2_0 a2_1 A2_2 c2_2 l2_2 a3 a4 true W hr1 hc1 hr2_2 hc2_2 ⟨rfl⟩ hk).mono fun e W' ⟨he, bel⟩ => ?_
  subst he
  exact ⟨_, rfl, _, _, _, [], _, [], hW', trodAll_mk1 (shut_bool Try.underlying4 _), (trodAll_cons_mk (Below.trod laidOut (by kernel_rfl) (of_decide_eq_true (by kernel_rfl)) k0 bel lt0) (trodAll_cons_mk (Below.trod laidOut (by kernel_rfl) (of_decide_eq_true (by kernel_rfl)) k1 bel lt1) (trodAll_cons_mk (Below.trod laidOut (by kernel_rfl) (of_decide_eq_true (by kernel_rfl)) k2 bel lt2) (trodAll_cons_mk (Below.trod laidOut (by kernel_rfl) (of_decide_eq_true (by kernel_rfl)) k3 bel lt3) (trodAll_cons_mk (Below.trod laidOut (by kernel_rfl) (of_decide_eq_true (by kernel_rfl)) k4 bel lt4) trodAll_mk0))))), rfl, bel.frame _, fun h => by cases h⟩
theorem over : Rows.bytecodeDecodesPathsRow.holds Try.pinned (OpenSpec.ofChange Rows.bytecodeDecodesPathsSpec) :=
  OpenClaim.holds_of_wide 12 Try.f12 rfl rfl rfl rfl rfl rfl rfl ⟨rfl, rfl, rfl, rfl, rfl⟩ rfl rfl rfl rfl rfl (by kernel_rfl) Try.func12 (by kernel_rfl)
    (of_decide_eq_true (by kernel_rfl)) (by unfold Func.isWrapper; first | (rw [if_pos (by decide +kernel)]; kernel_rfl) | (rw [if_neg (by decide +kernel)]; exact ⟨rfl, rfl⟩))
    (fun os started H enc _ => lifted os started H enc)
theorem proved : Rows.BytecodeDecodesPathsSaid := over
#print axioms proved
end Go.Proofs.Ytmnmidclaaiffaa.bytecodeDecodesPaths
namespace Go.Proofs.Ytmnmidclaaiffaa
/-- The row, under a short name, for the claim. -/
theorem bytecodeDecodesPaths_holds : Rows.BytecodeDecodesPathsSaid := bytecodeDecodesPaths.proved
end Go.Proofs.Ytmnmidclaaiffaa
