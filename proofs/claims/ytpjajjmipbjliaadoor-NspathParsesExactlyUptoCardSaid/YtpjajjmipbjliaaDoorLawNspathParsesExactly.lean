/- The row of the law NspathParsesExactly, out of its plain law and the walk. -/
import Derived.Test.YtpjajjmipbjliaaDoorCards
import Derived.Test.YtpjajjmipbjliaaDoorTie
import Derived.Test.YtpjajjmipbjliaaDoorPureNspathParsesExactly
import Derived.Test.YtpjajjmipbjliaaDoorOpen
import Derived.Test.YtpjajjmipbjliaaDoorPNspathParsesExactlyx6
import Derived.WalkKit
import Derived.ProofKit
import Derived.OpenShut
import Derived.ShutString
import Derived.ChangeOld
import Derived.Below
import Derived.SizedLaws
import Derived.Carry
import Derived.Deep.DeepHandedRow
import Derived.Lib.LaidTab
import Derived.LaidMore
import Derived.Lay
namespace Go.Proofs.YtpjajjmipbjliaaDoor.nspathParsesExactly
open Go.ChangeShapes Go.WideShapes Go.ChangeAt Go.RowKit Go.Proofs.YtpjajjmipbjliaaDoor.PNspathParsesExactly Go.Proofs.YtpjajjmipbjliaaDoorW.PrintWords Go.Proofs.YtpjajjmipbjliaaDoor.Plain
open Go.ChangeMaps (open_string shut_string)
set_option linter.unusedVariables false
set_option maxRecDepth 100000
theorem own : ownKnob Tryd.prog.godebug = none := by kernel_rfl
theorem laidOut : laidOutB Tryd.prog = true := by kernel_rfl
theorem seg (cs : List Value) (o c : Nat) : cs.drop o = (cs.drop o).take c ++ cs.drop (o + c) := by rw [← List.drop_drop, List.take_append_drop]
theorem el5 {H : Type} {enc : TypeId × Value → H} {W : World} (fuel : Nat) (cs : List Value) (y : DataW H × List MemPlace) (h : DataW.trod enc Tryd.prog W 0 (fun _ => true) true fuel 5 cs = some y) (hw : Light Tryd.prog 5 y.1) : ∃ x, Kd.K (Kd.int .u8) W x cs ∧ (Lit.int .u8 x).wf = true := by
  obtain ⟨n, rfl, hn⟩ := open_num Tryd.underlying5 h
  exact ⟨n, rfl, hn⟩
set_option maxHeartbeats 4000000 in
theorem contract (H : Type) (enc : TypeId × Value → H) (W : World) (base : Nat) (args : Array Value) (ds gs : List (DataW H)) (before : List MemPlace)
    (hval0 : ∀ (j : Nat) t v, Tryd.f4.params[j]? = some t → args[j]? = some v → Value.okWide Tryd.prog W .any base t v)
    (hW : DataW.Whole enc Tryd.prog Tryd.f4.params.toList Rows.nspathParsesExactlySpec.vars false W args.toList ds gs before)
    (hsz : (DataW.weightsEach Tryd.prog (Tryd.f4.params.toList ++ Rows.nspathParsesExactlySpec.plain.varTypes Tryd.prog) (ds ++ gs)).all (· ≤ reachBytes) = true) (hbulk : Rows.uptoBulkAll (ds ++ gs) ≤ 1048576) :
    Calls Tryd.prog 4 args W fun e W' => ∃ v, e = .returned v ∧ Rows.nspathParsesExactlySpec.post enc Tryd.prog Tryd.f4 false true false false W args v W' := by
  have hval : ∀ (j : Nat) t v, Tryd.f4.params[j]? = some t → args[j]? = some v → Value.okWide Tryd.prog W .any base t v := hval0
  have hW' := hW
  obtain ⟨p, q, hA0, hV, rfl, hfz, hnd⟩ := hW
  have hA : DataW.TrodAll enc Tryd.prog W 0 (fun _ => true) true Tryd.f4.params.toList args.toList ds p := hA0
  rw [Tryd.params4] at hA hval hsz
  obtain ⟨v0, vs0, d0, ds0, p0, q0, hargs, rfl, rfl, h0, r0⟩ := trodAll_cons hA
  obtain ⟨v1, vs1, d1, ds1, p1, q1, rfl, rfl, rfl, h1, r1⟩ := trodAll_cons r0
  obtain ⟨rfl, rfl, rfl⟩ := trodAll_nil r1
  obtain rfl : args = #[v0, v1] := by cases args; simp_all
  obtain ⟨rfl, rfl⟩ := trodVars_none hV
  have k0 := h0
  have lt0 : ∀ x ∈ p0, x.block < W.heap.size := by obtain ⟨m, hm⟩ := k0; exact DataW.trod_lt m _ _ _ hm
  obtain ⟨fuel0, hf0⟩ := h0
  obtain ⟨a0, rfl⟩ := okWide_string Tryd.underlying9 (hval 0 9 v0 rfl rfl)
  obtain ⟨b0, e0, hb0⟩ := open_str Tryd.underlying9 hf0 (light_of_all hsz (j := 0) (t := 9) rfl rfl)
  simp [Value.cells] at e0
  subst e0
  have u0 : a0.size ≤ 1048576 := by
    obtain ⟨s_, es_, ey_, _⟩ := DataW.trod_string Tryd.underlying9 hf0
    have ed_ := congrArg Prod.fst ey_
    simp only at ed_
    simp [Value.cells] at es_
    subst es_
    have hq_ := hbulk
    simp only [List.cons_append, List.nil_append, Rows.uptoBulkAll, ed_, Rows.uptoBulk] at hq_
    have hz_ : a0.size = a0.data.toList.length := rfl
    omega
  have k1 := h1
  have lt1 : ∀ x ∈ p1, x.block < W.heap.size := by obtain ⟨m, hm⟩ := k1; exact DataW.trod_lt m _ _ _ hm
  obtain ⟨fuel1, hf1⟩ := h1
  obtain ⟨A1_, n1_, m1_, rfl⟩ := okWide_slice Tryd.underlying28 (hval 1 28 v1 rfl rfl)
  obtain ⟨A1, c1, l1, e1, hc1, hr1, hy1, hz1⟩ := open_slice (Kd.int .u8) (fun z_ => (Lit.int .u8 z_).wf = true) Tryd.underlying28 (by kernel_rfl) el5 hf1 (light_of_all hsz (j := 1) (t := 28) rfl rfl)
  rw [show Tryd.prog.bytesOf 5 = 1 by kernel_rfl] at hy1
  simp [Value.cells] at e1
  obtain ⟨ea1, eb1, ec1⟩ := e1
  subst A1_ n1_ m1_
  obtain ⟨k, hk⟩ := Pure.NspathParsesExactly a0 l1 hb0 ⟨hy1, hz1⟩ u0
  refine (platformfwlaw02_NspathParsesExactly.calls k a0 A1 c1 l1 true W hr1 hc1 ⟨rfl⟩ hk).mono fun e W' ⟨he, bel⟩ => ?_
  subst he
  exact ⟨_, rfl, _, _, _, [], _, [], hW', trodAll_mk1 (shut_bool Tryd.underlying4 _), (trodAll_cons_mk (Below.trod laidOut (by kernel_rfl) (of_decide_eq_true (by kernel_rfl)) k0 bel lt0) (trodAll_cons_mk (Below.trod laidOut (by kernel_rfl) (of_decide_eq_true (by kernel_rfl)) k1 bel lt1) trodAll_mk0)), rfl, bel.frame _, fun h => by cases h⟩
/-- The world of the witness: what the row lists is laid. -/
noncomputable def lw (os : Os) : World := World.laidAll Tryd.prog os Rows.nspathParsesExactlyUptoRow.laid
theorem laid_met (os : Os) : laidMet Tryd.prog Rows.nspathParsesExactlyUptoRow.laid ((lw os).forCall (fun _ _ => 0) ⟨#[], #[.string ByteArray.empty, .slice none 0 0], []⟩).memory := laidMet_laidAll _ (by kernel_rfl) (by kernel_rfl)
theorem reads (os : Os) {H : Type} (enc : TypeId × Value → H) : ∃ places, DataW.whole enc Tryd.prog ((lw os).forCall (fun _ _ => 0) ⟨#[], #[.string ByteArray.empty, .slice none 0 0], []⟩).memory Tryd.f4.params.toList Rows.nspathParsesExactlySpec.vars false (#[.string ByteArray.empty, .slice none 0 0] : Array Value).toList 8 = some ([.lit (.string []), .nil], [], places) :=
  ⟨[], by kernel_rfl⟩
theorem lifted (os : Os) (started : os.Started) (H : Type) (enc : TypeId × Value → H) (F : Stop.Interp) :
    ReturnsInHanded {} Tryd.checked os 4 .any ((Rows.OpenSpec.upto Rows.nspathParsesExactlySpec).preRow enc Tryd.prog Tryd.f4 Rows.nspathParsesExactlyUptoRow.domain false Rows.nspathParsesExactlyUptoRow.laid) (((Rows.OpenSpec.upto Rows.nspathParsesExactlySpec).at F).post enc Tryd.prog Tryd.f4 false true false false) := by
  obtain ⟨places, hx⟩ := reads os enc
  refine returnsInHanded_of_row (C := Tryd.checked) (s := Rows.OpenSpec.upto Rows.nspathParsesExactlySpec) own started (by kernel_rfl) Tryd.func4
    (witness_row_at (enc := enc) (C := Tryd.checked) false (lw os) #[.string ByteArray.empty, .slice none 0 0] rfl (by kernel_rfl) (by kernel_rfl) (by kernel_rfl)
      (OpenSpec.preRow_of_cond 8 hx (by kernel_rfl) (fun k hk => by cases hk; kernel_rfl) (by kernel_rfl) (laid_met os))) ?_
  intro W base args ds gs before hval hW _ hcond hsz _ _ _
  exact contract H enc W base args ds gs before hval hW hsz (of_decide_eq_true (show decide (Rows.uptoBulkAll (ds ++ gs) ≤ 1048576) = true from hcond _ rfl))
theorem said : Rows.nspathParsesExactlyUptoRow.holds Tryd.pinned (Rows.OpenSpec.upto Rows.nspathParsesExactlySpec) :=
  OpenClaim.holds_of_cond 4 Tryd.f4 rfl rfl rfl rfl rfl rfl rfl ⟨rfl, rfl, rfl, rfl, rfl⟩ rfl rfl rfl rfl rfl (by kernel_rfl) Tryd.func4 (by kernel_rfl)
    (of_decide_eq_true (by kernel_rfl)) (by unfold Func.isWrapper; first | (rw [if_pos (by decide +kernel)]; kernel_rfl) | (rw [if_neg (by decide +kernel)]; exact ⟨rfl, rfl⟩))
    (fun os started H enc _ F => by rw [OpenClaim.pre_eq_preRow]; exact lifted os started H enc F)
theorem plain (f : FuncId) (fn : Func) (hf : Tryd.pinned.checked.prog.funcNamed "platformfw/platformfwlaw02.NspathParsesExactly" = some f) (hfn : Tryd.pinned.checked.prog.funcs[f]? = some fn) :
    false = Tryd.pinned.checked.prog.looks [] ∧ ∀ (j : Nat) t, fn.params[j]? = some t → Tryd.pinned.checked.prog.wantsStandIn t = false := by
  obtain rfl : f = 4 := Option.some.inj ((show Tryd.prog.funcNamed "platformfw/platformfwlaw02.NspathParsesExactly" = some 4 by kernel_rfl).symm.trans hf) |>.symm
  obtain rfl : fn = Tryd.f4 := (Option.some.inj (Tryd.func4.symm.trans hfn)).symm
  refine ⟨by kernel_rfl, fun j t ht => ?_⟩
  rw [Tryd.params4] at ht
  have hm := Array.mem_of_getElem? ht
  simp only [List.mem_toArray, List.mem_cons, List.not_mem_nil, or_false] at hm
  rcases hm with rfl | rfl
  all_goals (first | exact (show Tryd.prog.wantsStandIn 9 = false by kernel_rfl) | exact (show Tryd.prog.wantsStandIn 28 = false by kernel_rfl))
theorem proved : Rows.NspathParsesExactlyUptoCardSaid :=
  Claim7.holds_tied_plain_at .later [] _ _ _ _ said (fun _ h => by cases h) (by kernel_rfl) (fun _ h => by cases h) nspathParsesExactlyUpto_row_tie rfl ⟨rfl, rfl⟩ (by kernel_rfl) rfl plain (by kernel_rfl)
#print axioms proved
end Go.Proofs.YtpjajjmipbjliaaDoor.nspathParsesExactly
namespace Go.Proofs.YtpjajjmipbjliaaDoor
/-- The card, under a short name, for the claim. -/
theorem nspathParsesExactly_holds : Rows.NspathParsesExactlyUptoCardSaid := nspathParsesExactly.proved
end Go.Proofs.YtpjajjmipbjliaaDoor
