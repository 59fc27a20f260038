/- Contracts of functions that the print does not take, walked by hand: what the call comes to, in plain lists and numbers. -/
import Derived.Test.YtpjajjmipbjliaaDoorProg
import Derived.Deep.Draws
import Derived.Deep.AppendLies
import Derived.OwnWalk
import Derived.Laws.BytesArg
import Derived.Laws.MakeOwn
import Derived.Tactics
import Derived.WalkKit
import Derived.KernelRfl
import Derived.RowKit3
import Derived.Deep.LoopGhost
import Derived.Deep.QuietTactic
import Derived.BigQuiet
import Derived.WideLaws
import Derived.Deep.DeepCutAuto
import Derived.Test.YtpjajjmipbjliaaDoorPsegmentx
import Derived.Test.YtpjajjmipbjliaaDoorBytes
import Derived.Test.YtpjajjmipbjliaaDoorShelf
namespace Go.Proofs.YtpjajjmipbjliaaDoor.Ext
open Go.RowKit Go.Proofs.YtpjajjmipbjliaaDoorW.PrintWords Go.Proofs.YtpjajjmipbjliaaDoorW.PrintLast Go.Proofs.YtpjajjmipbjliaaDoorW.PrintMore Go.Proofs.YtpjajjmipbjliaaDoor.Plain
set_option linter.unusedVariables false
set_option linter.unusedSimpArgs false
/-! ### slices_ContainsFunc: function 52, at nspath's own test of a segment -/
/-- May the byte c stand at place i of a segment. -/
def segCh (c i : Int) : Bool := (decide (65 ≤ c) && decide (c ≤ 90)) || decide (c = 95) || (decide (48 ≤ c) && decide (c ≤ 57) && decide (0 < i))
def segFrom (s : ByteArray) : Nat → Int → Bool
  | 0, _ => true
  | e + 1, i => segCh (bt s i) i && segFrom s e (i + 1)
/-- Is s a segment. -/
def nsSeg (s : ByteArray) : Bool := segFrom s s.size 0 && (decide (1 ≤ s.size) && decide (s.size ≤ 4))
open Go.Proofs.YtpjajjmipbjliaaDoor.Psegment in
theorem segment_loop (s : ByteArray) (hs : s.size ≤ 140737488351232) : ∀ (e : Nat) (i : Int) (k : Nat), 0 ≤ i → i + e = s.size → e < k → nspath_segment.l0 k s (s.size : Int) i = some (segFrom s e i && (decide (1 ≤ s.size) && decide (s.size ≤ 4))) := by
  intro e
  induction e with
  | zero =>
    intro i k h0 hi hk
    obtain ⟨k, rfl⟩ : ∃ m, k = m + 1 := ⟨k - 1, by omega⟩
    simp only [nspath_segment.l0]
    rw [if_neg (by omega)]
    by_cases h1 : 1 ≤ s.size
    · rw [if_pos (by omega), decide_eq_true h1]
      congr 1
      simp only [segFrom, Bool.true_and]
      rw [decide_eq_decide]; omega
    · rw [if_neg (by omega), decide_eq_false h1]
      simp [segFrom]
  | succ e ih =>
    intro i k h0 hi hk
    obtain ⟨k, rfl⟩ : ∃ m, k = m + 1 := ⟨k - 1, by omega⟩
    have hw : wrap64 (i + 1) = i + 1 := wrap64_id (by omega) (by omega)
    have hn := ih (i + 1) k (by omega) (by omega) (by omega)
    simp only [nspath_segment.l0, segFrom]
    rw [if_pos (by omega), if_pos h0, if_pos (by omega), hw, hn]
    generalize bt s i = c
    unfold segCh
    by_cases a1 : c ≥ 65
    · rw [if_pos a1, decide_eq_true (show 65 ≤ c from a1)]
      by_cases a2 : c ≤ 90
      · rw [if_pos a2, decide_eq_true a2]; simp
      · rw [if_neg a2, decide_eq_false a2]
        by_cases a3 : c = 95
        · rw [if_pos a3, decide_eq_true a3]; simp
        · rw [if_neg a3, decide_eq_false a3, if_pos (by omega), if_neg (by omega), decide_eq_false (show ¬ c ≤ 57 by omega)]; simp
    · rw [if_neg a1, decide_eq_false (show ¬ 65 ≤ c from a1)]
      by_cases a3 : c = 95
      · omega
      · rw [if_neg a3, decide_eq_false a3]
        by_cases a4 : c ≥ 48
        · rw [if_pos a4, decide_eq_true (show 48 ≤ c from a4)]
          by_cases a5 : c ≤ 57
          · rw [if_pos a5, decide_eq_true a5]
            by_cases a6 : i > 0
            · rw [if_pos a6, decide_eq_true (show 0 < i from a6)]; simp
            · rw [if_neg a6, decide_eq_false (show ¬ 0 < i from a6)]; simp
          · rw [if_neg a5, decide_eq_false a5]; simp
        · rw [if_neg a4, decide_eq_false (show ¬ 48 ≤ c from a4)]; simp
open Go.Proofs.YtpjajjmipbjliaaDoor.Psegment in
theorem segment_calls (s : ByteArray) (hs : s.size ≤ 140737488351232) (w : World) :
    Calls Tryd.prog 54 #[.string s] w fun e w' => e = .returned (.bool (nsSeg s)) ∧ Drawn0 w w' :=
  nspath_segment.calls (s.size + 1) s (nsSeg s) w (segment_loop s hs s.size 0 (s.size + 1) (by omega) (by omega) (by omega))
theorem validfn_calls (s : ByteArray) (hs : s.size ≤ 140737488351232) (w : World) :
    Calls Tryd.prog 53 #[.string s] w fun e w' => e = .returned (.bool (!nsSeg s)) ∧ Drawn0 w w' := by
  go_enter Tryd.func53, Tryd.ntmps53
  go_wp2_with (go_at_call 54; refine (segment_calls s hs _).mono ?_; rintro e w' ⟨rfl, ⟨n, rfl⟩⟩)
  go_ret
  exact ⟨rfl, ⟨_, rfl⟩⟩
/-- The first place at which a string is no segment, or -1. -/
def noSeg : List ByteArray → Nat → Int
  | [], _ => -1
  | s :: l, i => if nsSeg s = true then noSeg l (i + 1) else i
theorem noSeg_yes {s : ByteArray} (l : List ByteArray) (i : Nat) (h : nsSeg s = true) : noSeg (s :: l) i = noSeg l (i + 1) := by simp only [noSeg]; rw [if_pos h]
theorem noSeg_no {s : ByteArray} (l : List ByteArray) (i : Nat) (h : nsSeg s = false) : noSeg (s :: l) i = i := by simp only [noSeg]; rw [if_neg (by rw [h]; decide)]
theorem noSeg_any : ∀ (l : List ByteArray) (i : Nat), 0 ≤ noSeg l i ↔ l.any (fun s => !nsSeg s) = true := by
  intro l
  induction l with
  | nil => intro i; simp [noSeg]
  | cons s l ih =>
    intro i
    rw [List.any_cons]
    cases h : nsSeg s with
    | true => rw [noSeg_yes l i h, ih]; rfl
    | false => rw [noSeg_no l i h]; simp
theorem noSeg_all (l : List ByteArray) (i : Nat) : decide (0 ≤ noSeg l i) = l.any (fun s => !nsSeg s) := by rw [Bool.eq_iff_iff, decide_eq_true_iff]; exact noSeg_any l i
def slices_ContainsFunc.f (l : List ByteArray) : Option Bool := if l.all (fun s => decide (s.size ≤ 140737488351232)) = true ∧ l.length ≤ 140737488351232 then some (l.any (fun s => !nsSeg s)) else none
theorem getD_drop (l : List ByteArray) (j : Nat) (h : j < l.length) : l.drop j = l.getD j ByteArray.empty :: l.drop (j + 1) := by
  rw [List.drop_eq_getElem_cons h, List.getD_eq_getElem?_getD, List.getElem?_eq_getElem h]; rfl
set_option maxHeartbeats 2000000 in
set_option maxRecDepth 100000 in
theorem indexfunc_calls (A : Option Addr) (c : Nat) (l : List ByteArray) (w : World) (hr : Kd.C Kd.string w A l.length l) (hall : ∀ j, j < l.length → (l.getD j ByteArray.empty).size ≤ 140737488351232) (hlen : l.length ≤ 140737488351232) :
    Calls Tryd.prog 70 #[.slice A l.length c, .func (.func 53) #[] #[]] w fun e w' => e = .returned (.int .i64 (noSeg l 0)) ∧ Drawn0 w w' := by
  have HR := Aside0.mk hr
  have HS := Aside0.mk hall
  have HL := Aside0.mk hlen
  clear hr hall hlen
  go_enter Tryd.func70, Tryd.ntmps70
  go_wp2
  go_loopg [5, 8] l.length (fun kq v5 v8 w' => ∃ (x8 : Nat), v8 = .int .i64 (x8 : Int) ∧ Aside0 (noSeg l 0 = noSeg (l.drop x8) x8) ∧ Aside0 (x8 + kq = l.length) ∧ Drawn0 w w')
  case atStart => exact ⟨0, rfl, ⟨rfl⟩, ⟨by omega⟩, Drawn0.refl _⟩
  case round =>
    obtain ⟨x8, rfl, HA, HK, ⟨m1, rfl⟩⟩ := hrel
    have hk8 := HK.out
    by_cases hlt : x8 < l.length
    · have hb := decide_eq_true (show (x8 : Int) < (l.length : Int) by omega)
      have hg := HS.out x8 hlt
      obtain ⟨ad, e, hx⟩ := Kd.at_string HR.out (x8 : Int) (by omega) (by omega)
      cases e
      have he : rdOf ByteArray.empty l (x8 : Int) = l.getD x8 ByteArray.empty := by unfold rdOf; rw [Int.toNat_natCast]
      rw [he, Int.toNat_natCast] at hx
      have hd := getD_drop l x8 hlt
      generalize hs : l.getD x8 ByteArray.empty = s at *
      have HG := Aside0.mk hg
      have HD := Aside0.mk hd
      have HB := Aside0.mk hlt
      have hlb := HL.out
      clear hg hd hs he hk8
      have p1 := eq_true (show 0 ≤ (x8 : Int) by omega)
      have q1 := eq_true (show (x8 : Int) < (l.length : Int) by omega)
      have hw1 : wrap64 ((x8 : Int) + 1) = ((x8 + 1 : Nat) : Int) := by rw [wrap64_id (by omega) (by omega)]; omega
      have HW := Aside0.mk hw1
      clear hw1 hlt hlb
      cases hq : nsSeg s with
      | true =>
        have HQ := Aside0.mk hq
        go_wp2_with (go_at_call 53; refine (validfn_calls s HG.out _).mono ?_; rw [HQ.out]; rintro e w' ⟨rfl, ⟨n, rfl⟩⟩)
        go_roundg (l.length - (x8 + 1))
        case measure => have := HK.out; have := HB.out; omega
        case rel =>
          refine ⟨x8 + 1, by rw [HW.out], ⟨?_⟩, ⟨by have := HK.out; have := HB.out; omega⟩, by repeat (first | exact Drawn0.refl _ | apply Drawn0.step)⟩
          rw [HA.out, HD.out, noSeg_yes _ _ HQ.out]
      | false =>
        have HQ := Aside0.mk hq
        go_wp2_with (go_at_call 53; refine (validfn_calls s HG.out _).mono ?_; rw [HQ.out]; rintro e w' ⟨rfl, ⟨n, rfl⟩⟩)
        go_ret
        refine ⟨?_, by repeat (first | exact Drawn0.refl _ | apply Drawn0.step)⟩
        rw [HA.out, HD.out, noSeg_no _ _ HQ.out]; rfl
    · have hb := decide_eq_false (show ¬ (x8 : Int) < (l.length : Int) by omega)
      have hx : x8 = l.length := by omega
      have HX := Aside0.mk hx
      clear hx hk8
      go_wp2
      go_ret
      refine ⟨?_, by repeat (first | exact Drawn0.refl _ | apply Drawn0.step)⟩
      rw [HA.out, HX.out, List.drop_length]; rfl
set_option maxHeartbeats 2000000 in
theorem slices_ContainsFunc.calls (A0 : Option Addr) (c0 : Nat) (l0 : List ByteArray) (r : Bool) (w : World) (hr0 : Kd.C Kd.string w A0 l0.length l0) (hc0 : l0.length ≤ c0) (h : slices_ContainsFunc.f l0 = some r) :
    Calls Tryd.prog 52 #[.slice A0 l0.length c0, .func (.func 53) #[] #[]] w fun e w' => e = .returned (.bool r) ∧ Drawn0 w w' := by
  unfold slices_ContainsFunc.f at h
  by_cases hh : l0.all (fun s => decide (s.size ≤ 140737488351232)) = true ∧ l0.length ≤ 140737488351232
  case neg => rw [if_neg hh] at h; cases h
  rw [if_pos hh] at h
  have hE : r = decide (0 ≤ noSeg l0 0) := by rw [noSeg_all]; exact (Option.some.inj h).symm
  have HE := Aside0.mk hE
  have hI := indexfunc_calls A0 c0 l0 w hr0 (fun j hj => by
    have := List.all_eq_true.1 hh.1 l0[j] (List.getElem_mem hj)
    rw [List.getD_eq_getElem?_getD, List.getElem?_eq_getElem hj]
    simpa using this) hh.2
  have HI := Aside0.mk hI
  clear hE h hh hr0 hc0 hI
  go_enter Tryd.func52, Tryd.ntmps52
  go_wp2_with (go_at_call 70; refine HI.out.mono ?_; rintro e w' ⟨rfl, ⟨n, rfl⟩⟩)
  go_ret
  exact ⟨by rw [HE.out]; rfl, by repeat (first | exact Drawn0.refl _ | apply Drawn0.step)⟩

/-! ### strings_Repeat: function 41 -/
def repB (s : ByteArray) (n : Nat) : ByteArray := ⟨(Lib.repeatL s.data.toList n).toArray⟩
def strings_Repeat.f (s : ByteArray) (n : Int) : Option ByteArray := if 0 ≤ n ∧ n ≤ 100000 ∧ s.size ≤ 100000 then some (repB s n.toNat) else none
theorem strings_Repeat.calls (a0 : ByteArray) (a1 : Int) (r : ByteArray) (w : World) (h : strings_Repeat.f a0 a1 = some r) :
    Calls Tryd.prog 41 #[.string a0, .int .i64 a1] w fun e w' => e = .returned (.string r) ∧ Below w.heap.size w w' := by
  unfold strings_Repeat.f at h
  by_cases hh : 0 ≤ a1 ∧ a1 ≤ 100000 ∧ a0.size ≤ 100000
  case neg => rw [if_neg hh] at h; cases h
  rw [if_pos hh] at h
  obtain ⟨n, rfl⟩ := Int.eq_ofNat_of_zero_le hh.1
  have hm : a0.size * n ≤ 100000 * 100000 := Nat.mul_le_mul hh.2.2 (by omega)
  have := Option.some.inj h
  subst this
  rw [Int.toNat_natCast]
  exact Tryd.strings_Repeat a0 n w (by omega) (by omega)

/-! ### functions of Go's library over strings, by the shelf's contracts -/
theorem one_byte {a : ByteArray} (h : a.size = 1) : ∃ c, a = ⟨#[c]⟩ ∧ a.data.toList.headD 0 = c := by
  obtain ⟨⟨l⟩⟩ := a
  match l, h with
  | [c], _ => exact ⟨c, rfl, rfl⟩
def strings_Index.f (s sep : ByteArray) : Option Int := if sep.size = 1 then some (Lib.indexByte s.data.toList (sep.data.toList.headD 0)) else none
theorem strings_Index.calls (a0 a1 : ByteArray) (r : Int) (w : World) (h : strings_Index.f a0 a1 = some r) :
    Calls Tryd.prog 77 #[.string a0, .string a1] w fun e w' => e = .returned (.int .i64 r) ∧ Drawn0 w w' := by
  unfold strings_Index.f at h
  by_cases h1 : a1.size = 1
  case neg => rw [if_neg h1] at h; cases h
  rw [if_pos h1] at h
  have := Option.some.inj h
  subst this
  obtain ⟨c, rfl, hc⟩ := one_byte h1
  rw [hc]
  refine (Tryd.strings_Index_one a0 c w).mono ?_
  rintro e w' ⟨rfl, rfl⟩
  exact ⟨rfl, Drawn0.refl _⟩
def strings_Count.f (s sep : ByteArray) : Option Int := if sep.size = 1 then some (Lib.countByte s.data.toList (sep.data.toList.headD 0)) else none
theorem strings_Count.calls (a0 a1 : ByteArray) (r : Int) (w : World) (h : strings_Count.f a0 a1 = some r) :
    Calls Tryd.prog 76 #[.string a0, .string a1] w fun e w' => e = .returned (.int .i64 r) ∧ Drawn0 w w' := by
  unfold strings_Count.f at h
  by_cases h1 : a1.size = 1
  case neg => rw [if_neg h1] at h; cases h
  rw [if_pos h1] at h
  have := Option.some.inj h
  subst this
  obtain ⟨c, rfl, hc⟩ := one_byte h1
  rw [hc]
  refine (Tryd.strings_Count_one a0 c w).mono ?_
  rintro e w' ⟨rfl, rfl⟩
  exact ⟨rfl, Drawn0.refl _⟩
def strings_explode.f (_ : ByteArray) (_ : Int) : Option (List ByteArray) := none
theorem strings_explode.calls (a0 : ByteArray) (a1 : Int) (r : List ByteArray) (w : World) (h : strings_explode.f a0 a1 = some r) :
    Calls Tryd.prog 75 #[.string a0, .int .i64 a1] w fun e w' => ∃ v0_ : Value, e = .returned (v0_) ∧ Kd.R Kd.string 9 w' w.heap.size (fun _ => True) v0_ r ∧ Below w.heap.size w w' := by cases h
def strings_CutPrefix.f (s p : ByteArray) : Option (ByteArray × Bool) := some (⟨(Lib.trimPrefix s.data.toList p.data.toList).toArray⟩, Lib.hasPrefix s.data.toList p.data.toList)
theorem strings_CutPrefix.calls (a0 a1 : ByteArray) (r1 : ByteArray) (r2 : Bool) (w : World) (h : strings_CutPrefix.f a0 a1 = some (r1, r2)) :
    Calls Tryd.prog 38 #[.string a0, .string a1] w fun e w' => e = .returned (.tuple #[.string r1, .bool r2]) ∧ Drawn0 w w' := by
  unfold strings_CutPrefix.f at h
  have := Option.some.inj h
  simp only [Prod.mk.injEq] at this
  obtain ⟨rfl, rfl⟩ := this
  refine (Tryd.strings_CutPrefix a0 a1 w).mono ?_
  rintro e w' ⟨rfl, rfl⟩
  exact ⟨rfl, Drawn0.refl _⟩
def strings_TrimLeft.f (s p : ByteArray) : Option ByteArray := if p.size = 1 ∧ (p.data.toList.headD 0).toNat < 128 then some ⟨(Lib.trimLeftB s.data.toList (p.data.toList.headD 0)).toArray⟩ else none
theorem strings_TrimLeft.calls (a0 a1 : ByteArray) (r : ByteArray) (w : World) (h : strings_TrimLeft.f a0 a1 = some r) :
    Calls Tryd.prog 39 #[.string a0, .string a1] w fun e w' => e = .returned (.string r) ∧ Drawn0 w w' := by
  unfold strings_TrimLeft.f at h
  by_cases h1 : a1.size = 1 ∧ (a1.data.toList.headD 0).toNat < 128
  case neg => rw [if_neg h1] at h; cases h
  rw [if_pos h1] at h
  have := Option.some.inj h
  subst this
  obtain ⟨c, rfl, hc⟩ := one_byte h1.1
  have h2 := h1.2
  rw [hc] at h2 ⊢
  refine (Tryd.strings_TrimLeft_one a0 c h2 w).mono ?_
  rintro e w' ⟨rfl, rfl⟩
  exact ⟨rfl, Drawn0.refl _⟩
/-- The cells of a row of strings that is read: where they lie. -/
theorem str_cells {w : World} {A : Option Addr} {l : List ByteArray} (h : Kd.C Kd.string w A l.length l) (hp : 0 < l.length) : ∃ bk o, A = some ⟨bk, o, none⟩ ∧ bk < w.heap.size ∧ ∀ j, j < l.length → w.cell? ⟨bk, o + j, none⟩ = some (.string (l.getD j ByteArray.empty)) := by
  obtain ⟨_, _, hread⟩ := Kd.reads_of_C (enc := Value.string) (d := ByteArray.empty) (h1 := fun _ => rfl) h
  obtain ⟨ad, rfl, hc⟩ := hread hp
  obtain ⟨bk, o, sp⟩ := ad
  have h0 := hc 0 hp
  have hs : sp = none := by
    cases sp with
    | none => rfl
    | some q =>
      exfalso
      have : w.cell? (Addr.add ⟨bk, o, some q⟩ 0) = none := by
        unfold World.cell? Addr.add
        simp only [↓reduceIte]
        split
        · simp
        · rfl
      rw [this] at h0; cases h0
  subst hs
  refine ⟨bk, o, rfl, ?_, fun j hj => ?_⟩
  · rw [add_at] at h0
    unfold World.cell? at h0
    cases hq : w.heap[bk]? with
    | none => simp [hq] at h0
    | some _ => exact (Array.getElem?_eq_some_iff.1 hq).1
  · have := hc j hj
    rwa [add_at] at this
def joinB (l : List ByteArray) (sep : ByteArray) : ByteArray := ⟨(Lib.join (l.map (·.data.toList)) sep.data.toList).toArray⟩
def strings_Join.f (l : List ByteArray) (sep : ByteArray) : Option ByteArray := if (joinB l sep).size ≤ 140737488355328 ∧ l.length ≤ 140737488355328 then some (joinB l sep) else none
theorem strings_Join.calls (A0 : Option Addr) (c0 : Nat) (l0 : List ByteArray) (a1 : ByteArray) (r : ByteArray) (w : World) (hr0 : Kd.C Kd.string w A0 l0.length l0) (hc0 : l0.length ≤ c0) (h : strings_Join.f l0 a1 = some r) :
    Calls Tryd.prog 42 #[.slice A0 l0.length c0, .string a1] w fun e w' => e = .returned (.string r) ∧ Below w.heap.size w w' := by
  unfold strings_Join.f at h
  by_cases h1 : (joinB l0 a1).size ≤ 140737488355328 ∧ l0.length ≤ 140737488355328
  case neg => rw [if_neg h1] at h; cases h
  rw [if_pos h1] at h
  have := Option.some.inj h
  subst this
  cases l0 with
  | nil =>
    refine (Tryd.strings_Join_none A0 c0 a1 w).mono ?_
    rintro e w' ⟨rfl, rfl⟩
    exact ⟨rfl, Below.refl _ _⟩
  | cons x l =>
    obtain ⟨bk, o, rfl, hb, hc⟩ := str_cells hr0 (by simp)
    refine (Tryd.strings_Join bk o c0 (x :: l) a1 w (fun j y hj => ?_) hb h1.2 hc0 (by have := h1.1; simpa [joinB, ByteArray.size] using this)).mono ?_
    · have hl := (List.getElem?_eq_some_iff.1 hj).1
      rw [hc j hl, List.getD_eq_getElem?_getD, hj]; rfl
    · rintro e w' ⟨rfl, hb⟩
      exact ⟨rfl, hb⟩
def slices_Clone.f (l : List ByteArray) : Option (List ByteArray) := if l.length ≤ 8796093022208 then some l else none
theorem slices_Clone.calls (A0 : Option Addr) (c0 : Nat) (l0 : List ByteArray) (r : List ByteArray) (w : World) (hr0 : Kd.C Kd.string w A0 l0.length l0) (hc0 : l0.length ≤ c0) (h : slices_Clone.f l0 = some r) :
    Calls Tryd.prog 45 #[.slice A0 l0.length c0] w fun e w' => ∃ v0_ : Value, e = .returned (v0_) ∧ Kd.R Kd.string 9 w' w.heap.size (fun _ => True) v0_ r ∧ Below w.heap.size w w' := by
  unfold slices_Clone.f at h
  by_cases h1 : l0.length ≤ 8796093022208
  case neg => rw [if_neg h1] at h; cases h
  rw [if_pos h1] at h
  have := Option.some.inj h
  subst this
  cases l0 with
  | nil =>
    cases A0 with
    | none =>
      refine (Tryd.slices_Clone_string_nil _ c0 w).mono ?_
      rintro e w' ⟨rfl, rfl⟩
      exact ⟨_, rfl, Kd.R_nil _ _ _ _ _, Below.refl _ _⟩
    | some a =>
      refine (Tryd.slices_Clone_string_zero a c0 w).mono ?_
      rintro e w' ⟨v', rfl, ho, _, hb⟩
      exact ⟨_, rfl, Kd.R_of_own ho (fun _ _ => trivial), hb⟩
  | cons x l =>
    obtain ⟨bk, o, rfl, hb, hc⟩ := str_cells hr0 (by simp)
    refine (Tryd.slices_Clone_string bk o (x :: l).length c0 (x :: l) w (Nat.le_refl _) (by omega) hc).mono ?_
    rintro e w' ⟨v', rfl, ho, _, hb⟩
    rw [List.take_length] at ho
    exact ⟨_, rfl, Kd.R_of_own (by simpa [encs] using ho) (fun _ _ => trivial), hb⟩
def cmp_Compare_int.f (x y : Int) : Option Int := some (Lib.compareInt x y)
theorem cmp_Compare_int.calls (a0 a1 : Int) (r : Int) (w : World) (h : cmp_Compare_int.f a0 a1 = some r) :
    Calls Tryd.prog 50 #[.int .i64 a0, .int .i64 a1] w fun e w' => e = .returned (.int .i64 r) ∧ Drawn0 w w' := by
  have := Option.some.inj h
  subst this
  refine (Tryd.cmp_Compare_int a0 a1 w).mono ?_
  rintro e w' ⟨rfl, rfl⟩
  exact ⟨rfl, Drawn0.refl _⟩
section
variable {α : Type} {d : Kd α} {e : Nat} {W : World} {base : Nat} {v : Value} {xs : List α} {A B C : Nat → Prop}
/-- What a shared row is none of, told wider. -/
theorem vU_ (h : Kd.V d e W base (fun k => B k ∧ C k) v xs) : Kd.V d e W base (fun k => (A k ∨ B k) ∧ C k) v xs := Kd.V_mono h fun _ hk => ⟨.inr hk.1, hk.2⟩
theorem vU0_ (h : Kd.V d e W base B v xs) : Kd.V d e W base (fun k => A k ∨ B k) v xs := Kd.V_mono h fun _ hk => .inr hk
end

end Go.Proofs.YtpjajjmipbjliaaDoor.Ext
