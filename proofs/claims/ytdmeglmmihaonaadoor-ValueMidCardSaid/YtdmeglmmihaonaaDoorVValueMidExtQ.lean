/- Contracts of functions that the print does not take, walked by hand: what the call comes to, in plain lists and numbers. -/
import Derived.Test.YtdmeglmmihaonaaDoorProg
import Derived.Deep.Draws
import Derived.Deep.AppendLies
import Derived.OwnWalk
import Derived.Laws.BytesArg
import Derived.Laws.MakeOwn
import Derived.Tactics
import Derived.WalkKit
import Derived.KernelRfl
import Derived.RowKit3
import Derived.Deep.LoopGhost
import Derived.Deep.QuietTactic
import Derived.BigQuiet
import Derived.WideLaws
import Derived.Deep.DeepCutAuto
import Derived.Test.YtdmeglmmihaonaaDoorVValueMidShelf
import Derived.Test.YtdmeglmmihaonaaDoorVValueMid
namespace Go.Proofs.YtdmeglmmihaonaaDoor.Ext
open Go.RowKit Go.Proofs.YtdmeglmmihaonaaDoorW.PrintWords Go.Proofs.YtdmeglmmihaonaaDoorW.PrintLast Go.Proofs.YtdmeglmmihaonaaDoorW.PrintMore
set_option linter.unusedVariables false
set_option linter.unusedSimpArgs false
/-! ### strings.Join, by the shelf's contract -/
/-- The cells of a row of strings that is read: where they lie. -/
theorem str_cells {w : World} {A : Option Addr} {l : List ByteArray} (h : Kd.C Kd.string w A l.length l) (hp : 0 < l.length) : ∃ bk o, A = some ⟨bk, o, none⟩ ∧ bk < w.heap.size ∧ ∀ j, j < l.length → w.cell? ⟨bk, o + j, none⟩ = some (.string (l.getD j ByteArray.empty)) := by
  obtain ⟨_, _, hread⟩ := Kd.reads_of_C (enc := Value.string) (d := ByteArray.empty) (h1 := fun _ => rfl) h
  obtain ⟨ad, rfl, hc⟩ := hread hp
  obtain ⟨bk, o, sp⟩ := ad
  have h0 := hc 0 hp
  have hs : sp = none := by
    cases sp with
    | none => rfl
    | some q =>
      exfalso
      have : w.cell? (Addr.add ⟨bk, o, some q⟩ 0) = none := by
        unfold World.cell? Addr.add
        simp only [↓reduceIte]
        split
        · simp
        · rfl
      rw [this] at h0; cases h0
  subst hs
  refine ⟨bk, o, rfl, ?_, fun j hj => ?_⟩
  · rw [add_at] at h0
    unfold World.cell? at h0
    cases hq : w.heap[bk]? with
    | none => simp [hq] at h0
    | some _ => exact (Array.getElem?_eq_some_iff.1 hq).1
  · have := hc j hj
    rwa [add_at] at this
def joinB (l : List ByteArray) (sep : ByteArray) : ByteArray := ⟨(Lib.join (l.map (·.data.toList)) sep.data.toList).toArray⟩
def strings_Join.f (l : List ByteArray) (sep : ByteArray) : Option ByteArray := if (joinB l sep).size ≤ 140737488355328 ∧ l.length ≤ 140737488355328 then some (joinB l sep) else none
theorem strings_Join.calls (A0 : Option Addr) (c0 : Nat) (l0 : List ByteArray) (a1 : ByteArray) (r : ByteArray) (w : World) (hr0 : Kd.C Kd.string w A0 l0.length l0) (hc0 : l0.length ≤ c0) (h : strings_Join.f l0 a1 = some r) :
    Calls Tryd.prog 70 #[.slice A0 l0.length c0, .string a1] w fun e w' => e = .returned (.string r) ∧ Below w.heap.size w w' := by
  unfold strings_Join.f at h
  by_cases h1 : (joinB l0 a1).size ≤ 140737488355328 ∧ l0.length ≤ 140737488355328
  case neg => rw [if_neg h1] at h; cases h
  rw [if_pos h1] at h
  have := Option.some.inj h
  subst this
  cases l0 with
  | nil =>
    refine (Tryd.strings_Join_none A0 c0 a1 w).mono ?_
    rintro e w' ⟨rfl, rfl⟩
    exact ⟨rfl, Below.refl _ _⟩
  | cons x l =>
    obtain ⟨bk, o, rfl, hb, hc⟩ := str_cells hr0 (by simp)
    refine (Tryd.strings_Join bk o c0 (x :: l) a1 w (fun j y hj => ?_) hb h1.2 hc0 (by have := h1.1; simpa [joinB, ByteArray.size] using this)).mono ?_
    · have hl := (List.getElem?_eq_some_iff.1 hj).1
      rw [hc j hl, List.getD_eq_getElem?_getD, hj]; rfl
    · rintro e w' ⟨rfl, hb⟩
      exact ⟨rfl, hb⟩
section
variable {α : Type} {d : Kd α} {e : Nat} {W : World} {base : Nat} {v : Value} {xs : List α} {A B C : Nat → Prop}
/-- What a shared row is none of, told wider. -/
theorem vU_ (h : Kd.V d e W base (fun k => B k ∧ C k) v xs) : Kd.V d e W base (fun k => (A k ∨ B k) ∧ C k) v xs := Kd.V_mono h fun _ hk => ⟨.inr hk.1, hk.2⟩
theorem vU0_ (h : Kd.V d e W base B v xs) : Kd.V d e W base (fun k => A k ∨ B k) v xs := Kd.V_mono h fun _ hk => .inr hk
end

end Go.Proofs.YtdmeglmmihaonaaDoor.Ext
