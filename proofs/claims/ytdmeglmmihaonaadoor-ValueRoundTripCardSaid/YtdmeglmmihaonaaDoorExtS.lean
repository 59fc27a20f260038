/- Contracts of functions that the print does not take, walked by hand: what the call comes to, in plain lists and numbers. -/
import Derived.Test.YtdmeglmmihaonaaDoorProg
import Derived.Deep.Draws
import Derived.Deep.AppendLies
import Derived.OwnWalk
import Derived.Laws.BytesArg
import Derived.Laws.MakeOwn
import Derived.Tactics
import Derived.WalkKit
import Derived.KernelRfl
import Derived.RowKit3
import Derived.Deep.LoopGhost
import Derived.Deep.QuietTactic
import Derived.BigQuiet
import Derived.WideLaws
import Derived.Deep.DeepCutAuto
import Derived.Test.YtdmeglmmihaonaaDoorPeachx
import Derived.Test.YtdmeglmmihaonaaDoorExtQ
import Derived.Test.YtdmeglmmihaonaaDoorBytes
import Derived.Test.YtdmeglmmihaonaaDoorExtR
import Derived.Test.YtdmeglmmihaonaaDoorPtextHx
import Derived.Test.YtdmeglmmihaonaaDoorPtextDx
namespace Go.Proofs.YtdmeglmmihaonaaDoor.Ext
open Go.RowKit Go.Proofs.YtdmeglmmihaonaaDoorW.PrintWords Go.Proofs.YtdmeglmmihaonaaDoorW.PrintLast Go.Proofs.YtdmeglmmihaonaaDoorW.PrintMore Go.Proofs.YtdmeglmmihaonaaDoor.Plain
set_option linter.unusedVariables false
set_option linter.unusedSimpArgs false
/-! ### value.each at value.hexByte: function 38 -/
def hexUp (d : Nat) : UInt8 := if d < 10 then UInt8.ofNat (48 + d) else UInt8.ofNat (55 + d)
def hex2 (c : Nat) : ByteArray := ⟨#[hexUp (c / 16), hexUp (c % 16)]⟩
theorem hexByte_f (c : Nat) (h : c < 256) : YtdmeglmmihaonaaDoor.Peach.value_hexByte.f (c : Int) = some (hex2 c) := by
  have all : ∀ c : Fin 256, YtdmeglmmihaonaaDoor.Peach.value_hexByte.f (c.val : Int) = some (hex2 c.val) := by decide +kernel
  exact all ⟨c, h⟩
def hexes (s : ByteArray) : List ByteArray := (bytesOf s).map fun c => hex2 c.toNat
def value_each.f (s sep : ByteArray) : Option ByteArray := if s.size ≤ 255 ∧ sep.size ≤ 1 then some (joinB (hexes s) sep) else none
theorem each_loop (s sep : ByteArray) (hs : s.size ≤ 255) : ∀ (e : Nat) (i k : Nat) (l : List ByteArray), i + e = s.size → e < k → l.length ≤ i →
    YtdmeglmmihaonaaDoor.Peach.value_each.l0 k s sep l (s.size : Int) (i : Int) = (strings_Join.f (l ++ (hexes s).drop i) sep).bind fun t => some t := by
  intro e
  induction e with
  | zero =>
    intro i k l hi hk hl
    obtain ⟨k, rfl⟩ : ∃ m, k = m + 1 := ⟨k - 1, by omega⟩
    simp only [YtdmeglmmihaonaaDoor.Peach.value_each.l0]
    rw [if_neg (by omega), List.drop_of_length_le (by simp [hexes, B_size]; omega), List.append_nil]
  | succ e ih =>
    intro i k l hi hk hl
    obtain ⟨k, rfl⟩ : ∃ m, k = m + 1 := ⟨k - 1, by omega⟩
    have hw : wrap64 ((i : Int) + 1) = ((i + 1 : Nat) : Int) := by rw [wrap64_id (by omega) (by omega)]; omega
    have hb := bt_range s i
    have hn := ih (i + 1) k (l ++ [hex2 (bt s i).toNat]) (by omega) (by omega) (by simp; omega)
    simp only [YtdmeglmmihaonaaDoor.Peach.value_each.l0]
    have hc : bt s (i : Int) = (((bt s i).toNat : Nat) : Int) := by omega
    rw [if_pos (by omega), if_pos (by omega), if_pos (by omega), hc, hexByte_f _ (by omega)]
    simp only [Option.bind_some]
    rw [if_pos (by omega), hw, hn]
    have hd : (hexes s).drop i = hex2 (bt s i).toNat :: (hexes s).drop (i + 1) := by
      have hlen : i < (hexes s).length := by simp [hexes, B_size]; omega
      rw [List.drop_eq_getElem_cons hlen]
      congr 1
      simp only [hexes, List.getElem_map]
      rw [bt_B, Int.toNat_natCast, getD_at _ _ (by rw [B_size]; omega)]
    rw [hd, List.append_assoc]
    rfl
theorem join_size (sep : ByteArray) : ∀ l : List ByteArray, (∀ x ∈ l, x.size = 2) → sep.size ≤ 1 → (joinB l sep).size ≤ 3 * l.length := by
  intro l hl hsep
  have h1 : ∀ (l : List (List UInt8)) (q : List UInt8), (∀ x ∈ l, x.length = 2) → q.length ≤ 1 → (Lib.join l q).length ≤ 3 * l.length := by
    intro l q
    induction l with
    | nil => intro _ _; simp [Lib.join]
    | cons x l ih =>
      intro hx hq
      cases l with
      | nil => rw [Lib.join_one]; have := hx x (by simp); simp; omega
      | cons y l =>
        have h2 := ih (fun z hz => hx z (by simp only [List.mem_cons] at hz ⊢; exact .inr hz)) hq
        have h3 : Lib.join (x :: y :: l) q = x ++ q ++ Lib.join (y :: l) q := by simp [Lib.join, List.intercalate]
        rw [h3]
        have := hx x (by simp)
        simp only [List.length_append, List.length_cons] at *
        omega
  have h2 := h1 (l.map (·.data.toList)) sep.data.toList (fun x hx => by
    obtain ⟨y, hy, rfl⟩ := List.mem_map.1 hx
    have := hl y hy
    rw [Array.length_toList]
    exact this) (by rw [Array.length_toList]; exact hsep)
  rw [List.length_map] at h2
  have h3 : (joinB l sep).size = (Lib.join (l.map (·.data.toList)) sep.data.toList).length := by
    show (List.toArray _).size = _
    exact List.size_toArray
  rw [h3]
  exact h2
theorem value_each.calls (a0 a1 r : ByteArray) (w : World) (h : value_each.f a0 a1 = some r) :
    Calls Tryd.prog 38 #[.string a0, .string a1, .func (.func 39) #[] #[]] w fun e w' => e = .returned (.string r) ∧ Below w.heap.size w w' := by
  unfold value_each.f at h
  by_cases hh : a0.size ≤ 255 ∧ a1.size ≤ 1
  case neg => rw [if_neg hh] at h; cases h
  rw [if_pos hh] at h
  have hj := each_loop a0 a1 hh.1 a0.size 0 (a0.size + 1) [] (by omega) (by omega) (by simp)
  have hz := join_size a1 (hexes a0) (fun x hx => by obtain ⟨c, _, rfl⟩ := List.mem_map.1 hx; rfl) hh.2
  have hl : (hexes a0).length = a0.size := by simp [hexes, B_size]
  refine YtdmeglmmihaonaaDoor.Peach.value_each.calls (a0.size + 1) a0 a1 r w ?_
  unfold YtdmeglmmihaonaaDoor.Peach.value_each.f
  rw [show (0 : Int) = ((0 : Nat) : Int) from rfl, hj, List.nil_append, List.drop_zero]
  unfold strings_Join.f
  rw [if_pos ⟨by omega, by omega⟩]
  exact h

/-! ### value.text at its two pairs of functions: function 47 -/
def value_text.f (a b : Int) (c : ByteArray) (d : Int) (n1 n2 : Nat) : Option (Int × Int × ByteArray × Int × Int) :=
  if n1 = 48 ∧ n2 = 49 then YtdmeglmmihaonaaDoor.PtextH.value_text.f a b c d else if n1 = 50 ∧ n2 = 51 then YtdmeglmmihaonaaDoor.PtextD.value_text.f a b c d else none
theorem value_text.calls (a b : Int) (c : ByteArray) (d : Int) (n1 n2 : Nat) (r1 r2 : Int) (r3 : ByteArray) (r4 r5 : Int) (w : World) (hT : Tb w) (h : value_text.f a b c d n1 n2 = some (r1, r2, r3, r4, r5)) :
    Calls Tryd.prog 47 #[.agg #[.int .i64 a, .int .u64 b, .string c, .int .i64 d], .func (.func n1) #[] #[], .func (.func n2) #[] #[]] w fun e w' => e = .returned (.tuple #[.agg #[.int .i64 r1, .int .u64 r2, .string r3, .int .i64 r4], .int .i64 r5]) ∧ Below w.heap.size w w' := by
  unfold value_text.f at h
  by_cases h1 : n1 = 48 ∧ n2 = 49
  · rw [if_pos h1] at h
    obtain ⟨rfl, rfl⟩ := h1
    exact YtdmeglmmihaonaaDoor.PtextH.value_text.calls a b c d r1 r2 r3 r4 r5 w hT h
  · rw [if_neg h1] at h
    by_cases h2 : n1 = 50 ∧ n2 = 51
    case neg => rw [if_neg h2] at h; cases h
    rw [if_pos h2] at h
    obtain ⟨rfl, rfl⟩ := h2
    exact YtdmeglmmihaonaaDoor.PtextD.value_text.calls a b c d r1 r2 r3 r4 r5 w hT h

end Go.Proofs.YtdmeglmmihaonaaDoor.Ext
