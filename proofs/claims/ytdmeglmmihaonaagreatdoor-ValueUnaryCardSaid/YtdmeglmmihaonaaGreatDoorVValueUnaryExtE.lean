/- Contracts of functions that the print does not take, walked by hand: what the call comes to, in plain lists and numbers. -/
import Derived.Test.YtdmeglmmihaonaaGreatDoorProg
import Derived.Deep.Draws
import Derived.Deep.AppendLies
import Derived.OwnWalk
import Derived.Laws.BytesArg
import Derived.Laws.MakeOwn
import Derived.Tactics
import Derived.WalkKit
import Derived.KernelRfl
import Derived.RowKit3
import Derived.Deep.LoopGhost
import Derived.Deep.QuietTactic
import Derived.BigQuiet
import Derived.WideLaws
import Derived.Deep.DeepCutAuto
import Derived.Test.YtdmeglmmihaonaaGreatDoorVValueUnaryPeachx
import Derived.Test.YtdmeglmmihaonaaGreatDoorVValueUnaryExtQ
import Derived.Test.YtdmeglmmihaonaaGreatDoorVValueUnaryBytes
import Derived.Test.YtdmeglmmihaonaaGreatDoorVValueUnaryPeachOx
import Derived.Test.YtdmeglmmihaonaaGreatDoorVValueUnaryPeachIx
import Derived.Test.YtdmeglmmihaonaaGreatDoorVValueUnaryExtR
namespace Go.Proofs.YtdmeglmmihaonaaGreatDoor.Ext
open Go.RowKit Go.Proofs.YtdmeglmmihaonaaGreatDoorW.PrintWords Go.Proofs.YtdmeglmmihaonaaGreatDoorW.PrintLast Go.Proofs.YtdmeglmmihaonaaGreatDoorW.PrintMore Go.Proofs.YtdmeglmmihaonaaGreatDoor.Plain
set_option linter.unusedVariables false
set_option linter.unusedSimpArgs false
/-! ### value.each at value.hexByte: function 41 -/
def hexUp (d : Nat) : UInt8 := if d < 10 then UInt8.ofNat (48 + d) else UInt8.ofNat (55 + d)
def hex2 (c : Nat) : ByteArray := ⟨#[hexUp (c / 16), hexUp (c % 16)]⟩
theorem hexByte_f (c : Nat) (h : c < 256) : YtdmeglmmihaonaaGreatDoor.Peach.value_hexByte.f (c : Int) = some (hex2 c) := by
  have all : ∀ c : Fin 256, YtdmeglmmihaonaaGreatDoor.Peach.value_hexByte.f (c.val : Int) = some (hex2 c.val) := by decide +kernel
  exact all ⟨c, h⟩
def hexes (s : ByteArray) : List ByteArray := (bytesOf s).map fun c => hex2 c.toNat
def value_each.f (s sep : ByteArray) : Option ByteArray := if s.size ≤ 255 ∧ sep.size ≤ 1 then some (joinB (hexes s) sep) else none
theorem each_loop (s sep : ByteArray) (hs : s.size ≤ 255) : ∀ (e : Nat) (i k : Nat) (l : List ByteArray), i + e = s.size → e < k → l.length ≤ i →
    YtdmeglmmihaonaaGreatDoor.Peach.value_each.l0 k s sep l (s.size : Int) (i : Int) = (strings_Join.f (l ++ (hexes s).drop i) sep).bind fun t => some t := by
  intro e
  induction e with
  | zero =>
    intro i k l hi hk hl
    obtain ⟨k, rfl⟩ : ∃ m, k = m + 1 := ⟨k - 1, by omega⟩
    simp only [YtdmeglmmihaonaaGreatDoor.Peach.value_each.l0]
    rw [if_neg (by omega), List.drop_of_length_le (by simp [hexes, B_size]; omega), List.append_nil]
  | succ e ih =>
    intro i k l hi hk hl
    obtain ⟨k, rfl⟩ : ∃ m, k = m + 1 := ⟨k - 1, by omega⟩
    have hw : wrap64 ((i : Int) + 1) = ((i + 1 : Nat) : Int) := by rw [wrap64_id (by omega) (by omega)]; omega
    have hb := bt_range s i
    have hn := ih (i + 1) k (l ++ [hex2 (bt s i).toNat]) (by omega) (by omega) (by simp; omega)
    simp only [YtdmeglmmihaonaaGreatDoor.Peach.value_each.l0]
    have hc : bt s (i : Int) = (((bt s i).toNat : Nat) : Int) := by omega
    rw [if_pos (by omega), if_pos (by omega), if_pos (by omega), hc, hexByte_f _ (by omega)]
    simp only [Option.bind_some]
    rw [if_pos (by omega), hw, hn]
    have hd : (hexes s).drop i = hex2 (bt s i).toNat :: (hexes s).drop (i + 1) := by
      have hlen : i < (hexes s).length := by simp [hexes, B_size]; omega
      rw [List.drop_eq_getElem_cons hlen]
      congr 1
      simp only [hexes, List.getElem_map]
      rw [bt_B, Int.toNat_natCast, getD_at _ _ (by rw [B_size]; omega)]
    rw [hd, List.append_assoc]
    rfl
theorem join_size (sep : ByteArray) : ∀ l : List ByteArray, (∀ x ∈ l, x.size = 2) → sep.size ≤ 1 → (joinB l sep).size ≤ 3 * l.length := by
  intro l hl hsep
  have h1 : ∀ (l : List (List UInt8)) (q : List UInt8), (∀ x ∈ l, x.length = 2) → q.length ≤ 1 → (Lib.join l q).length ≤ 3 * l.length := by
    intro l q
    induction l with
    | nil => intro _ _; simp [Lib.join]
    | cons x l ih =>
      intro hx hq
      cases l with
      | nil => rw [Lib.join_one]; have := hx x (by simp); simp; omega
      | cons y l =>
        have h2 := ih (fun z hz => hx z (by simp only [List.mem_cons] at hz ⊢; exact .inr hz)) hq
        have h3 : Lib.join (x :: y :: l) q = x ++ q ++ Lib.join (y :: l) q := by simp [Lib.join, List.intercalate]
        rw [h3]
        have := hx x (by simp)
        simp only [List.length_append, List.length_cons] at *
        omega
  have h2 := h1 (l.map (·.data.toList)) sep.data.toList (fun x hx => by
    obtain ⟨y, hy, rfl⟩ := List.mem_map.1 hx
    have := hl y hy
    rw [Array.length_toList]
    exact this) (by rw [Array.length_toList]; exact hsep)
  rw [List.length_map] at h2
  have h3 : (joinB l sep).size = (Lib.join (l.map (·.data.toList)) sep.data.toList).length := by
    show (List.toArray _).size = _
    exact List.size_toArray
  rw [h3]
  exact h2
theorem value_each.calls (a0 a1 r : ByteArray) (w : World) (h : value_each.f a0 a1 = some r) :
    Calls Tryz.prog 41 #[.string a0, .string a1, .func (.func 21) #[] #[]] w fun e w' => e = .returned (.string r) ∧ Below w.heap.size w w' := by
  unfold value_each.f at h
  by_cases hh : a0.size ≤ 255 ∧ a1.size ≤ 1
  case neg => rw [if_neg hh] at h; cases h
  rw [if_pos hh] at h
  have hj := each_loop a0 a1 hh.1 a0.size 0 (a0.size + 1) [] (by omega) (by omega) (by simp)
  have hz := join_size a1 (hexes a0) (fun x hx => by obtain ⟨c, _, rfl⟩ := List.mem_map.1 hx; rfl) hh.2
  have hl : (hexes a0).length = a0.size := by simp [hexes, B_size]
  refine YtdmeglmmihaonaaGreatDoor.Peach.value_each.calls (a0.size + 1) a0 a1 r w ?_
  unfold YtdmeglmmihaonaaGreatDoor.Peach.value_each.f
  rw [show (0 : Int) = ((0 : Nat) : Int) from rfl, hj, List.nil_append, List.drop_zero]
  unfold strings_Join.f
  rw [if_pos ⟨by omega, by omega⟩]
  exact h

/-! ### value.each at the functions of value.Unary: function 41 -/
def oxes (s : ByteArray) : List ByteArray := (bytesOf s).map fun c => (⟨#[48, 120]⟩ : ByteArray) ++ hex2 c.toNat
def decs (s : ByteArray) : List ByteArray := (bytesOf s).map fun c => decStr c.toNat
theorem ox_f (c : Nat) (h : c < 256) : YtdmeglmmihaonaaGreatDoor.PeachO.value_Unary_2.f (c : Int) = some ((⟨#[48, 120]⟩ : ByteArray) ++ hex2 c) := by
  have all : ∀ c : Fin 256, YtdmeglmmihaonaaGreatDoor.PeachO.value_hexByte.f (c.val : Int) = some (hex2 c.val) := by decide +kernel
  have h1 : YtdmeglmmihaonaaGreatDoor.PeachO.value_hexByte.f (c : Int) = some (hex2 c) := all ⟨c, h⟩
  unfold YtdmeglmmihaonaaGreatDoor.PeachO.value_Unary_2.f
  have hz : (hex2 c).size = 2 := rfl
  rw [h1, Option.bind_some, if_pos (by omega)]
theorem dec_f (c : Nat) (h : c < 256) : YtdmeglmmihaonaaGreatDoor.PeachI.value_Unary_4.f (c : Int) = some (decStr c) := by
  unfold YtdmeglmmihaonaaGreatDoor.PeachI.value_Unary_4.f
  rw [wrap64_id (by omega) (by omega)]
  unfold strconv_Itoa.f
  rw [if_pos ⟨by omega, by omega⟩, Int.toNat_natCast, Option.bind_some]
theorem eachO_loop (s sep : ByteArray) (hs : s.size ≤ 255) : ∀ (e : Nat) (i k : Nat) (l : List ByteArray), i + e = s.size → e < k → l.length ≤ i →
    YtdmeglmmihaonaaGreatDoor.PeachO.value_each.l0 k s sep l (s.size : Int) (i : Int) = (strings_Join.f (l ++ (oxes s).drop i) sep).bind fun t => some t := by
  intro e
  induction e with
  | zero =>
    intro i k l hi hk hl
    obtain ⟨k, rfl⟩ : ∃ m, k = m + 1 := ⟨k - 1, by omega⟩
    simp only [YtdmeglmmihaonaaGreatDoor.PeachO.value_each.l0]
    rw [if_neg (by omega), List.drop_of_length_le (by simp [oxes, B_size]; omega), List.append_nil]
  | succ e ih =>
    intro i k l hi hk hl
    obtain ⟨k, rfl⟩ : ∃ m, k = m + 1 := ⟨k - 1, by omega⟩
    have hw : wrap64 ((i : Int) + 1) = ((i + 1 : Nat) : Int) := by rw [wrap64_id (by omega) (by omega)]; omega
    have hb := bt_range s i
    have hn := ih (i + 1) k (l ++ [(⟨#[48, 120]⟩ : ByteArray) ++ hex2 (bt s i).toNat]) (by omega) (by omega) (by simp; omega)
    simp only [YtdmeglmmihaonaaGreatDoor.PeachO.value_each.l0]
    have hc : bt s (i : Int) = (((bt s i).toNat : Nat) : Int) := by omega
    rw [if_pos (by omega), if_pos (by omega), if_pos (by omega), hc, ox_f _ (by omega)]
    simp only [Option.bind_some]
    rw [if_pos (by omega), hw, hn]
    have hd : (oxes s).drop i = ((⟨#[48, 120]⟩ : ByteArray) ++ hex2 (bt s i).toNat) :: (oxes s).drop (i + 1) := by
      have hlen : i < (oxes s).length := by simp [oxes, B_size]; omega
      rw [List.drop_eq_getElem_cons hlen]
      congr 1
      simp only [oxes, List.getElem_map]
      rw [bt_B, Int.toNat_natCast, getD_at _ _ (by rw [B_size]; omega)]
    rw [hd, List.append_assoc]
    rfl
theorem eachI_loop (s sep : ByteArray) (hs : s.size ≤ 255) : ∀ (e : Nat) (i k : Nat) (l : List ByteArray), i + e = s.size → e < k → l.length ≤ i →
    YtdmeglmmihaonaaGreatDoor.PeachI.value_each.l0 k s sep l (s.size : Int) (i : Int) = (strings_Join.f (l ++ (decs s).drop i) sep).bind fun t => some t := by
  intro e
  induction e with
  | zero =>
    intro i k l hi hk hl
    obtain ⟨k, rfl⟩ : ∃ m, k = m + 1 := ⟨k - 1, by omega⟩
    simp only [YtdmeglmmihaonaaGreatDoor.PeachI.value_each.l0]
    rw [if_neg (by omega), List.drop_of_length_le (by simp [decs, B_size]; omega), List.append_nil]
  | succ e ih =>
    intro i k l hi hk hl
    obtain ⟨k, rfl⟩ : ∃ m, k = m + 1 := ⟨k - 1, by omega⟩
    have hw : wrap64 ((i : Int) + 1) = ((i + 1 : Nat) : Int) := by rw [wrap64_id (by omega) (by omega)]; omega
    have hb := bt_range s i
    have hn := ih (i + 1) k (l ++ [decStr (bt s i).toNat]) (by omega) (by omega) (by simp; omega)
    simp only [YtdmeglmmihaonaaGreatDoor.PeachI.value_each.l0]
    have hc : bt s (i : Int) = (((bt s i).toNat : Nat) : Int) := by omega
    rw [if_pos (by omega), if_pos (by omega), if_pos (by omega), hc, dec_f _ (by omega)]
    simp only [Option.bind_some]
    rw [if_pos (by omega), hw, hn]
    have hd : (decs s).drop i = decStr (bt s i).toNat :: (decs s).drop (i + 1) := by
      have hlen : i < (decs s).length := by simp [decs, B_size]; omega
      rw [List.drop_eq_getElem_cons hlen]
      congr 1
      simp only [decs, List.getElem_map]
      rw [bt_B, Int.toNat_natCast, getD_at _ _ (by rw [B_size]; omega)]
    rw [hd, List.append_assoc]
    rfl
theorem join_size5 (sep : ByteArray) : ∀ l : List ByteArray, (∀ x ∈ l, x.size ≤ 4) → sep.size ≤ 1 → (joinB l sep).size ≤ 5 * l.length := by
  intro l hl hsep
  have h1 : ∀ (l : List (List UInt8)) (q : List UInt8), (∀ x ∈ l, x.length ≤ 4) → q.length ≤ 1 → (Lib.join l q).length ≤ 5 * l.length := by
    intro l q
    induction l with
    | nil => intro _ _; simp [Lib.join]
    | cons x l ih =>
      intro hx hq
      cases l with
      | nil => rw [Lib.join_one]; have := hx x (by simp); simp; omega
      | cons y l =>
        have h2 := ih (fun z hz => hx z (by simp only [List.mem_cons] at hz ⊢; exact .inr hz)) hq
        have h3 : Lib.join (x :: y :: l) q = x ++ q ++ Lib.join (y :: l) q := by simp [Lib.join, List.intercalate]
        rw [h3]
        have := hx x (by simp)
        simp only [List.length_append, List.length_cons] at *
        omega
  have h2 := h1 (l.map (·.data.toList)) sep.data.toList (fun x hx => by
    obtain ⟨y, hy, rfl⟩ := List.mem_map.1 hx
    have := hl y hy
    rw [Array.length_toList]
    exact this) (by rw [Array.length_toList]; exact hsep)
  rw [List.length_map] at h2
  have h3 : (joinB l sep).size = (Lib.join (l.map (·.data.toList)) sep.data.toList).length := by
    show (List.toArray _).size = _
    exact List.size_toArray
  rw [h3]
  exact h2
theorem dec_size4 (c : Nat) (h : c < 256) : (decStr c).size ≤ 4 := by
  have e : (decStr c).size = (Lib.decDigits c).length := List.size_toArray
  rw [e, Lib.decDigits_length]
  by_cases h1 : c < 10
  · rw [Lib.nDigits_small h1]; omega
  · rw [Lib.nDigits_big h1]
    by_cases h2 : c / 10 < 10
    · rw [Lib.nDigits_small h2]; omega
    · rw [Lib.nDigits_big h2, Lib.nDigits_small (by omega)]; omega
def value_eachN.f (s sep : ByteArray) (n : Nat) : Option ByteArray := if s.size ≤ 255 ∧ sep.size ≤ 1 then (if n = 20 then some (joinB (oxes s) sep) else if n = 23 then some (joinB (decs s) sep) else none) else none
theorem value_eachN.calls (a0 a1 : ByteArray) (n : Nat) (r : ByteArray) (w : World) (hT : Tb w) (h : value_eachN.f a0 a1 n = some r) :
    Calls Tryz.prog 41 #[.string a0, .string a1, .func (.func n) #[] #[]] w fun e w' => e = .returned (.string r) ∧ Below w.heap.size w w' := by
  unfold value_eachN.f at h
  by_cases hh : a0.size ≤ 255 ∧ a1.size ≤ 1
  case neg => rw [if_neg hh] at h; cases h
  rw [if_pos hh] at h
  by_cases h1 : n = 20
  · subst h1
    rw [if_pos rfl] at h
    have hj := eachO_loop a0 a1 hh.1 a0.size 0 (a0.size + 1) [] (by omega) (by omega) (by simp)
    have hz := join_size5 a1 (oxes a0) (fun x hx => by obtain ⟨c, _, rfl⟩ := List.mem_map.1 hx; exact Nat.le_refl 4) hh.2
    have hl : (oxes a0).length = a0.size := by simp [oxes, B_size]
    refine YtdmeglmmihaonaaGreatDoor.PeachO.value_each.calls (a0.size + 1) a0 a1 r w ?_
    unfold YtdmeglmmihaonaaGreatDoor.PeachO.value_each.f
    rw [show (0 : Int) = ((0 : Nat) : Int) from rfl, hj, List.nil_append, List.drop_zero]
    unfold strings_Join.f
    rw [if_pos ⟨by omega, by omega⟩]
    exact h
  · rw [if_neg h1] at h
    by_cases h2 : n = 23
    case neg => rw [if_neg h2] at h; cases h
    subst h2
    rw [if_pos rfl] at h
    have hj := eachI_loop a0 a1 hh.1 a0.size 0 (a0.size + 1) [] (by omega) (by omega) (by simp)
    have hz := join_size5 a1 (decs a0) (fun x hx => by
      obtain ⟨c, hc, rfl⟩ := List.mem_map.1 hx
      have := B_range hc
      exact dec_size4 _ (by omega)) hh.2
    have hl : (decs a0).length = a0.size := by simp [decs, B_size]
    refine YtdmeglmmihaonaaGreatDoor.PeachI.value_each.calls (a0.size + 1) a0 a1 r w hT ?_
    unfold YtdmeglmmihaonaaGreatDoor.PeachI.value_each.f
    rw [show (0 : Int) = ((0 : Nat) : Int) from rfl, hj, List.nil_append, List.drop_zero]
    unfold strings_Join.f
    rw [if_pos ⟨by omega, by omega⟩]
    exact h

end Go.Proofs.YtdmeglmmihaonaaGreatDoor.Ext
