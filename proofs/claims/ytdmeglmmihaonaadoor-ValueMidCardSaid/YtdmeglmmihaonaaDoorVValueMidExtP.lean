/- Contracts of functions that the print does not take, walked by hand: what the call comes to, in plain lists and numbers. -/
import Derived.Test.YtdmeglmmihaonaaDoorProg
import Derived.Deep.Draws
import Derived.Deep.AppendLies
import Derived.OwnWalk
import Derived.Laws.BytesArg
import Derived.Laws.MakeOwn
import Derived.Tactics
import Derived.WalkKit
import Derived.KernelRfl
import Derived.RowKit3
import Derived.Deep.LoopGhost
import Derived.Deep.QuietTactic
import Derived.BigQuiet
import Derived.WideLaws
import Derived.Deep.DeepCutAuto
import Derived.Test.YtdmeglmmihaonaaDoorVValueMidShelf
import Derived.Test.YtdmeglmmihaonaaDoorVValueMid
import Derived.Lib.LaidTab
import Derived.Lib.ItoaWalk
import Derived.Lib.ItoaMem
import Derived.Sort.Grow
import Derived.Laws.IdiomStrings
import Derived.Lib.Walk
import Derived.RegionTactic
import Derived.BigCall
import Derived.BigGuard
import Derived.CellFam
import Derived.Test.YtdmeglmmihaonaaDoorVValueMidPeachx
import Derived.Test.YtdmeglmmihaonaaDoorVValueMidExtQ
import Derived.Test.YtdmeglmmihaonaaDoorVValueMidBytes
namespace Go.Proofs.YtdmeglmmihaonaaDoor.Ext
open Go.RowKit Go.Proofs.YtdmeglmmihaonaaDoorW.PrintWords Go.Proofs.YtdmeglmmihaonaaDoorW.PrintLast Go.Proofs.YtdmeglmmihaonaaDoorW.PrintMore Go.Proofs.YtdmeglmmihaonaaDoor.Plain
set_option linter.unusedVariables false
set_option linter.unusedSimpArgs false
/-! ### strings.IndexByte, Compare, HasPrefix, ToUpper: by the shelf's contracts -/
def strings_IndexByte.f (s : ByteArray) (c : Int) : Option Int := some (Lib.indexByte s.data.toList c.toNat.toUInt8)
theorem strings_IndexByte.calls (a0 : ByteArray) (a1 : Int) (r : Int) (w : World) (h : strings_IndexByte.f a0 a1 = some r) :
    Calls Tryd.prog 91 #[.string a0, .int .u8 a1] w fun e w' => e = .returned (.int .i64 r) ∧ Drawn0 w w' := by
  have := Option.some.inj h
  subst this
  refine (Tryd.strings_IndexByte a0 a1 w).mono ?_
  rintro e w' ⟨rfl, rfl⟩
  exact ⟨rfl, Drawn0.refl _⟩
def strings_Compare.f (s t : ByteArray) : Option Int := some (Lib.compareBytes s.data.toList t.data.toList)
theorem strings_Compare.calls (a0 a1 : ByteArray) (r : Int) (w : World) (h : strings_Compare.f a0 a1 = some r) :
    Calls Tryd.prog 76 #[.string a0, .string a1] w fun e w' => e = .returned (.int .i64 r) ∧ Drawn0 w w' := by
  have := Option.some.inj h
  subst this
  refine (Tryd.strings_Compare a0 a1 w).mono ?_
  rintro e w' ⟨rfl, rfl⟩
  exact ⟨rfl, Drawn0.refl _⟩
def strings_HasPrefix.f (s p : ByteArray) : Option Bool := some (Lib.hasPrefix s.data.toList p.data.toList)
theorem strings_HasPrefix.calls (a0 a1 : ByteArray) (r : Bool) (w : World) (h : strings_HasPrefix.f a0 a1 = some r) :
    Calls Tryd.prog 68 #[.string a0, .string a1] w fun e w' => e = .returned (.bool r) ∧ Drawn0 w w' := by
  have := Option.some.inj h
  subst this
  refine (Tryd.strings_HasPrefix a0 a1 w).mono ?_
  rintro e w' ⟨rfl, rfl⟩
  exact ⟨rfl, Drawn0.refl _⟩
def strings_ToUpper.f (s : ByteArray) : Option ByteArray := if s.size ≤ 140737488355328 ∧ s.data.toList.all (fun b => decide (b.toNat < 128)) = true then some ⟨(Lib.toUpperA s.data.toList).toArray⟩ else none
theorem strings_ToUpper.calls (a0 r : ByteArray) (w : World) (h : strings_ToUpper.f a0 = some r) :
    Calls Tryd.prog 35 #[.string a0] w fun e w' => e = .returned (.string r) ∧ Below w.heap.size w w' := by
  unfold strings_ToUpper.f at h
  by_cases hh : a0.size ≤ 140737488355328 ∧ a0.data.toList.all (fun b => decide (b.toNat < 128)) = true
  case neg => rw [if_neg hh] at h; cases h
  rw [if_pos hh] at h
  have := Option.some.inj h
  subst this
  exact Tryd.strings_ToUpper_ascii a0 w hh.1 (fun j b hj => of_decide_eq_true (List.all_eq_true.1 hh.2 b (List.mem_of_getElem? hj)))
theorem less_gtr : ∀ x y : List UInt8, (!(Op.bytesLess x y || x == y)) = Op.bytesLess y x := by
  intro x
  induction x with
  | nil => intro y; cases y <;> simp [Op.bytesLess]
  | cons a x ih =>
    intro y
    cases y with
    | nil => simp [Op.bytesLess]
    | cons b y =>
      simp only [Op.bytesLess, List.cons_beq_cons]
      by_cases h1 : a < b
      · have h2 : ¬ b < a := by rw [UInt8.lt_iff_toNat_lt] at *; omega
        have h3 : b ≠ a := by intro e; rw [e, UInt8.lt_iff_toNat_lt] at h1; omega
        simp [h1, h2, h3]
      · by_cases h2 : b < a
        · have h3 : a ≠ b := by intro e; rw [e, UInt8.lt_iff_toNat_lt] at h2; omega
          simp [h1, h2, h3]
        · have he : a = b := by
            rw [UInt8.lt_iff_toNat_lt] at h1 h2
            exact UInt8.toNat_inj.1 (by omega)
          subst he
          have := ih y
          simp [h1, ← this]
theorem binOp_str_gtr (t : TypeId) (a b : ByteArray) : binOp .gtr t (.string a) (.string b) = pure (.bool (Op.bytesLess b.toList a.toList)) := by rw [← less_gtr]; simp [binOp, Op.stringOp]

/-! ### strings_Repeat: function 37 -/
def repB (s : ByteArray) (n : Nat) : ByteArray := ⟨(Lib.repeatL s.data.toList n).toArray⟩
def strings_Repeat.f (s : ByteArray) (n : Int) : Option ByteArray := if 0 ≤ n ∧ n ≤ 100000 ∧ s.size ≤ 100000 then some (repB s n.toNat) else none
theorem strings_Repeat.calls (a0 : ByteArray) (a1 : Int) (r : ByteArray) (w : World) (h : strings_Repeat.f a0 a1 = some r) :
    Calls Tryd.prog 37 #[.string a0, .int .i64 a1] w fun e w' => e = .returned (.string r) ∧ Below w.heap.size w w' := by
  unfold strings_Repeat.f at h
  by_cases hh : 0 ≤ a1 ∧ a1 ≤ 100000 ∧ a0.size ≤ 100000
  case neg => rw [if_neg hh] at h; cases h
  rw [if_pos hh] at h
  obtain ⟨n, rfl⟩ := Int.eq_ofNat_of_zero_le hh.1
  have hm : a0.size * n ≤ 100000 * 100000 := Nat.mul_le_mul hh.2.2 (by omega)
  have := Option.some.inj h
  subst this
  rw [Int.toNat_natCast]
  exact Tryd.strings_Repeat a0 n w (by omega) (by omega)

/-! ### strconv.FormatUint at base 16: function 36 -/
section
open Go.Sort Go.Lib
theorem isPow (w : World) : Calls Tryd.prog 102 #[.int .i64 16] w fun e w' => e = .returned (.bool true) ∧ w' = w := by
  go_enter Tryd.func102, Tryd.ntmps102
  go_wp2
  go_ret
  exact ⟨rfl, rfl⟩
theorem tz64 (w : World) (hc : w.cell? ⟨6, 15, none⟩ = some (.int .u8 4)) : Calls Tryd.prog 110 #[.int .u64 16] w fun e w' => e = .returned (.int .i64 4) ∧ w' = w := by
  have hx : IntKind.u64.wrap (bits BinOp.and IntKind.u64 16 (IntKind.u64.wrap (-16)) * 285870213051353865) / 288230376151711744 = 15 := by decide +kernel
  go_enter Tryd.func110, Tryd.ntmps110
  go_wp2
  go_ret
  exact ⟨rfl, rfl⟩
theorem tz (w : World) (hc : w.cell? ⟨6, 15, none⟩ = some (.int .u8 4)) : Calls Tryd.prog 103 #[.int .u64 16] w fun e w' => e = .returned (.int .i64 4) ∧ w' = w := by
  go_enter Tryd.func103, Tryd.ntmps103
  go_wp2_with (go_at_call 110; refine (tz64 _ (by simpa using hc)).mono ?_; rintro e w' ⟨rfl, rfl⟩)
  go_ret
  exact ⟨rfl, rfl⟩
theorem tb_below {w w' : World} {v : Value} (hc : w.cell? ⟨6, 15, none⟩ = some v) (hb : Below w.heap.size w w') : w'.cell? ⟨6, 15, none⟩ = some v := by
  have h6 : 6 < w.heap.size := by
    rcases Nat.lt_or_ge 6 w.heap.size with h | h
    · exact h
    · unfold World.cell? at hc; rw [Array.getElem?_eq_none h] at hc; cases hc
  unfold World.cell? at *
  rw [hb.block 6 h6]
  exact hc
def hexDig (d : Nat) : UInt8 := if d < 10 then UInt8.ofNat (48 + d) else UInt8.ofNat (87 + d)
theorem idx_dg (k : IntKind) (z : Int) (i : Nat) (hz : z = (i : Int)) (hi : i < 16) (w : World) :
    (Instr.index 9 (.string (⟨#[48, 49, 50, 51, 52, 53, 54, 55, 56, 57, 97, 98, 99, 100, 101, 102, 103, 104, 105, 106, 107, 108, 109, 110, 111, 112, 113, 114, 115, 116, 117, 118, 119, 120, 121, 122]⟩ : ByteArray)) (.int k z)).run Tryd.prog w = .ok (.int .u8 ((hexDig i).toNat : Int)) w := by
  subst hz
  rw [run_index_string w 9 _ k _ Tryd.underlying9, dif_pos ⟨by omega, by show (i : Int) < 36; omega⟩]
  have e : ((i : Int)).toNat = i := by omega
  simp only [e]
  have : i = 0 ∨ i = 1 ∨ i = 2 ∨ i = 3 ∨ i = 4 ∨ i = 5 ∨ i = 6 ∨ i = 7 ∨ i = 8 ∨ i = 9 ∨ i = 10 ∨ i = 11 ∨ i = 12 ∨ i = 13 ∨ i = 14 ∨ i = 15 := by omega
  rcases this with rfl | rfl | rfl | rfl | rfl | rfl | rfl | rfl | rfl | rfl | rfl | rfl | rfl | rfl | rfl | rfl <;> rfl
abbrev be : UInt8 → Value := fun (b : UInt8) => Value.int .u8 (b.toNat : Int)
def zeros65 : Array Value := #[Value.int .u8 0, Value.int .u8 0, Value.int .u8 0, Value.int .u8 0, Value.int .u8 0, Value.int .u8 0, Value.int .u8 0, Value.int .u8 0, Value.int .u8 0, Value.int .u8 0, Value.int .u8 0, Value.int .u8 0, Value.int .u8 0, Value.int .u8 0, Value.int .u8 0, Value.int .u8 0, Value.int .u8 0, Value.int .u8 0, Value.int .u8 0, Value.int .u8 0, Value.int .u8 0, Value.int .u8 0, Value.int .u8 0, Value.int .u8 0, Value.int .u8 0, Value.int .u8 0, Value.int .u8 0, Value.int .u8 0, Value.int .u8 0, Value.int .u8 0, Value.int .u8 0, Value.int .u8 0, Value.int .u8 0, Value.int .u8 0, Value.int .u8 0, Value.int .u8 0, Value.int .u8 0, Value.int .u8 0, Value.int .u8 0, Value.int .u8 0, Value.int .u8 0, Value.int .u8 0, Value.int .u8 0, Value.int .u8 0, Value.int .u8 0, Value.int .u8 0, Value.int .u8 0, Value.int .u8 0, Value.int .u8 0, Value.int .u8 0, Value.int .u8 0, Value.int .u8 0, Value.int .u8 0, Value.int .u8 0, Value.int .u8 0, Value.int .u8 0, Value.int .u8 0, Value.int .u8 0, Value.int .u8 0, Value.int .u8 0, Value.int .u8 0, Value.int .u8 0, Value.int .u8 0, Value.int .u8 0, Value.int .u8 0]
theorem zeros65_at (i : Nat) (h : i < 65) : zeros65[i]? = some (.int .u8 0) := by
  have e : zeros65 = Array.replicate 65 (.int .u8 0) := rfl
  rw [e, Array.getElem?_replicate, if_pos h]
theorem holds65 (w : World) (T : TypeId) : Holds be (w.alloc (.cells zeros65 T)) w.heap.size 0 (Array.replicate 65 (0 : UInt8)) := fun j hj => by
  have hj' : j < 65 := by simpa using hj
  refine ⟨?_, World.frozen?_alloc_new _ _ _ _⟩
  rw [Nat.zero_add, World.cell?_alloc_new, zeros65_at _ (by omega), getElem!_pos _ j hj]
  simp
/-- What the array holds behind k digits of u. -/
structure HexInv (u k : Nat) (d : Array UInt8) : Prop where
  le : k ≤ 16
  top : k = 0 ∨ 16 ^ k ≤ u
  size : d.size = 65
  dig : ∀ j, j < k → d[64 - j]! = hexDig (u / 16 ^ j % 16)
theorem HexInv.step {u k : Nat} {d : Array UInt8} (h : HexInv u k d) (hk : k < 16) (hq : 16 ≤ u / 16 ^ k) : HexInv u (k + 1) (d.setIfInBounds (64 - k) (hexDig (u / 16 ^ k % 16))) := by
  refine ⟨by omega, Or.inr (by rw [Nat.pow_succ]; exact Nat.le_trans (Nat.mul_le_mul_left _ hq) (Nat.mul_div_le _ _)), by rw [Array.size_setIfInBounds]; exact h.size, fun j hj => ?_⟩
  have hs := h.size
  rw [getElem!_pos _ _ (by rw [Array.size_setIfInBounds]; omega), Array.getElem_setIfInBounds (by omega)]
  by_cases e : j = k
  · subst e; simp
  · have := h.dig j (by omega)
    rw [getElem!_pos _ _ (by omega)] at this
    rw [if_neg (by omega)]; exact this
theorem and15_64 {q : Nat} (h1 : q < 18446744073709551616) : Go.bits .and .u64 (q : Int) 15 = ((q % 16 : Nat) : Int) := by
  have hb : (BitVec.ofInt 64 (q : Int)).toNat = q := by rw [BitVec.toNat_ofInt]; omega
  have h : (BitVec.ofInt 64 (q : Int) &&& BitVec.ofInt 64 15).toNat = q % 16 := by
    rw [show BitVec.ofInt 64 15 = 15#64 by decide, BitVec.toNat_and, hb, show (15#64).toNat = 2 ^ 4 - 1 from rfl, Nat.and_two_pow_sub_one_eq_mod]
  have hw : IntKind.u64.wrap ((q % 16 : Nat) : Int) = ((q % 16 : Nat) : Int) := by rw [IntKind.wrap_u64]; omega
  exact (congrArg (fun n : Nat => IntKind.u64.wrap (n : Int)) h).trans hw
theorem pow_next (u k : Nat) : u / 16 ^ k / 16 = u / 16 ^ (k + 1) := by rw [Nat.div_div_eq_div_mul, Nat.pow_succ]
/-- The m lowest hexadecimal digits of u, the highest first. -/
def hexRow (m u : Nat) : List UInt8 := (List.range m).map fun t => hexDig (u / 16 ^ (m - 1 - t) % 16)
def hexLen (u : Nat) : Nat := Nat.log2 u / 4 + 1
theorem hexLen_eq {u k : Nat} (h1 : k = 0 ∨ 16 ^ k ≤ u) (h2 : u / 16 ^ k < 16) : hexLen u = k + 1 := by
  have h3 : u < 16 ^ (k + 1) := by
    rw [Nat.pow_succ]
    have := Nat.lt_mul_of_div_lt h2 (Nat.pow_pos (by omega) : 0 < 16 ^ k)
    rw [Nat.mul_comm]
    exact this
  have e1 : ∀ n, (16 : Nat) ^ n = 2 ^ (4 * n) := fun n => by rw [show (16 : Nat) = 2 ^ 4 from rfl, ← Nat.pow_mul]
  unfold hexLen
  by_cases h0 : u = 0
  · subst h0
    rcases h1 with rfl | h1
    · rfl
    · have : 0 < 16 ^ k := Nat.pow_pos (by omega)
      omega
  · have h4 : Nat.log2 u < 4 * (k + 1) := (Nat.log2_lt h0).2 (by rw [← e1]; exact h3)
    have h5 : 4 * k ≤ Nat.log2 u := by
      rcases h1 with rfl | h1
      · omega
      · exact (Nat.le_log2 h0).2 (by rw [← e1]; exact h1)
    omega
/-- The row that the last digit completes is the numeral. -/
theorem HexInv.row {u k : Nat} {d : Array UInt8} (h : HexInv u k d) (hk : k < 16) (hq : u / 16 ^ k < 16) (t : Nat) (ht : t < (hexRow (k + 1) u).length) :
    (hexRow (k + 1) u)[t] = (d.setIfInBounds (64 - k) (hexDig (u / 16 ^ k)))[64 - k + t]! := by
  have hs := h.size
  have htk : t < k + 1 := by simpa [hexRow] using ht
  simp only [hexRow, List.getElem_map, List.getElem_range]
  rw [getElem!_pos _ _ (by rw [Array.size_setIfInBounds]; omega), Array.getElem_setIfInBounds (by omega)]
  by_cases e : t = 0
  · subst e
    simp only [Nat.add_zero, Nat.add_sub_cancel, Nat.sub_zero, if_true]
    rw [Nat.mod_eq_of_lt hq]
  · rw [if_neg (by omega)]
    have := h.dig (k - t) (by omega)
    rw [getElem!_pos _ _ (by omega)] at this
    have e2 : k + 1 - 1 - t = k - t := by omega
    have e3 : 64 - (k - t) = 64 - k + t := by omega
    rw [e2, ← this]
    simp only [e3]
set_option maxHeartbeats 4000000 in
set_option maxRecDepth 100000 in
theorem bits16 (U : Nat) (hU : U < 18446744073709551616) (w : World) (hc : w.cell? ⟨6, 15, none⟩ = some (.int .u8 4)) :
    Calls Tryd.prog 87 #[.slice none 0 0, .int .u64 (U : Int), .int .i64 16, .bool false, .bool false] w fun e w' => e = .returned (.tuple #[.slice none 0 0, .string ⟨(hexRow (hexLen U) U).toArray⟩]) ∧ Below w.heap.size w w' := by
  have HC := Aside0.mk hc
  clear hc
  go_enter Tryd.func87, Tryd.ntmps87
  go_wp2_with (first
    | (go_at_call 102; refine (isPow _).mono ?_; rintro e w' ⟨rfl, rfl⟩)
    | (go_at_call 103; refine (tz _ (tb_below HC.out (Below.alloc (Below.refl _ _) (Nat.le_refl _) _))).mono ?_; rintro e w' ⟨rfl, rfl⟩))
  go_name_world W0 hW0
  have hw0 : W0 = (putRow be (w.alloc (.cells zeros65 118)) w.heap.size 0 (Array.replicate 65 (0 : UInt8))).drewN 0 := by
    rw [← hW0, putRow_self _ _ _ _ _ (holds65 w 118)]
    rfl
  clear hW0
  go_loopw [1, 13] (fun vu vi wr => ∃ (k n : Nat) (dk : Array UInt8), vu = .int .u64 ((U / 16 ^ k : Nat) : Int) ∧ vi = .int .i64 ((65 - k : Nat) : Int) ∧ wr = (putRow be (w.alloc (.cells zeros65 118)) w.heap.size 0 dk).drewN n ∧ Hid (HexInv U k dk ∧ k < 16)) (fun vu _ _ => (RowKit.intOf vu).toNat)
  case atStart => exact ⟨0, 0, Array.replicate 65 0, by simp, rfl, hw0, ⟨⟨by omega, .inl rfl, by simp, fun j hj => absurd hj (by omega)⟩, by omega⟩⟩
  case round =>
    obtain ⟨k, n, dk, rfl, rfl, hw1, HI⟩ := hrel
    have hk := HI.out.2
    have hs := HI.out.1.size
    rename World => W1
    have hH1 : Holds be W1 w.heap.size 0 dk := by rw [hw1]; exact holds_putRow _ _ _ _ _ dk (holds65 w 118) (by rw [hs, Array.size_replicate])
    obtain ⟨j, hj⟩ : ∃ j, 64 - k = j := ⟨_, rfl⟩
    have hj65 : ((65 - k : Nat) : Int) = (j : Int) + 1 := by omega
    have hjl : j < 65 := by omega
    have hcell : W1.cell? ⟨w.heap.size, j, none⟩ = some (.int .u8 (dk[j]!.toNat : Int)) := by have := (hH1 j (by omega)).1; rwa [Nat.zero_add] at this
    have hfz : W1.frozen? ⟨w.heap.size, j, none⟩ = false := by have := (hH1 j (by omega)).2; rwa [Nat.zero_add] at this
    generalize hg : (dk[j]!.toNat : Int) = G at hcell
    clear hg hH1
    have AW := Aside0.mk hw1
    clear hw1
    obtain ⟨q, hq⟩ : ∃ q, U / 16 ^ k = q := ⟨_, rfl⟩
    have hq64 : q < 18446744073709551616 := by rw [← hq]; exact Nat.lt_of_le_of_lt (Nat.div_le_self _ _) hU
    have AQ := Aside0.mk hq
    rw [hq, hj65]
    clear hq hj65
    have st : ∀ x : UInt8, W1.setCell ⟨w.heap.size, j, none⟩ (.int .u8 (x.toNat : Int)) = (putRow be (w.alloc (.cells zeros65 118)) w.heap.size 0 (dk.setIfInBounds j x)).drewN n := fun x => by
      have := store1_world (w.alloc (.cells zeros65 118)) w.heap.size 0 dk n j x (by omega)
      rw [AW.out]
      rwa [Nat.zero_add] at this
    have ST := Aside0.mk st
    clear st
    by_cases hge : 16 ≤ q
    · have hX : ∀ W, (Instr.index 9 (.string (⟨#[48, 49, 50, 51, 52, 53, 54, 55, 56, 57, 97, 98, 99, 100, 101, 102, 103, 104, 105, 106, 107, 108, 109, 110, 111, 112, 113, 114, 115, 116, 117, 118, 119, 120, 121, 122]⟩ : ByteArray)) (.int .u64 (bits BinOp.and .u64 (q : Int) 15))).run Tryd.prog W = .ok (.int .u8 ((hexDig (q % 16)).toNat : Int)) W := fun W => idx_dg .u64 _ _ (and15_64 (by omega)) (by omega) W
      go_wp2
      have hqk : 16 ≤ U / 16 ^ k := by rw [AQ.out]; exact hge
      have hk15 : k ≠ 15 := by
        rintro rfl
        have : U / 16 ^ 15 < 16 := by rw [Nat.div_lt_iff_lt_mul (by decide)]; exact hU
        omega
      refine ⟨⟨k + 1, n, dk.setIfInBounds j (hexDig (q % 16)), congrArg (Value.int .u64) ?_, congrArg (Value.int .i64) (by omega), ST.out _, ?_⟩, ?_⟩
      · rw [← pow_next, AQ.out]; omega
      · have := HI.out.1.step hk hqk
        rw [AQ.out, hj] at this
        exact ⟨this, by omega⟩
      · simp [RowKit.intOf]; omega
    · have hX : ∀ W, (Instr.index 9 (.string (⟨#[48, 49, 50, 51, 52, 53, 54, 55, 56, 57, 97, 98, 99, 100, 101, 102, 103, 104, 105, 106, 107, 108, 109, 110, 111, 112, 113, 114, 115, 116, 117, 118, 119, 120, 121, 122]⟩ : ByteArray)) (.int .u64 (q : Int))).run Tryd.prog W = .ok (.int .u8 ((hexDig q).toNat : Int)) W := fun W => idx_dg .u64 _ _ rfl (by omega) W
      have hal : Tryd.prog.arrayLen 118 = 65 := by simp [Program.arrayLen, Tryd.underlying118]
      have hsl : ∀ W, (Instr.sliceAt 118 (.pointer (some ⟨w.heap.size, 0, none⟩)) (some (.int .i64 (j : Int))) none none).run Tryd.prog W = .ok (.slice (some ⟨w.heap.size, j, none⟩) (k + 1) (k + 1)) W := fun W => by
        rw [run_sliceAt_array_l W 118 ⟨w.heap.size, 0, none⟩ (by simp [Program.arrayLen, Program.elem, Tryd.underlying118]) .i64 (j : Int) (by omega) (by rw [hal]; omega)]
        go_simp
        omega
      clear hal
      have hqk : U / 16 ^ k < 16 := by rw [AQ.out]; omega
      have hcv : (convert 65 9 (.slice (some ⟨w.heap.size, j, none⟩) (k + 1) (k + 1))).run Tryd.prog (W1.setCell ⟨w.heap.size, j, none⟩ (.int .u8 ((hexDig q).toNat : Int))) = .ok (.string ⟨(hexRow (k + 1) U).toArray⟩) (W1.setCell ⟨w.heap.size, j, none⟩ (.int .u8 ((hexDig q).toNat : Int))) := by
        have h := run_convert_bytes_back (P := Tryd.prog) (W1.setCell ⟨w.heap.size, j, none⟩ (.int .u8 ((hexDig q).toNat : Int))) 65 9 5 ⟨w.heap.size, j, none⟩ (k + 1) (hexRow (k + 1) U) Tryd.underlying65 Tryd.underlying5 Tryd.underlying9 (fun t ht => by
          have hr := HI.out.1.row hk hqk t ht
          have htk : t < k + 1 := by simpa [hexRow] using ht
          rw [AQ.out, hj] at hr
          rw [hr, Go.Lib.add_plain, ST.out, World.cell?_drewN]
          have := cell?_putRow be (w.alloc (.cells zeros65 118)) w.heap.size 0 _ (dk.setIfInBounds j (hexDig q)) (holds65 w 118) (by rw [Array.size_setIfInBounds, hs, Array.size_replicate]) (j + t) (by rw [Array.size_setIfInBounds]; omega)
          rwa [Nat.zero_add] at this)
        rw [show (hexRow (k + 1) U).length = k + 1 by simp [hexRow]] at h
        exact h
      go_wp2
      go_ret2
      refine ⟨?_, ?_⟩
      · rw [hexLen_eq HI.out.1.top hqk]; rfl
      · rw [ST.out]
        obtain ⟨os', _, e⟩ := putRow_grow_new be w #[.cells zeros65 118] w.heap.size 0 (dk.setIfInBounds j (hexDig q)) (Nat.le_refl _)
        rw [alloc_eq_grow, e]
        exact ⟨rfl, rfl, rfl, by show w.heap.size ≤ (w.heap ++ os').size; rw [Array.size_append]; omega, fun i hi => Go.Sort.heap_grow_old w os' hi⟩
def hexStr (U : Nat) : ByteArray := ⟨(hexRow (hexLen U) U).toArray⟩
set_option maxRecDepth 100000 in
theorem ifmt16 (U : Nat) (hU : U < 18446744073709551616) (w : World) (hc : w.cell? ⟨6, 15, none⟩ = some (.int .u8 4)) :
    Calls Tryd.prog 66 #[.int .u64 (U : Int), .int .i64 16] w fun e w' => e = .returned (.string (hexStr U)) ∧ Below w.heap.size w w' := by
  have HC := Aside0.mk hc
  clear hc
  go_enter Tryd.func66, Tryd.ntmps66
  go_wp2_with (go_at_call 87; refine (bits16 U hU _ (tb_below HC.out (by repeat (first | exact Below.refl _ _ | apply bA_ | apply bN_ | apply bD_)))).mono ?_; rintro e w' ⟨rfl, hb⟩)

  go_ret
  exact ⟨rfl, hb⟩
def strconv_FormatUint.f (n base : Int) : Option ByteArray := if base = 16 ∧ 0 ≤ n ∧ n < 18446744073709551616 then some (hexStr n.toNat) else none
theorem strconv_FormatUint.calls (a0 a1 : Int) (r : ByteArray) (w : World) (hc : w.cell? ⟨6, 15, none⟩ = some (.int .u8 4)) (h : strconv_FormatUint.f a0 a1 = some r) :
    Calls Tryd.prog 36 #[.int .u64 a0, .int .i64 a1] w fun e w' => e = .returned (.string r) ∧ Below w.heap.size w w' := by
  unfold strconv_FormatUint.f at h
  by_cases hh : a1 = 16 ∧ 0 ≤ a0 ∧ a0 < 18446744073709551616
  case neg => rw [if_neg hh] at h; cases h
  rw [if_pos hh] at h
  obtain ⟨rfl, h0, h1⟩ := hh
  have := Option.some.inj h
  subst this
  obtain ⟨U, rfl⟩ := Int.eq_ofNat_of_zero_le h0
  clear h
  have HC := Aside0.mk hc
  clear hc
  go_enter Tryd.func36, Tryd.ntmps36
  go_wp2_with (go_at_call 66; refine (ifmt16 U (by omega) _ (tb_below HC.out (by repeat (first | exact Below.refl _ _ | apply bA_ | apply bN_ | apply bD_)))).mono ?_; rintro e w' ⟨rfl, hb⟩)
  go_ret
  exact ⟨by rw [Int.toNat_natCast]; rfl, hb⟩
end

/-! ### value.each at value.hexByte: function 38 -/
def hexUp (d : Nat) : UInt8 := if d < 10 then UInt8.ofNat (48 + d) else UInt8.ofNat (55 + d)
def hex2 (c : Nat) : ByteArray := ⟨#[hexUp (c / 16), hexUp (c % 16)]⟩
theorem hexByte_f (c : Nat) (h : c < 256) : YtdmeglmmihaonaaDoor.Peach.value_hexByte.f (c : Int) = some (hex2 c) := by
  have all : ∀ c : Fin 256, YtdmeglmmihaonaaDoor.Peach.value_hexByte.f (c.val : Int) = some (hex2 c.val) := by decide +kernel
  exact all ⟨c, h⟩
def hexes (s : ByteArray) : List ByteArray := (bytesOf s).map fun c => hex2 c.toNat
def value_each.f (s sep : ByteArray) : Option ByteArray := if s.size ≤ 255 ∧ sep.size ≤ 1 then some (joinB (hexes s) sep) else none
theorem each_loop (s sep : ByteArray) (hs : s.size ≤ 255) : ∀ (e : Nat) (i k : Nat) (l : List ByteArray), i + e = s.size → e < k → l.length ≤ i →
    YtdmeglmmihaonaaDoor.Peach.value_each.l0 k s sep l (s.size : Int) (i : Int) = (strings_Join.f (l ++ (hexes s).drop i) sep).bind fun t => some t := by
  intro e
  induction e with
  | zero =>
    intro i k l hi hk hl
    obtain ⟨k, rfl⟩ : ∃ m, k = m + 1 := ⟨k - 1, by omega⟩
    simp only [YtdmeglmmihaonaaDoor.Peach.value_each.l0]
    rw [if_neg (by omega), List.drop_of_length_le (by simp [hexes, B_size]; omega), List.append_nil]
  | succ e ih =>
    intro i k l hi hk hl
    obtain ⟨k, rfl⟩ : ∃ m, k = m + 1 := ⟨k - 1, by omega⟩
    have hw : wrap64 ((i : Int) + 1) = ((i + 1 : Nat) : Int) := by rw [wrap64_id (by omega) (by omega)]; omega
    have hb := bt_range s i
    have hn := ih (i + 1) k (l ++ [hex2 (bt s i).toNat]) (by omega) (by omega) (by simp; omega)
    simp only [YtdmeglmmihaonaaDoor.Peach.value_each.l0]
    have hc : bt s (i : Int) = (((bt s i).toNat : Nat) : Int) := by omega
    rw [if_pos (by omega), if_pos (by omega), if_pos (by omega), hc, hexByte_f _ (by omega)]
    simp only [Option.bind_some]
    rw [if_pos (by omega), hw, hn]
    have hd : (hexes s).drop i = hex2 (bt s i).toNat :: (hexes s).drop (i + 1) := by
      have hlen : i < (hexes s).length := by simp [hexes, B_size]; omega
      rw [List.drop_eq_getElem_cons hlen]
      congr 1
      simp only [hexes, List.getElem_map]
      rw [bt_B, Int.toNat_natCast, getD_at _ _ (by rw [B_size]; omega)]
    rw [hd, List.append_assoc]
    rfl
theorem join_size (sep : ByteArray) : ∀ l : List ByteArray, (∀ x ∈ l, x.size = 2) → sep.size ≤ 1 → (joinB l sep).size ≤ 3 * l.length := by
  intro l hl hsep
  have h1 : ∀ (l : List (List UInt8)) (q : List UInt8), (∀ x ∈ l, x.length = 2) → q.length ≤ 1 → (Lib.join l q).length ≤ 3 * l.length := by
    intro l q
    induction l with
    | nil => intro _ _; simp [Lib.join]
    | cons x l ih =>
      intro hx hq
      cases l with
      | nil => rw [Lib.join_one]; have := hx x (by simp); simp; omega
      | cons y l =>
        have h2 := ih (fun z hz => hx z (by simp only [List.mem_cons] at hz ⊢; exact .inr hz)) hq
        have h3 : Lib.join (x :: y :: l) q = x ++ q ++ Lib.join (y :: l) q := by simp [Lib.join, List.intercalate]
        rw [h3]
        have := hx x (by simp)
        simp only [List.length_append, List.length_cons] at *
        omega
  have h2 := h1 (l.map (·.data.toList)) sep.data.toList (fun x hx => by
    obtain ⟨y, hy, rfl⟩ := List.mem_map.1 hx
    have := hl y hy
    rw [Array.length_toList]
    exact this) (by rw [Array.length_toList]; exact hsep)
  rw [List.length_map] at h2
  have h3 : (joinB l sep).size = (Lib.join (l.map (·.data.toList)) sep.data.toList).length := by
    show (List.toArray _).size = _
    exact List.size_toArray
  rw [h3]
  exact h2
theorem value_each.calls (a0 a1 r : ByteArray) (w : World) (h : value_each.f a0 a1 = some r) :
    Calls Tryd.prog 38 #[.string a0, .string a1, .func (.func 39) #[] #[]] w fun e w' => e = .returned (.string r) ∧ Below w.heap.size w w' := by
  unfold value_each.f at h
  by_cases hh : a0.size ≤ 255 ∧ a1.size ≤ 1
  case neg => rw [if_neg hh] at h; cases h
  rw [if_pos hh] at h
  have hj := each_loop a0 a1 hh.1 a0.size 0 (a0.size + 1) [] (by omega) (by omega) (by simp)
  have hz := join_size a1 (hexes a0) (fun x hx => by obtain ⟨c, _, rfl⟩ := List.mem_map.1 hx; rfl) hh.2
  have hl : (hexes a0).length = a0.size := by simp [hexes, B_size]
  refine YtdmeglmmihaonaaDoor.Peach.value_each.calls (a0.size + 1) a0 a1 r w ?_
  unfold YtdmeglmmihaonaaDoor.Peach.value_each.f
  rw [show (0 : Int) = ((0 : Nat) : Int) from rfl, hj, List.nil_append, List.drop_zero]
  unfold strings_Join.f
  rw [if_pos ⟨by omega, by omega⟩]
  exact h

end Go.Proofs.YtdmeglmmihaonaaDoor.Ext
