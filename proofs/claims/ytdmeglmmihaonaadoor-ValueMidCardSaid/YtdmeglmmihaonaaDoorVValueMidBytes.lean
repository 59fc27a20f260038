/- Plain facts about byte strings, little-endian numbers and bounded integers; no program in sight. -/
import Derived.Test.YtdmeglmmihaonaaDoorVValueMid
import Derived.Laws.BitsLemmas
namespace Go.Proofs.YtdmeglmmihaonaaDoor.Plain
open Go.RowKit Go.Proofs.YtdmeglmmihaonaaDoorW.PrintWords Go.Proofs.YtdmeglmmihaonaaDoorW.PrintLast Go.Proofs.YtdmeglmmihaonaaDoorW.PrintMore
set_option linter.unusedVariables false
set_option linter.unusedSimpArgs false

/-! ### numbers of a kind -/
theorem wf_u64 {a : Int} (h : (Lit.int .u64 a).wf = true) : 0 ≤ a ∧ a < 18446744073709551616 := by
  simp only [Lit.wf, IntKind.min, IntKind.max, IntKind.signed, IntKind.bits, Bool.and_eq_true, decide_eq_true_eq] at h
  simp at h; omega
theorem wf_u8 {a : Int} (h : (Lit.int .u8 a).wf = true) : 0 ≤ a ∧ a < 256 := by
  simp only [Lit.wf, IntKind.min, IntKind.max, IntKind.signed, IntKind.bits, Bool.and_eq_true, decide_eq_true_eq] at h
  simp at h; omega
theorem wf_i64 {a : Int} (h : (Lit.int .i64 a).wf = true) : -9223372036854775808 ≤ a ∧ a < 9223372036854775808 := by
  simp only [Lit.wf, IntKind.min, IntKind.max, IntKind.signed, IntKind.bits, Bool.and_eq_true, decide_eq_true_eq] at h
  simp at h; omega
theorem wrap64_id {a : Int} (h0 : -9223372036854775808 ≤ a) (h1 : a < 9223372036854775808) : wrap64 a = a := by unfold wrap64; omega
theorem wrap_u64 (n : Int) : IntKind.u64.wrap n = n % 18446744073709551616 := by simp [IntKind.wrap, IntKind.bits, IntKind.signed]
theorem wrap_u64_id {a : Int} (h0 : 0 ≤ a) (h1 : a < 18446744073709551616) : IntKind.u64.wrap a = a := by rw [wrap_u64]; omega

/-! ### byte strings -/
theorem B_size (s : ByteArray) : (bytesOf s).length = s.size := bytesOf_length s
theorem B_range {s : ByteArray} {x : Int} (h : x ∈ bytesOf s) : 0 ≤ x ∧ x < 256 := by
  unfold bytesOf at h
  obtain ⟨b, _, rfl⟩ := List.mem_map.1 h
  have := b.toNat_lt; omega
theorem B_inj {a b : ByteArray} (h : bytesOf a = bytesOf b) : a = b := by
  unfold bytesOf at h
  have h2 : a.data.toList = b.data.toList := by
    refine List.map_inj_right (f := fun b : UInt8 => (b.toNat : Int)) ?_ |>.1 h
    intro x y e
    have : x.toNat = y.toNat := by exact_mod_cast (show ((x.toNat : Nat) : Int) = (y.toNat : Nat) from e)
    exact UInt8.toNat_inj.1 this
  cases a; cases b; simp at h2; simp [h2]
theorem B_append (a b : ByteArray) : bytesOf (a ++ b) = bytesOf a ++ bytesOf b := by
  unfold bytesOf; rw [ByteArray.toList_data_append, List.map_append]
theorem B_nums {xs : List Int} (h : ∀ x ∈ xs, 0 ≤ x ∧ x < 256) : bytesOf (strOfNums xs) = xs := by
  unfold bytesOf; rw [strOfNums_data, List.map_map]
  conv => rhs; rw [← List.map_id xs]
  refine List.map_congr_left fun x hx => ?_
  have := h x hx
  simp; omega
theorem B_extract (s : ByteArray) (i j : Nat) : bytesOf (s.extract i j) = ((bytesOf s).take j).drop i := by
  unfold bytesOf
  rw [← List.map_take, ← List.map_drop]
  congr 1
  rw [ByteArray.data_extract]
  simp [List.drop_take]
theorem B_eq_iff {a b : ByteArray} : a.toList = b.toList ↔ bytesOf a = bytesOf b := by
  rw [ByteArray.toList_eq, ByteArray.toList_eq]
  constructor
  · intro h; unfold bytesOf; rw [h]
  · intro h; rw [B_inj h]
theorem toList_nil_iff {a : ByteArray} : a.toList = ([] : List UInt8) ↔ a.size = 0 := by
  rw [ByteArray.toList_eq]
  constructor
  · intro h; have := congrArg List.length h; simpa using this
  · intro h; exact List.length_eq_zero_iff.1 (by simpa using h)
theorem bt_B (s : ByteArray) (i : Int) : bt s i = (bytesOf s).getD i.toNat 0 := by rw [← rd_bytesOf]; rfl
theorem strOfNums_size' (xs : List Int) : (strOfNums xs).size = xs.length := by
  have : (strOfNums xs).data.toList.length = xs.length := by rw [strOfNums_data]; simp
  simpa using this
theorem strOfNums_append (xs ys : List Int) : strOfNums (xs ++ ys) = strOfNums xs ++ strOfNums ys := by
  apply ByteArray.ext
  rw [ByteArray.data_append]
  apply Array.ext'; rw [strOfNums_data, Array.toList_append, strOfNums_data, strOfNums_data, List.map_append]
theorem strOfNums_bytesOf (s : ByteArray) : strOfNums (bytesOf s) = s := B_inj (B_nums fun _ h => B_range h)

/-! ### little-endian numbers -/
def toLE : Int → Nat → List Int
  | _, 0 => []
  | v, d + 1 => v % 256 :: toLE (v / 256) d
def ofLE : List Int → Int
  | [] => 0
  | b :: l => b + 256 * ofLE l
theorem toLE_length (v : Int) (d : Nat) : (toLE v d).length = d := by
  induction d generalizing v with
  | zero => rfl
  | succ d ih => simp [toLE, ih]
theorem toLE_range {v : Int} {d : Nat} : ∀ x ∈ toLE v d, 0 ≤ x ∧ x < 256 := by
  induction d generalizing v with
  | zero => intro x h; cases h
  | succ d ih =>
    intro x h
    rcases List.mem_cons.1 h with rfl | h
    · omega
    · exact ih x h
theorem ofLE_range {l : List Int} (h : ∀ x ∈ l, 0 ≤ x ∧ x < 256) : 0 ≤ ofLE l ∧ ofLE l < 256 ^ l.length := by
  induction l with
  | nil => simp [ofLE]
  | cons b l ih =>
    have := ih fun x hx => h x (List.mem_cons_of_mem _ hx)
    have := h b (List.mem_cons_self ..)
    simp only [ofLE, List.length_cons, Int.pow_succ]
    omega
theorem toLE_ofLE {l : List Int} (h : ∀ x ∈ l, 0 ≤ x ∧ x < 256) : toLE (ofLE l) l.length = l := by
  induction l with
  | nil => rfl
  | cons b l ih =>
    have hb := h b (List.mem_cons_self ..)
    have e := ih fun x hx => h x (List.mem_cons_of_mem _ hx)
    simp only [ofLE, List.length_cons, toLE]
    rw [show (b + 256 * ofLE l) % 256 = b by omega, show (b + 256 * ofLE l) / 256 = ofLE l by omega, e]
theorem ofLE_toLE {d : Nat} : ∀ {v : Int}, 0 ≤ v → v < 256 ^ d → ofLE (toLE v d) = v := by
  induction d with
  | zero => intro v h0 h1; simp at h1; simp only [toLE, ofLE]; omega
  | succ d ih =>
    intro v h0 h1
    rw [Int.pow_succ] at h1
    simp only [toLE, ofLE]
    rw [ih (by omega) (by omega)]; omega
theorem ofLE_snoc (l : List Int) (b : Int) : ofLE (l ++ [b]) = ofLE l + b * 256 ^ l.length := by
  induction l with
  | nil => simp [ofLE]
  | cons c l ih => 
    simp only [List.cons_append, ofLE, ih, List.length_cons, Int.pow_succ, Int.mul_add]
    rw [Int.mul_left_comm 256 b, Int.mul_comm 256 (256 ^ l.length)]; omega
theorem div_pow_succ (v : Int) (i : Nat) : v / 256 ^ i / 256 = v / 256 ^ (i + 1) := by
  rw [Int.pow_succ, Int.ediv_ediv_of_nonneg]; exact Int.le_of_lt (Int.pow_pos (by decide))
theorem two_pow_8 (i : Nat) : (2 : Int) ^ (8 * i) = 256 ^ i := by rw [Int.pow_mul]; rfl
theorem shr_u64 {v : Int} {i : Nat} (h : i ≤ 8) : shr .u64 v (8 * i) = v / 256 ^ i := by
  unfold shr
  rw [show (8 * (i : Int)).toNat = 8 * i by omega, show IntKind.u64.bits = 64 from rfl, Nat.min_eq_left (by omega), two_pow_8]

theorem getD_at (l : List Int) (i : Nat) (h : i < l.length) : l.getD i 0 = l[i] := by rw [List.getD_eq_getElem?_getD, List.getElem?_eq_getElem h]; rfl
theorem str_nil (s : ByteArray) : s ++ strOfNums [] = s := ByteArray.append_empty
theorem p256_8 : (256 : Int) ^ 8 = 18446744073709551616 := by decide
theorem p2_64 : (2 : Int) ^ 64 = 18446744073709551616 := by decide
theorem p2_63 : (2 : Int) ^ 63 = 9223372036854775808 := by decide
theorem p256_mono {i j : Nat} (h : i ≤ j) : (256 : Int) ^ i ≤ 256 ^ j := by
  obtain ⟨d, rfl⟩ := Nat.exists_eq_add_of_le h
  rw [Int.pow_add]
  have h1 : (0 : Int) < 256 ^ i := Int.pow_pos (by decide)
  have h2 : (0 : Int) < 256 ^ d := Int.pow_pos (by decide)
  have := Int.mul_le_mul_of_nonneg_left (show (1 : Int) ≤ 256 ^ d by omega) (Int.le_of_lt h1)
  omega
theorem p256_le {i : Nat} (h : i ≤ 8) : (256 : Int) ^ i ≤ 18446744073709551616 := by rw [← p256_8]; exact p256_mono h

/-! ### bits -/
theorem wraps_u64 (n : Int) (h₀ : 0 ≤ n) (h₁ : n < 2 ^ 64) : IntKind.u64.wrap n = n := wrap_u64_id h₀ (by rw [← p2_64]; exact h₁)
theorem wraps_i64 (n : Int) (h₀ : 0 ≤ n) (h₁ : n < 2 ^ 63) : IntKind.i64.wrap n = n := by 
  rw [IntKind.wrap_i64]
  have : n < 9223372036854775808 := by rw [← p2_63]; exact h₁
  omega
theorem or_u64 (i : Nat) (hi : i ≤ 64) {x y : Int} (hx₀ : 0 ≤ x) (hx : x < 2 ^ i) (hy₀ : 0 ≤ y) (hy : y % 2 ^ i = 0) (hy₁ : y < 18446744073709551616) : Go.bits .or .u64 x y = x + y := by
  have hp : (2 : Int) ^ i ≤ 2 ^ 64 := by
    have := Nat.pow_le_pow_right (n := 2) (by decide) hi
    exact_mod_cast this
  have hx' : x < 2 ^ 64 := Int.lt_of_lt_of_le hx hp
  obtain ⟨a, rfl⟩ := Int.eq_ofNat_of_zero_le hx₀
  obtain ⟨b, rfl⟩ := Int.eq_ofNat_of_zero_le hy₀
  have ha : a < 2 ^ 64 := by exact_mod_cast hx'
  have hb : b < 2 ^ 64 := by
    have : (b : Int) < 2 ^ 64 := by rw [p2_64]; exact hy₁
    exact_mod_cast this
  have hc : Go.bits .or .u64 (a : Int) b = Go.bits .or .u64 (b : Int) a := by
    rw [(bits_nat .u64 64 (by decide) wraps_u64 a b ha hb).2, (bits_nat .u64 64 (by decide) wraps_u64 b a hb ha).2, Nat.or_comm]
  rw [hc, bits_join .u64 64 (by decide) wraps_u64 i b a hy₀ hy (by exact_mod_cast hb) hx₀ hx hx']
  omega
end Go.Proofs.YtdmeglmmihaonaaDoor.Plain
