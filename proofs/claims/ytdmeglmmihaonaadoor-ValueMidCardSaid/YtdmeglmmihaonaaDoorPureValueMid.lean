/- Mid returns the specified results, and recovers both parts of a concatenation. -/
import Derived.Test.YtdmeglmmihaonaaDoorStValueMid
import Derived.Test.YtdmeglmmihaonaaDoorVValueMidBytes
import Derived.Test.YtdmeglmmihaonaaDoorVValueMidExtP
namespace Go.Proofs.YtdmeglmmihaonaaDoor.Pure
open Go.RowKit Go.Proofs.YtdmeglmmihaonaaDoor.PValueMid Go.Proofs.YtdmeglmmihaonaaDoorW.PrintWords Go.Proofs.YtdmeglmmihaonaaDoorW.PrintLast Go.Proofs.YtdmeglmmihaonaaDoorW.PrintMore Go.Proofs.YtdmeglmmihaonaaDoor.Plain
open Go.Proofs.YtdmeglmmihaonaaDoor.Ext
set_option linter.unusedVariables false
set_option linter.unusedSimpArgs false
/-! ### layer 8: values -/
/-- The eight bytes of a number. -/
def bytes8 (v : Int) : List Int := (List.range 8).map fun j : Nat => shr .u64 v (8 * (j : Int)) % 256
theorem eight_eq (v : Int) (k : Nat) (hk : 20 ≤ k) : value_eight.f k v = some (strOfNums (bytes8 v)) := by
  have loop : ∀ (e : Nat) (j : Nat) (q : Nat) (l : List Int), j + e = 8 → e < q → l = ((List.range j).map fun j : Nat => shr .u64 v (8 * (j : Int)) % 256) ++ List.replicate (8 - j) 0 → value_eight.l0 q v l 8 j = some (strOfNums (bytes8 v)) := by
    intro e
    induction e with
    | zero =>
      intro j q l hj hq hl
      obtain ⟨q, rfl⟩ : ∃ m, q = m + 1 := ⟨q - 1, by omega⟩
      obtain rfl : j = 8 := by omega
      simp only [value_eight.l0]; rw [if_neg (by omega), hl]; simp [bytes8]
    | succ e ih =>
      intro j q l hj hq hl
      obtain ⟨q, rfl⟩ : ∃ m, q = m + 1 := ⟨q - 1, by omega⟩
      have hlen : l.length = 8 := by rw [hl, List.length_append, List.length_map, List.length_range, List.length_replicate]; omega
      simp only [value_eight.l0]
      rw [if_pos (by omega), wrap64_id (a := 8 * (j : Int)) (by omega) (by omega), if_pos (by omega), if_pos (by omega), if_pos (by omega), wrap64_id (a := (j : Int) + 1) (by omega) (by omega), Int.toNat_natCast]
      refine ih (j + 1) q _ (by omega) (by omega) ?_
      have hx1 : ((List.range j).map fun j : Nat => shr .u64 v (8 * (j : Int)) % 256).length = j := by rw [List.length_map, List.length_range]
      rw [hl, List.set_append_right _ _ (by omega), hx1, Nat.sub_self, show 8 - j = (8 - (j + 1)) + 1 by omega, List.replicate_succ, List.set_cons_zero, List.range_succ, List.map_append]
      simp
  unfold value_eight.f
  rw [if_pos (by omega), Option.bind_some]
  exact loop 8 0 k _ (by omega) (by omega) (by simp)
theorem little8_eq (v : Int) (k : Nat) (hk : 20 ≤ k) : platformfwref08_little.f k v = some (strOfNums (bytes8 v)) := by
  have loop : ∀ (e : Nat) (j : Nat) (q : Nat) (x : ByteArray), j + e = 8 → e < q → x = strOfNums ((List.range j).map fun j : Nat => shr .u64 v (8 * (j : Int)) % 256) → platformfwref08_little.l0 q v x j = some (strOfNums (bytes8 v)) := by
    intro e
    induction e with
    | zero =>
      intro j q x hj hq hx
      obtain ⟨q, rfl⟩ : ∃ m, q = m + 1 := ⟨q - 1, by omega⟩
      obtain rfl : j = 8 := by omega
      simp only [platformfwref08_little.l0]; rw [if_neg (by omega), hx]; rfl
    | succ e ih =>
      intro j q x hj hq hx
      obtain ⟨q, rfl⟩ : ∃ m, q = m + 1 := ⟨q - 1, by omega⟩
      have hs : x.size = j := by rw [hx, strOfNums_size', List.length_map, List.length_range]
      simp only [platformfwref08_little.l0]
      rw [if_pos (by omega), wrap64_id (a := 8 * (j : Int)) (by omega) (by omega), wrap_u64_id (a := 8 * (j : Int)) (by omega) (by omega), if_pos (by omega), Option.bind_some, strOfNums_size', if_pos (by simp; omega), wrap64_id (a := (j : Int) + 1) (by omega) (by omega)]
      refine ih (j + 1) q _ (by omega) (by omega) ?_
      rw [hx, ← strOfNums_append, List.range_succ, List.map_append]; rfl
  unfold platformfwref08_little.f
  exact loop 8 0 k _ (by omega) (by omega) rfl
theorem valids (k0 a : Int) (x : ByteArray) (o : Int) : value_Valid.f k0 a x o = platformfwref08_Valid.f k0 a x o := by
  unfold value_Valid.f platformfwref08_Valid.f
  by_cases h2 : k0 = 2
  · rw [if_pos h2, if_pos (by omega), if_pos (by omega), if_pos h2]
  · rw [if_neg h2]
    by_cases h3 : k0 = 3
    · rw [if_pos h3, if_pos (by omega), if_pos (by omega), if_neg h2, if_pos h3]
    · rw [if_neg h3]
      by_cases h0 : k0 ≥ 0
      · rw [if_pos h0, if_pos h0]
        by_cases h6 : k0 ≤ 6
        · rw [if_pos h6, if_neg h2, if_neg h3, decide_eq_true h6]
        · rw [if_neg h6, decide_eq_false h6]
      · rw [if_neg h0, if_neg h0]
/-- The number that the first e bytes from place i on make. -/
def lacc (x : ByteArray) : Nat → Int → Int → Int
  | 0, _, v => v
  | e + 1, i, v => lacc x e (i + 1) (Go.bits .or .u64 v (shl .u64 (IntKind.u64.wrap (bt x i)) (8 * i)))
theorem little_go (x : ByteArray) (k : Nat) (hk : 20 ≤ k) : value_little.f k x = some (lacc x (min x.size 8) 0 0) := by
  have hm : mn (x.size : Int) 8 = ((min x.size 8 : Nat) : Int) := by unfold mn; split <;> omega
  have l1 : ∀ (e : Nat) (j : Int) (q : Nat) (v : Int), 0 ≤ j → j + e = (min x.size 8 : Nat) → e < q → value_little.l0 q x v ((min x.size 8 : Nat) : Int) j = some (lacc x e j v) := by
    intro e
    induction e with
    | zero =>
      intro j q v h0 hj hq
      obtain ⟨q, rfl⟩ : ∃ m, q = m + 1 := ⟨q - 1, by omega⟩
      simp only [value_little.l0]; rw [if_neg (by omega)]; rfl
    | succ e ih =>
      intro j q v h0 hj hq
      obtain ⟨q, rfl⟩ : ∃ m, q = m + 1 := ⟨q - 1, by omega⟩
      simp only [value_little.l0, lacc]
      rw [if_pos (by omega), if_pos h0, if_pos (by omega), wrap64_id (a := 8 * j) (by omega) (by omega), if_pos (by omega), wrap64_id (a := j + 1) (by omega) (by omega)]
      exact ih (j + 1) q _ (by omega) (by omega) (by omega)
  unfold value_little.f
  rw [hm]
  exact l1 _ 0 k 0 (by omega) (by omega) (by omega)
theorem little_ref (k0 a : Int) (x : ByteArray) (o : Int) (k : Nat) (hk : 20 ≤ k) : platformfwref08_Integer.l1 k 0 0 k0 a x o = some (lacc x (min x.size 8) 0 0, 0) := by
  have l2 : ∀ (e : Nat) (j : Int) (q : Nat) (v : Int), 0 ≤ j → j + e = (min x.size 8 : Nat) → e < q → platformfwref08_Integer.l1 q v j k0 a x o = some (lacc x e j v, 0) := by
    intro e
    induction e with
    | zero =>
      intro j q v h0 hj hq
      obtain ⟨q, rfl⟩ : ∃ m, q = m + 1 := ⟨q - 1, by omega⟩
      simp only [platformfwref08_Integer.l1]
      by_cases h : j < x.size
      · rw [if_pos h, if_neg (by omega)]; rfl
      · rw [if_neg h]; rfl
    | succ e ih =>
      intro j q v h0 hj hq
      obtain ⟨q, rfl⟩ : ∃ m, q = m + 1 := ⟨q - 1, by omega⟩
      simp only [platformfwref08_Integer.l1, lacc]
      rw [if_pos (by omega), if_pos (by omega), if_pos h0, wrap64_id (a := 8 * j) (by omega) (by omega), wrap_u64_id (a := 8 * j) (by omega) (by omega), if_pos (by omega), wrap64_id (a := j + 1) (by omega) (by omega)]
      exact ih (j + 1) q _ (by omega) (by omega) (by omega)
  exact l2 _ 0 k 0 (by omega) (by omega) (by omega)
/-- The value of a hexadecimal digit, or -1. -/
def hexv (c : Int) : Int := if 48 ≤ c ∧ c ≤ 57 then c - 48 else if 97 ≤ c ∧ c ≤ 102 then c - 87 else if 65 ≤ c ∧ c ≤ 70 then c - 55 else -1
theorem digit_go (c : Int) (h0 : 0 ≤ c) (h1 : c ≤ 255) (k : Nat) (hk : 1 ≤ k) : value_digit.f k c 16 = some (hexv c) := by
  obtain ⟨k, rfl⟩ : ∃ m, k = m + 1 := ⟨k - 1, by omega⟩
  obtain ⟨c, rfl⟩ := Int.eq_ofNat_of_zero_le h0
  have e1 : value_digit.f (k + 1) (c : Int) 16 = value_digit.f 1 (c : Int) 16 := by unfold value_digit.f; simp only [value_digit.j0]
  have all : ∀ c : Fin 256, value_digit.f 1 ((c.val : Nat) : Int) 16 = some (hexv ((c.val : Nat) : Int)) := by decide +kernel
  rw [e1]
  exact all ⟨c, by omega⟩
theorem hex_ref (c : Int) (h0 : 0 ≤ c) (h1 : c ≤ 255) (k : Nat) (hk : 2 ≤ k) : platformfwref08_hex.f k c = some (hexv c) := by
  obtain ⟨k, rfl⟩ : ∃ m, k = m + 2 := ⟨k - 2, by omega⟩
  obtain ⟨c, rfl⟩ := Int.eq_ofNat_of_zero_le h0
  have e1 : platformfwref08_hex.f (k + 2) (c : Int) = platformfwref08_hex.f 2 (c : Int) := by unfold platformfwref08_hex.f; simp only [platformfwref08_hex.j0, platformfwref08_hex.j1]
  have all : ∀ c : Fin 256, platformfwref08_hex.f 2 ((c.val : Nat) : Int) = some (hexv ((c.val : Nat) : Int)) := by decide +kernel
  rw [e1]
  exact all ⟨c, by omega⟩
/-- The number that the leading hexadecimal digits make, e places from i on looked at. -/
def hacc (x : ByteArray) : Nat → Int → Int → Int
  | 0, _, v => v
  | e + 1, i, v => if hexv (bt x i) < 0 then v else hacc x e (i + 1) (Go.bits .or .u64 (IntKind.u64.wrap (v * 16)) (IntKind.u64.wrap (hexv (bt x i))))
theorem leading_go (x : ByteArray) (k : Nat) (hk : 30 ≤ k) : value_leading.f k x = some (hacc x (min x.size 16) 0 0) := by
  have hm : mn (x.size : Int) 16 = ((min x.size 16 : Nat) : Int) := by unfold mn; split <;> omega
  have l1 : ∀ (e : Nat) (j : Int) (q : Nat) (v : Int), 0 ≤ j → j + e = (min x.size 16 : Nat) → e + 2 < q → value_leading.l0 q x v ((min x.size 16 : Nat) : Int) j = some (hacc x e j v) := by
    intro e
    induction e with
    | zero =>
      intro j q v h0 hj hq
      obtain ⟨q, rfl⟩ : ∃ m, q = m + 1 := ⟨q - 1, by omega⟩
      simp only [value_leading.l0]; rw [if_neg (by omega)]; rfl
    | succ e ih =>
      intro j q v h0 hj hq
      obtain ⟨q, rfl⟩ : ∃ m, q = m + 1 := ⟨q - 1, by omega⟩
      have hb := bt_range x j
      simp only [value_leading.l0, hacc]
      rw [if_pos (by omega), if_pos h0, if_pos (by omega), digit_go _ hb.1 hb.2 q (by omega), Option.bind_some]
      by_cases hd : hexv (bt x j) < 0
      · rw [if_pos hd, if_pos hd]
      · rw [if_neg hd, if_neg hd, wrap64_id (a := j + 1) (by omega) (by omega)]
        exact ih (j + 1) q _ (by omega) (by omega) (by omega)
  unfold value_leading.f
  rw [hm]
  exact l1 _ 0 k 0 (by omega) (by omega) (by omega)
theorem leading_ref (k0 a : Int) (x : ByteArray) (o : Int) (k : Nat) (hk : 30 ≤ k) : platformfwref08_Integer.l0 k 0 0 k0 a x o = some (hacc x (min x.size 16) 0 0, 0) := by
  have l2 : ∀ (e : Nat) (j : Int) (q : Nat) (v : Int), 0 ≤ j → j + e = (min x.size 16 : Nat) → e + 4 < q → platformfwref08_Integer.l0 q v j k0 a x o = some (hacc x e j v, 0) := by
    intro e
    induction e with
    | zero =>
      intro j q v h0 hj hq
      obtain ⟨q, rfl⟩ : ∃ m, q = m + 1 := ⟨q - 1, by omega⟩
      simp only [platformfwref08_Integer.l0]
      by_cases h : j < x.size
      · rw [if_pos h, if_neg (by omega)]; rfl
      · rw [if_neg h]; rfl
    | succ e ih =>
      intro j q v h0 hj hq
      obtain ⟨q, rfl⟩ : ∃ m, q = m + 1 := ⟨q - 1, by omega⟩
      have hb := bt_range x j
      simp only [platformfwref08_Integer.l0, hacc]
      rw [if_pos (by omega), if_pos (by omega), if_pos h0, hex_ref _ hb.1 hb.2 q (by omega), Option.bind_some]
      by_cases hd : hexv (bt x j) < 0
      · rw [if_neg (by omega), if_pos hd]
      · rw [if_pos (by omega), if_neg hd, Option.bind_some, wrap64_id (a := j + 1) (by omega) (by omega)]
        exact ih (j + 1) q _ (by omega) (by omega) (by omega)
  exact l2 _ 0 k 0 (by omega) (by omega) (by omega)
/-- Is a value valid. -/
def vOK (k0 : Int) (x : ByteArray) : Bool := if k0 = 2 then decide ((x.size : Int) ≤ 255) else if k0 = 3 then decide ((x.size : Int) ≤ 255) else if k0 ≥ 0 then decide (k0 ≤ 6) else false
theorem valid_go (k0 a : Int) (x : ByteArray) (o : Int) : value_Valid.f k0 a x o = some (vOK k0 x) := by
  unfold value_Valid.f vOK
  split <;> (try split) <;> (try split) <;> rfl
theorem valid_ref (k0 a : Int) (x : ByteArray) (o : Int) : platformfwref08_Valid.f k0 a x o = some (vOK k0 x) := by rw [← valids, valid_go]
/-- What a value is as an integer. -/
def intV (k0 a : Int) (x : ByteArray) : Int × Int :=
  if vOK k0 x = true then (if k0 = 1 then (a, 0) else if k0 = 2 then (hacc x (min x.size 16) 0 0, 0) else if k0 = 3 then (lacc x (min x.size 8) 0 0, 0) else (0, 10)) else (0, 1)
theorem int_go (k0 a : Int) (x : ByteArray) (o : Int) (k : Nat) (hk : 30 ≤ k) : value_Integer.f k k0 a x o = some (intV k0 a x) := by
  unfold value_Integer.f intV
  rw [valid_go, Option.bind_some, leading_go x k hk, little_go x k (by omega)]
  simp only [Option.bind_some]
  split <;> (try split) <;> (try split) <;> (try split) <;> rfl
theorem int_ref (k0 a : Int) (x : ByteArray) (o : Int) (k : Nat) (hk : 30 ≤ k) : platformfwref08_Integer.f k k0 a x o = some (intV k0 a x) := by
  unfold platformfwref08_Integer.f intV
  rw [valid_ref, Option.bind_some, leading_ref k0 a x o k hk, little_ref k0 a x o k (by omega)]
  split <;> (try split) <;> (try split) <;> (try split) <;> rfl
theorem or_rng (x y : Int) : 0 ≤ Go.bits .or .u64 x y ∧ Go.bits .or .u64 x y < 18446744073709551616 := by
  unfold Go.bits
  rw [wrap_u64]
  omega
theorem lacc_rng (x : ByteArray) : ∀ (e : Nat) (i v : Int), 0 ≤ v ∧ v < 18446744073709551616 → 0 ≤ lacc x e i v ∧ lacc x e i v < 18446744073709551616
  | 0, _, _, h => h
  | e + 1, i, v, _ => lacc_rng x e _ _ (or_rng _ _)
theorem hacc_rng (x : ByteArray) : ∀ (e : Nat) (i v : Int), 0 ≤ v ∧ v < 18446744073709551616 → 0 ≤ hacc x e i v ∧ hacc x e i v < 18446744073709551616
  | 0, _, _, h => h
  | e + 1, i, v, h => by
    simp only [hacc]
    split
    · exact h
    · exact hacc_rng x e _ _ (or_rng _ _)
theorem intV_rng (k0 a : Int) (x : ByteArray) (ha : 0 ≤ a ∧ a < 18446744073709551616) : 0 ≤ (intV k0 a x).1 ∧ (intV k0 a x).1 < 18446744073709551616 := by
  unfold intV
  have h1 := hacc_rng x (min x.size 16) 0 0 (by omega)
  have h2 := lacc_rng x (min x.size 8) 0 0 (by omega)
  split <;> (try split) <;> (try split) <;> (try split) <;> first | exact ha | exact h1 | exact h2 | (constructor <;> decide)
/-- The m lowest hexadecimal digits of u, the highest first, in capitals. -/
def rowUp (m u : Nat) : List UInt8 := (List.range m).map fun t => hexUp (u / 16 ^ (m - 1 - t) % 16)
theorem rowUp_snoc (m u : Nat) : rowUp (m + 1) u = rowUp m (u / 16) ++ [hexUp (u % 16)] := by
  unfold rowUp
  rw [List.range_succ, List.map_append]
  congr 1
  · apply List.map_congr_left
    intro t ht
    have ht := List.mem_range.1 ht
    rw [Nat.div_div_eq_div_mul, show m + 1 - 1 - t = (m - 1 - t) + 1 by omega, Nat.pow_succ, Nat.mul_comm]
  · simp
theorem rowUp_pad (m d u : Nat) (h : u < 16 ^ m) : rowUp (m + d) u = List.replicate d 48 ++ rowUp m u := by
  apply List.ext_getElem
  · simp [rowUp]; omega
  · intro t h1 h2
    have h3 : t < m + d := by simpa [rowUp] using h1
    simp only [rowUp, List.getElem_map, List.getElem_range]
    by_cases ht : t < d
    · rw [List.getElem_append_left (by simpa using ht), List.getElem_replicate]
      have : u / 16 ^ (m + d - 1 - t) = 0 := Nat.div_eq_of_lt (Nat.lt_of_lt_of_le h (Nat.pow_le_pow_right (by decide) (by omega)))
      rw [this]; rfl
    · rw [List.getElem_append_right (by simp; omega)]
      simp only [List.length_replicate, List.getElem_map, List.getElem_range]
      rw [show m + d - 1 - t = m - 1 - (t - d) by omega]
theorem upper_dig (d : Nat) (h : d < 16) : Lib.upperB (hexDig d) = hexUp d := by
  have all : ∀ d : Fin 16, Lib.upperB (hexDig d.val) = hexUp d.val := by decide
  exact all ⟨d, h⟩
theorem dig_ascii (d : Nat) (h : d < 16) : (hexDig d).toNat < 128 := by
  have all : ∀ d : Fin 16, (hexDig d.val).toNat < 128 := by decide
  exact all ⟨d, h⟩
theorem upper_row (m u : Nat) : Lib.toUpperA (hexRow m u) = rowUp m u := by
  unfold Lib.toUpperA hexRow rowUp
  rw [List.map_map]
  apply List.map_congr_left
  intro t _
  exact upper_dig _ (Nat.mod_lt _ (by decide))
theorem row_ascii (m u : Nat) : (hexRow m u).all (fun b => decide (b.toNat < 128)) = true := by
  rw [List.all_eq_true]
  intro b hb
  obtain ⟨t, _, rfl⟩ := List.mem_map.1 hb
  exact decide_eq_true (dig_ascii _ (Nat.mod_lt _ (by decide)))
theorem hexLen_le (u : Nat) (h : u < 18446744073709551616) : 1 ≤ hexLen u ∧ hexLen u ≤ 16 ∧ u < 16 ^ hexLen u := by
  unfold hexLen
  have e1 : ∀ n, (16 : Nat) ^ n = 2 ^ (4 * n) := fun n => by rw [show (16 : Nat) = 2 ^ 4 from rfl, ← Nat.pow_mul]
  by_cases h0 : u = 0
  · subst h0
    refine ⟨by omega, by decide, by decide⟩
  · have h4 : Nat.log2 u < 64 := (Nat.log2_lt h0).2 h
    refine ⟨by omega, by omega, ?_⟩
    rw [e1]
    exact (Nat.log2_lt h0).1 (by omega)
def hex16 (u : Nat) : ByteArray := ⟨(rowUp 16 u).toArray⟩
theorem ba_append (a b : List UInt8) : (⟨a.toArray⟩ : ByteArray) ++ (⟨b.toArray⟩ : ByteArray) = ⟨(a ++ b).toArray⟩ := by
  apply ByteArray.ext
  rw [ByteArray.data_append]
  simp
theorem rep_list (n : Nat) : Lib.repeatL [48] n = List.replicate n (48 : UInt8) := by
  induction n with
  | zero => rfl
  | succ n ih => rw [List.replicate_succ, ← ih]; rfl
theorem size_mk (l : List UInt8) : (⟨l.toArray⟩ : ByteArray).size = l.length := List.size_toArray
/-- What a string of an integer comes to. -/
theorem str_int (a : Int) (h0 : 0 ≤ a) (h1 : a < 18446744073709551616) {β : Type} (f : ByteArray → Option β) :
    ((strconv_FormatUint.f a 16).bind fun t123 => ((strings_ToUpper.f t123).bind fun t124 => ((strings_Repeat.f (⟨#[48]⟩ : ByteArray) (wrap64 (16 - (t124.size : Int)))).bind fun t125 => (if t125.size + t124.size ≤ 9223372036854775807 then f (t125 ++ t124) else none)))) = f (hex16 a.toNat) := by
  obtain ⟨u, rfl⟩ := Int.eq_ofNat_of_zero_le h0
  obtain ⟨l1, l2, l3⟩ := hexLen_le u (by omega)
  have hz : (hexRow (hexLen u) u).length = hexLen u := by simp [hexRow]
  have e1 : strconv_FormatUint.f (u : Int) 16 = some (hexStr u) := by unfold strconv_FormatUint.f; first | rw [if_pos (show (16 : Int) = 16 ∧ 0 ≤ (u : Int) ∧ (u : Int) < 18446744073709551616 from ⟨rfl, by omega, by omega⟩), Int.toNat_natCast] | rw [if_pos ⟨by omega, by omega⟩, if_pos rfl, Int.toNat_natCast]
  have hs : (hexStr u).size = hexLen u := (size_mk _).trans hz
  have e2 : strings_ToUpper.f (hexStr u) = some ⟨(rowUp (hexLen u) u).toArray⟩ := by
    unfold strings_ToUpper.f
    rw [if_pos ⟨by omega, row_ascii _ _⟩, ← upper_row]
    rfl
  have hr : (rowUp (hexLen u) u).length = hexLen u := by simp [rowUp]
  have hsz := (size_mk (rowUp (hexLen u) u)).trans hr
  have e3 : strings_Repeat.f (⟨#[48]⟩ : ByteArray) ((16 - hexLen u : Nat) : Int) = some ⟨(List.replicate (16 - hexLen u) (48 : UInt8)).toArray⟩ := by
    unfold strings_Repeat.f
    rw [if_pos ⟨by omega, by omega, by decide⟩, Int.toNat_natCast]
    unfold repB
    exact congrArg (fun l : List UInt8 => some (⟨l.toArray⟩ : ByteArray)) (rep_list _)
  have hr3 := (size_mk (List.replicate (16 - hexLen u) (48 : UInt8))).trans List.length_replicate
  rw [e1, Option.bind_some, e2, Option.bind_some, hsz, wrap64_id (by omega) (by omega), show (16 - (hexLen u : Int)) = ((16 - hexLen u : Nat) : Int) by omega, e3, Option.bind_some, hr3, if_pos (by omega), ba_append, ← rowUp_pad _ _ _ l3, show hexLen u + (16 - hexLen u) = 16 by omega, Int.toNat_natCast]
  rfl
theorem cut_dig (d : Nat) (h : d < 16) : (⟨#[48, 49, 50, 51, 52, 53, 54, 55, 56, 57, 65, 66, 67, 68, 69, 70]⟩ : ByteArray).extract d (d + 1) = ⟨([hexUp d] : List UInt8).toArray⟩ := by
  have all : ∀ d : Fin 16, (⟨#[48, 49, 50, 51, 52, 53, 54, 55, 56, 57, 65, 66, 67, 68, 69, 70]⟩ : ByteArray).extract d.val (d.val + 1) = ⟨([hexUp d.val] : List UInt8).toArray⟩ := by decide +kernel
  exact all ⟨d, h⟩
theorem digits_go (L : Nat) (hL : L ≤ 16) : ∀ (e : Nat) (k u : Nat) (l : List UInt8), l.length + e = L → u < 16 ^ e → e < k → platformfwref08_digits.l0 k (u : Int) 16 (L : Int) ⟨l.toArray⟩ = some ⟨(rowUp e u ++ l).toArray⟩ := by
  intro e
  induction e with
  | zero =>
    intro k u l hl hu hk
    obtain ⟨k, rfl⟩ : ∃ m, k = m + 1 := ⟨k - 1, by omega⟩
    have : u = 0 := by simpa using hu
    subst this
    simp only [platformfwref08_digits.l0]
    rw [if_neg (by decide), if_neg (by rw [size_mk]; omega)]
    simp [rowUp]
  | succ e ih =>
    intro k u l hl hu hk
    obtain ⟨k, rfl⟩ : ∃ m, k = m + 1 := ⟨k - 1, by omega⟩
    have hu' : u / 16 < 16 ^ e := by rw [Nat.div_lt_iff_lt_mul (by decide)]; rw [Nat.pow_succ] at hu; exact hu
    have hub : u < 18446744073709551616 := Nat.lt_of_lt_of_le hu (Nat.le_trans (Nat.pow_le_pow_right (by decide) (by omega : e + 1 ≤ 16)) (by decide))
    have hm : Int.tmod (u : Int) 16 = ((u % 16 : Nat) : Int) := by rw [Int.tmod_eq_emod_of_nonneg (by omega)]; omega
    have hq : Int.tdiv (u : Int) 16 = ((u / 16 : Nat) : Int) := by rw [Int.tdiv_eq_ediv_of_nonneg (by omega)]; omega
    have hw : IntKind.u64.wrap (((u % 16 : Nat) : Int) + 1) = ((u % 16 + 1 : Nat) : Int) := by rw [wrap_u64_id (by omega) (by omega)]; omega
    have hx := cut_dig (u % 16) (Nat.mod_lt _ (by decide))
    have hn := ih k (u / 16) (hexUp (u % 16) :: l) (by simp; omega) hu' (by omega)
    have body : (if (16 : Int) = 0 then (none : Option ByteArray) else (if 0 ≤ (Int.tmod (u : Int) 16) then (if (Int.tmod (u : Int) 16) ≤ (IntKind.u64.wrap ((Int.tmod (u : Int) 16) + 1)) then (if (IntKind.u64.wrap ((Int.tmod (u : Int) 16) + 1)) ≤ 16 then (if ((⟨#[48, 49, 50, 51, 52, 53, 54, 55, 56, 57, 65, 66, 67, 68, 69, 70]⟩ : ByteArray).extract ((Int.tmod (u : Int) 16) : Int).toNat ((IntKind.u64.wrap ((Int.tmod (u : Int) 16) + 1)) : Int).toNat).size + (⟨l.toArray⟩ : ByteArray).size ≤ 9223372036854775807 then (platformfwref08_digits.l0 k (IntKind.u64.wrap (Int.tdiv (u : Int) 16)) 16 (L : Int) (((⟨#[48, 49, 50, 51, 52, 53, 54, 55, 56, 57, 65, 66, 67, 68, 69, 70]⟩ : ByteArray).extract ((Int.tmod (u : Int) 16) : Int).toNat ((IntKind.u64.wrap ((Int.tmod (u : Int) 16) + 1)) : Int).toNat) ++ (⟨l.toArray⟩ : ByteArray))) else (none)) else (none)) else (none)) else (none))) = some ⟨(rowUp (e + 1) u ++ l).toArray⟩ := by
      rw [if_neg (by decide), hm, hw, hq, Int.toNat_natCast, Int.toNat_natCast, hx, if_pos (by omega), if_pos (by omega), if_pos (by omega), size_mk, size_mk, if_pos (by simp; omega), ba_append, wrap_u64_id (by omega) (by omega), List.singleton_append, hn, rowUp_snoc, List.append_assoc]
      rfl
    simp only [platformfwref08_digits.l0]
    by_cases h0 : (u : Int) > 0
    · rw [if_pos h0]; exact body
    · rw [if_neg h0, if_pos (by rw [size_mk]; omega)]; exact body
theorem digits16 (a : Int) (h0 : 0 ≤ a) (h1 : a < 18446744073709551616) (k : Nat) (hk : 20 ≤ k) : platformfwref08_digits.f k a 16 16 = some (hex16 a.toNat) := by
  obtain ⟨u, rfl⟩ := Int.eq_ofNat_of_zero_le h0
  have := digits_go 16 (by omega) 16 k u [] rfl (by omega) (by omega)
  rw [List.append_nil] at this
  exact this
theorem digits2 (c : Nat) (h : c < 256) (k : Nat) (hk : 20 ≤ k) : platformfwref08_digits.f k (c : Int) 16 2 = some (hex2 c) := by
  have := digits_go 2 (by omega) 2 k c [] rfl (by omega) (by omega)
  rw [List.append_nil] at this
  refine this.trans (congrArg some ?_)
  unfold hex2 rowUp
  have e1 : c / 16 % 16 = c / 16 := Nat.mod_eq_of_lt (by omega)
  simp [List.range_succ, e1]
/-- What follows the first byte's digits. -/
def tailB (x sep : ByteArray) (i : Nat) : ByteArray := ⟨(((bytesOf x).drop i).flatMap fun c => sep.data.toList ++ [hexUp (c.toNat / 16), hexUp (c.toNat % 16)]).toArray⟩
theorem data_mk (s : ByteArray) : (⟨s.data.toList.toArray⟩ : ByteArray) = s := rfl
theorem tail_step (x sep : ByteArray) (i : Nat) (h : i < x.size) : tailB x sep i = (sep ++ hex2 (bt x i).toNat) ++ tailB x sep (i + 1) := by
  unfold tailB hex2
  have hl : i < (bytesOf x).length := by rw [B_size]; exact h
  rw [List.drop_eq_getElem_cons hl, List.flatMap_cons, ← ba_append, ← ba_append, bt_B, Int.toNat_natCast, getD_at _ _ hl]
theorem list_go (x sep : ByteArray) (hx : x.size ≤ 255) (hs : sep.size ≤ 1) : ∀ (e : Nat) (i k : Nat) (out : ByteArray), i + e = x.size → 0 < i → e + 20 < k → out.size ≤ 3 * i →
    platformfwref08_list.l0 k x ⟨#[]⟩ sep 16 2 out (i : Int) = some (out ++ tailB x sep i) := by
  intro e
  induction e with
  | zero =>
    intro i k out hi h0 hk ho
    obtain ⟨k, rfl⟩ : ∃ m, k = m + 1 := ⟨k - 1, by omega⟩
    simp only [platformfwref08_list.l0]
    rw [if_neg (by omega)]
    have : tailB x sep i = ByteArray.empty := by unfold tailB; rw [List.drop_of_length_le (by rw [B_size]; omega)]; rfl
    rw [this, ByteArray.append_empty]
  | succ e ih =>
    intro i k out hi h0 hk ho
    obtain ⟨k, rfl⟩ : ∃ m, k = m + 1 := ⟨k - 1, by omega⟩
    have hb := bt_range x i
    have hc : IntKind.u64.wrap (bt x (i : Int)) = (((bt x i).toNat : Nat) : Int) := by rw [wrap_u64_id hb.1 (by omega)]; omega
    have hz : (hex2 (bt x i).toNat).size = 2 := rfl
    have hn := ih (i + 1) k ((out ++ sep) ++ ((⟨#[]⟩ : ByteArray) ++ hex2 (bt x i).toNat)) (by omega) (by omega) (by omega) (by simp only [ByteArray.size_append, hz]; have : (⟨#[]⟩ : ByteArray).size = 0 := rfl; omega)
    simp only [platformfwref08_list.l0]
    have z0 : (⟨#[]⟩ : ByteArray).size = 0 := rfl
    rw [if_pos (by omega), if_pos (by omega), if_pos (by omega), if_pos (by omega), hc, digits2 _ (by omega) k (by omega), Option.bind_some, if_pos (by omega), if_pos (by omega), wrap64_id (by omega) (by omega), show (i : Int) + 1 = ((i + 1 : Nat) : Int) by omega, hn, tail_step x sep i (by omega)]
    congr 1
    have : (⟨#[]⟩ : ByteArray) ++ hex2 (bt x i).toNat = hex2 (bt x i).toNat := ByteArray.empty_append
    rw [this, ByteArray.append_assoc, ByteArray.append_assoc, ByteArray.append_assoc]
theorem join_tail (x sep : ByteArray) (h : 0 < x.size) : joinB (hexes x) sep = hex2 (bt x 0).toNat ++ tailB x sep 1 := by
  have hl : 0 < (bytesOf x).length := by rw [B_size]; exact h
  have gen : ∀ (q : List UInt8) (l : List Int) (y : List UInt8), Lib.join (y :: l.map fun c => (hex2 c.toNat).data.toList) q = y ++ l.flatMap fun c => q ++ [hexUp (c.toNat / 16), hexUp (c.toNat % 16)] := by
    intro q l
    induction l with
    | nil => intro y; simp [Lib.join_one]
    | cons c l ih =>
      intro y
      have h3 : ∀ (z : List UInt8) (r : List (List UInt8)), Lib.join (y :: z :: r) q = y ++ q ++ Lib.join (z :: r) q := fun z r => by simp [Lib.join, List.intercalate]
      rw [List.map_cons, h3, ih, List.flatMap_cons, List.append_assoc, List.append_assoc]
      rfl
  unfold joinB hexes
  obtain ⟨c, l, hcl⟩ : ∃ c l, bytesOf x = c :: l := by
    cases hb : bytesOf x with
    | nil => rw [hb] at hl; simp at hl
    | cons c l => exact ⟨c, l, rfl⟩
  have hbt : bt x 0 = c := by rw [bt_B, hcl]; rfl
  unfold tailB
  rw [hbt, hcl, List.map_cons, List.map_cons, List.map_map]
  have := gen sep.data.toList l (hex2 c.toNat).data.toList
  rw [show (List.map ((fun x : ByteArray => x.data.toList) ∘ fun c : Int => hex2 c.toNat) l) = l.map fun c => (hex2 c.toNat).data.toList from rfl, this, ← ba_append]
  rfl
theorem list_all (x sep : ByteArray) (hx : x.size ≤ 255) (hs : sep.size ≤ 1) (k : Nat) (hk : 300 ≤ k) : platformfwref08_list.f k x ⟨#[]⟩ sep 16 2 = some (joinB (hexes x) sep) := by
  obtain ⟨k, rfl⟩ : ∃ m, k = m + 1 := ⟨k - 1, by omega⟩
  unfold platformfwref08_list.f
  have z0 : (⟨#[]⟩ : ByteArray).size = 0 := rfl
  by_cases h : 0 < x.size
  · have hb := bt_range x 0
    have hc : IntKind.u64.wrap (bt x (0 : Int)) = (((bt x 0).toNat : Nat) : Int) := by rw [wrap_u64_id hb.1 (by omega)]; omega
    have hz : (hex2 (bt x 0).toNat).size = 2 := rfl
    have e1 : (⟨#[]⟩ : ByteArray) ++ ((⟨#[]⟩ : ByteArray) ++ hex2 (bt x 0).toNat) = hex2 (bt x 0).toNat := by
      have : ∀ y : ByteArray, (⟨#[]⟩ : ByteArray) ++ y = y := fun y => ByteArray.empty_append
      rw [this, this]
    simp only [platformfwref08_list.l0]
    rw [if_pos (by omega), if_neg (by decide), if_pos (by decide), hc, digits2 _ (by omega) k (by omega), Option.bind_some, if_pos (by omega), if_pos (by omega), wrap64_id (by omega) (by omega), show (0 : Int) + 1 = ((1 : Nat) : Int) from rfl, e1, list_go x sep hx hs (x.size - 1) 1 k _ (by omega) (by omega) (by omega) (by omega), join_tail x sep h]
  · have h0 : x.size = 0 := by omega
    simp only [platformfwref08_list.l0]
    rw [if_neg (by omega)]
    have : hexes x = [] := by
      apply List.eq_nil_of_length_eq_zero
      simp [hexes, B_size, h0]
    rw [this]
    rfl
/-- What a value is as a string. -/
def strV (k0 a : Int) (x : ByteArray) : ByteArray × Int :=
  if vOK k0 x = true then (if k0 = 1 then (hex16 a.toNat, 0) else if k0 = 2 then (x, 0) else if k0 = 3 then (if ((joinB (hexes x) ⟨#[32]⟩).size : Int) > 255 then (⟨#[]⟩, 11) else (joinB (hexes x) ⟨#[32]⟩, 0)) else (⟨#[]⟩, 10)) else (⟨#[]⟩, 1)
theorem hex16_size (u : Nat) : (hex16 u).size = 16 := by unfold hex16; rw [size_mk]; simp [rowUp]
theorem vOK_size {k0 : Int} {x : ByteArray} (h : vOK k0 x = true) (h2 : k0 = 2 ∨ k0 = 3) : x.size ≤ 255 := by
  unfold vOK at h
  rcases h2 with rfl | rfl
  · rw [if_pos rfl] at h; have := of_decide_eq_true h; omega
  · rw [if_neg (by decide), if_pos rfl] at h; have := of_decide_eq_true h; omega
theorem str_go (k0 a : Int) (x : ByteArray) (o : Int) (ha : 0 ≤ a ∧ a < 18446744073709551616) : value_String.f k0 a x o = some (strV k0 a x) := by
  unfold value_String.f strV
  rw [valid_go, Option.bind_some]
  by_cases hv : vOK k0 x = true
  case neg => rw [if_neg hv, if_neg hv]
  rw [if_pos hv, if_pos hv]
  by_cases h1 : k0 = 1
  · rw [if_pos h1, if_pos h1, str_int a ha.1 ha.2 (fun s => if (s.size : Int) > 255 then (some ((⟨#[]⟩ : ByteArray), (11 : Int))) else (some (s, 0))), if_neg (by rw [hex16_size]; decide)]
  rw [if_neg h1, if_neg h1]
  by_cases h2 : k0 = 2
  · have := vOK_size hv (.inl h2)
    rw [if_pos h2, if_pos h2, if_neg (by omega)]
  rw [if_neg h2, if_neg h2]
  by_cases h3 : k0 = 3
  · have := vOK_size hv (.inr h3)
    have e : value_each.f x (⟨#[32]⟩ : ByteArray) = some (joinB (hexes x) ⟨#[32]⟩) := by unfold value_each.f; rw [if_pos ⟨this, by decide⟩]
    rw [if_pos h3, if_pos h3, e, Option.bind_some]
    split <;> rfl
  rw [if_neg h3, if_neg h3]
theorem bounded_go (x : ByteArray) : platformfwref08_bounded.f x = some (if (x.size : Int) > 255 then (⟨#[]⟩, 11) else (x, 0)) := by unfold platformfwref08_bounded.f; split <;> rfl
theorem str_ref (k0 a : Int) (x : ByteArray) (o : Int) (ha : 0 ≤ a ∧ a < 18446744073709551616) (k : Nat) (hk : 300 ≤ k) : platformfwref08_String.f k k0 a x o = some (strV k0 a x) := by
  unfold platformfwref08_String.f strV
  rw [valid_ref, Option.bind_some]
  by_cases hv : vOK k0 x = true
  case neg => rw [if_neg hv, if_neg hv]
  rw [if_pos hv, if_pos hv]
  by_cases h2 : k0 = 2
  · rw [if_pos h2, if_neg (by omega), if_pos h2]
  rw [if_neg h2]
  by_cases h1 : k0 = 1
  · rw [if_pos h1, if_pos h1, digits16 a ha.1 ha.2 k (by omega), Option.bind_some]
  rw [if_neg h1, if_neg h1, if_neg h2]
  by_cases h3 : k0 = 3
  · have := vOK_size hv (.inr h3)
    rw [if_pos h3, if_pos h3, list_all x ⟨#[32]⟩ this (by decide) k hk, Option.bind_some, bounded_go, Option.bind_some]
  rw [if_neg h3, if_neg h3]
/-- What a value is as a buffer. -/
def bufV (k0 a : Int) (x : ByteArray) : ByteArray × Int :=
  if vOK k0 x = true then (if k0 = 1 then (strOfNums (bytes8 a), 0) else if k0 = 2 then (if ((x ++ (⟨#[0]⟩ : ByteArray)).size : Int) > 255 then (⟨#[]⟩, 11) else (x ++ (⟨#[0]⟩ : ByteArray), 0)) else if k0 = 3 then (x, 0) else (⟨#[]⟩, 10)) else (⟨#[]⟩, 1)
theorem bytes8_size (a : Int) : (strOfNums (bytes8 a)).size = 8 := by rw [strOfNums_size']; simp [bytes8]
theorem buf_go (k0 a : Int) (x : ByteArray) (o : Int) (k : Nat) (hk : 20 ≤ k) : value_Buffer.f k k0 a x o = some (bufV k0 a x) := by
  unfold value_Buffer.f bufV
  rw [valid_go, Option.bind_some]
  by_cases hv : vOK k0 x = true
  case neg => rw [if_neg hv, if_neg hv]
  rw [if_pos hv, if_pos hv]
  by_cases h1 : k0 = 1
  · rw [if_pos h1, if_pos h1, eight_eq a k hk, Option.bind_some, bytes8_size, if_neg (by decide)]
  rw [if_neg h1, if_neg h1]
  by_cases h2 : k0 = 2
  · have := vOK_size hv (.inl h2)
    rw [if_pos h2, if_pos h2, if_pos (by omega)]
    split <;> rfl
  rw [if_neg h2, if_neg h2]
  by_cases h3 : k0 = 3
  · have := vOK_size hv (.inr h3)
    rw [if_pos h3, if_pos h3, if_neg (by omega)]
  rw [if_neg h3, if_neg h3]
theorem buf_ref (k0 a : Int) (x : ByteArray) (o : Int) (k : Nat) (hk : 20 ≤ k) : platformfwref08_Buffer.f k k0 a x o = some (bufV k0 a x) := by
  unfold platformfwref08_Buffer.f bufV
  rw [valid_ref, Option.bind_some]
  by_cases hv : vOK k0 x = true
  case neg => rw [if_neg hv, if_neg hv]
  rw [if_pos hv, if_pos hv]
  by_cases h3 : k0 = 3
  · rw [if_pos h3, if_neg (by omega), if_neg (by omega), if_pos h3]
  rw [if_neg h3]
  by_cases h1 : k0 = 1
  · rw [if_pos h1, if_pos h1, little8_eq a k hk, Option.bind_some]
  rw [if_neg h1, if_neg h1]
  by_cases h2 : k0 = 2
  · have := vOK_size hv (.inl h2)
    rw [if_pos h2, if_pos h2, if_pos (by omega), bounded_go, Option.bind_some]
  rw [if_neg h2, if_neg h2, if_neg h3]
/-- What a conversion comes to. -/
def convV (k0 a : Int) (x : ByteArray) (o kd : Int) : Int × Int × ByteArray × Int × Int :=
  if vOK k0 x = true then
    (if kd = 1 then (if (intV k0 a x).2 = 0 then (1, (intV k0 a x).1, ⟨#[]⟩, 0, 0) else (0, 0, ⟨#[]⟩, 0, (intV k0 a x).2))
     else if kd = 2 then (if (strV k0 a x).2 = 0 then (kd, 0, (strV k0 a x).1, 0, 0) else (0, 0, ⟨#[]⟩, 0, (strV k0 a x).2))
     else if kd = 3 then (if (bufV k0 a x).2 = 0 then (kd, 0, (bufV k0 a x).1, 0, 0) else (0, 0, ⟨#[]⟩, 0, (bufV k0 a x).2))
     else if k0 = kd then (if kd = 0 then (0, 0, ⟨#[]⟩, 0, 0) else (kd, 0, ⟨#[]⟩, o, 0)) else (0, 0, ⟨#[]⟩, 0, 10))
  else (0, 0, ⟨#[]⟩, 0, 1)
theorem conv_go (k0 a : Int) (x : ByteArray) (o kd : Int) (ha : 0 ≤ a ∧ a < 18446744073709551616) (k : Nat) (hk : 30 ≤ k) : value_Convert.f k k0 a x o kd = some (convV k0 a x o kd) := by
  unfold value_Convert.f convV
  rw [valid_go, Option.bind_some, int_go k0 a x o k hk, str_go k0 a x o ha, buf_go k0 a x o k (by omega)]
  simp only [Option.bind_some, value_integer.f, value_result.f]
  by_cases hv : vOK k0 x = true
  case neg => rw [if_neg hv, if_neg hv]
  rw [if_pos hv, if_pos hv]
  by_cases h1 : kd = 1
  · rw [if_pos h1, if_pos h1]; split <;> rfl
  rw [if_neg h1, if_neg h1]
  by_cases h2 : kd = 2
  · rw [if_pos h2, if_pos h2]; split <;> rfl
  rw [if_neg h2, if_neg h2]
  by_cases h3 : kd = 3
  · rw [if_pos h3, if_pos h3]; split <;> rfl
  rw [if_neg h3, if_neg h3]
  split
  · split <;> rfl
  · rfl
theorem conv_ref (k0 a : Int) (x : ByteArray) (o kd : Int) (ha : 0 ≤ a ∧ a < 18446744073709551616) (k : Nat) (hk : 300 ≤ k) : platformfwref08_Convert.f k k0 a x o kd = some (convV k0 a x o kd) := by
  obtain ⟨k, rfl⟩ : ∃ m, k = m + 1 := ⟨k - 1, by omega⟩
  unfold platformfwref08_Convert.f convV
  rw [valid_ref, Option.bind_some, int_ref k0 a x o _ (by omega), str_ref k0 a x o ha _ hk, buf_ref k0 a x o _ (by omega)]
  simp only [Option.bind_some, platformfwref08_Number.f]
  by_cases hv : vOK k0 x = true
  case neg => rw [if_neg hv, if_neg hv]
  rw [if_pos hv, if_pos hv]
  by_cases h1 : kd = 1
  · rw [if_pos h1, if_pos h1]; split <;> rfl
  rw [if_neg h1, if_neg h1]
  by_cases h2 : kd = 2
  · rw [if_pos h2, if_pos h2]; split <;> rfl
  rw [if_neg h2, if_neg h2]
  by_cases h3 : kd = 3
  · rw [if_pos h3, if_pos h3]; split <;> rfl
  rw [if_neg h3, if_neg h3]
  by_cases h : k0 = kd
  · subst h
    rw [if_pos rfl, if_pos rfl]
    unfold platformfwref08_Clean.f
    rw [if_neg h1, if_neg h2]
    simp only [platformfwref08_Clean.j0]
    rw [if_neg (by simpa using h3)]
    by_cases h0 : k0 = 0
    · rw [if_pos h0, if_pos h0]; rfl
    · rw [if_neg h0, if_neg h0]; rfl
  · rw [if_neg h, if_neg h]
/-- What a conversion to an integer holds. -/
theorem convV_int (k0 a : Int) (x : ByteArray) (o kd : Int) (ha : 0 ≤ a ∧ a < 18446744073709551616) : 0 ≤ (convV k0 a x o kd).2.1 ∧ (convV k0 a x o kd).2.1 < 18446744073709551616 := by
  have hi := intV_rng k0 a x ha
  have zr : (0 : Int) ≤ 0 ∧ (0 : Int) < 18446744073709551616 := by decide
  unfold convV
  split <;> (try split) <;> (try split) <;> (try split) <;> (try split) <;> (try split) <;> first | exact hi | exact zr
theorem strV_size (k0 a : Int) (x : ByteArray) (h : (strV k0 a x).2 = 0) : (strV k0 a x).1.size ≤ 255 := by
  unfold strV at h ⊢
  by_cases hv : vOK k0 x = true
  case neg => rw [if_neg hv]; decide
  rw [if_pos hv] at h ⊢
  by_cases h1 : k0 = 1
  · rw [if_pos h1, hex16_size]; decide
  rw [if_neg h1] at h ⊢
  by_cases h2 : k0 = 2
  · rw [if_pos h2]; exact vOK_size hv (.inl h2)
  rw [if_neg h2] at h ⊢
  by_cases h3 : k0 = 3
  · rw [if_pos h3]; split
    · decide
    · show (joinB (hexes x) ⟨#[32]⟩).size ≤ 255; omega
  rw [if_neg h3]; decide
theorem bufV_size (k0 a : Int) (x : ByteArray) : (bufV k0 a x).1.size ≤ 255 := by
  unfold bufV
  by_cases hv : vOK k0 x = true
  case neg => rw [if_neg hv]; decide
  rw [if_pos hv]
  by_cases h1 : k0 = 1
  · rw [if_pos h1, bytes8_size]; decide
  rw [if_neg h1]
  by_cases h2 : k0 = 2
  · rw [if_pos h2]; split
    · decide
    · show (x ++ (⟨#[0]⟩ : ByteArray)).size ≤ 255; omega
  rw [if_neg h2]
  by_cases h3 : k0 = 3
  · rw [if_pos h3]; exact vOK_size hv (.inr h3)
  rw [if_neg h3]; decide
theorem convV_size (k0 a : Int) (x : ByteArray) (o kd : Int) : (convV k0 a x o kd).2.2.1.size ≤ 255 := by
  have hb := bufV_size k0 a x
  have e0 : (⟨#[]⟩ : ByteArray).size ≤ 255 := by decide
  unfold convV
  by_cases hv : vOK k0 x = true
  case neg => rw [if_neg hv]; exact e0
  rw [if_pos hv]
  by_cases h1 : kd = 1
  · rw [if_pos h1]; split <;> exact e0
  rw [if_neg h1]
  by_cases h2 : kd = 2
  · rw [if_pos h2]
    by_cases hs : (strV k0 a x).2 = 0
    · rw [if_pos hs]; exact strV_size k0 a x hs
    · rw [if_neg hs]; exact e0
  rw [if_neg h2]
  by_cases h3 : kd = 3
  · rw [if_pos h3]; split
    · exact hb
    · exact e0
  rw [if_neg h3]
  split
  · split <;> exact e0
  · exact e0
/-- A bool as a value. -/
def boolV (b : Bool) : Int × Int × ByteArray × Int := (1, if b = true then 18446744073709551615 else 0, ⟨#[]⟩, 0)
theorem bool_go (b : Bool) : value_boolean.f b = some (boolV b) := by cases b <;> rfl
theorem cmp_less : ∀ x y : List UInt8, Lib.compareBytes x y = if Op.bytesLess x y = true then -1 else if Op.bytesLess y x = true then 1 else 0 := by
  intro x
  induction x with
  | nil => intro y; cases y <;> rfl
  | cons a x ih =>
    intro y
    cases y with
    | nil => rfl
    | cons b y =>
      simp only [Lib.compareBytes, Op.bytesLess]
      by_cases h1 : a < b
      · have h2 : ¬ b < a := by rw [UInt8.lt_iff_toNat_lt] at *; omega
        simp [h1, h2]
      · by_cases h2 : b < a
        · have h3 : a ≠ b := by intro e; rw [e, UInt8.lt_iff_toNat_lt] at h2; omega
          simp [h1, h2, h3]
        · have he : a = b := by rw [UInt8.lt_iff_toNat_lt] at h1 h2; exact UInt8.toNat_inj.1 (by omega)
          subst he
          simp [h1, ih]
theorem cmp_eq : ∀ x y : List UInt8, (Lib.compareBytes x y == 0) = (x == y) := by
  intro x
  induction x with
  | nil => intro y; cases y <;> rfl
  | cons a x ih =>
    intro y
    cases y with
    | nil => rfl
    | cons b y =>
      simp only [Lib.compareBytes, List.cons_beq_cons]
      by_cases h1 : a < b
      · have h3 : (a == b) = false := by rw [beq_eq_false_iff_ne]; intro e; rw [e, UInt8.lt_iff_toNat_lt] at h1; omega
        rw [if_pos h1, h3]; rfl
      · by_cases h2 : b < a
        · have h3 : (a == b) = false := by rw [beq_eq_false_iff_ne]; intro e; rw [e, UInt8.lt_iff_toNat_lt] at h2; omega
          rw [if_neg h1, if_pos h2, h3]; rfl
        · have he : a = b := by rw [UInt8.lt_iff_toNat_lt] at h1 h2; exact UInt8.toNat_inj.1 (by omega)
          subst he
          rw [if_neg h1, if_neg h1, ih]; simp
theorem less_asym : ∀ x y : List UInt8, Op.bytesLess x y = true → Op.bytesLess y x = false := by
  intro x
  induction x with
  | nil => intro y h; cases y <;> simp [Op.bytesLess] at *
  | cons a x ih =>
    intro y h
    cases y with
    | nil => simp [Op.bytesLess] at h
    | cons b y =>
      simp only [Op.bytesLess] at *
      by_cases h1 : a < b
      · have h2 : ¬ b < a := by rw [UInt8.lt_iff_toNat_lt] at *; omega
        have h3 : b ≠ a := by intro e; rw [e, UInt8.lt_iff_toNat_lt] at h1; omega
        simp [h2, h3]
      · by_cases h2 : b < a
        · have h3 : a ≠ b := by intro e; rw [e, UInt8.lt_iff_toNat_lt] at h2; omega
          simp [h1, h3] at h
        · simp [h1] at h
          simp [h2, h.1, ih y h.2]
theorem toL (s : ByteArray) : s.toList = s.data.toList := by
  have h1 := bytesOf_length s
  exact ByteArray.toList_eq s
/-- What the order of two values is. -/
def ordV (k0 a : Int) (x : ByteArray) (b : Int) (y : ByteArray) : Int := if k0 = 1 then (if a < b then -1 else if a > b then 1 else 0) else Lib.compareBytes x.data.toList y.data.toList
theorem order_go (k0 a : Int) (x : ByteArray) (o k1 b : Int) (y : ByteArray) (o1 : Int) : value_order.f k0 a x o k1 b y o1 = some (ordV k0 a x b y) := by
  unfold value_order.f ordV strings_Compare.f
  split
  · split
    · rfl
    · split <;> rfl
  · rfl
/-- What an operator on two values of one kind makes. -/
def pairV (op k0 a : Int) (x : ByteArray) (k1 b : Int) (y : ByteArray) (o1 : Int) : Int × Int × ByteArray × Int × Int :=
  if k0 = 1 ∨ k0 = 2 ∨ k0 = 3 then
    let c := convV k1 b y o1 k0
    if c.2.2.2.2 = 0 then
      (if op = 72 then ((boolV (ordV k0 a x c.2.1 c.2.2.1 == 0)).1, (boolV (ordV k0 a x c.2.1 c.2.2.1 == 0)).2.1, ⟨#[]⟩, 0, 0)
       else if op = 73 then ((boolV (decide (ordV k0 a x c.2.1 c.2.2.1 < 0))).1, (boolV (decide (ordV k0 a x c.2.1 c.2.2.1 < 0))).2.1, ⟨#[]⟩, 0, 0)
       else if op = 74 then ((boolV (decide (ordV k0 a x c.2.1 c.2.2.1 > 0))).1, (boolV (decide (ordV k0 a x c.2.1 c.2.2.1 > 0))).2.1, ⟨#[]⟩, 0, 0)
       else if k0 = 1 then (3, 0, strOfNums (bytes8 a) ++ strOfNums (bytes8 c.2.1), 0, 0)
       else if ((x ++ c.2.2.1).size : Int) > 255 then (0, 0, ⟨#[]⟩, 0, 11) else (k0, 0, x ++ c.2.2.1, 0, 0))
    else (0, 0, ⟨#[]⟩, 0, c.2.2.2.2)
  else (0, 0, ⟨#[]⟩, 0, 10)
theorem concat_go (k0 a : Int) (x : ByteArray) (o k1 b : Int) (y : ByteArray) (o1 : Int) (hx : k0 ≠ 1 → x.size ≤ 1000000) (hy : y.size ≤ 1000000) (k : Nat) (hk : 20 ≤ k) :
    value_concatenate.f k k0 a x o k1 b y o1 = some (if k0 = 1 then (3, 0, strOfNums (bytes8 a) ++ strOfNums (bytes8 b), 0, 0) else if ((x ++ y).size : Int) > 255 then (0, 0, ⟨#[]⟩, 0, 11) else (k0, 0, x ++ y, 0, 0)) := by
  unfold value_concatenate.f value_bytes.f
  by_cases h : k0 = 1
  · rw [if_pos h, if_pos h, eight_eq a k hk, Option.bind_some, eight_eq b k hk, Option.bind_some, bytes8_size, bytes8_size, if_pos (by omega), if_neg (by rw [ByteArray.size_append, bytes8_size, bytes8_size]; decide)]
    rfl
  · have := hx h
    rw [if_neg h, if_neg h, if_pos (by omega)]
    split <;> rfl
theorem matched_go (op k0 a : Int) (x : ByteArray) (o k1 b : Int) (y : ByteArray) (o1 : Int) (hx : k0 = 2 ∨ k0 = 3 → x.size ≤ 1000000) (hb : 0 ≤ b ∧ b < 18446744073709551616) (k : Nat) (hk : 40 ≤ k) :
    value_matched.f k op k0 a x o k1 b y o1 = some (pairV op k0 a x k1 b y o1) := by
  obtain ⟨k, rfl⟩ : ∃ m, k = m + 1 := ⟨k - 1, by omega⟩
  have hs := convV_size k1 b y o1 k0
  have go : (k0 ≠ 1 → x.size ≤ 1000000) → value_matched.j0 (k + 1) op false k0 a x o k1 b y o1 = some (let c := convV k1 b y o1 k0
    if c.2.2.2.2 = 0 then
      (if op = 72 then ((boolV (ordV k0 a x c.2.1 c.2.2.1 == 0)).1, (boolV (ordV k0 a x c.2.1 c.2.2.1 == 0)).2.1, ⟨#[]⟩, 0, 0)
       else if op = 73 then ((boolV (decide (ordV k0 a x c.2.1 c.2.2.1 < 0))).1, (boolV (decide (ordV k0 a x c.2.1 c.2.2.1 < 0))).2.1, ⟨#[]⟩, 0, 0)
       else if op = 74 then ((boolV (decide (ordV k0 a x c.2.1 c.2.2.1 > 0))).1, (boolV (decide (ordV k0 a x c.2.1 c.2.2.1 > 0))).2.1, ⟨#[]⟩, 0, 0)
       else if k0 = 1 then (3, 0, strOfNums (bytes8 a) ++ strOfNums (bytes8 c.2.1), 0, 0)
       else if ((x ++ c.2.2.1).size : Int) > 255 then (0, 0, ⟨#[]⟩, 0, 11) else (k0, 0, x ++ c.2.2.1, 0, 0))
    else (0, 0, ⟨#[]⟩, 0, c.2.2.2.2)) := by
    intro hx
    simp only [value_matched.j0]
    rw [if_neg (by decide), conv_go k1 b y o1 k0 hb k (by omega), Option.bind_some]
    generalize convV k1 b y o1 k0 = c at hs ⊢
    by_cases he : c.2.2.2.2 = 0
    case neg => rw [if_neg he, if_neg he]
    rw [if_pos he, if_pos he, order_go, Option.bind_some, bool_go, Option.bind_some, Option.bind_some, bool_go, Option.bind_some, Option.bind_some, bool_go, Option.bind_some, concat_go k0 a x o c.1 c.2.1 c.2.2.1 c.2.2.2.1 hx (by omega) k (by omega), Option.bind_some]
    by_cases h1 : op = 72
    · rw [if_pos h1, if_pos h1]; rfl
    rw [if_neg h1, if_neg h1]
    by_cases h2 : op = 73
    · rw [if_pos h2, if_pos h2]; rfl
    rw [if_neg h2, if_neg h2]
    by_cases h3 : op = 74
    · rw [if_pos h3, if_pos h3]; rfl
    rw [if_neg h3, if_neg h3]
  unfold value_matched.f pairV
  by_cases h1 : k0 = 1
  · rw [if_pos h1, if_pos (.inl h1), go (fun h => absurd h1 h)]
  rw [if_neg h1]
  by_cases h2 : k0 = 2
  · rw [if_pos h2, if_pos (.inr (.inl h2)), go (fun _ => hx (.inl h2))]
  rw [if_neg h2]
  by_cases h3 : k0 = 3
  · rw [if_pos (.inr (.inr h3)), show (k0 != 3) = false by simp [h3], go (fun _ => hx (.inr h3))]
  · rw [if_neg (by omega), show (k0 != 3) = true by simp [h3]]
    simp only [value_matched.j0]
    rw [if_pos trivial]
theorem awake08 : platformfwlaw08_awake.f 100 = some true := by decide +kernel
theorem awake08_at (k : Nat) (hk : 100 ≤ k) : platformfwlaw08_awake.f k = some true := at_rounds platformfwlaw08_awake.mono hk awake08
theorem mod_ex (v : Int) (n : Nat) (h0 : 0 < n) (h1 : n ≤ 1000) : ∃ m : Int, platformfwhelp_Mod.f v n = some m ∧ 0 ≤ m ∧ m < n := by
  unfold platformfwhelp_Mod.f
  have hw : IntKind.u64.wrap ((n : Nat) : Int) = n := wrap_u64_id (by omega) (by omega)
  have hv : 0 ≤ IntKind.u64.wrap v := by rw [wrap_u64]; omega
  have e : Int.tmod (IntKind.u64.wrap v) n = IntKind.u64.wrap v % n := Int.tmod_eq_emod_of_nonneg hv
  have h2 := Int.emod_nonneg (IntKind.u64.wrap v) (show (n : Int) ≠ 0 by omega)
  have h3 := Int.emod_lt_of_pos (IntKind.u64.wrap v) (show 0 < (n : Int) by omega)
  rw [hw, if_neg (by omega), e, wrap64_id (by omega) (by omega)]
  exact ⟨_, rfl, h2, h3⟩
theorem mn_rng (s : ByteArray) (n : Int) (h : 0 ≤ n) : 0 ≤ mn (s.size : Int) n ∧ mn (s.size : Int) n ≤ s.size ∧ mn (s.size : Int) n ≤ n := by unfold mn; split <;> omega
theorem some_ex (k0 a : Int) (x : ByteArray) (o : Int) (ha : 0 ≤ a ∧ a < 18446744073709551616) (k : Nat) (hk : 1 ≤ k) :
    ∃ r, platformfwlaw08_some.f k k0 a x o = some r ∧ 0 ≤ r.2.1 ∧ r.2.1 < 18446744073709551616 := by
  obtain ⟨k, rfl⟩ : ∃ m, k = m + 1 := ⟨k - 1, by omega⟩
  have zr : (0 : Int) ≤ 0 ∧ (0 : Int) < 18446744073709551616 := by decide
  obtain ⟨m, e0, m0, m1⟩ := mod_ex k0 9 (by omega) (by omega)
  obtain ⟨m8, e8, p0, p1⟩ := mod_ex o 8 (by omega) (by omega)
  obtain ⟨m7, e7, q0, q1⟩ := mod_ex o 7 (by omega) (by omega)
  obtain ⟨m2, e2, s0, s1⟩ := mod_ex o 2 (by omega) (by omega)
  have h24 := mn_rng x 24 (by omega)
  have h255 := mn_rng x 255 (by omega)
  have go : ∀ b, ∃ r, platformfwlaw08_some.j0 (k + 1) m b k0 a x o = some r ∧ 0 ≤ r.2.1 ∧ r.2.1 < 18446744073709551616 := by
    intro b
    simp only [platformfwlaw08_some.j0]
    cases b with
    | true => exact ⟨_, rfl, ha⟩
    | false =>
      rw [if_neg (by decide)]
      by_cases h2 : m = 2
      · rw [if_pos h2, if_pos h24.1, if_pos h24.2.1]; exact ⟨_, rfl, zr⟩
      rw [if_neg h2]
      by_cases h3 : m = 3
      · rw [if_pos h3, if_pos h24.1, if_pos h24.2.1]; exact ⟨_, rfl, zr⟩
      rw [if_neg h3]
      by_cases h4 : m = 4
      · rw [if_pos h4, Option.bind_some]
        rw [show ((([(⟨#[]⟩ : ByteArray), (⟨#[48]⟩ : ByteArray), (⟨#[48, 120, 49, 71]⟩ : ByteArray), (⟨#[70, 70, 70, 70, 70, 70, 70, 70, 70, 70, 70, 70, 70, 70, 70, 70, 70, 70]⟩ : ByteArray), (⟨#[49, 56, 52, 52, 54, 55, 52, 52, 48, 55, 51, 55, 48, 57, 53, 53, 49, 54, 49, 54]⟩ : ByteArray), (⟨#[49, 50, 97]⟩ : ByteArray), (⟨#[48, 88, 97, 66, 99]⟩ : ByteArray), (⟨#[57]⟩ : ByteArray)] : List ByteArray)).length : Int) = ((8 : Nat) : Int) from rfl, e8, Option.bind_some, if_pos p0, if_pos p1]
        exact ⟨_, rfl, zr⟩
      rw [if_neg h4]
      by_cases h5 : m = 5
      · rw [if_pos h5, show (7 : Int) = ((7 : Nat) : Int) from rfl, e7, Option.bind_some, if_pos h255.1, if_pos h255.2.1]; exact ⟨_, rfl, ha⟩
      rw [if_neg h5]
      by_cases h6 : m = 6
      · rw [if_pos h6, show (2 : Int) = ((2 : Nat) : Int) from rfl, e2, Option.bind_some, if_pos h255.1, if_pos h255.2.1]; exact ⟨_, rfl, zr⟩
      rw [if_neg h6]
      exact ⟨_, rfl, ha⟩
  unfold platformfwlaw08_some.f
  rw [show (9 : Int) = ((9 : Nat) : Int) from rfl, e0, Option.bind_some]
  split
  · exact go _
  · exact go _
/-- The part of a text that Mid cuts out. -/
def cutM (s : ByteArray) (i n : Int) : ByteArray := s.extract (mn i (s.size : Int)).toNat (mn i (s.size : Int) + mn n ((s.size : Int) - mn i (s.size : Int))).toNat
theorem mn_two (a b : Int) : mn a b ≤ a ∧ mn a b ≤ b ∧ (mn a b = a ∨ mn a b = b) := by unfold mn; split <;> omega
theorem mid_cut (c : Int) (s : ByteArray) (i n : Int) (hs : s.size ≤ 1000000) (hi : 0 ≤ i) (hn : 0 ≤ n) :
    (if 0 ≤ (mn i (IntKind.u64.wrap ((s.size : Int)))) then (if (mn i (IntKind.u64.wrap ((s.size : Int)))) ≤ (IntKind.u64.wrap ((mn i (IntKind.u64.wrap ((s.size : Int)))) + (mn n (IntKind.u64.wrap ((IntKind.u64.wrap ((s.size : Int))) - (mn i (IntKind.u64.wrap ((s.size : Int))))))))) then (if (IntKind.u64.wrap ((mn i (IntKind.u64.wrap ((s.size : Int)))) + (mn n (IntKind.u64.wrap ((IntKind.u64.wrap ((s.size : Int))) - (mn i (IntKind.u64.wrap ((s.size : Int))))))))) ≤ (s.size : Int) then (some (c, (0 : Int), s.extract ((mn i (IntKind.u64.wrap ((s.size : Int)))) : Int).toNat ((IntKind.u64.wrap ((mn i (IntKind.u64.wrap ((s.size : Int)))) + (mn n (IntKind.u64.wrap ((IntKind.u64.wrap ((s.size : Int))) - (mn i (IntKind.u64.wrap ((s.size : Int))))))))) : Int).toNat, (0 : Int), (0 : Int))) else (none)) else (none)) else (none)) = some (c, 0, cutM s i n, 0, 0) := by
  have e1 : IntKind.u64.wrap (s.size : Int) = s.size := wrap_u64_id (by omega) (by omega)
  unfold cutM
  rw [e1]
  have h1 := mn_two i (s.size : Int)
  generalize mn i (s.size : Int) = p at h1 ⊢
  have e2 : IntKind.u64.wrap ((s.size : Int) - p) = (s.size : Int) - p := wrap_u64_id (by omega) (by omega)
  rw [e2]
  have h2 := mn_two n ((s.size : Int) - p)
  generalize mn n ((s.size : Int) - p) = q at h2 ⊢
  have e3 : IntKind.u64.wrap (p + q) = p + q := wrap_u64_id (by omega) (by omega)
  rw [e3, if_pos (by omega), if_pos (by omega), if_pos (by omega)]
/-- What Mid answers. -/
def midV (k0 a : Int) (x : ByteArray) (i n : Int) : Int × Int × ByteArray × Int × Int :=
  if vOK k0 x = true then (if k0 = 1 then (3, 0, cutM (strOfNums (bytes8 a)) i n, 0, 0) else if k0 = 2 then (k0, 0, cutM x i n, 0, 0) else if k0 = 3 then (k0, 0, cutM x i n, 0, 0) else (0, 0, ⟨#[]⟩, 0, 10)) else (0, 0, ⟨#[]⟩, 0, 1)
theorem mid_go (k0 a : Int) (x : ByteArray) (o i n : Int) (hi : 0 ≤ i) (hn : 0 ≤ n) (k : Nat) (hk : 20 ≤ k) : value_Mid.f k k0 a x o i n = some (midV k0 a x i n) := by
  unfold value_Mid.f midV
  rw [valid_go, Option.bind_some]
  by_cases hv : vOK k0 x = true
  case neg => rw [if_neg hv, if_neg hv]
  rw [if_pos hv, if_pos hv]
  by_cases h1 : k0 = 1
  · rw [if_pos h1, if_pos h1, eight_eq a k hk, Option.bind_some, mid_cut 3 (strOfNums (bytes8 a)) i n (by rw [bytes8_size]; decide) hi hn]
  rw [if_neg h1, if_neg h1]
  by_cases h2 : k0 = 2
  · rw [if_pos h2, if_pos h2, mid_cut k0 x i n (by have := vOK_size hv (.inl h2); omega) hi hn]
  rw [if_neg h2, if_neg h2]
  by_cases h3 : k0 = 3
  · rw [if_pos h3, if_pos h3, mid_cut k0 x i n (by have := vOK_size hv (.inr h3); omega) hi hn]
  rw [if_neg h3, if_neg h3]
theorem cut_ext (s : ByteArray) (a b c : Nat) (ha : a ≤ s.size) (hb : b ≤ s.size - a) (hc : c = a + b) : (s.extract a s.size).extract 0 b = s.extract a c := by
  subst hc
  apply ByteArray.ext
  rw [ByteArray.data_extract, ByteArray.data_extract, ByteArray.data_extract, Array.extract_extract]
  have hs : s.data.size = s.size := rfl
  rw [show min (a + b) s.size = a + b by omega, Nat.add_zero]
theorem mid_cutref (c : Int) (s : ByteArray) (i n : Int) (hs : s.size ≤ 1000000) (hi : 0 ≤ i) (hn : 0 ≤ n) (k : Nat) : platformfwref08_Mid.j0 (k + 1) i n c s = some (c, 0, cutM s i n, 0, 0) := by
  simp only [platformfwref08_Mid.j0]
  have e1 : IntKind.u64.wrap (s.size : Int) = s.size := wrap_u64_id (by omega) (by omega)
  rw [e1]
  have h1 := mn_two i (s.size : Int)
  have h2 := mn_two n ((s.size : Int) - mn i (s.size : Int))
  unfold cutM
  by_cases h : i ≥ s.size
  · have e : mn i (s.size : Int) = s.size := by omega
    have e' : s.extract (mn i (s.size : Int)).toNat (mn i (s.size : Int) + mn n ((s.size : Int) - mn i (s.size : Int))).toNat = ⟨#[]⟩ := by
      rw [e] at h2 ⊢
      generalize mn n ((s.size : Int) - (s.size : Int)) = q at h2 ⊢
      apply ByteArray.ext
      rw [ByteArray.data_extract]
      have hz : s.data.size = s.size := rfl
      exact Array.extract_eq_empty_of_le (by omega)
    rw [if_pos h, e']
  · have e : mn i (s.size : Int) = i := by unfold mn; split <;> omega
    rw [if_neg h, if_pos hi, if_pos (by omega), e]
    have ez : (s.extract i.toNat s.size).size = s.size - i.toNat := by rw [ByteArray.size_extract]; omega
    have e2 : IntKind.u64.wrap ((s.extract i.toNat s.size).size : Int) = (s.size : Int) - i := by rw [ez, wrap_u64_id (by omega) (by omega)]; omega
    rw [e2]
    by_cases g : n < (s.size : Int) - i
    · have f : mn n ((s.size : Int) - i) = n := by unfold mn; split <;> omega
      rw [if_pos g, if_pos hn, if_pos (by rw [ez]; omega), f, cut_ext s i.toNat n.toNat (i + n).toNat (by omega) (by omega) (by omega)]
    · have f : mn n ((s.size : Int) - i) = (s.size : Int) - i := by unfold mn; split <;> omega
      rw [if_neg g, f, show i + ((s.size : Int) - i) = s.size by omega, Int.toNat_natCast]
theorem mid_ref (k0 a : Int) (x : ByteArray) (o i n : Int) (hi : 0 ≤ i) (hn : 0 ≤ n) (k : Nat) (hk : 20 ≤ k) : platformfwref08_Mid.f k k0 a x o i n = some (midV k0 a x i n) := by
  obtain ⟨k, rfl⟩ : ∃ m, k = m + 1 := ⟨k - 1, by omega⟩
  unfold platformfwref08_Mid.f midV
  rw [valid_ref, Option.bind_some]
  by_cases hv : vOK k0 x = true
  case neg => rw [if_neg hv, if_neg hv]
  rw [if_pos hv, if_pos hv]
  by_cases h1 : k0 = 1
  · rw [if_pos h1, if_pos h1, little8_eq a (k + 1) hk, Option.bind_some, mid_cutref 3 (strOfNums (bytes8 a)) i n (by rw [bytes8_size]; decide) hi hn]
  rw [if_neg h1, if_neg h1]
  by_cases h2 : k0 = 2
  · rw [if_pos h2, if_pos h2, mid_cutref k0 x i n (by have := vOK_size hv (.inl h2); omega) hi hn]
  rw [if_neg h2, if_neg h2]
  by_cases h3 : k0 = 3
  · rw [if_pos h3, if_pos h3, mid_cutref k0 x i n (by have := vOK_size hv (.inr h3); omega) hi hn]
  rw [if_neg h3, if_neg h3]
theorem eq_selfM (r : Int × Int × ByteArray × Int × Int) : (!(r.1 == r.1) || (!(r.2.1 == r.2.1) || (!(r.2.2.1.toList == r.2.2.1.toList) || (!(r.2.2.2.1 == r.2.2.2.1))))) = false := by simp
/-- Two texts, one behind the other. -/
theorem bin75 (k0 a : Int) (x : ByteArray) (o k1 b : Int) (y : ByteArray) (o1 : Int) (hv : vOK k0 x = true) (h23 : k0 = 2 ∨ k0 = 3) (hb : 0 ≤ b ∧ b < 18446744073709551616) (k : Nat) (hk : 50 ≤ k) :
    ∃ r, value_Binary.f k 75 k0 a x o k1 b y o1 = some r ∧ (r.2.2.2.2 = 0 → (convV k1 b y o1 k0).2.2.2.2 = 0 ∧ (x ++ (convV k1 b y o1 k0).2.2.1).size ≤ 255 ∧ r = (k0, 0, x ++ (convV k1 b y o1 k0).2.2.1, 0, 0)) := by
  obtain ⟨k, rfl⟩ : ∃ m, k = m + 1 := ⟨k - 1, by omega⟩
  have hx : k0 = 2 ∨ k0 = 3 → x.size ≤ 1000000 := fun h => Nat.le_trans (vOK_size hv h) (by decide)
  unfold value_Binary.f
  rw [valid_go, Option.bind_some, if_pos hv, valid_go, Option.bind_some]
  by_cases hw : vOK k1 y = true
  case neg =>
    rw [if_neg hw]
    refine ⟨(0, 0, ⟨#[]⟩, 0, 1), ?_, fun h => absurd h (by decide)⟩
    simp only [value_Binary.j0]; rw [if_pos trivial]
  rw [if_pos hw, if_neg (by decide), show decide ((75 : Int) > 75) = false from rfl]
  refine ⟨pairV 75 k0 a x k1 b y o1, ?_, ?_⟩
  · simp only [value_Binary.j0]
    rw [if_neg (by decide), if_pos (by decide), matched_go 75 k0 a x o k1 b y o1 hx hb k (by omega)]; rfl
  unfold pairV
  rw [if_pos (by omega)]
  generalize convV k1 b y o1 k0 = c
  intro h
  by_cases hc : c.2.2.2.2 = 0
  · simp only [if_pos hc] at h ⊢
    rw [if_neg (by decide), if_neg (by decide), if_neg (by decide), if_neg (by omega)] at h ⊢
    by_cases g : ((x ++ c.2.2.1).size : Int) > 255
    · rw [if_pos g] at h; exact absurd h (by decide)
    · rw [if_neg g]; exact ⟨hc, by omega, rfl⟩
  · simp only [if_neg hc] at h
    exact absurd h hc
theorem convV_text (k1 b : Int) (y : ByteArray) (o1 k0 : Int) (h23 : k0 = 2 ∨ k0 = 3) (h : (convV k1 b y o1 k0).2.2.2.2 = 0) : convV k1 b y o1 k0 = (k0, 0, (convV k1 b y o1 k0).2.2.1, 0, 0) := by
  unfold convV at h ⊢
  by_cases hv : vOK k1 y = true
  case neg => rw [if_neg hv] at h; exact absurd h (by decide)
  rw [if_pos hv, if_neg (by omega)] at h ⊢
  by_cases h2 : k0 = 2
  · rw [if_pos h2] at h ⊢
    by_cases g : (strV k1 b y).2 = 0
    · rw [if_pos g]
    · rw [if_neg g] at h; exact absurd h g
  rw [if_neg h2, if_pos (by omega)] at h ⊢
  by_cases g : (bufV k1 b y).2 = 0
  · rw [if_pos g]
  · rw [if_neg g] at h; exact absurd h g
theorem cut_front (x y : ByteArray) (h : (x ++ y).size ≤ 255) : cutM (x ++ y) 0 (x.size : Int) = x := by
  unfold cutM
  have hz : (x ++ y).size = x.size + y.size := ByteArray.size_append
  have e : mn 0 ((x ++ y).size : Int) = 0 := by unfold mn; split <;> omega
  have f : mn (x.size : Int) (((x ++ y).size : Int) - 0) = x.size := by unfold mn; split <;> omega
  rw [e, f, show ((0 : Int) + (x.size : Int)).toNat = x.size by omega, show (0 : Int).toNat = 0 from rfl]
  exact ByteArray.extract_append_eq_left rfl
theorem cut_back (x y : ByteArray) (h : (x ++ y).size ≤ 255) : cutM (x ++ y) (x.size : Int) 1000 = y := by
  unfold cutM
  have hz : (x ++ y).size = x.size + y.size := ByteArray.size_append
  have e : mn (x.size : Int) ((x ++ y).size : Int) = x.size := by unfold mn; split <;> omega
  rw [e]
  have f : mn 1000 (((x ++ y).size : Int) - (x.size : Int)) = y.size := by unfold mn; split <;> omega
  rw [f, show ((x.size : Int) + (y.size : Int)).toNat = x.size + y.size by omega, Int.toNat_natCast]
  exact ByteArray.extract_append_eq_right rfl rfl
theorem clean_ref (k0 a : Int) (x : ByteArray) (o : Int) (h23 : k0 = 2 ∨ k0 = 3) (k : Nat) : platformfwref08_Clean.f (k + 1) k0 a x o = some (k0, 0, x, 0) := by
  unfold platformfwref08_Clean.f
  rcases h23 with rfl | rfl
  · rw [if_neg (by decide), if_pos rfl]; simp only [platformfwref08_Clean.j0]; rw [if_pos (by decide)]
  · rw [if_neg (by decide), if_neg (by decide)]; simp only [platformfwref08_Clean.j0]; rw [if_pos (by decide)]
theorem mid_j2 (bad : Bool) (k0 a : Int) (x : ByteArray) (o k1 b : Int) (y : ByteArray) (o1 : Int) (hv : bad = false → vOK k0 x = true ∧ (k0 = 2 ∨ k0 = 3)) (hb : 0 ≤ b ∧ b < 18446744073709551616) (k : Nat) (hk : 400 ≤ k) :
    platformfwlaw08_ValueMid.j2 (k + 1) bad k0 a x o k1 b y o1 = some true := by
  rw [platformfwlaw08_ValueMid.j2]
  cases bad with
  | true => rw [if_pos rfl]
  | false =>
    obtain ⟨hv, h23⟩ := hv rfl
    obtain ⟨r, r1, r2⟩ := bin75 k0 a x o k1 b y o1 hv h23 hb k (by omega)
    rw [if_neg (by decide), r1, Option.bind_some]
    by_cases h0 : r.2.2.2.2 = 0
    case neg => rw [if_neg h0]
    obtain ⟨c0, hz, rfl⟩ := r2 h0
    have hc := convV_text k1 b y o1 k0 h23 c0
    have hx := vOK_size hv h23
    have hw : IntKind.u64.wrap (x.size : Int) = x.size := wrap_u64_id (by omega) (by omega)
    have hq : vOK k0 (x ++ (convV k1 b y o1 k0).2.2.1) = true := by
      unfold vOK
      rcases h23 with rfl | rfl
      · rw [if_pos rfl]; exact decide_eq_true (by omega)
      · rw [if_neg (by decide), if_pos rfl]; exact decide_eq_true (by omega)
    have hm : ∀ i n, midV k0 0 (x ++ (convV k1 b y o1 k0).2.2.1) i n = (k0, 0, cutM (x ++ (convV k1 b y o1 k0).2.2.1) i n, 0, 0) := by
      intro i n
      unfold midV
      rw [if_pos hq, if_neg (by omega)]
      rcases h23 with h | h
      · rw [if_pos h]
      · rw [if_neg (by omega), if_pos h]
    rw [if_pos h0, hw, mid_go _ _ _ _ 0 _ (by omega) (by omega) k (by omega), Option.bind_some, mid_go _ _ _ _ _ 1000 (by omega) (by omega) k (by omega), Option.bind_some, hm, hm, cut_front x _ hz, cut_back x _ hz, conv_ref k1 b y o1 k0 hb k (by omega), Option.bind_some]
    obtain ⟨k, rfl⟩ : ∃ m, k = m + 1 := ⟨k - 1, by omega⟩
    rw [clean_ref k0 a x o h23 k, Option.bind_some, if_pos (by simp)]
    rw [hc]
    simp
theorem mid_j1 (k0 a : Int) (x : ByteArray) (o k1 b : Int) (y : ByteArray) (o1 : Int) (hb : 0 ≤ b ∧ b < 18446744073709551616) (k : Nat) (hk : 401 ≤ k) :
    platformfwlaw08_ValueMid.j1 (k + 1) false k0 a x o k1 b y o1 = some true := by
  obtain ⟨k, rfl⟩ : ∃ m, k = m + 1 := ⟨k - 1, by omega⟩
  rw [platformfwlaw08_ValueMid.j1, if_neg (by decide), valid_ref, Option.bind_some]
  have hn : (!(vOK k0 x)) = false → vOK k0 x = true := by cases vOK k0 x <;> simp
  by_cases h2 : k0 = 2
  · rw [if_pos h2, mid_j2 _ k0 a x o k1 b y o1 (fun h => ⟨hn h, .inl h2⟩) hb k (by omega)]
  rw [if_neg h2]
  by_cases h3 : k0 = 3
  · rw [if_pos h3, mid_j2 _ k0 a x o k1 b y o1 (fun h => ⟨hn h, .inr h3⟩) hb k (by omega)]
  · rw [if_neg h3, mid_j2 _ k0 a x o k1 b y o1 (fun h => absurd h (by decide)) hb k (by omega)]
theorem mid_j0 (i n : Int) (hi : 0 ≤ i) (hn : 0 ≤ n) (k0 a : Int) (x : ByteArray) (o k1 b : Int) (y : ByteArray) (o1 : Int) (ha : 0 ≤ a ∧ a < 18446744073709551616) (hb : 0 ≤ b ∧ b < 18446744073709551616) (k : Nat) (hk : 402 ≤ k) :
    platformfwlaw08_ValueMid.j0 (k + 1) i n k0 a x o k1 b y o1 = some true := by
  obtain ⟨k, rfl⟩ : ∃ m, k = m + 1 := ⟨k - 1, by omega⟩
  obtain ⟨r, r1, ra⟩ := some_ex k0 a x o ha (k + 1) (by omega)
  obtain ⟨s, s1, sb⟩ := some_ex k1 b y o1 hb (k + 1) (by omega)
  rw [platformfwlaw08_ValueMid.j0, mid_go k0 a x o i n hi hn (k + 1) (by omega), Option.bind_some, mid_ref k0 a x o i n hi hn (k + 1) (by omega), Option.bind_some, r1, Option.bind_some, s1, Option.bind_some, mid_go _ _ _ _ i n hi hn (k + 1) (by omega), Option.bind_some, mid_ref _ _ _ _ i n hi hn (k + 1) (by omega), Option.bind_some, awake08_at (k + 1) (by omega), Option.bind_some, if_pos rfl, eq_selfM, if_neg (by decide), if_pos rfl, eq_selfM, if_neg (by decide), bne_self_eq_false, mid_j1 _ _ _ _ _ _ _ _ sb k (by omega)]
theorem ValueMid : St.ValueMid := by
  intro a0_0 a0_1 a0_2 a0_3 a1_0 a1_1 a1_2 a1_3 a2 a3 a4
  intro _ w1 _ _ _ w2 _ _ w3 w4
  have ha := wf_u64 w1
  have hb := wf_u64 w2
  have hi := wf_u64 w3
  have hn := wf_u64 w4
  refine ⟨410, ?_⟩
  unfold platformfwlaw08_ValueMid.f
  split
  · exact mid_j0 _ _ (Int.tmod_nonneg 40 hi.1) (Int.tmod_nonneg 40 hn.1) _ _ _ _ _ _ _ _ ha hb 409 (by omega)
  · exact mid_j0 _ _ hi.1 hn.1 _ _ _ _ _ _ _ _ ha hb 409 (by omega)
end Go.Proofs.YtdmeglmmihaonaaDoor.Pure
