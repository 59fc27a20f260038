/- Unary returns the specified results for all operators and all values. -/
import Derived.Test.YtdmeglmmihaonaaGreatDoorStValueUnary
import Derived.Test.YtdmeglmmihaonaaGreatDoorVValueUnaryBytes
import Derived.Test.YtdmeglmmihaonaaGreatDoorVValueUnaryExtS
namespace Go.Proofs.YtdmeglmmihaonaaGreatDoor.Pure
open Go.RowKit Go.Proofs.YtdmeglmmihaonaaGreatDoor.PValueUnary Go.Proofs.YtdmeglmmihaonaaGreatDoorW.PrintWords Go.Proofs.YtdmeglmmihaonaaGreatDoorW.PrintLast Go.Proofs.YtdmeglmmihaonaaGreatDoorW.PrintMore Go.Proofs.YtdmeglmmihaonaaGreatDoor.Plain
open Go.Proofs.YtdmeglmmihaonaaGreatDoor.Ext
set_option linter.unusedVariables false
set_option linter.unusedSimpArgs false
/-! ### layer 8: values -/
/-- The eight bytes of a number. -/
def bytes8 (v : Int) : List Int := (List.range 8).map fun j : Nat => shr .u64 v (8 * (j : Int)) % 256
theorem eight_eq (v : Int) (k : Nat) (hk : 20 ≤ k) : value_eight.f k v = some (strOfNums (bytes8 v)) := by
  have loop : ∀ (e : Nat) (j : Nat) (q : Nat) (l : List Int), j + e = 8 → e < q → l = ((List.range j).map fun j : Nat => shr .u64 v (8 * (j : Int)) % 256) ++ List.replicate (8 - j) 0 → value_eight.l0 q v l 8 j = some (strOfNums (bytes8 v)) := by
    intro e
    induction e with
    | zero =>
      intro j q l hj hq hl
      obtain ⟨q, rfl⟩ : ∃ m, q = m + 1 := ⟨q - 1, by omega⟩
      obtain rfl : j = 8 := by omega
      simp only [value_eight.l0]; rw [if_neg (by omega), hl]; simp [bytes8]
    | succ e ih =>
      intro j q l hj hq hl
      obtain ⟨q, rfl⟩ : ∃ m, q = m + 1 := ⟨q - 1, by omega⟩
      have hlen : l.length = 8 := by rw [hl, List.length_append, List.length_map, List.length_range, List.length_replicate]; omega
      simp only [value_eight.l0]
      rw [if_pos (by omega), wrap64_id (a := 8 * (j : Int)) (by omega) (by omega), if_pos (by omega), if_pos (by omega), if_pos (by omega), wrap64_id (a := (j : Int) + 1) (by omega) (by omega), Int.toNat_natCast]
      refine ih (j + 1) q _ (by omega) (by omega) ?_
      have hx1 : ((List.range j).map fun j : Nat => shr .u64 v (8 * (j : Int)) % 256).length = j := by rw [List.length_map, List.length_range]
      rw [hl, List.set_append_right _ _ (by omega), hx1, Nat.sub_self, show 8 - j = (8 - (j + 1)) + 1 by omega, List.replicate_succ, List.set_cons_zero, List.range_succ, List.map_append]
      simp
  unfold value_eight.f
  rw [if_pos (by omega), Option.bind_some]
  exact loop 8 0 k _ (by omega) (by omega) (by simp)
theorem little8_eq (v : Int) (k : Nat) (hk : 20 ≤ k) : platformfwref08_little.f k v = some (strOfNums (bytes8 v)) := by
  have loop : ∀ (e : Nat) (j : Nat) (q : Nat) (x : ByteArray), j + e = 8 → e < q → x = strOfNums ((List.range j).map fun j : Nat => shr .u64 v (8 * (j : Int)) % 256) → platformfwref08_little.l0 q v x j = some (strOfNums (bytes8 v)) := by
    intro e
    induction e with
    | zero =>
      intro j q x hj hq hx
      obtain ⟨q, rfl⟩ : ∃ m, q = m + 1 := ⟨q - 1, by omega⟩
      obtain rfl : j = 8 := by omega
      simp only [platformfwref08_little.l0]; rw [if_neg (by omega), hx]; rfl
    | succ e ih =>
      intro j q x hj hq hx
      obtain ⟨q, rfl⟩ : ∃ m, q = m + 1 := ⟨q - 1, by omega⟩
      have hs : x.size = j := by rw [hx, strOfNums_size', List.length_map, List.length_range]
      simp only [platformfwref08_little.l0]
      rw [if_pos (by omega), wrap64_id (a := 8 * (j : Int)) (by omega) (by omega), wrap_u64_id (a := 8 * (j : Int)) (by omega) (by omega), if_pos (by omega), Option.bind_some, strOfNums_size', if_pos (by simp; omega), wrap64_id (a := (j : Int) + 1) (by omega) (by omega)]
      refine ih (j + 1) q _ (by omega) (by omega) ?_
      rw [hx, ← strOfNums_append, List.range_succ, List.map_append]; rfl
  unfold platformfwref08_little.f
  exact loop 8 0 k _ (by omega) (by omega) rfl
theorem valids (k0 a : Int) (x : ByteArray) (o : Int) : value_Valid.f k0 a x o = platformfwref08_Valid.f k0 a x o := by
  unfold value_Valid.f platformfwref08_Valid.f
  by_cases h2 : k0 = 2
  · rw [if_pos h2, if_pos (by omega), if_pos (by omega), if_pos h2]
  · rw [if_neg h2]
    by_cases h3 : k0 = 3
    · rw [if_pos h3, if_pos (by omega), if_pos (by omega), if_neg h2, if_pos h3]
    · rw [if_neg h3]
      by_cases h0 : k0 ≥ 0
      · rw [if_pos h0, if_pos h0]
        by_cases h6 : k0 ≤ 6
        · rw [if_pos h6, if_neg h2, if_neg h3, decide_eq_true h6]
        · rw [if_neg h6, decide_eq_false h6]
      · rw [if_neg h0, if_neg h0]
/-- The number that the first e bytes from place i on make. -/
def lacc (x : ByteArray) : Nat → Int → Int → Int
  | 0, _, v => v
  | e + 1, i, v => lacc x e (i + 1) (Go.bits .or .u64 v (shl .u64 (IntKind.u64.wrap (bt x i)) (8 * i)))
theorem little_go (x : ByteArray) (k : Nat) (hk : 20 ≤ k) : value_little.f k x = some (lacc x (min x.size 8) 0 0) := by
  have hm : mn (x.size : Int) 8 = ((min x.size 8 : Nat) : Int) := by unfold mn; split <;> omega
  have l1 : ∀ (e : Nat) (j : Int) (q : Nat) (v : Int), 0 ≤ j → j + e = (min x.size 8 : Nat) → e < q → value_little.l0 q x v ((min x.size 8 : Nat) : Int) j = some (lacc x e j v) := by
    intro e
    induction e with
    | zero =>
      intro j q v h0 hj hq
      obtain ⟨q, rfl⟩ : ∃ m, q = m + 1 := ⟨q - 1, by omega⟩
      simp only [value_little.l0]; rw [if_neg (by omega)]; rfl
    | succ e ih =>
      intro j q v h0 hj hq
      obtain ⟨q, rfl⟩ : ∃ m, q = m + 1 := ⟨q - 1, by omega⟩
      simp only [value_little.l0, lacc]
      rw [if_pos (by omega), if_pos h0, if_pos (by omega), wrap64_id (a := 8 * j) (by omega) (by omega), if_pos (by omega), wrap64_id (a := j + 1) (by omega) (by omega)]
      exact ih (j + 1) q _ (by omega) (by omega) (by omega)
  unfold value_little.f
  rw [hm]
  exact l1 _ 0 k 0 (by omega) (by omega) (by omega)
theorem little_ref (k0 a : Int) (x : ByteArray) (o : Int) (k : Nat) (hk : 20 ≤ k) : platformfwref08_Integer.l1 k 0 0 k0 a x o = some (lacc x (min x.size 8) 0 0, 0) := by
  have l2 : ∀ (e : Nat) (j : Int) (q : Nat) (v : Int), 0 ≤ j → j + e = (min x.size 8 : Nat) → e < q → platformfwref08_Integer.l1 q v j k0 a x o = some (lacc x e j v, 0) := by
    intro e
    induction e with
    | zero =>
      intro j q v h0 hj hq
      obtain ⟨q, rfl⟩ : ∃ m, q = m + 1 := ⟨q - 1, by omega⟩
      simp only [platformfwref08_Integer.l1]
      by_cases h : j < x.size
      · rw [if_pos h, if_neg (by omega)]; rfl
      · rw [if_neg h]; rfl
    | succ e ih =>
      intro j q v h0 hj hq
      obtain ⟨q, rfl⟩ : ∃ m, q = m + 1 := ⟨q - 1, by omega⟩
      simp only [platformfwref08_Integer.l1, lacc]
      rw [if_pos (by omega), if_pos (by omega), if_pos h0, wrap64_id (a := 8 * j) (by omega) (by omega), wrap_u64_id (a := 8 * j) (by omega) (by omega), if_pos (by omega), wrap64_id (a := j + 1) (by omega) (by omega)]
      exact ih (j + 1) q _ (by omega) (by omega) (by omega)
  exact l2 _ 0 k 0 (by omega) (by omega) (by omega)
/-- The value of a hexadecimal digit, or -1. -/
def hexv (c : Int) : Int := if 48 ≤ c ∧ c ≤ 57 then c - 48 else if 97 ≤ c ∧ c ≤ 102 then c - 87 else if 65 ≤ c ∧ c ≤ 70 then c - 55 else -1
theorem digit_go (c : Int) (h0 : 0 ≤ c) (h1 : c ≤ 255) (k : Nat) (hk : 1 ≤ k) : value_digit.f k c 16 = some (hexv c) := by
  obtain ⟨k, rfl⟩ : ∃ m, k = m + 1 := ⟨k - 1, by omega⟩
  obtain ⟨c, rfl⟩ := Int.eq_ofNat_of_zero_le h0
  have e1 : value_digit.f (k + 1) (c : Int) 16 = value_digit.f 1 (c : Int) 16 := by unfold value_digit.f; simp only [value_digit.j0]
  have all : ∀ c : Fin 256, value_digit.f 1 ((c.val : Nat) : Int) 16 = some (hexv ((c.val : Nat) : Int)) := by decide +kernel
  rw [e1]
  exact all ⟨c, by omega⟩
theorem hex_ref (c : Int) (h0 : 0 ≤ c) (h1 : c ≤ 255) (k : Nat) (hk : 2 ≤ k) : platformfwref08_hex.f k c = some (hexv c) := by
  obtain ⟨k, rfl⟩ : ∃ m, k = m + 2 := ⟨k - 2, by omega⟩
  obtain ⟨c, rfl⟩ := Int.eq_ofNat_of_zero_le h0
  have e1 : platformfwref08_hex.f (k + 2) (c : Int) = platformfwref08_hex.f 2 (c : Int) := by unfold platformfwref08_hex.f; simp only [platformfwref08_hex.j0, platformfwref08_hex.j1]
  have all : ∀ c : Fin 256, platformfwref08_hex.f 2 ((c.val : Nat) : Int) = some (hexv ((c.val : Nat) : Int)) := by decide +kernel
  rw [e1]
  exact all ⟨c, by omega⟩
/-- The number that the leading hexadecimal digits make, e places from i on looked at. -/
def hacc (x : ByteArray) : Nat → Int → Int → Int
  | 0, _, v => v
  | e + 1, i, v => if hexv (bt x i) < 0 then v else hacc x e (i + 1) (Go.bits .or .u64 (IntKind.u64.wrap (v * 16)) (IntKind.u64.wrap (hexv (bt x i))))
theorem leading_go (x : ByteArray) (k : Nat) (hk : 30 ≤ k) : value_leading.f k x = some (hacc x (min x.size 16) 0 0) := by
  have hm : mn (x.size : Int) 16 = ((min x.size 16 : Nat) : Int) := by unfold mn; split <;> omega
  have l1 : ∀ (e : Nat) (j : Int) (q : Nat) (v : Int), 0 ≤ j → j + e = (min x.size 16 : Nat) → e + 2 < q → value_leading.l0 q x v ((min x.size 16 : Nat) : Int) j = some (hacc x e j v) := by
    intro e
    induction e with
    | zero =>
      intro j q v h0 hj hq
      obtain ⟨q, rfl⟩ : ∃ m, q = m + 1 := ⟨q - 1, by omega⟩
      simp only [value_leading.l0]; rw [if_neg (by omega)]; rfl
    | succ e ih =>
      intro j q v h0 hj hq
      obtain ⟨q, rfl⟩ : ∃ m, q = m + 1 := ⟨q - 1, by omega⟩
      have hb := bt_range x j
      simp only [value_leading.l0, hacc]
      rw [if_pos (by omega), if_pos h0, if_pos (by omega), digit_go _ hb.1 hb.2 q (by omega), Option.bind_some]
      by_cases hd : hexv (bt x j) < 0
      · rw [if_pos hd, if_pos hd]
      · rw [if_neg hd, if_neg hd, wrap64_id (a := j + 1) (by omega) (by omega)]
        exact ih (j + 1) q _ (by omega) (by omega) (by omega)
  unfold value_leading.f
  rw [hm]
  exact l1 _ 0 k 0 (by omega) (by omega) (by omega)
theorem leading_ref (k0 a : Int) (x : ByteArray) (o : Int) (k : Nat) (hk : 30 ≤ k) : platformfwref08_Integer.l0 k 0 0 k0 a x o = some (hacc x (min x.size 16) 0 0, 0) := by
  have l2 : ∀ (e : Nat) (j : Int) (q : Nat) (v : Int), 0 ≤ j → j + e = (min x.size 16 : Nat) → e + 4 < q → platformfwref08_Integer.l0 q v j k0 a x o = some (hacc x e j v, 0) := by
    intro e
    induction e with
    | zero =>
      intro j q v h0 hj hq
      obtain ⟨q, rfl⟩ : ∃ m, q = m + 1 := ⟨q - 1, by omega⟩
      simp only [platformfwref08_Integer.l0]
      by_cases h : j < x.size
      · rw [if_pos h, if_neg (by omega)]; rfl
      · rw [if_neg h]; rfl
    | succ e ih =>
      intro j q v h0 hj hq
      obtain ⟨q, rfl⟩ : ∃ m, q = m + 1 := ⟨q - 1, by omega⟩
      have hb := bt_range x j
      simp only [platformfwref08_Integer.l0, hacc]
      rw [if_pos (by omega), if_pos (by omega), if_pos h0, hex_ref _ hb.1 hb.2 q (by omega), Option.bind_some]
      by_cases hd : hexv (bt x j) < 0
      · rw [if_neg (by omega), if_pos hd]
      · rw [if_pos (by omega), if_neg hd, Option.bind_some, wrap64_id (a := j + 1) (by omega) (by omega)]
        exact ih (j + 1) q _ (by omega) (by omega) (by omega)
  exact l2 _ 0 k 0 (by omega) (by omega) (by omega)
/-- Is a value valid. -/
def vOK (k0 : Int) (x : ByteArray) : Bool := if k0 = 2 then decide ((x.size : Int) ≤ 255) else if k0 = 3 then decide ((x.size : Int) ≤ 255) else if k0 ≥ 0 then decide (k0 ≤ 6) else false
theorem valid_go (k0 a : Int) (x : ByteArray) (o : Int) : value_Valid.f k0 a x o = some (vOK k0 x) := by
  unfold value_Valid.f vOK
  split <;> (try split) <;> (try split) <;> rfl
theorem valid_ref (k0 a : Int) (x : ByteArray) (o : Int) : platformfwref08_Valid.f k0 a x o = some (vOK k0 x) := by rw [← valids, valid_go]
/-- What a value is as an integer. -/
def intV (k0 a : Int) (x : ByteArray) : Int × Int :=
  if vOK k0 x = true then (if k0 = 1 then (a, 0) else if k0 = 2 then (hacc x (min x.size 16) 0 0, 0) else if k0 = 3 then (lacc x (min x.size 8) 0 0, 0) else (0, 10)) else (0, 1)
theorem int_go (k0 a : Int) (x : ByteArray) (o : Int) (k : Nat) (hk : 30 ≤ k) : value_Integer.f k k0 a x o = some (intV k0 a x) := by
  unfold value_Integer.f intV
  rw [valid_go, Option.bind_some, leading_go x k hk, little_go x k (by omega)]
  simp only [Option.bind_some]
  split <;> (try split) <;> (try split) <;> (try split) <;> rfl
theorem int_ref (k0 a : Int) (x : ByteArray) (o : Int) (k : Nat) (hk : 30 ≤ k) : platformfwref08_Integer.f k k0 a x o = some (intV k0 a x) := by
  unfold platformfwref08_Integer.f intV
  rw [valid_ref, Option.bind_some, leading_ref k0 a x o k hk, little_ref k0 a x o k (by omega)]
  split <;> (try split) <;> (try split) <;> (try split) <;> rfl
theorem or_rng (x y : Int) : 0 ≤ Go.bits .or .u64 x y ∧ Go.bits .or .u64 x y < 18446744073709551616 := by
  unfold Go.bits
  rw [wrap_u64]
  omega
theorem lacc_rng (x : ByteArray) : ∀ (e : Nat) (i v : Int), 0 ≤ v ∧ v < 18446744073709551616 → 0 ≤ lacc x e i v ∧ lacc x e i v < 18446744073709551616
  | 0, _, _, h => h
  | e + 1, i, v, _ => lacc_rng x e _ _ (or_rng _ _)
theorem hacc_rng (x : ByteArray) : ∀ (e : Nat) (i v : Int), 0 ≤ v ∧ v < 18446744073709551616 → 0 ≤ hacc x e i v ∧ hacc x e i v < 18446744073709551616
  | 0, _, _, h => h
  | e + 1, i, v, h => by
    simp only [hacc]
    split
    · exact h
    · exact hacc_rng x e _ _ (or_rng _ _)
theorem intV_rng (k0 a : Int) (x : ByteArray) (ha : 0 ≤ a ∧ a < 18446744073709551616) : 0 ≤ (intV k0 a x).1 ∧ (intV k0 a x).1 < 18446744073709551616 := by
  unfold intV
  have h1 := hacc_rng x (min x.size 16) 0 0 (by omega)
  have h2 := lacc_rng x (min x.size 8) 0 0 (by omega)
  split <;> (try split) <;> (try split) <;> (try split) <;> first | exact ha | exact h1 | exact h2 | (constructor <;> decide)
/-- The m lowest hexadecimal digits of u, the highest first, in capitals. -/
def rowUp (m u : Nat) : List UInt8 := (List.range m).map fun t => hexUp (u / 16 ^ (m - 1 - t) % 16)
theorem rowUp_snoc (m u : Nat) : rowUp (m + 1) u = rowUp m (u / 16) ++ [hexUp (u % 16)] := by
  unfold rowUp
  rw [List.range_succ, List.map_append]
  congr 1
  · apply List.map_congr_left
    intro t ht
    have ht := List.mem_range.1 ht
    rw [Nat.div_div_eq_div_mul, show m + 1 - 1 - t = (m - 1 - t) + 1 by omega, Nat.pow_succ, Nat.mul_comm]
  · simp
theorem rowUp_pad (m d u : Nat) (h : u < 16 ^ m) : rowUp (m + d) u = List.replicate d 48 ++ rowUp m u := by
  apply List.ext_getElem
  · simp [rowUp]; omega
  · intro t h1 h2
    have h3 : t < m + d := by simpa [rowUp] using h1
    simp only [rowUp, List.getElem_map, List.getElem_range]
    by_cases ht : t < d
    · rw [List.getElem_append_left (by simpa using ht), List.getElem_replicate]
      have : u / 16 ^ (m + d - 1 - t) = 0 := Nat.div_eq_of_lt (Nat.lt_of_lt_of_le h (Nat.pow_le_pow_right (by decide) (by omega)))
      rw [this]; rfl
    · rw [List.getElem_append_right (by simp; omega)]
      simp only [List.length_replicate, List.getElem_map, List.getElem_range]
      rw [show m + d - 1 - t = m - 1 - (t - d) by omega]
theorem upper_dig (d : Nat) (h : d < 16) : Lib.upperB (hexDig d) = hexUp d := by
  have all : ∀ d : Fin 16, Lib.upperB (hexDig d.val) = hexUp d.val := by decide
  exact all ⟨d, h⟩
theorem dig_ascii (d : Nat) (h : d < 16) : (hexDig d).toNat < 128 := by
  have all : ∀ d : Fin 16, (hexDig d.val).toNat < 128 := by decide
  exact all ⟨d, h⟩
theorem upper_row (m u : Nat) : Lib.toUpperA (hexRow m u) = rowUp m u := by
  unfold Lib.toUpperA hexRow rowUp
  rw [List.map_map]
  apply List.map_congr_left
  intro t _
  exact upper_dig _ (Nat.mod_lt _ (by decide))
theorem row_ascii (m u : Nat) : (hexRow m u).all (fun b => decide (b.toNat < 128)) = true := by
  rw [List.all_eq_true]
  intro b hb
  obtain ⟨t, _, rfl⟩ := List.mem_map.1 hb
  exact decide_eq_true (dig_ascii _ (Nat.mod_lt _ (by decide)))
theorem hexLen_le (u : Nat) (h : u < 18446744073709551616) : 1 ≤ hexLen u ∧ hexLen u ≤ 16 ∧ u < 16 ^ hexLen u := by
  unfold hexLen
  have e1 : ∀ n, (16 : Nat) ^ n = 2 ^ (4 * n) := fun n => by rw [show (16 : Nat) = 2 ^ 4 from rfl, ← Nat.pow_mul]
  by_cases h0 : u = 0
  · subst h0
    refine ⟨by omega, by decide, by decide⟩
  · have h4 : Nat.log2 u < 64 := (Nat.log2_lt h0).2 h
    refine ⟨by omega, by omega, ?_⟩
    rw [e1]
    exact (Nat.log2_lt h0).1 (by omega)
def hex16 (u : Nat) : ByteArray := ⟨(rowUp 16 u).toArray⟩
theorem ba_append (a b : List UInt8) : (⟨a.toArray⟩ : ByteArray) ++ (⟨b.toArray⟩ : ByteArray) = ⟨(a ++ b).toArray⟩ := by
  apply ByteArray.ext
  rw [ByteArray.data_append]
  simp
theorem rep_list (n : Nat) : Lib.repeatL [48] n = List.replicate n (48 : UInt8) := by
  induction n with
  | zero => rfl
  | succ n ih => rw [List.replicate_succ, ← ih]; rfl
theorem size_mk (l : List UInt8) : (⟨l.toArray⟩ : ByteArray).size = l.length := List.size_toArray
/-- What a string of an integer comes to. -/
theorem str_int (a : Int) (h0 : 0 ≤ a) (h1 : a < 18446744073709551616) {β : Type} (f : ByteArray → Option β) :
    ((strconv_FormatUint.f a 16).bind fun t123 => ((strings_ToUpper.f t123).bind fun t124 => ((strings_Repeat.f (⟨#[48]⟩ : ByteArray) (wrap64 (16 - (t124.size : Int)))).bind fun t125 => (if t125.size + t124.size ≤ 9223372036854775807 then f (t125 ++ t124) else none)))) = f (hex16 a.toNat) := by
  obtain ⟨u, rfl⟩ := Int.eq_ofNat_of_zero_le h0
  obtain ⟨l1, l2, l3⟩ := hexLen_le u (by omega)
  have hz : (hexRow (hexLen u) u).length = hexLen u := by simp [hexRow]
  have e1 : strconv_FormatUint.f (u : Int) 16 = some (hexStr u) := by unfold strconv_FormatUint.f; first | rw [if_pos (show (16 : Int) = 16 ∧ 0 ≤ (u : Int) ∧ (u : Int) < 18446744073709551616 from ⟨rfl, by omega, by omega⟩), Int.toNat_natCast] | rw [if_pos ⟨by omega, by omega⟩, if_pos rfl, Int.toNat_natCast]
  have hs : (hexStr u).size = hexLen u := (size_mk _).trans hz
  have e2 : strings_ToUpper.f (hexStr u) = some ⟨(rowUp (hexLen u) u).toArray⟩ := by
    unfold strings_ToUpper.f
    rw [if_pos ⟨by omega, row_ascii _ _⟩, ← upper_row]
    rfl
  have hr : (rowUp (hexLen u) u).length = hexLen u := by simp [rowUp]
  have hsz := (size_mk (rowUp (hexLen u) u)).trans hr
  have e3 : strings_Repeat.f (⟨#[48]⟩ : ByteArray) ((16 - hexLen u : Nat) : Int) = some ⟨(List.replicate (16 - hexLen u) (48 : UInt8)).toArray⟩ := by
    unfold strings_Repeat.f
    rw [if_pos ⟨by omega, by omega, by decide⟩, Int.toNat_natCast]
    unfold repB
    exact congrArg (fun l : List UInt8 => some (⟨l.toArray⟩ : ByteArray)) (rep_list _)
  have hr3 := (size_mk (List.replicate (16 - hexLen u) (48 : UInt8))).trans List.length_replicate
  rw [e1, Option.bind_some, e2, Option.bind_some, hsz, wrap64_id (by omega) (by omega), show (16 - (hexLen u : Int)) = ((16 - hexLen u : Nat) : Int) by omega, e3, Option.bind_some, hr3, if_pos (by omega), ba_append, ← rowUp_pad _ _ _ l3, show hexLen u + (16 - hexLen u) = 16 by omega, Int.toNat_natCast]
  rfl
theorem cut_dig (d : Nat) (h : d < 16) : (⟨#[48, 49, 50, 51, 52, 53, 54, 55, 56, 57, 65, 66, 67, 68, 69, 70]⟩ : ByteArray).extract d (d + 1) = ⟨([hexUp d] : List UInt8).toArray⟩ := by
  have all : ∀ d : Fin 16, (⟨#[48, 49, 50, 51, 52, 53, 54, 55, 56, 57, 65, 66, 67, 68, 69, 70]⟩ : ByteArray).extract d.val (d.val + 1) = ⟨([hexUp d.val] : List UInt8).toArray⟩ := by decide +kernel
  exact all ⟨d, h⟩
theorem digits_go (L : Nat) (hL : L ≤ 16) : ∀ (e : Nat) (k u : Nat) (l : List UInt8), l.length + e = L → u < 16 ^ e → e < k → platformfwref08_digits.l0 k (u : Int) 16 (L : Int) ⟨l.toArray⟩ = some ⟨(rowUp e u ++ l).toArray⟩ := by
  intro e
  induction e with
  | zero =>
    intro k u l hl hu hk
    obtain ⟨k, rfl⟩ : ∃ m, k = m + 1 := ⟨k - 1, by omega⟩
    have : u = 0 := by simpa using hu
    subst this
    simp only [platformfwref08_digits.l0]
    rw [if_neg (by decide), if_neg (by rw [size_mk]; omega)]
    simp [rowUp]
  | succ e ih =>
    intro k u l hl hu hk
    obtain ⟨k, rfl⟩ : ∃ m, k = m + 1 := ⟨k - 1, by omega⟩
    have hu' : u / 16 < 16 ^ e := by rw [Nat.div_lt_iff_lt_mul (by decide)]; rw [Nat.pow_succ] at hu; exact hu
    have hub : u < 18446744073709551616 := Nat.lt_of_lt_of_le hu (Nat.le_trans (Nat.pow_le_pow_right (by decide) (by omega : e + 1 ≤ 16)) (by decide))
    have hm : Int.tmod (u : Int) 16 = ((u % 16 : Nat) : Int) := by rw [Int.tmod_eq_emod_of_nonneg (by omega)]; omega
    have hq : Int.tdiv (u : Int) 16 = ((u / 16 : Nat) : Int) := by rw [Int.tdiv_eq_ediv_of_nonneg (by omega)]; omega
    have hw : IntKind.u64.wrap (((u % 16 : Nat) : Int) + 1) = ((u % 16 + 1 : Nat) : Int) := by rw [wrap_u64_id (by omega) (by omega)]; omega
    have hx := cut_dig (u % 16) (Nat.mod_lt _ (by decide))
    have hn := ih k (u / 16) (hexUp (u % 16) :: l) (by simp; omega) hu' (by omega)
    have body : (if (16 : Int) = 0 then (none : Option ByteArray) else (if 0 ≤ (Int.tmod (u : Int) 16) then (if (Int.tmod (u : Int) 16) ≤ (IntKind.u64.wrap ((Int.tmod (u : Int) 16) + 1)) then (if (IntKind.u64.wrap ((Int.tmod (u : Int) 16) + 1)) ≤ 16 then (if ((⟨#[48, 49, 50, 51, 52, 53, 54, 55, 56, 57, 65, 66, 67, 68, 69, 70]⟩ : ByteArray).extract ((Int.tmod (u : Int) 16) : Int).toNat ((IntKind.u64.wrap ((Int.tmod (u : Int) 16) + 1)) : Int).toNat).size + (⟨l.toArray⟩ : ByteArray).size ≤ 9223372036854775807 then (platformfwref08_digits.l0 k (IntKind.u64.wrap (Int.tdiv (u : Int) 16)) 16 (L : Int) (((⟨#[48, 49, 50, 51, 52, 53, 54, 55, 56, 57, 65, 66, 67, 68, 69, 70]⟩ : ByteArray).extract ((Int.tmod (u : Int) 16) : Int).toNat ((IntKind.u64.wrap ((Int.tmod (u : Int) 16) + 1)) : Int).toNat) ++ (⟨l.toArray⟩ : ByteArray))) else (none)) else (none)) else (none)) else (none))) = some ⟨(rowUp (e + 1) u ++ l).toArray⟩ := by
      rw [if_neg (by decide), hm, hw, hq, Int.toNat_natCast, Int.toNat_natCast, hx, if_pos (by omega), if_pos (by omega), if_pos (by omega), size_mk, size_mk, if_pos (by simp; omega), ba_append, wrap_u64_id (by omega) (by omega), List.singleton_append, hn, rowUp_snoc, List.append_assoc]
      rfl
    simp only [platformfwref08_digits.l0]
    by_cases h0 : (u : Int) > 0
    · rw [if_pos h0]; exact body
    · rw [if_neg h0, if_pos (by rw [size_mk]; omega)]; exact body
theorem digits16 (a : Int) (h0 : 0 ≤ a) (h1 : a < 18446744073709551616) (k : Nat) (hk : 20 ≤ k) : platformfwref08_digits.f k a 16 16 = some (hex16 a.toNat) := by
  obtain ⟨u, rfl⟩ := Int.eq_ofNat_of_zero_le h0
  have := digits_go 16 (by omega) 16 k u [] rfl (by omega) (by omega)
  rw [List.append_nil] at this
  exact this
theorem digits2 (c : Nat) (h : c < 256) (k : Nat) (hk : 20 ≤ k) : platformfwref08_digits.f k (c : Int) 16 2 = some (hex2 c) := by
  have := digits_go 2 (by omega) 2 k c [] rfl (by omega) (by omega)
  rw [List.append_nil] at this
  refine this.trans (congrArg some ?_)
  unfold hex2 rowUp
  have e1 : c / 16 % 16 = c / 16 := Nat.mod_eq_of_lt (by omega)
  simp [List.range_succ, e1]
/-- What follows the first byte's digits. -/
def tailB (x sep : ByteArray) (i : Nat) : ByteArray := ⟨(((bytesOf x).drop i).flatMap fun c => sep.data.toList ++ [hexUp (c.toNat / 16), hexUp (c.toNat % 16)]).toArray⟩
theorem data_mk (s : ByteArray) : (⟨s.data.toList.toArray⟩ : ByteArray) = s := rfl
theorem tail_step (x sep : ByteArray) (i : Nat) (h : i < x.size) : tailB x sep i = (sep ++ hex2 (bt x i).toNat) ++ tailB x sep (i + 1) := by
  unfold tailB hex2
  have hl : i < (bytesOf x).length := by rw [B_size]; exact h
  rw [List.drop_eq_getElem_cons hl, List.flatMap_cons, ← ba_append, ← ba_append, bt_B, Int.toNat_natCast, getD_at _ _ hl]
theorem list_go (x sep : ByteArray) (hx : x.size ≤ 255) (hs : sep.size ≤ 1) : ∀ (e : Nat) (i k : Nat) (out : ByteArray), i + e = x.size → 0 < i → e + 20 < k → out.size ≤ 3 * i →
    platformfwref08_list.l0 k x ⟨#[]⟩ sep 16 2 out (i : Int) = some (out ++ tailB x sep i) := by
  intro e
  induction e with
  | zero =>
    intro i k out hi h0 hk ho
    obtain ⟨k, rfl⟩ : ∃ m, k = m + 1 := ⟨k - 1, by omega⟩
    simp only [platformfwref08_list.l0]
    rw [if_neg (by omega)]
    have : tailB x sep i = ByteArray.empty := by unfold tailB; rw [List.drop_of_length_le (by rw [B_size]; omega)]; rfl
    rw [this, ByteArray.append_empty]
  | succ e ih =>
    intro i k out hi h0 hk ho
    obtain ⟨k, rfl⟩ : ∃ m, k = m + 1 := ⟨k - 1, by omega⟩
    have hb := bt_range x i
    have hc : IntKind.u64.wrap (bt x (i : Int)) = (((bt x i).toNat : Nat) : Int) := by rw [wrap_u64_id hb.1 (by omega)]; omega
    have hz : (hex2 (bt x i).toNat).size = 2 := rfl
    have hn := ih (i + 1) k ((out ++ sep) ++ ((⟨#[]⟩ : ByteArray) ++ hex2 (bt x i).toNat)) (by omega) (by omega) (by omega) (by simp only [ByteArray.size_append, hz]; have : (⟨#[]⟩ : ByteArray).size = 0 := rfl; omega)
    simp only [platformfwref08_list.l0]
    have z0 : (⟨#[]⟩ : ByteArray).size = 0 := rfl
    rw [if_pos (by omega), if_pos (by omega), if_pos (by omega), if_pos (by omega), hc, digits2 _ (by omega) k (by omega), Option.bind_some, if_pos (by omega), if_pos (by omega), wrap64_id (by omega) (by omega), show (i : Int) + 1 = ((i + 1 : Nat) : Int) by omega, hn, tail_step x sep i (by omega)]
    congr 1
    have : (⟨#[]⟩ : ByteArray) ++ hex2 (bt x i).toNat = hex2 (bt x i).toNat := ByteArray.empty_append
    rw [this, ByteArray.append_assoc, ByteArray.append_assoc, ByteArray.append_assoc]
theorem join_tail (x sep : ByteArray) (h : 0 < x.size) : joinB (hexes x) sep = hex2 (bt x 0).toNat ++ tailB x sep 1 := by
  have hl : 0 < (bytesOf x).length := by rw [B_size]; exact h
  have gen : ∀ (q : List UInt8) (l : List Int) (y : List UInt8), Lib.join (y :: l.map fun c => (hex2 c.toNat).data.toList) q = y ++ l.flatMap fun c => q ++ [hexUp (c.toNat / 16), hexUp (c.toNat % 16)] := by
    intro q l
    induction l with
    | nil => intro y; simp [Lib.join_one]
    | cons c l ih =>
      intro y
      have h3 : ∀ (z : List UInt8) (r : List (List UInt8)), Lib.join (y :: z :: r) q = y ++ q ++ Lib.join (z :: r) q := fun z r => by simp [Lib.join, List.intercalate]
      rw [List.map_cons, h3, ih, List.flatMap_cons, List.append_assoc, List.append_assoc]
      rfl
  unfold joinB hexes
  obtain ⟨c, l, hcl⟩ : ∃ c l, bytesOf x = c :: l := by
    cases hb : bytesOf x with
    | nil => rw [hb] at hl; simp at hl
    | cons c l => exact ⟨c, l, rfl⟩
  have hbt : bt x 0 = c := by rw [bt_B, hcl]; rfl
  unfold tailB
  rw [hbt, hcl, List.map_cons, List.map_cons, List.map_map]
  have := gen sep.data.toList l (hex2 c.toNat).data.toList
  rw [show (List.map ((fun x : ByteArray => x.data.toList) ∘ fun c : Int => hex2 c.toNat) l) = l.map fun c => (hex2 c.toNat).data.toList from rfl, this, ← ba_append]
  rfl
theorem list_all (x sep : ByteArray) (hx : x.size ≤ 255) (hs : sep.size ≤ 1) (k : Nat) (hk : 300 ≤ k) : platformfwref08_list.f k x ⟨#[]⟩ sep 16 2 = some (joinB (hexes x) sep) := by
  obtain ⟨k, rfl⟩ : ∃ m, k = m + 1 := ⟨k - 1, by omega⟩
  unfold platformfwref08_list.f
  have z0 : (⟨#[]⟩ : ByteArray).size = 0 := rfl
  by_cases h : 0 < x.size
  · have hb := bt_range x 0
    have hc : IntKind.u64.wrap (bt x (0 : Int)) = (((bt x 0).toNat : Nat) : Int) := by rw [wrap_u64_id hb.1 (by omega)]; omega
    have hz : (hex2 (bt x 0).toNat).size = 2 := rfl
    have e1 : (⟨#[]⟩ : ByteArray) ++ ((⟨#[]⟩ : ByteArray) ++ hex2 (bt x 0).toNat) = hex2 (bt x 0).toNat := by
      have : ∀ y : ByteArray, (⟨#[]⟩ : ByteArray) ++ y = y := fun y => ByteArray.empty_append
      rw [this, this]
    simp only [platformfwref08_list.l0]
    rw [if_pos (by omega), if_neg (by decide), if_pos (by decide), hc, digits2 _ (by omega) k (by omega), Option.bind_some, if_pos (by omega), if_pos (by omega), wrap64_id (by omega) (by omega), show (0 : Int) + 1 = ((1 : Nat) : Int) from rfl, e1, list_go x sep hx hs (x.size - 1) 1 k _ (by omega) (by omega) (by omega) (by omega), join_tail x sep h]
  · have h0 : x.size = 0 := by omega
    simp only [platformfwref08_list.l0]
    rw [if_neg (by omega)]
    have : hexes x = [] := by
      apply List.eq_nil_of_length_eq_zero
      simp [hexes, B_size, h0]
    rw [this]
    rfl
/-- What a value is as a string. -/
def strV (k0 a : Int) (x : ByteArray) : ByteArray × Int :=
  if vOK k0 x = true then (if k0 = 1 then (hex16 a.toNat, 0) else if k0 = 2 then (x, 0) else if k0 = 3 then (if ((joinB (hexes x) ⟨#[32]⟩).size : Int) > 255 then (⟨#[]⟩, 11) else (joinB (hexes x) ⟨#[32]⟩, 0)) else (⟨#[]⟩, 10)) else (⟨#[]⟩, 1)
theorem hex16_size (u : Nat) : (hex16 u).size = 16 := by unfold hex16; rw [size_mk]; simp [rowUp]
theorem vOK_size {k0 : Int} {x : ByteArray} (h : vOK k0 x = true) (h2 : k0 = 2 ∨ k0 = 3) : x.size ≤ 255 := by
  unfold vOK at h
  rcases h2 with rfl | rfl
  · rw [if_pos rfl] at h; have := of_decide_eq_true h; omega
  · rw [if_neg (by decide), if_pos rfl] at h; have := of_decide_eq_true h; omega
theorem str_go (k0 a : Int) (x : ByteArray) (o : Int) (ha : 0 ≤ a ∧ a < 18446744073709551616) : value_String.f k0 a x o = some (strV k0 a x) := by
  unfold value_String.f strV
  rw [valid_go, Option.bind_some]
  by_cases hv : vOK k0 x = true
  case neg => rw [if_neg hv, if_neg hv]
  rw [if_pos hv, if_pos hv]
  by_cases h1 : k0 = 1
  · rw [if_pos h1, if_pos h1, str_int a ha.1 ha.2 (fun s => if (s.size : Int) > 255 then (some ((⟨#[]⟩ : ByteArray), (11 : Int))) else (some (s, 0))), if_neg (by rw [hex16_size]; decide)]
  rw [if_neg h1, if_neg h1]
  by_cases h2 : k0 = 2
  · have := vOK_size hv (.inl h2)
    rw [if_pos h2, if_pos h2, if_neg (by omega)]
  rw [if_neg h2, if_neg h2]
  by_cases h3 : k0 = 3
  · have := vOK_size hv (.inr h3)
    have e : value_each.f x (⟨#[32]⟩ : ByteArray) = some (joinB (hexes x) ⟨#[32]⟩) := by unfold value_each.f; rw [if_pos ⟨this, by decide⟩]
    rw [if_pos h3, if_pos h3, e, Option.bind_some]
    split <;> rfl
  rw [if_neg h3, if_neg h3]
theorem bounded_go (x : ByteArray) : platformfwref08_bounded.f x = some (if (x.size : Int) > 255 then (⟨#[]⟩, 11) else (x, 0)) := by unfold platformfwref08_bounded.f; split <;> rfl
theorem str_ref (k0 a : Int) (x : ByteArray) (o : Int) (ha : 0 ≤ a ∧ a < 18446744073709551616) (k : Nat) (hk : 300 ≤ k) : platformfwref08_String.f k k0 a x o = some (strV k0 a x) := by
  unfold platformfwref08_String.f strV
  rw [valid_ref, Option.bind_some]
  by_cases hv : vOK k0 x = true
  case neg => rw [if_neg hv, if_neg hv]
  rw [if_pos hv, if_pos hv]
  by_cases h2 : k0 = 2
  · rw [if_pos h2, if_neg (by omega), if_pos h2]
  rw [if_neg h2]
  by_cases h1 : k0 = 1
  · rw [if_pos h1, if_pos h1, digits16 a ha.1 ha.2 k (by omega), Option.bind_some]
  rw [if_neg h1, if_neg h1, if_neg h2]
  by_cases h3 : k0 = 3
  · have := vOK_size hv (.inr h3)
    rw [if_pos h3, if_pos h3, list_all x ⟨#[32]⟩ this (by decide) k hk, Option.bind_some, bounded_go, Option.bind_some]
  rw [if_neg h3, if_neg h3]
/-- What a value is as a buffer. -/
def bufV (k0 a : Int) (x : ByteArray) : ByteArray × Int :=
  if vOK k0 x = true then (if k0 = 1 then (strOfNums (bytes8 a), 0) else if k0 = 2 then (if ((x ++ (⟨#[0]⟩ : ByteArray)).size : Int) > 255 then (⟨#[]⟩, 11) else (x ++ (⟨#[0]⟩ : ByteArray), 0)) else if k0 = 3 then (x, 0) else (⟨#[]⟩, 10)) else (⟨#[]⟩, 1)
theorem bytes8_size (a : Int) : (strOfNums (bytes8 a)).size = 8 := by rw [strOfNums_size']; simp [bytes8]
theorem buf_go (k0 a : Int) (x : ByteArray) (o : Int) (k : Nat) (hk : 20 ≤ k) : value_Buffer.f k k0 a x o = some (bufV k0 a x) := by
  unfold value_Buffer.f bufV
  rw [valid_go, Option.bind_some]
  by_cases hv : vOK k0 x = true
  case neg => rw [if_neg hv, if_neg hv]
  rw [if_pos hv, if_pos hv]
  by_cases h1 : k0 = 1
  · rw [if_pos h1, if_pos h1, eight_eq a k hk, Option.bind_some, bytes8_size, if_neg (by decide)]
  rw [if_neg h1, if_neg h1]
  by_cases h2 : k0 = 2
  · have := vOK_size hv (.inl h2)
    rw [if_pos h2, if_pos h2, if_pos (by omega)]
    split <;> rfl
  rw [if_neg h2, if_neg h2]
  by_cases h3 : k0 = 3
  · have := vOK_size hv (.inr h3)
    rw [if_pos h3, if_pos h3, if_neg (by omega)]
  rw [if_neg h3, if_neg h3]
theorem buf_ref (k0 a : Int) (x : ByteArray) (o : Int) (k : Nat) (hk : 20 ≤ k) : platformfwref08_Buffer.f k k0 a x o = some (bufV k0 a x) := by
  unfold platformfwref08_Buffer.f bufV
  rw [valid_ref, Option.bind_some]
  by_cases hv : vOK k0 x = true
  case neg => rw [if_neg hv, if_neg hv]
  rw [if_pos hv, if_pos hv]
  by_cases h3 : k0 = 3
  · rw [if_pos h3, if_neg (by omega), if_neg (by omega), if_pos h3]
  rw [if_neg h3]
  by_cases h1 : k0 = 1
  · rw [if_pos h1, if_pos h1, little8_eq a k hk, Option.bind_some]
  rw [if_neg h1, if_neg h1]
  by_cases h2 : k0 = 2
  · have := vOK_size hv (.inl h2)
    rw [if_pos h2, if_pos h2, if_pos (by omega), bounded_go, Option.bind_some]
  rw [if_neg h2, if_neg h2, if_neg h3]
/-- What a conversion comes to. -/
def convV (k0 a : Int) (x : ByteArray) (o kd : Int) : Int × Int × ByteArray × Int × Int :=
  if vOK k0 x = true then
    (if kd = 1 then (if (intV k0 a x).2 = 0 then (1, (intV k0 a x).1, ⟨#[]⟩, 0, 0) else (0, 0, ⟨#[]⟩, 0, (intV k0 a x).2))
     else if kd = 2 then (if (strV k0 a x).2 = 0 then (kd, 0, (strV k0 a x).1, 0, 0) else (0, 0, ⟨#[]⟩, 0, (strV k0 a x).2))
     else if kd = 3 then (if (bufV k0 a x).2 = 0 then (kd, 0, (bufV k0 a x).1, 0, 0) else (0, 0, ⟨#[]⟩, 0, (bufV k0 a x).2))
     else if k0 = kd then (if kd = 0 then (0, 0, ⟨#[]⟩, 0, 0) else (kd, 0, ⟨#[]⟩, o, 0)) else (0, 0, ⟨#[]⟩, 0, 10))
  else (0, 0, ⟨#[]⟩, 0, 1)
theorem conv_go (k0 a : Int) (x : ByteArray) (o kd : Int) (ha : 0 ≤ a ∧ a < 18446744073709551616) (k : Nat) (hk : 30 ≤ k) : value_Convert.f k k0 a x o kd = some (convV k0 a x o kd) := by
  unfold value_Convert.f convV
  rw [valid_go, Option.bind_some, int_go k0 a x o k hk, str_go k0 a x o ha, buf_go k0 a x o k (by omega)]
  simp only [Option.bind_some, value_integer.f, value_result.f]
  by_cases hv : vOK k0 x = true
  case neg => rw [if_neg hv, if_neg hv]
  rw [if_pos hv, if_pos hv]
  by_cases h1 : kd = 1
  · rw [if_pos h1, if_pos h1]; split <;> rfl
  rw [if_neg h1, if_neg h1]
  by_cases h2 : kd = 2
  · rw [if_pos h2, if_pos h2]; split <;> rfl
  rw [if_neg h2, if_neg h2]
  by_cases h3 : kd = 3
  · rw [if_pos h3, if_pos h3]; split <;> rfl
  rw [if_neg h3, if_neg h3]
  split
  · split <;> rfl
  · rfl
theorem conv_ref (k0 a : Int) (x : ByteArray) (o kd : Int) (ha : 0 ≤ a ∧ a < 18446744073709551616) (k : Nat) (hk : 300 ≤ k) : platformfwref08_Convert.f k k0 a x o kd = some (convV k0 a x o kd) := by
  obtain ⟨k, rfl⟩ : ∃ m, k = m + 1 := ⟨k - 1, by omega⟩
  unfold platformfwref08_Convert.f convV
  rw [valid_ref, Option.bind_some, int_ref k0 a x o _ (by omega), str_ref k0 a x o ha _ hk, buf_ref k0 a x o _ (by omega)]
  simp only [Option.bind_some, platformfwref08_Number.f]
  by_cases hv : vOK k0 x = true
  case neg => rw [if_neg hv, if_neg hv]
  rw [if_pos hv, if_pos hv]
  by_cases h1 : kd = 1
  · rw [if_pos h1, if_pos h1]; split <;> rfl
  rw [if_neg h1, if_neg h1]
  by_cases h2 : kd = 2
  · rw [if_pos h2, if_pos h2]; split <;> rfl
  rw [if_neg h2, if_neg h2]
  by_cases h3 : kd = 3
  · rw [if_pos h3, if_pos h3]; split <;> rfl
  rw [if_neg h3, if_neg h3]
  by_cases h : k0 = kd
  · subst h
    rw [if_pos rfl, if_pos rfl]
    unfold platformfwref08_Clean.f
    rw [if_neg h1, if_neg h2]
    simp only [platformfwref08_Clean.j0]
    rw [if_neg (by simpa using h3)]
    by_cases h0 : k0 = 0
    · rw [if_pos h0, if_pos h0]; rfl
    · rw [if_neg h0, if_neg h0]; rfl
  · rw [if_neg h, if_neg h]
/-- What a conversion to an integer holds. -/
theorem convV_int (k0 a : Int) (x : ByteArray) (o kd : Int) (ha : 0 ≤ a ∧ a < 18446744073709551616) : 0 ≤ (convV k0 a x o kd).2.1 ∧ (convV k0 a x o kd).2.1 < 18446744073709551616 := by
  have hi := intV_rng k0 a x ha
  have zr : (0 : Int) ≤ 0 ∧ (0 : Int) < 18446744073709551616 := by decide
  unfold convV
  split <;> (try split) <;> (try split) <;> (try split) <;> (try split) <;> (try split) <;> first | exact hi | exact zr
theorem strV_size (k0 a : Int) (x : ByteArray) (h : (strV k0 a x).2 = 0) : (strV k0 a x).1.size ≤ 255 := by
  unfold strV at h ⊢
  by_cases hv : vOK k0 x = true
  case neg => rw [if_neg hv]; decide
  rw [if_pos hv] at h ⊢
  by_cases h1 : k0 = 1
  · rw [if_pos h1, hex16_size]; decide
  rw [if_neg h1] at h ⊢
  by_cases h2 : k0 = 2
  · rw [if_pos h2]; exact vOK_size hv (.inl h2)
  rw [if_neg h2] at h ⊢
  by_cases h3 : k0 = 3
  · rw [if_pos h3]; split
    · decide
    · show (joinB (hexes x) ⟨#[32]⟩).size ≤ 255; omega
  rw [if_neg h3]; decide
theorem bufV_size (k0 a : Int) (x : ByteArray) : (bufV k0 a x).1.size ≤ 255 := by
  unfold bufV
  by_cases hv : vOK k0 x = true
  case neg => rw [if_neg hv]; decide
  rw [if_pos hv]
  by_cases h1 : k0 = 1
  · rw [if_pos h1, bytes8_size]; decide
  rw [if_neg h1]
  by_cases h2 : k0 = 2
  · rw [if_pos h2]; split
    · decide
    · show (x ++ (⟨#[0]⟩ : ByteArray)).size ≤ 255; omega
  rw [if_neg h2]
  by_cases h3 : k0 = 3
  · rw [if_pos h3]; exact vOK_size hv (.inr h3)
  rw [if_neg h3]; decide
theorem convV_size (k0 a : Int) (x : ByteArray) (o kd : Int) : (convV k0 a x o kd).2.2.1.size ≤ 255 := by
  have hb := bufV_size k0 a x
  have e0 : (⟨#[]⟩ : ByteArray).size ≤ 255 := by decide
  unfold convV
  by_cases hv : vOK k0 x = true
  case neg => rw [if_neg hv]; exact e0
  rw [if_pos hv]
  by_cases h1 : kd = 1
  · rw [if_pos h1]; split <;> exact e0
  rw [if_neg h1]
  by_cases h2 : kd = 2
  · rw [if_pos h2]
    by_cases hs : (strV k0 a x).2 = 0
    · rw [if_pos hs]; exact strV_size k0 a x hs
    · rw [if_neg hs]; exact e0
  rw [if_neg h2]
  by_cases h3 : kd = 3
  · rw [if_pos h3]; split
    · exact hb
    · exact e0
  rw [if_neg h3]
  split
  · split <;> exact e0
  · exact e0
/-- A bool as a value. -/
def boolV (b : Bool) : Int × Int × ByteArray × Int := (1, if b = true then 18446744073709551615 else 0, ⟨#[]⟩, 0)
theorem bool_go (b : Bool) : value_boolean.f b = some (boolV b) := by cases b <;> rfl
theorem bool_ref (b : Bool) : platformfwref08_Bool.f b = some (boolV b) := by cases b <;> rfl
/-! ### numerals, written and read -/
/-- A number that goes on with these digits. -/
def foldB (B : Nat) : Nat → List Nat → Nat
  | n, [] => n
  | n, d :: l => foldB B (n * B + d) l
theorem foldB_le (B : Nat) (hB : 1 ≤ B) : ∀ (l : List Nat) (n : Nat), n ≤ foldB B n l
  | [], n => Nat.le_refl n
  | d :: l, n => Nat.le_trans (Nat.le_trans (Nat.le_mul_of_pos_right n hB) (Nat.le_add_right _ _)) (foldB_le B hB l _)
theorem foldB_snoc (B : Nat) : ∀ (l : List Nat) (n d : Nat), foldB B n (l ++ [d]) = foldB B n l * B + d
  | [], _, _ => rfl
  | _ :: l, _, d => foldB_snoc B l _ d
/-- The m lowest digits of u, the highest first. -/
def rowB (B m u : Nat) : List Nat := (List.range m).map fun t => u / B ^ (m - 1 - t) % B
theorem rowB_snoc (B m u : Nat) : rowB B (m + 1) u = rowB B m (u / B) ++ [u % B] := by
  unfold rowB
  rw [List.range_succ, List.map_append]
  congr 1
  · apply List.map_congr_left
    intro t ht
    have ht := List.mem_range.1 ht
    rw [Nat.div_div_eq_div_mul, show m + 1 - 1 - t = (m - 1 - t) + 1 by omega, Nat.pow_succ, Nat.mul_comm]
  · simp
theorem foldB_row (B : Nat) (hB : 2 ≤ B) : ∀ (m u : Nat), u < B ^ m → foldB B 0 (rowB B m u) = u
  | 0, u, h => by have : u = 0 := by simpa using h
                  subst this; rfl
  | m + 1, u, h => by
    have h2 : u / B < B ^ m := by rw [Nat.div_lt_iff_lt_mul (by omega)]; rw [Nat.pow_succ] at h; exact h
    rw [rowB_snoc, foldB_snoc, foldB_row B hB m _ h2, Nat.mul_comm]
    exact Nat.div_add_mod u B
theorem rowB_lt (B m u : Nat) (hB : 2 ≤ B) : ∀ d ∈ rowB B m u, d < B := by
  intro d hd
  obtain ⟨t, _, rfl⟩ := List.mem_map.1 hd
  exact Nat.mod_lt _ (by omega)
theorem digit16 (d : Nat) (h : d < 16) (k : Nat) (hk : 1 ≤ k) : value_digit.f k ((hexUp d).toNat : Int) 16 = some (d : Int) := by
  have all : ∀ d : Fin 16, hexv ((hexUp d.val).toNat : Int) = ((d.val : Nat) : Int) ∧ (hexUp d.val).toNat ≤ 255 := by decide
  have h1 : hexv ((hexUp d).toNat : Int) = (d : Int) := (all ⟨d, h⟩).1
  have h2 : (hexUp d).toNat ≤ 255 := (all ⟨d, h⟩).2
  rw [digit_go _ (by omega) (by omega) k hk, h1]
theorem digit10 (d : Nat) (h : d < 10) (k : Nat) (hk : 1 ≤ k) : value_digit.f k ((hexUp d).toNat : Int) 10 = some (d : Int) := by
  obtain ⟨k, rfl⟩ : ∃ m, k = m + 1 := ⟨k - 1, by omega⟩
  have e1 : value_digit.f (k + 1) ((hexUp d).toNat : Int) 10 = value_digit.f 1 ((hexUp d).toNat : Int) 10 := by unfold value_digit.f; simp only [value_digit.j0]
  have all : ∀ d : Fin 10, value_digit.f 1 ((hexUp d.val).toNat : Int) 10 = some ((d.val : Nat) : Int) := by decide +kernel
  rw [e1]
  exact all ⟨d, h⟩
/-- A string of digits is read as its number. -/
theorem parse_go (B : Nat) (hB : B = 10 ∨ B = 16) (s : ByteArray) (hs : s.size ≤ 1000) : ∀ (l : List Nat) (i n k : Nat), (bytesOf s).drop i = l.map (fun d => ((hexUp d).toNat : Int)) → (∀ d ∈ l, d < B) → foldB B n l < 18446744073709551616 → l.length + 1 < k →
    value_parse.l0 k s (B : Int) (n : Int) (s.size : Int) (i : Int) = some (((foldB B n l : Nat) : Int), 0) := by
  intro l
  induction l with
  | nil =>
    intro i n k hd hl hf hk
    obtain ⟨k, rfl⟩ : ∃ m, k = m + 1 := ⟨k - 1, by omega⟩
    have hi : s.size ≤ i := by
      have := congrArg List.length hd
      simp [B_size] at this
      omega
    simp only [value_parse.l0]
    rw [if_neg (by omega)]
    rfl
  | cons d l ih =>
    intro i n k hd hl hf hk
    obtain ⟨k, rfl⟩ : ∃ m, k = m + 1 := ⟨k - 1, by omega⟩
    have hlen : i < s.size := by
      have := congrArg List.length hd
      simp [B_size] at this
      omega
    have hbl : i < (bytesOf s).length := by rw [B_size]; exact hlen
    rw [List.drop_eq_getElem_cons hbl, List.map_cons, List.cons.injEq] at hd
    have hb : bt s (i : Int) = ((hexUp d).toNat : Int) := by rw [bt_B, Int.toNat_natCast, getD_at _ _ hbl]; exact hd.1
    have hdB := hl d (by simp)
    have hdig : value_digit.f k (bt s (i : Int)) (B : Int) = some (d : Int) := by
      rw [hb]
      simp only [List.length_cons] at hk
      rcases hB with rfl | rfl
      · exact digit10 d hdB k (by omega)
      · exact digit16 d hdB k (by omega)
    have hstep : n * B + d ≤ foldB B (n * B + d) l := foldB_le B (by omega) l _
    have hf' : foldB B (n * B + d) l < 18446744073709551616 := hf
    have hB1 : 1 ≤ B := by omega
    have hnB : (n : Int) * (B : Int) = ((n * B : Nat) : Int) := by rw [Int.natCast_mul]
    have e1 : IntKind.u64.wrap ((B : Nat) : Int) = (B : Int) := wrap_u64_id (by omega) (by omega)
    have e2 : IntKind.u64.wrap ((d : Nat) : Int) = (d : Int) := wrap_u64_id (by omega) (by omega)
    have e3 : IntKind.u64.wrap (18446744073709551615 - (d : Int)) = 18446744073709551615 - (d : Int) := wrap_u64_id (by omega) (by omega)
    have e4 : IntKind.u64.wrap ((n : Int) * (B : Int)) = ((n * B : Nat) : Int) := by rw [hnB]; exact wrap_u64_id (by omega) (by omega)
    have e5 : IntKind.u64.wrap (((n * B : Nat) : Int) + (d : Int)) = ((n * B + d : Nat) : Int) := by rw [wrap_u64_id (by omega) (by omega)]; omega
    have hq : (18446744073709551615 - d) / B ≤ 18446744073709551615 := Nat.le_trans (Nat.div_le_self _ _) (by omega)
    have hnle : n ≤ (18446744073709551615 - d) / B := (Nat.le_div_iff_mul_le (by omega)).2 (by omega)
    have e6 : Int.tdiv (18446744073709551615 - (d : Int)) (B : Int) = (((18446744073709551615 - d) / B : Nat) : Int) := by
      rw [Int.tdiv_eq_ediv_of_nonneg (by omega), show (18446744073709551615 - (d : Int)) = ((18446744073709551615 - d : Nat) : Int) by omega, Int.natCast_ediv]
    generalize (18446744073709551615 - d) / B = q at hq hnle e6
    have e7 : IntKind.u64.wrap (q : Int) = (q : Int) := wrap_u64_id (by omega) (by omega)
    simp only [value_parse.l0]
    rw [if_pos (by omega), if_pos (by omega), if_pos (by omega), hdig, Option.bind_some, if_neg (show ¬ ((d : Int) < 0) by omega), e1, if_neg (show ¬ ((B : Int) = 0) by omega), e2, e3, e6, e7, if_neg (show ¬ ((n : Int) > (q : Int)) by omega), e4, e5, wrap64_id (by omega) (by omega), show (i : Int) + 1 = ((i + 1 : Nat) : Int) by omega]
    exact ih (i + 1) (n * B + d) k hd.2 (fun x hx => hl x (by simp [hx])) hf' (by simp only [List.length_cons] at hk; omega)
theorem bytes_mk (l : List UInt8) : bytesOf (⟨l.toArray⟩ : ByteArray) = l.map fun b => (b.toNat : Int) := rfl
/-- The hexadecimal numeral is read back. -/
theorem parse_hex (u : Nat) (h : u < 18446744073709551616) (k : Nat) (hk : 40 ≤ k) : value_parse.f k (⟨(rowUp (hexLen u) u).toArray⟩ : ByteArray) 16 = some ((u : Int), 0) := by
  obtain ⟨l1, l2, l3⟩ := hexLen_le u h
  have hsz : (⟨(rowUp (hexLen u) u).toArray⟩ : ByteArray).size = hexLen u := (size_mk _).trans (by simp [rowUp])
  have e : (bytesOf (⟨(rowUp (hexLen u) u).toArray⟩ : ByteArray)).drop 0 = (rowB 16 (hexLen u) u).map (fun d => ((hexUp d).toNat : Int)) := by
    rw [List.drop_zero, bytes_mk]
    unfold rowUp rowB
    rw [List.map_map, List.map_map]
    rfl
  have := parse_go 16 (.inr rfl) _ (by omega) (rowB 16 (hexLen u) u) 0 0 k e (rowB_lt 16 _ _ (by omega)) (by rw [foldB_row 16 (by omega) _ _ l3]; exact h) (by simp [rowB]; omega)
  rw [foldB_row 16 (by omega) _ _ l3] at this
  exact this
theorem dg_up (u j : Nat) : Lib.dg u j = hexUp (u / 10 ^ j % 10) := by
  have h : u / 10 ^ j % 10 < 10 := Nat.mod_lt _ (by decide)
  unfold Lib.dg hexUp
  rw [if_pos h]
theorem dec_bytes (u : Nat) : bytesOf (decStr u) = (rowB 10 (Lib.nDigits u) u).map (fun d => ((hexUp d).toNat : Int)) := by
  unfold decStr
  rw [bytes_mk, Lib.decDigits_eq]
  unfold rowB
  rw [List.map_map, List.map_map]
  apply List.map_congr_left
  intro t _
  simp only [Function.comp, dg_up]
theorem nd_le (u : Nat) (h : u < 18446744073709551616) : 1 ≤ Lib.nDigits u ∧ Lib.nDigits u ≤ 20 := by
  refine ⟨Lib.nDigits_pos u, ?_⟩
  by_cases h0 : u = 0
  · subst h0; rw [Lib.nDigits_small (by omega)]; omega
  · have := Lib.numDigits_eq u (by omega) h
    split at this <;> omega
theorem dec_size (u : Nat) : (decStr u).size = Lib.nDigits u := (size_mk _).trans (Lib.decDigits_length u)
/-- The decimal numeral is read back. -/
theorem parse_dec (u : Nat) (h : u < 18446744073709551616) (k : Nat) (hk : 40 ≤ k) : value_parse.f k (decStr u) 10 = some ((u : Int), 0) := by
  have hn := nd_le u h
  have l3 := Lib.lt_pow_nDigits u
  have := parse_go 10 (.inl rfl) (decStr u) (by rw [dec_size]; omega) (rowB 10 (Lib.nDigits u) u) 0 0 k (by rw [List.drop_zero, dec_bytes]) (rowB_lt 10 _ _ (by omega)) (by rw [foldB_row 10 (by omega) _ _ l3]; exact h) (by simp [rowB]; omega)
  rw [foldB_row 10 (by omega) _ _ l3] at this
  exact this
/-- The leading digits of the sixteen make the number again. -/
theorem hacc_row (x : ByteArray) : ∀ (l : List Nat) (i n : Nat), (bytesOf x).drop i = l.map (fun d => ((hexUp d).toNat : Int)) → (∀ d ∈ l, d < 16) → foldB 16 n l < 18446744073709551616 → hacc x l.length (i : Int) (n : Int) = ((foldB 16 n l : Nat) : Int) := by
  intro l
  induction l with
  | nil => intro i n _ _ _; rfl
  | cons d l ih =>
    intro i n hd hl hf
    have hlen : i < (bytesOf x).length := by
      have := congrArg List.length hd
      simp at this
      omega
    rw [List.drop_eq_getElem_cons hlen, List.map_cons, List.cons.injEq] at hd
    have hb : bt x (i : Int) = ((hexUp d).toNat : Int) := by rw [bt_B, Int.toNat_natCast, getD_at _ _ hlen]; exact hd.1
    have hdB := hl d (by simp)
    have hv : hexv (bt x (i : Int)) = (d : Int) := by
      have all : ∀ d : Fin 16, hexv ((hexUp d.val).toNat : Int) = ((d.val : Nat) : Int) := by decide
      rw [hb]; exact all ⟨d, hdB⟩
    have hstep : n * 16 + d ≤ foldB 16 (n * 16 + d) l := foldB_le 16 (by omega) l _
    have hf' : foldB 16 (n * 16 + d) l < 18446744073709551616 := hf
    have e1 : IntKind.u64.wrap ((n : Int) * 16) = ((n * 16 : Nat) : Int) := by rw [show (n : Int) * 16 = ((n * 16 : Nat) : Int) by omega]; exact wrap_u64_id (by omega) (by omega)
    have e2 : IntKind.u64.wrap ((d : Nat) : Int) = (d : Int) := wrap_u64_id (by omega) (by omega)
    have e3 : Go.bits .or .u64 ((n * 16 : Nat) : Int) (d : Int) = ((n * 16 + d : Nat) : Int) := by
      rw [bits_join .u64 64 (by decide) wraps_u64 4 _ _ (by omega) (by show ((n * 16 : Nat) : Int) % 16 = 0; omega) (by rw [p2_64]; omega) (by omega) (by show (d : Int) < 16; omega) (by rw [p2_64]; omega)]
      omega
    show (if hexv (bt x (i : Int)) < 0 then _ else hacc x l.length ((i : Int) + 1) _) = _
    rw [hv, if_neg (by omega), e1, e2, e3, show (i : Int) + 1 = ((i + 1 : Nat) : Int) by omega]
    exact ih (i + 1) (n * 16 + d) hd.2 (fun y hy => hl y (by simp [hy])) hf'
theorem hacc_back (u : Nat) (h : u < 18446744073709551616) : hacc (hex16 u) (min (hex16 u).size 16) 0 0 = (u : Int) := by
  have e : (bytesOf (hex16 u)).drop 0 = (rowB 16 16 u).map (fun d => ((hexUp d).toNat : Int)) := by
    rw [List.drop_zero]
    unfold hex16
    rw [bytes_mk]
    unfold rowUp rowB
    rw [List.map_map, List.map_map]
    rfl
  have h16 : u < 16 ^ 16 := h
  have := hacc_row (hex16 u) (rowB 16 16 u) 0 0 e (rowB_lt 16 _ _ (by omega)) (by rw [foldB_row 16 (by omega) _ _ h16]; exact h)
  rw [foldB_row 16 (by omega) _ _ h16] at this
  rw [hex16_size]
  exact this
theorem emod_two (n : Int) (h0 : 0 ≤ n) (i : Nat) : n % (256 ^ i * 256) = n % 256 ^ i + n / 256 ^ i % 256 * 256 ^ i := by
  obtain ⟨u, rfl⟩ := Int.eq_ofNat_of_zero_le h0
  have hP : (256 : Int) ^ i = ((256 ^ i : Nat) : Int) := by rw [Int.natCast_pow]; rfl
  have h := Nat.mod_mul (x := u) (a := 256 ^ i) (b := 256)
  rw [hP]
  generalize 256 ^ i = P at h ⊢
  have e1 : (u : Int) % ((P : Int) * 256) = ((u % (P * 256) : Nat) : Int) := by rw [Int.natCast_emod, Int.natCast_mul]; rfl
  have e2 : ((u % P + P * (u / P % 256) : Nat) : Int) = (u : Int) % (P : Int) + (u : Int) / (P : Int) % 256 * (P : Int) := by
    rw [Int.natCast_add, Int.natCast_mul, Int.natCast_emod, Int.natCast_emod, Int.natCast_ediv, Int.mul_comm (P : Int)]; rfl
  rw [e1, h, e2]
/-- The eight bytes make the number again. -/
theorem lacc_back (n : Int) (h0 : 0 ≤ n) (h1 : n < 18446744073709551616) : lacc (strOfNums (bytes8 n)) (min (strOfNums (bytes8 n)).size 8) 0 0 = n := by
  have hb : ∀ i : Nat, i < 8 → bt (strOfNums (bytes8 n)) (i : Int) = n / 256 ^ i % 256 := fun i hi => by
    have hr : ∀ x ∈ bytes8 n, 0 ≤ x ∧ x < 256 := fun x hx => by
      obtain ⟨j, _, rfl⟩ := List.mem_map.1 hx
      omega
    have hl : i < (bytes8 n).length := by simp [bytes8]; omega
    rw [bt_B, B_nums hr, Int.toNat_natCast, getD_at _ _ hl]
    simp only [bytes8, List.getElem_map, List.getElem_range]
    rw [shr_u64 (by omega)]
  have go : ∀ (e i : Nat), i + e = 8 → lacc (strOfNums (bytes8 n)) e (i : Int) (n % 256 ^ i) = n % 256 ^ 8 := by
    intro e
    induction e with
    | zero => intro i hi; obtain rfl : i = 8 := by omega
              rfl
    | succ e ih =>
      intro i hi
      have hp : (0 : Int) < 256 ^ i := Int.pow_pos (by decide)
      have hx0 := Int.emod_nonneg n (show (256 : Int) ^ i ≠ 0 by omega)
      have hx1 := Int.emod_lt_of_pos n hp
      have hbr := hb i (by omega)
      have hb0 : 0 ≤ n / 256 ^ i % 256 ∧ n / 256 ^ i % 256 < 256 := by omega
      have hple : (256 : Int) ^ (i + 1) ≤ 18446744073709551616 := p256_le (by omega)
      have hps : (256 : Int) ^ (i + 1) = 256 ^ i * 256 := Int.pow_succ _ _
      have hmul0 : 0 ≤ (n / 256 ^ i % 256) * 256 ^ i := Int.mul_nonneg hb0.1 (Int.le_of_lt hp)
      have hmul1 : (n / 256 ^ i % 256) * 256 ^ i < 18446744073709551616 := by
        have : (n / 256 ^ i % 256) * 256 ^ i ≤ 255 * 256 ^ i := Int.mul_le_mul_of_nonneg_right (by omega) (Int.le_of_lt hp)
        omega
      have esh : shl .u64 (IntKind.u64.wrap (bt (strOfNums (bytes8 n)) (i : Int))) (8 * (i : Int)) = (n / 256 ^ i % 256) * 256 ^ i := by
        rw [hbr, wrap_u64_id (by omega) (by omega)]
        unfold shl
        have em : min (8 * (i : Int)).toNat (IntKind.bits .u64) = 8 * i := by show min (8 * (i : Int)).toNat 64 = 8 * i; omega
        rw [em, two_pow_8]
        exact wrap_u64_id hmul0 hmul1
      have eor : Go.bits .or .u64 (n % 256 ^ i) ((n / 256 ^ i % 256) * 256 ^ i) = n % 256 ^ (i + 1) := by
        rw [or_u64 (8 * i) (by omega) hx0 (by rw [two_pow_8]; exact hx1) hmul0 (by rw [two_pow_8]; exact Int.mul_emod_left _ _) hmul1, hps, emod_two n h0]
      show lacc _ e ((i : Int) + 1) (Go.bits .or .u64 (n % 256 ^ i) (shl .u64 (IntKind.u64.wrap (bt (strOfNums (bytes8 n)) (i : Int))) (8 * (i : Int)))) = _
      rw [esh, eor, show (i : Int) + 1 = ((i + 1 : Nat) : Int) by omega]
      exact ih (i + 1) (by omega)
  rw [bytes8_size]
  have := go 8 0 (by omega)
  rw [show n % 256 ^ 0 = 0 by rw [Int.pow_zero]; exact Int.emod_one n, p256_8] at this
  exact this.trans (Int.emod_eq_of_lt h0 h1)
theorem v1 (x : ByteArray) : vOK 1 x = true := rfl
def upStr (u : Nat) : ByteArray := ⟨(rowUp (hexLen u) u).toArray⟩
def oxStr (u : Nat) : ByteArray := (⟨#[48, 120]⟩ : ByteArray) ++ upStr u
theorem up_size (u : Nat) : (upStr u).size = hexLen u := (size_mk _).trans (by simp [rowUp])
theorem ox_size (u : Nat) : (oxStr u).size = 2 + hexLen u := by unfold oxStr; rw [ByteArray.size_append, up_size]; rfl
theorem fmt_h (u : Nat) (hu : u < 18446744073709551616) : strconv_FormatUint.f (u : Int) 16 = some (hexStr u) := by unfold strconv_FormatUint.f; rw [if_pos ⟨by omega, by omega⟩, if_pos rfl, Int.toNat_natCast]
theorem fmt_d (u : Nat) (hu : u < 18446744073709551616) : strconv_FormatUint.f (u : Int) 10 = some (decStr u) := by unfold strconv_FormatUint.f; rw [if_pos ⟨by omega, by omega⟩, if_neg (by decide), if_pos rfl, Int.toNat_natCast]
theorem up_h (u : Nat) (hu : u < 18446744073709551616) : strings_ToUpper.f (hexStr u) = some (upStr u) := by
  obtain ⟨l1, l2, l3⟩ := hexLen_le u hu
  unfold strings_ToUpper.f
  have hs : (hexStr u).size = hexLen u := (size_mk _).trans (by simp [hexRow])
  rw [if_pos ⟨by omega, row_ascii _ _⟩]
  unfold upStr
  rw [← upper_row]
  rfl
/-! ### literals, read alike -/
/-- The value of a digit of a base, or -1. -/
def dvB (B c : Int) : Int := if hexv c ≥ B then -1 else hexv c
theorem digit_any (B : Int) (hB : B = 10 ∨ B = 16) (c : Int) (h0 : 0 ≤ c) (h1 : c ≤ 255) (k : Nat) (hk : 1 ≤ k) : value_digit.f k c B = some (dvB B c) := by
  obtain ⟨k, rfl⟩ : ∃ m, k = m + 1 := ⟨k - 1, by omega⟩
  obtain ⟨c, rfl⟩ := Int.eq_ofNat_of_zero_le h0
  rcases hB with rfl | rfl
  · have e1 : value_digit.f (k + 1) (c : Int) 10 = value_digit.f 1 (c : Int) 10 := by unfold value_digit.f; simp only [value_digit.j0]
    have all : ∀ c : Fin 256, value_digit.f 1 ((c.val : Nat) : Int) 10 = some (dvB 10 ((c.val : Nat) : Int)) := by decide +kernel
    rw [e1]
    exact all ⟨c, by omega⟩
  · have e1 : value_digit.f (k + 1) (c : Int) 16 = value_digit.f 1 (c : Int) 16 := by unfold value_digit.f; simp only [value_digit.j0]
    have all : ∀ c : Fin 256, value_digit.f 1 ((c.val : Nat) : Int) 16 = some (dvB 16 ((c.val : Nat) : Int)) := by decide +kernel
    rw [e1]
    exact all ⟨c, by omega⟩
theorem hexv_rng (c : Int) (h0 : 0 ≤ c) (h1 : c ≤ 255) : -1 ≤ hexv c ∧ hexv c ≤ 15 := by
  unfold hexv
  split
  · omega
  · split
    · omega
    · split <;> omega
/-- The number that the digits make, or that it is too great. -/
def accB (B : Int) (x : ByteArray) : Nat → Int → Int → Int × Int
  | 0, _, n => (n, 0)
  | e + 1, i, n => if dvB B (bt x i) < 0 then (n, 0) else if n > IntKind.u64.wrap (Int.tdiv (IntKind.u64.wrap (18446744073709551615 - (IntKind.u64.wrap (dvB B (bt x i))))) B) then (0, 11) else accB B x e (i + 1) (IntKind.u64.wrap ((IntKind.u64.wrap (n * B)) + (IntKind.u64.wrap (dvB B (bt x i)))))
theorem accB_err (B : Int) (x : ByteArray) : ∀ (e : Nat) (i n : Int), (accB B x e i n).2 = 0 ∨ accB B x e i n = (0, 11)
  | 0, _, _ => .inl rfl
  | e + 1, i, n => by
    simp only [accB]
    split
    · exact .inl rfl
    · split
      · exact .inr rfl
      · exact accB_err B x e _ _
theorem parse_any (B : Int) (hB : B = 10 ∨ B = 16) (x : ByteArray) (hx : x.size ≤ 1000) : ∀ (e : Nat) (i n : Int) (k : Nat), 0 ≤ i → i + e = x.size → e + 1 < k → value_parse.l0 k x B n (x.size : Int) i = some (accB B x e i n) := by
  have eB : IntKind.u64.wrap B = B := wrap_u64_id (by omega) (by omega)
  intro e
  induction e with
  | zero =>
    intro i n k h0 hi hk
    obtain ⟨k, rfl⟩ : ∃ m, k = m + 1 := ⟨k - 1, by omega⟩
    simp only [value_parse.l0]
    rw [if_neg (by omega)]
    rfl
  | succ e ih =>
    intro i n k h0 hi hk
    obtain ⟨k, rfl⟩ : ∃ m, k = m + 1 := ⟨k - 1, by omega⟩
    have hb := bt_range x i
    simp only [value_parse.l0, accB]
    rw [if_pos (by omega), if_pos h0, if_pos (by omega), digit_any B hB _ hb.1 hb.2 k (by omega), Option.bind_some, eB, wrap64_id (by omega) (by omega)]
    by_cases hd : dvB B (bt x i) < 0
    · rw [if_pos hd, if_pos hd]
    · rw [if_neg hd, if_neg hd, if_neg (show ¬ (B = 0) by omega)]
      split
      · rfl
      · exact ih (i + 1) _ k (by omega) (by omega) (by omega)
def numV (r : Int × Int) : Int × Int × ByteArray × Int × Int := if r.2 = 0 then (1, r.1, ⟨#[]⟩, 0, 0) else (0, 0, ⟨#[]⟩, 0, r.2)
theorem number_val (a b : Int) : value_number.f a b = some (numV (a, b)) := by
  unfold value_number.f value_integer.f numV
  split <;> rfl
theorem explicit_loop (B : Int) (hB : B = 10 ∨ B = 16) (x : ByteArray) (hx : x.size ≤ 1000) : ∀ (e : Nat) (i n : Int) (k : Nat), 0 ≤ i → i + e = x.size → 2 * e + 4 < k → platformfwref08_explicit.l0 k x B n i = some (numV (accB B x e i n)) := by
  intro e
  induction e with
  | zero =>
    intro i n k h0 hi hk
    obtain ⟨k, rfl⟩ : ∃ m, k = m + 1 := ⟨k - 1, by omega⟩
    rw [platformfwref08_explicit.l0, if_neg (by omega)]
    rfl
  | succ e ih =>
    intro i n k h0 hi hk
    obtain ⟨k, rfl⟩ : ∃ m, k = m + 2 := ⟨k - 2, by omega⟩
    have hb := bt_range x i
    have hr := hexv_rng (bt x i) hb.1 hb.2
    have stop : platformfwref08_explicit.j3 (k + 1) x B n i (hexv (bt x i)) true = some (numV (n, 0)) := by
      rw [platformfwref08_explicit.j3, if_pos rfl]
      rfl
    rw [platformfwref08_explicit.l0, if_pos (by omega), if_pos h0, hex_ref _ hb.1 hb.2 (k + 1) (by omega), Option.bind_some]
    simp only [accB]
    by_cases hd : hexv (bt x i) < 0
    · have hd2 : dvB B (bt x i) < 0 := by unfold dvB; rw [if_neg (by omega)]; exact hd
      rw [if_pos hd, if_pos hd2, stop]
    · rw [if_neg hd, wrap_u64_id (a := hexv (bt x i)) (by omega) (by omega)]
      by_cases hg : hexv (bt x i) ≥ B
      · have hd2 : dvB B (bt x i) < 0 := by unfold dvB; rw [if_pos hg]; decide
        rw [decide_eq_true hg, if_pos hd2, stop]
      · have hd3 : dvB B (bt x i) = hexv (bt x i) := by unfold dvB; rw [if_neg hg]
        rw [decide_eq_false hg, hd3, if_neg hd, platformfwref08_explicit.j3, if_neg (by decide), if_neg (show ¬ (B = 0) by omega), wrap_u64_id (a := hexv (bt x i)) (by omega) (by omega), wrap64_id (by omega) (by omega)]
        split
        · rfl
        · have := ih (i + 1) (IntKind.u64.wrap ((IntKind.u64.wrap (n * B)) + hexv (bt x i))) k (by omega) (by omega) (by omega)
          exact this
/-- Does a text begin as a hexadecimal literal. -/
def oxB (x : ByteArray) : Bool := decide (2 ≤ x.size) && (decide (bt x 0 = 48) && (decide (bt x 1 = 120) || decide (bt x 1 = 88)))
theorem prefix_val (x : ByteArray) (c : UInt8) : strings_HasPrefix.f x ⟨#[48, c]⟩ = some (decide (2 ≤ x.size) && (decide (bt x 0 = 48) && decide (bt x 1 = (c.toNat : Int)))) := by
  unfold strings_HasPrefix.f
  congr 1
  have e0 : bt x 0 = (bytesOf x).getD 0 0 := bt_B x 0
  have e1 : bt x 1 = (bytesOf x).getD 1 0 := bt_B x 1
  have hs : x.size = x.data.toList.length := by rw [Array.length_toList]; rfl
  rw [e0, e1, hs]
  unfold bytesOf Lib.hasPrefix
  show List.isPrefixOf [48, c] x.data.toList = _
  cases x.data.toList with
  | nil => rfl
  | cons a l =>
    cases l with
    | nil => simp [List.isPrefixOf]
    | cons b l =>
      have h1 : ((48 : UInt8) == a) = decide ((a.toNat : Int) = 48) := by
        rw [Bool.eq_iff_iff, beq_iff_eq, decide_eq_true_iff]
        constructor
        · rintro rfl; rfl
        · intro h; exact UInt8.toNat_inj.1 (by show 48 = a.toNat; omega)
      have h2 : (c == b) = decide ((b.toNat : Int) = (c.toNat : Int)) := by
        rw [Bool.eq_iff_iff, beq_iff_eq, decide_eq_true_iff]
        constructor
        · rintro rfl; rfl
        · intro h; exact UInt8.toNat_inj.1 (by omega)
      have h3 : 2 ≤ (a :: b :: l).length := by simp
      simp only [List.isPrefixOf, h1, h2, Bool.and_true, decide_eq_true h3, Bool.true_and, List.map_cons, List.getD_cons_zero, List.getD_cons_succ]
/-- What a text is as a literal. -/
def litV (x : ByteArray) : Int × Int := if oxB x = true then accB 16 (x.extract 2 x.size) (x.extract 2 x.size).size 0 0 else accB 10 x x.size 0 0
theorem explicit_go (k0 a : Int) (x : ByteArray) (o : Int) (hx : k0 = 2 → x.size ≤ 255) (k : Nat) (hk : 300 ≤ k) : value_explicit.f k k0 a x o = some (if k0 = 2 then litV x else intV k0 a x) := by
  obtain ⟨k, rfl⟩ : ∃ m, k = m + 1 := ⟨k - 1, by omega⟩
  unfold value_explicit.f
  by_cases h2 : k0 = 2
  case neg => rw [if_neg h2, if_neg h2, int_go k0 a x o _ (by omega), Option.bind_some]
  have hx := hx h2
  have hes : (x.extract 2 x.size).size ≤ 255 := by rw [ByteArray.size_extract]; omega
  have p10 := parse_any 10 (.inl rfl) x (by omega) x.size 0 0 k (by omega) (by omega) (by omega)
  have p16 := parse_any 16 (.inr rfl) (x.extract 2 x.size) (by omega) (x.extract 2 x.size).size 0 0 k (by omega) (by omega) (by omega)
  have tt : oxB x = true → value_explicit.j0 (k + 1) true k0 a x o = some (litV x) := fun h => by
    have hs : 2 ≤ x.size := by unfold oxB at h; simp at h; exact h.1
    simp only [value_explicit.j0]
    rw [if_pos trivial, if_pos (by omega)]
    unfold value_parse.f litV
    rw [p16, if_pos h]
    rfl
  have ff : oxB x = false → value_explicit.j0 (k + 1) false k0 a x o = some (litV x) := fun h => by
    simp only [value_explicit.j0]
    rw [if_neg (by decide)]
    unfold value_parse.f litV
    rw [p10, if_neg (by rw [h]; decide)]
    rfl
  rw [if_pos h2, if_pos h2, prefix_val x 120, prefix_val x 88, Option.bind_some, Option.bind_some]
  have e120 : ((120 : UInt8).toNat : Int) = 120 := rfl
  have e88 : ((88 : UInt8).toNat : Int) = 88 := rfl
  rw [e120, e88]
  cases h1 : (decide (2 ≤ x.size) && (decide (bt x 0 = 48) && decide (bt x 1 = 120)))
  · rw [if_neg (by decide)]
    cases h3 : (decide (2 ≤ x.size) && (decide (bt x 0 = 48) && decide (bt x 1 = 88)))
    · refine ff ?_
      unfold oxB
      revert h1 h3
      cases decide (2 ≤ x.size) <;> cases decide (bt x 0 = 48) <;> cases decide (bt x 1 = 120) <;> cases decide (bt x 1 = 88) <;> simp
    · refine tt ?_
      unfold oxB
      revert h1 h3
      cases decide (2 ≤ x.size) <;> cases decide (bt x 0 = 48) <;> cases decide (bt x 1 = 120) <;> cases decide (bt x 1 = 88) <;> simp
  · rw [if_pos rfl]
    refine tt ?_
    unfold oxB
    revert h1
    cases decide (2 ≤ x.size) <;> cases decide (bt x 0 = 48) <;> cases decide (bt x 1 = 120) <;> cases decide (bt x 1 = 88) <;> simp
theorem explicit_ref (k0 a : Int) (x : ByteArray) (o : Int) (hx : k0 = 2 → x.size ≤ 255) (k : Nat) (hk : 600 ≤ k) : platformfwref08_explicit.f k k0 a x o = some (numV (if k0 = 2 then litV x else intV k0 a x)) := by
  obtain ⟨k, rfl⟩ : ∃ m, k = m + 2 := ⟨k - 2, by omega⟩
  unfold platformfwref08_explicit.f
  by_cases h2 : k0 = 2
  case neg =>
    rw [if_neg h2, if_neg h2, int_ref k0 a x o _ (by omega), Option.bind_some]
    unfold numV
    split <;> rfl
  have hx := hx h2
  have hes : (x.extract 2 x.size).size ≤ 255 := by rw [ByteArray.size_extract]; omega
  have p10 := explicit_loop 10 (.inl rfl) x (by omega) x.size 0 0 k (by omega) (by omega) (by omega)
  have p16 := explicit_loop 16 (.inr rfl) (x.extract 2 x.size) (by omega) (x.extract 2 x.size).size 0 0 k (by omega) (by omega) (by omega)
  have tt : oxB x = true → platformfwref08_explicit.j0 (k + 2) x 10 true = some (numV (litV x)) := fun h => by
    have hs : 2 ≤ x.size := by unfold oxB at h; simp at h; exact h.1
    rw [platformfwref08_explicit.j0, if_pos rfl, if_pos (by omega), platformfwref08_explicit.j1]
    unfold litV
    rw [p16, if_pos h]
  have ff : oxB x = false → platformfwref08_explicit.j0 (k + 2) x 10 false = some (numV (litV x)) := fun h => by
    rw [platformfwref08_explicit.j0, if_neg (by decide), platformfwref08_explicit.j1]
    unfold litV
    rw [p10, if_neg (by rw [h]; decide)]
  rw [if_pos h2, if_pos h2]
  by_cases hs : (x.size : Int) ≥ 2
  case neg => rw [if_neg hs]; exact ff (by unfold oxB; rw [decide_eq_false (by omega)]; rfl)
  rw [if_pos hs, if_pos (by omega)]
  have hd : decide (2 ≤ x.size) = true := decide_eq_true (by omega)
  by_cases h0 : bt x 0 = 48
  case neg => rw [if_neg h0]; exact ff (by unfold oxB; rw [decide_eq_false h0]; simp)
  rw [if_pos h0, if_pos (by omega)]
  by_cases h1 : bt x 1 = 120
  · rw [if_pos h1]
    exact tt (by unfold oxB; rw [hd, decide_eq_true h0, decide_eq_true h1]; rfl)
  rw [if_neg h1]
  by_cases h3 : bt x 1 = 88
  · rw [show (bt x 1 == 88) = true by simp [h3]]
    exact tt (by unfold oxB; rw [hd, decide_eq_true h0, decide_eq_true h3]; simp)
  · rw [show (bt x 1 == 88) = false by simp [h3]]
    exact ff (by unfold oxB; rw [decide_eq_false h1, decide_eq_false h3]; simp)
/-! ### numbers and buffers, written alike -/
/-- The m lowest digits of u in a base, as bytes, the highest first. -/
def rowUB (B m u : Nat) : List UInt8 := (rowB B m u).map hexUp
theorem rowUB_snoc (B m u : Nat) : rowUB B (m + 1) u = rowUB B m (u / B) ++ [hexUp (u % B)] := by unfold rowUB; rw [rowB_snoc, List.map_append]; rfl
theorem digits_exact (B : Nat) (hB : 2 ≤ B ∧ B ≤ 16) (L : Nat) (hL : L ≤ 16) : ∀ (m k u : Nat) (l : List UInt8), m ≤ 64 → u < B ^ m → u < 18446744073709551616 → (m = 0 ∨ B ^ (m - 1) ≤ u ∨ l.length < L) → (∀ j, j < m → j + 1 = m ∨ B ^ (m - 1 - j) ≤ u) → L ≤ l.length + m → l.length + m ≤ 100 → m < k →
    platformfwref08_digits.l0 k (u : Int) (B : Int) (L : Int) ⟨l.toArray⟩ = some ⟨(rowUB B m u ++ l).toArray⟩ := by
  intro m
  induction m with
  | zero =>
    intro k u l hm hu _ _ _ hLl hl hk
    obtain ⟨k, rfl⟩ : ∃ m, k = m + 1 := ⟨k - 1, by omega⟩
    have : u = 0 := by simpa using hu
    subst this
    simp only [platformfwref08_digits.l0]
    rw [if_neg (by decide), if_neg (by rw [size_mk]; omega)]
    simp [rowUB, rowB]
  | succ m ih =>
    intro k u l hm hu hub htop hmid hLl hl hk
    obtain ⟨k, rfl⟩ : ∃ m, k = m + 1 := ⟨k - 1, by omega⟩
    have hu' : u / B < B ^ m := by rw [Nat.div_lt_iff_lt_mul (by omega)]; rw [Nat.pow_succ] at hu; exact hu
    have hdu : u / B ≤ u := Nat.div_le_self _ _
    have hmod : u % B < B := Nat.mod_lt _ (by omega)
    have hm1 : Int.tmod (u : Int) (B : Int) = ((u % B : Nat) : Int) := by rw [Int.tmod_eq_emod_of_nonneg (by omega), Int.natCast_emod]
    have hq : Int.tdiv (u : Int) (B : Int) = ((u / B : Nat) : Int) := by rw [Int.tdiv_eq_ediv_of_nonneg (by omega), Int.natCast_ediv]
    have hx := cut_dig (u % B) (Nat.lt_of_lt_of_le hmod hB.2)
    have hn := ih k (u / B) (hexUp (u % B) :: l) (by omega) hu' (by omega) (by
        by_cases h0 : m = 0
        · exact .inl h0
        · right; left
          have := (hmid 0 (by omega)).resolve_left (by omega)
          rw [show m + 1 - 1 - 0 = (m - 1) + 1 by omega, Nat.pow_succ] at this
          exact (Nat.le_div_iff_mul_le (by omega)).2 this) (by
        intro j hj
        by_cases h0 : j + 1 = m
        · exact .inl h0
        · right
          have := (hmid j (by omega)).resolve_left (by omega)
          rw [show m + 1 - 1 - j = (m - 1 - j) + 1 by omega, Nat.pow_succ] at this
          exact (Nat.le_div_iff_mul_le (by omega)).2 this) (by simp; omega) (by simp; omega) (by omega)
    generalize hr : u % B = r at hmod hm1 hx hn
    generalize hqq : u / B = q at hdu hq hn
    have hw : IntKind.u64.wrap ((r : Int) + 1) = ((r + 1 : Nat) : Int) := by rw [wrap_u64_id (by omega) (by omega)]; omega
    have hwq : IntKind.u64.wrap ((q : Nat) : Int) = (q : Int) := wrap_u64_id (by omega) (by omega)
    have hB0 : ¬ ((B : Int) = 0) := by omega
    have body : (if (B : Int) = 0 then (none : Option ByteArray) else (if 0 ≤ (Int.tmod (u : Int) (B : Int)) then (if (Int.tmod (u : Int) (B : Int)) ≤ (IntKind.u64.wrap ((Int.tmod (u : Int) (B : Int)) + 1)) then (if (IntKind.u64.wrap ((Int.tmod (u : Int) (B : Int)) + 1)) ≤ 16 then (if ((⟨#[48, 49, 50, 51, 52, 53, 54, 55, 56, 57, 65, 66, 67, 68, 69, 70]⟩ : ByteArray).extract ((Int.tmod (u : Int) (B : Int)) : Int).toNat ((IntKind.u64.wrap ((Int.tmod (u : Int) (B : Int)) + 1)) : Int).toNat).size + (⟨l.toArray⟩ : ByteArray).size ≤ 9223372036854775807 then (platformfwref08_digits.l0 k (IntKind.u64.wrap (Int.tdiv (u : Int) (B : Int))) (B : Int) (L : Int) (((⟨#[48, 49, 50, 51, 52, 53, 54, 55, 56, 57, 65, 66, 67, 68, 69, 70]⟩ : ByteArray).extract ((Int.tmod (u : Int) (B : Int)) : Int).toNat ((IntKind.u64.wrap ((Int.tmod (u : Int) (B : Int)) + 1)) : Int).toNat) ++ (⟨l.toArray⟩ : ByteArray))) else (none)) else (none)) else (none)) else (none))) = some ⟨(rowUB B (m + 1) u ++ l).toArray⟩ := by
      rw [if_neg hB0, hm1, hw, hq, Int.toNat_natCast, Int.toNat_natCast, hx, if_pos (by omega), if_pos (by omega), if_pos (by omega), size_mk, size_mk, if_pos (by simp; omega), ba_append, hwq, List.singleton_append, hn, rowUB_snoc, hr, hqq, List.append_assoc]
      rfl
    simp only [platformfwref08_digits.l0]
    by_cases h0 : (u : Int) > 0
    · rw [if_pos h0]; exact body
    · rw [if_neg h0, if_pos (by
        rw [size_mk]
        rcases htop with h | h | h
        · omega
        · have : 0 < B ^ (m + 1 - 1) := Nat.pow_pos (by omega)
          omega
        · omega)]
      exact body
theorem dec_row (u : Nat) : decStr u = ⟨(rowUB 10 (Lib.nDigits u) u).toArray⟩ := by
  unfold decStr rowUB rowB
  rw [Lib.decDigits_eq, List.map_map]
  congr 2
  apply List.map_congr_left
  intro t _
  simp only [Function.comp, dg_up]
theorem nd_ge : ∀ (n u : Nat), u < n → 1 < Lib.nDigits u → 10 ^ (Lib.nDigits u - 1) ≤ u := by
  intro n
  induction n with
  | zero => intro u h; omega
  | succ n ih =>
    intro u h h1
    by_cases h10 : u < 10
    · rw [Lib.nDigits_small h10] at h1; omega
    · rw [Lib.nDigits_big h10]
      by_cases h2 : 1 < Lib.nDigits (u / 10)
      · have := ih (u / 10) (by omega) h2
        have e : Lib.nDigits (u / 10) + 1 - 1 = (Lib.nDigits (u / 10) - 1) + 1 := by omega
        rw [e, Nat.pow_succ]
        exact (Nat.le_div_iff_mul_le (by omega)).1 this
      · have := Lib.nDigits_pos (u / 10)
        have e : Lib.nDigits (u / 10) + 1 - 1 = 1 := by omega
        rw [e]; omega
theorem pow_mid (B m u : Nat) (hB : 2 ≤ B) (h : 1 < m → B ^ (m - 1) ≤ u) : ∀ j, j < m → j + 1 = m ∨ B ^ (m - 1 - j) ≤ u := by
  intro j hj
  by_cases h1 : j + 1 = m
  · exact .inl h1
  · exact .inr (Nat.le_trans (Nat.pow_le_pow_right (by omega) (by omega)) (h (by omega)))
theorem digits10 (u : Nat) (hu : u < 18446744073709551616) (k : Nat) (hk : 40 ≤ k) : platformfwref08_digits.f k (u : Int) 10 1 = some (decStr u) := by
  have hn := nd_le u hu
  have l3 := Lib.lt_pow_nDigits u
  have hg : 1 < Lib.nDigits u → 10 ^ (Lib.nDigits u - 1) ≤ u := nd_ge (u + 1) u (by omega)
  have := digits_exact 10 (by omega) 1 (by omega) (Lib.nDigits u) k u [] (by omega) l3 hu (.inr (.inr (by simp))) (pow_mid 10 _ u (by omega) hg) (by simp; omega) (by simp; omega) (by omega)
  rw [List.append_nil, ← dec_row] at this
  exact this
theorem rowUB16 (m u : Nat) : rowUB 16 m u = rowUp m u := by unfold rowUB rowB rowUp; rw [List.map_map]; rfl
theorem hexLen_ge (u : Nat) (h : 1 < hexLen u) : 16 ^ (hexLen u - 1) ≤ u := by
  unfold hexLen at h ⊢
  have e1 : ∀ n, (16 : Nat) ^ n = 2 ^ (4 * n) := fun n => by rw [show (16 : Nat) = 2 ^ 4 from rfl, ← Nat.pow_mul]
  by_cases h0 : u = 0
  · subst h0; revert h; decide
  · rw [e1]
    exact (Nat.le_log2 h0).1 (by omega)
theorem digits_h (u : Nat) (hu : u < 18446744073709551616) (k : Nat) (hk : 40 ≤ k) : platformfwref08_digits.f k (u : Int) 16 1 = some (upStr u) := by
  obtain ⟨l1, l2, l3⟩ := hexLen_le u hu
  have := digits_exact 16 (by omega) 1 (by omega) (hexLen u) k u [] (by omega) l3 hu (.inr (.inr (by simp))) (pow_mid 16 _ u (by omega) (hexLen_ge u)) (by simp; omega) (by simp; omega) (by omega)
  rw [List.append_nil, rowUB16] at this
  exact this
/-- What follows the first byte's digits. -/
def tailG (x sep front : ByteArray) (dig : Nat → ByteArray) (i : Nat) : ByteArray := ⟨(((bytesOf x).drop i).flatMap fun c => sep.data.toList ++ (front ++ dig c.toNat).data.toList).toArray⟩
theorem tailG_step (x sep front : ByteArray) (dig : Nat → ByteArray) (i : Nat) (h : i < x.size) : tailG x sep front dig i = (sep ++ (front ++ dig (bt x i).toNat)) ++ tailG x sep front dig (i + 1) := by
  unfold tailG
  have hl : i < (bytesOf x).length := by rw [B_size]; exact h
  rw [List.drop_eq_getElem_cons hl, List.flatMap_cons, ← ba_append, ← ba_append, bt_B, Int.toNat_natCast, getD_at _ _ hl]
theorem listG_go (x sep front : ByteArray) (base least : Int) (dig : Nat → ByteArray) (hx : x.size ≤ 255) (hs : sep.size ≤ 1) (hf : ∀ c, c < 256 → (front ++ dig c).size ≤ 4) (hd : ∀ c : Nat, c < 256 → ∀ k, 40 ≤ k → platformfwref08_digits.f k (c : Int) base least = some (dig c)) :
    ∀ (e : Nat) (i k : Nat) (out : ByteArray), i + e = x.size → 0 < i → e + 50 < k → out.size ≤ 5 * i →
    platformfwref08_list.l0 k x front sep base least out (i : Int) = some (out ++ tailG x sep front dig i) := by
  intro e
  induction e with
  | zero =>
    intro i k out hi h0 hk ho
    obtain ⟨k, rfl⟩ : ∃ m, k = m + 1 := ⟨k - 1, by omega⟩
    simp only [platformfwref08_list.l0]
    rw [if_neg (by omega)]
    have : tailG x sep front dig i = ByteArray.empty := by unfold tailG; rw [List.drop_of_length_le (by rw [B_size]; omega)]; rfl
    rw [this, ByteArray.append_empty]
  | succ e ih =>
    intro i k out hi h0 hk ho
    obtain ⟨k, rfl⟩ : ∃ m, k = m + 1 := ⟨k - 1, by omega⟩
    have hb := bt_range x i
    have hc : IntKind.u64.wrap (bt x (i : Int)) = (((bt x i).toNat : Nat) : Int) := by rw [wrap_u64_id hb.1 (by omega)]; omega
    have hz := hf (bt x i).toNat (by omega)
    have hz2 : (front ++ dig (bt x i).toNat).size = front.size + (dig (bt x i).toNat).size := ByteArray.size_append
    have hn := ih (i + 1) k ((out ++ sep) ++ (front ++ dig (bt x i).toNat)) (by omega) (by omega) (by omega) (by rw [ByteArray.size_append, ByteArray.size_append]; omega)
    simp only [platformfwref08_list.l0]
    rw [if_pos (by omega), if_pos (by omega), if_pos (by omega), if_pos (by omega), hc, hd _ (by omega) k (by omega), Option.bind_some, if_pos (by omega), if_pos (by omega), wrap64_id (by omega) (by omega), show (i : Int) + 1 = ((i + 1 : Nat) : Int) by omega, hn, tailG_step x sep front dig i (by omega)]
    congr 1
    rw [ByteArray.append_assoc, ByteArray.append_assoc, ByteArray.append_assoc (a := sep)]
theorem joinG_tail (x sep front : ByteArray) (dig : Nat → ByteArray) (h : 0 < x.size) : joinB ((bytesOf x).map fun c => front ++ dig c.toNat) sep = (front ++ dig (bt x 0).toNat) ++ tailG x sep front dig 1 := by
  have hl : 0 < (bytesOf x).length := by rw [B_size]; exact h
  have gen : ∀ (q : List UInt8) (l : List Int) (y : List UInt8), Lib.join (y :: l.map fun c => (front ++ dig c.toNat).data.toList) q = y ++ l.flatMap fun c => q ++ (front ++ dig c.toNat).data.toList := by
    intro q l
    induction l with
    | nil => intro y; simp [Lib.join_one]
    | cons c l ih =>
      intro y
      have h3 : ∀ (z : List UInt8) (r : List (List UInt8)), Lib.join (y :: z :: r) q = y ++ q ++ Lib.join (z :: r) q := fun z r => by simp [Lib.join, List.intercalate]
      rw [List.map_cons, h3, ih, List.flatMap_cons, List.append_assoc, List.append_assoc]
  unfold joinB
  obtain ⟨c, l, hcl⟩ : ∃ c l, bytesOf x = c :: l := by
    cases hb : bytesOf x with
    | nil => rw [hb] at hl; simp at hl
    | cons c l => exact ⟨c, l, rfl⟩
  have hbt : bt x 0 = c := by rw [bt_B, hcl]; rfl
  unfold tailG
  rw [hbt, hcl, List.map_cons, List.map_cons, List.map_map]
  have := gen sep.data.toList l (front ++ dig c.toNat).data.toList
  rw [show (List.map ((fun x : ByteArray => x.data.toList) ∘ fun c : Int => front ++ dig c.toNat) l) = l.map fun c => (front ++ dig c.toNat).data.toList from rfl, this, ← ba_append]
  rfl
theorem listG_all (x sep front : ByteArray) (base least : Int) (dig : Nat → ByteArray) (hx : x.size ≤ 255) (hs : sep.size ≤ 1) (hf : ∀ c, c < 256 → (front ++ dig c).size ≤ 4) (hd : ∀ c : Nat, c < 256 → ∀ k, 40 ≤ k → platformfwref08_digits.f k (c : Int) base least = some (dig c)) (k : Nat) (hk : 400 ≤ k) :
    platformfwref08_list.f k x front sep base least = some (joinB ((bytesOf x).map fun c => front ++ dig c.toNat) sep) := by
  obtain ⟨k, rfl⟩ : ∃ m, k = m + 1 := ⟨k - 1, by omega⟩
  unfold platformfwref08_list.f
  have z0 : (⟨#[]⟩ : ByteArray).size = 0 := rfl
  have ee : ∀ y : ByteArray, (⟨#[]⟩ : ByteArray) ++ y = y := fun y => ByteArray.empty_append
  by_cases h : 0 < x.size
  · have hb := bt_range x 0
    have hc : IntKind.u64.wrap (bt x (0 : Int)) = (((bt x 0).toNat : Nat) : Int) := by rw [wrap_u64_id hb.1 (by omega)]; omega
    have hz := hf (bt x 0).toNat (by omega)
    have hz2 : (front ++ dig (bt x 0).toNat).size = front.size + (dig (bt x 0).toNat).size := ByteArray.size_append
    simp only [platformfwref08_list.l0]
    rw [if_pos (by omega), if_neg (by decide), if_pos (by decide), hc, hd _ (by omega) k (by omega), Option.bind_some, if_pos (by omega), if_pos (by omega), wrap64_id (by omega) (by omega), show (0 : Int) + 1 = ((1 : Nat) : Int) from rfl, ee, listG_go x sep front base least dig hx hs hf hd (x.size - 1) 1 k _ (by omega) (by omega) (by omega) (by omega), joinG_tail x sep front dig h]
  · have h0 : x.size = 0 := by omega
    simp only [platformfwref08_list.l0]
    rw [if_neg (by omega)]
    have : bytesOf x = [] := by
      apply List.eq_nil_of_length_eq_zero
      rw [B_size, h0]
    rw [this]
    rfl
theorem awake08 : platformfwlaw08_awake.f 100 = some true := by decide +kernel
theorem awake08_at (k : Nat) (hk : 100 ≤ k) : platformfwlaw08_awake.f k = some true := at_rounds platformfwlaw08_awake.mono hk awake08
theorem mod_ex (v : Int) (n : Nat) (h0 : 0 < n) (h1 : n ≤ 1000) : ∃ m : Int, platformfwhelp_Mod.f v n = some m ∧ 0 ≤ m ∧ m < n := by
  unfold platformfwhelp_Mod.f
  have hw : IntKind.u64.wrap ((n : Nat) : Int) = n := wrap_u64_id (by omega) (by omega)
  have hv : 0 ≤ IntKind.u64.wrap v := by rw [wrap_u64]; omega
  have e : Int.tmod (IntKind.u64.wrap v) n = IntKind.u64.wrap v % n := Int.tmod_eq_emod_of_nonneg hv
  have h2 := Int.emod_nonneg (IntKind.u64.wrap v) (show (n : Int) ≠ 0 by omega)
  have h3 := Int.emod_lt_of_pos (IntKind.u64.wrap v) (show 0 < (n : Int) by omega)
  rw [hw, if_neg (by omega), e, wrap64_id (by omega) (by omega)]
  exact ⟨_, rfl, h2, h3⟩
theorem mn_rng (s : ByteArray) (n : Int) (h : 0 ≤ n) : 0 ≤ mn (s.size : Int) n ∧ mn (s.size : Int) n ≤ s.size ∧ mn (s.size : Int) n ≤ n := by unfold mn; split <;> omega
theorem some_ex (k0 a : Int) (x : ByteArray) (o : Int) (ha : 0 ≤ a ∧ a < 18446744073709551616) (k : Nat) (hk : 1 ≤ k) :
    ∃ r, platformfwlaw08_some.f k k0 a x o = some r ∧ 0 ≤ r.2.1 ∧ r.2.1 < 18446744073709551616 := by
  obtain ⟨k, rfl⟩ : ∃ m, k = m + 1 := ⟨k - 1, by omega⟩
  have zr : (0 : Int) ≤ 0 ∧ (0 : Int) < 18446744073709551616 := by decide
  obtain ⟨m, e0, m0, m1⟩ := mod_ex k0 9 (by omega) (by omega)
  obtain ⟨m8, e8, p0, p1⟩ := mod_ex o 8 (by omega) (by omega)
  obtain ⟨m7, e7, q0, q1⟩ := mod_ex o 7 (by omega) (by omega)
  obtain ⟨m2, e2, s0, s1⟩ := mod_ex o 2 (by omega) (by omega)
  have h24 := mn_rng x 24 (by omega)
  have h255 := mn_rng x 255 (by omega)
  have go : ∀ b, ∃ r, platformfwlaw08_some.j0 (k + 1) m b k0 a x o = some r ∧ 0 ≤ r.2.1 ∧ r.2.1 < 18446744073709551616 := by
    intro b
    simp only [platformfwlaw08_some.j0]
    cases b with
    | true => exact ⟨_, rfl, ha⟩
    | false =>
      rw [if_neg (by decide)]
      by_cases h2 : m = 2
      · rw [if_pos h2, if_pos h24.1, if_pos h24.2.1]; exact ⟨_, rfl, zr⟩
      rw [if_neg h2]
      by_cases h3 : m = 3
      · rw [if_pos h3, if_pos h24.1, if_pos h24.2.1]; exact ⟨_, rfl, zr⟩
      rw [if_neg h3]
      by_cases h4 : m = 4
      · rw [if_pos h4, Option.bind_some]
        rw [show ((([(⟨#[]⟩ : ByteArray), (⟨#[48]⟩ : ByteArray), (⟨#[48, 120, 49, 71]⟩ : ByteArray), (⟨#[70, 70, 70, 70, 70, 70, 70, 70, 70, 70, 70, 70, 70, 70, 70, 70, 70, 70]⟩ : ByteArray), (⟨#[49, 56, 52, 52, 54, 55, 52, 52, 48, 55, 51, 55, 48, 57, 53, 53, 49, 54, 49, 54]⟩ : ByteArray), (⟨#[49, 50, 97]⟩ : ByteArray), (⟨#[48, 88, 97, 66, 99]⟩ : ByteArray), (⟨#[57]⟩ : ByteArray)] : List ByteArray)).length : Int) = ((8 : Nat) : Int) from rfl, e8, Option.bind_some, if_pos p0, if_pos p1]
        exact ⟨_, rfl, zr⟩
      rw [if_neg h4]
      by_cases h5 : m = 5
      · rw [if_pos h5, show (7 : Int) = ((7 : Nat) : Int) from rfl, e7, Option.bind_some, if_pos h255.1, if_pos h255.2.1]; exact ⟨_, rfl, ha⟩
      rw [if_neg h5]
      by_cases h6 : m = 6
      · rw [if_pos h6, show (2 : Int) = ((2 : Nat) : Int) from rfl, e2, Option.bind_some, if_pos h255.1, if_pos h255.2.1]; exact ⟨_, rfl, zr⟩
      rw [if_neg h6]
      exact ⟨_, rfl, ha⟩
  unfold platformfwlaw08_some.f
  rw [show (9 : Int) = ((9 : Nat) : Int) from rfl, e0, Option.bind_some]
  split
  · exact go _
  · exact go _
theorem oxes_dig (x : ByteArray) : oxes x = (bytesOf x).map fun c => (⟨#[48, 120]⟩ : ByteArray) ++ hex2 c.toNat := rfl
theorem decs_dig (x : ByteArray) : decs x = (bytesOf x).map fun c => (⟨#[]⟩ : ByteArray) ++ decStr c.toNat := by
  unfold decs
  apply List.map_congr_left
  intro c _
  exact ByteArray.empty_append.symm
/-- A text as a value, if it is not too long. -/
def bndV (s : ByteArray) : Int × Int × ByteArray × Int × Int := if (s.size : Int) > 255 then (0, 0, ⟨#[]⟩, 0, 11) else (2, 0, s, 0, 0)
theorem bnd_ref (s : ByteArray) : ((platformfwref08_bounded.f s).bind fun bt286 => (if bt286.2 = 0 then (some (2, 0, bt286.1, 0, 0)) else (some ((0 : Int), (0 : Int), (⟨#[]⟩ : ByteArray), (0 : Int), bt286.2)))) = some (bndV s) := by
  rw [bounded_go, Option.bind_some]
  unfold bndV
  by_cases h : (s.size : Int) > 255
  · rw [if_pos h, if_pos h]; rfl
  · rw [if_neg h, if_neg h]; rfl
/-- What a value is as a written text. -/
def wrtV (k0 : Int) (x : ByteArray) (num buf : ByteArray) : Int × Int × ByteArray × Int × Int := if k0 = 1 then bndV num else if k0 = 3 then bndV buf else if k0 = 2 then bndV x else (0, 0, ⟨#[]⟩, 0, 10)
theorem h2_size (c : Nat) : (hex2 c).size = 2 := rfl
theorem written_h (k0 : Int) (u : Nat) (x : ByteArray) (o : Int) (hu : u < 18446744073709551616) (hx : k0 = 3 → x.size ≤ 255) (k : Nat) (hk : 500 ≤ k) :
    platformfwref08_written.f k k0 (u : Int) x o ⟨#[48, 120]⟩ 16 2 = some (wrtV k0 x (oxStr u) (joinB (oxes x) ⟨#[44]⟩)) := by
  obtain ⟨l1, l2, l3⟩ := hexLen_le u hu
  have hz := ox_size u
  have z2 : (⟨#[48, 120]⟩ : ByteArray).size = 2 := rfl
  unfold platformfwref08_written.f wrtV
  by_cases h1 : k0 = 1
  · rw [if_pos h1, if_pos h1, digits_h u hu k (by omega), Option.bind_some, if_pos (by rw [up_size]; omega)]
    exact bnd_ref _
  rw [if_neg h1, if_neg h1]
  by_cases h3 : k0 = 3
  · have hxx := hx h3
    rw [if_pos h3, if_pos h3, listG_all x ⟨#[44]⟩ ⟨#[48, 120]⟩ 16 2 hex2 hxx (by decide) (fun c _ => by rw [ByteArray.size_append, h2_size]; decide) (fun c hc k hk => digits2 c hc k (by omega)) k (by omega), Option.bind_some, oxes_dig]
    exact bnd_ref _
  rw [if_neg h3, if_neg h3]
  by_cases h2 : k0 = 2
  · rw [if_pos h2, if_pos h2]; exact bnd_ref _
  · rw [if_neg h2, if_neg h2]
theorem written_d (k0 : Int) (u : Nat) (x : ByteArray) (o : Int) (hu : u < 18446744073709551616) (hx : k0 = 3 → x.size ≤ 255) (k : Nat) (hk : 500 ≤ k) :
    platformfwref08_written.f k k0 (u : Int) x o ⟨#[]⟩ 10 1 = some (wrtV k0 x (decStr u) (joinB (decs x) ⟨#[44]⟩)) := by
  have hz := dec_size u
  have hn := nd_le u hu
  have z0 : (⟨#[]⟩ : ByteArray).size = 0 := rfl
  have ee : (⟨#[]⟩ : ByteArray) ++ decStr u = decStr u := ByteArray.empty_append
  unfold platformfwref08_written.f wrtV
  by_cases h1 : k0 = 1
  · rw [if_pos h1, if_pos h1, digits10 u hu k (by omega), Option.bind_some, if_pos (by omega), ee]
    exact bnd_ref _
  rw [if_neg h1, if_neg h1]
  by_cases h3 : k0 = 3
  · have hxx := hx h3
    rw [if_pos h3, if_pos h3, listG_all x ⟨#[44]⟩ ⟨#[]⟩ 10 1 decStr hxx (by decide) (fun c hc => by rw [ByteArray.size_append]; have := dec_size4 c hc; omega) (fun c hc k hk => digits10 c (by omega) k (by omega)) k (by omega), Option.bind_some, decs_dig]
    exact bnd_ref _
  rw [if_neg h3, if_neg h3]
  by_cases h2 : k0 = 2
  · rw [if_pos h2, if_pos h2]; exact bnd_ref _
  · rw [if_neg h2, if_neg h2]
theorem bndH (s : ByteArray) : YtdmeglmmihaonaaGreatDoor.PtextH.value_bytes.f 2 s = some (bndV s) := by unfold YtdmeglmmihaonaaGreatDoor.PtextH.value_bytes.f bndV; split <;> rfl
theorem bndD (s : ByteArray) : YtdmeglmmihaonaaGreatDoor.PtextD.value_bytes.f 2 s = some (bndV s) := by unfold YtdmeglmmihaonaaGreatDoor.PtextD.value_bytes.f bndV; split <;> rfl
theorem text_H (k0 : Int) (u : Nat) (x : ByteArray) (o : Int) (hu : u < 18446744073709551616) (hx : k0 = 3 → x.size ≤ 255) : value_text.f k0 (u : Int) x o 17 20 = some (wrtV k0 x (oxStr u) (joinB (oxes x) ⟨#[44]⟩)) := by
  obtain ⟨l1, l2, l3⟩ := hexLen_le u hu
  have hz := ox_size u
  unfold value_text.f
  rw [if_pos ⟨rfl, rfl⟩]
  unfold YtdmeglmmihaonaaGreatDoor.PtextH.value_text.f wrtV
  by_cases h1 : k0 = 1
  · unfold YtdmeglmmihaonaaGreatDoor.PtextH.value_Unary_1.f
    rw [if_pos h1, if_pos h1, fmt_h u hu, Option.bind_some, up_h u hu, Option.bind_some, up_size, if_pos (by omega), Option.bind_some, bndH, Option.bind_some]
    rfl
  rw [if_neg h1, if_neg h1]
  by_cases h3 : k0 = 3
  · have hxx := hx h3
    have e : value_eachN.f x (⟨#[44]⟩ : ByteArray) 20 = some (joinB (oxes x) ⟨#[44]⟩) := by unfold value_eachN.f; rw [if_pos ⟨hxx, by decide⟩, if_pos rfl]
    rw [if_pos h3, if_pos h3, e, Option.bind_some, bndH, Option.bind_some]
  rw [if_neg h3, if_neg h3]
  by_cases h2 : k0 = 2
  · rw [if_pos h2, if_pos h2, bndH, Option.bind_some]
  · rw [if_neg h2, if_neg h2]
theorem text_D (k0 : Int) (u : Nat) (x : ByteArray) (o : Int) (hu : u < 18446744073709551616) (hx : k0 = 3 → x.size ≤ 255) : value_text.f k0 (u : Int) x o 22 23 = some (wrtV k0 x (decStr u) (joinB (decs x) ⟨#[44]⟩)) := by
  unfold value_text.f
  rw [if_neg (by decide), if_pos ⟨rfl, rfl⟩]
  unfold YtdmeglmmihaonaaGreatDoor.PtextD.value_text.f wrtV
  by_cases h1 : k0 = 1
  · unfold YtdmeglmmihaonaaGreatDoor.PtextD.value_Unary_3.f
    rw [if_pos h1, if_pos h1, fmt_d u hu, Option.bind_some, Option.bind_some, bndD, Option.bind_some]
  rw [if_neg h1, if_neg h1]
  by_cases h3 : k0 = 3
  · have hxx := hx h3
    have e : value_eachN.f x (⟨#[44]⟩ : ByteArray) 23 = some (joinB (decs x) ⟨#[44]⟩) := by unfold value_eachN.f; rw [if_pos ⟨hxx, by decide⟩, if_neg (by decide), if_pos rfl]
    rw [if_pos h3, if_pos h3, e, Option.bind_some, bndD, Option.bind_some]
  rw [if_neg h3, if_neg h3]
  by_cases h2 : k0 = 2
  · rw [if_pos h2, if_pos h2, bndD, Option.bind_some]
  · rw [if_neg h2, if_neg h2]
theorem unary_ex (op k0 a : Int) (x : ByteArray) (o : Int) (ha : 0 ≤ a ∧ a < 18446744073709551616) (k : Nat) (hk : 700 ≤ k) :
    ∃ r, value_Unary.f k op k0 a x o = some r ∧ platformfwref08_Unary.f k op k0 a x o = some r := by
  obtain ⟨k, rfl⟩ : ∃ m, k = m + 1 := ⟨k - 1, by omega⟩
  obtain ⟨u, rfl⟩ := Int.eq_ofNat_of_zero_le ha.1
  have hu : u < 18446744073709551616 := by omega
  unfold value_Unary.f platformfwref08_Unary.f
  rw [valid_go, valid_ref, Option.bind_some, Option.bind_some]
  by_cases hv : vOK k0 x = true
  case neg => rw [if_neg hv, if_neg hv]; exact ⟨_, rfl, rfl⟩
  rw [if_pos hv, if_pos hv]
  have hx2 : k0 = 2 → x.size ≤ 255 := fun h => vOK_size hv (.inl h)
  have hx3 : k0 = 3 → x.size ≤ 255 := fun h => vOK_size hv (.inr h)
  by_cases h77 : op = 77
  · rw [if_pos h77, if_pos h77, show (op == 77) = true by simp [h77]]
    simp only [platformfwref08_Unary.j0]
    rw [if_pos trivial, int_go k0 u x o _ (by omega), int_ref k0 u x o k (by omega), Option.bind_some, Option.bind_some, number_val, Option.bind_some]
    generalize intV k0 u x = c
    refine ⟨numV (Go.bits .xor .u64 18446744073709551615 c.1, c.2), rfl, ?_⟩
    unfold numV
    by_cases hc : c.2 = 0
    · rw [if_pos hc, if_pos h77, if_pos hc]; rfl
    · rw [if_neg hc, if_neg hc]
  rw [if_neg h77, if_neg h77]
  by_cases h78 : op = 78
  · rw [if_pos h78, show (op == 78) = true by simp [h78]]
    simp only [platformfwref08_Unary.j0]
    rw [if_pos trivial, int_go k0 u x o _ (by omega), int_ref k0 u x o k (by omega), Option.bind_some, Option.bind_some]
    generalize intV k0 u x = c
    by_cases hc : c.2 = 0
    · rw [if_pos hc, if_pos hc, if_neg h77, bool_go, bool_ref]; exact ⟨_, rfl, rfl⟩
    · rw [if_neg hc, if_neg hc]; exact ⟨_, rfl, rfl⟩
  rw [if_neg h78, show (op == 78) = false by simp [h78]]
  simp only [platformfwref08_Unary.j0]
  rw [if_neg (show ¬ (false = true) by decide)]
  by_cases h79 : op = 79
  · rw [if_pos h79, if_pos h79]
    split
    · exact ⟨_, rfl, rfl⟩
    · split <;> exact ⟨_, rfl, rfl⟩
  rw [if_neg h79, if_neg h79]
  by_cases h80 : op = 80
  · rw [if_pos h80, if_pos h80, explicit_go k0 u x o hx2 _ (by omega), explicit_ref k0 u x o hx2 k (by omega), Option.bind_some, Option.bind_some, number_val, Option.bind_some]
    exact ⟨_, rfl, rfl⟩
  rw [if_neg h80, if_neg h80]
  by_cases h81 : op = 81
  · rw [if_pos h81, if_pos h81, conv_go k0 u x o 3 ha _ (by omega), conv_ref k0 u x o 3 ha k (by omega)]; exact ⟨_, rfl, rfl⟩
  rw [if_neg h81, if_neg h81]
  by_cases h82 : op = 82
  · rw [if_pos h82, if_pos h82, text_H k0 u x o hu hx3, written_h k0 u x o hu hx3 k (by omega)]; exact ⟨_, rfl, rfl⟩
  rw [if_neg h82, if_neg h82]
  by_cases h83 : op = 83
  · rw [if_pos h83, if_pos h83, text_D k0 u x o hu hx3, written_d k0 u x o hu hx3 k (by omega)]; exact ⟨_, rfl, rfl⟩
  rw [if_neg h83, if_neg h83]
  exact ⟨_, rfl, rfl⟩
theorem eq_selfU (r : Int × Int × ByteArray × Int × Int) : (!(r.1 == r.1) || (!(r.2.1 == r.2.1) || (!(r.2.2.1.toList == r.2.2.1.toList) || (!(r.2.2.2.1 == r.2.2.2.1))))) = false := by simp
theorem vu_step (op k0 a : Int) (x : ByteArray) (o i : Int) (hi : i < 3) (ha : 0 ≤ a ∧ a < 18446744073709551616) (k : Nat) (hk : 700 ≤ k) :
    ∃ m, 0 ≤ m ∧ m < 8 ∧ platformfwlaw08_ValueUnary.l0 (k + 2) op i k0 a x o = (if i = 0 then ((platformfwlaw08_some.f k k0 a x o).bind fun bt522 => (platformfwlaw08_ValueUnary.l0 k (wrap64 (77 + m)) (wrap64 (i + 1)) bt522.1 bt522.2.1 bt522.2.2.1 bt522.2.2.2)) else (platformfwlaw08_ValueUnary.l0 k (wrap64 (77 + m)) (wrap64 (i + 1)) k0 a x o)) := by
  obtain ⟨r, r1, r2⟩ := unary_ex op k0 a x o ha (k + 1) (by omega)
  obtain ⟨m, e0, m0, m1⟩ := mod_ex op 8 (by omega) (by omega)
  refine ⟨m, m0, m1, ?_⟩
  have st : platformfwlaw08_ValueUnary.l0 (k + 2) op i k0 a x o = platformfwlaw08_ValueUnary.j1 (k + 1) op i false k0 a x o := by
    rw [show k + 2 = (k + 1) + 1 from rfl, platformfwlaw08_ValueUnary.l0, if_pos hi, r1, Option.bind_some, r2, Option.bind_some, eq_selfU, if_neg (by decide), show (r.2.2.2.2 != r.2.2.2.2) = false by simp]
  rw [st, platformfwlaw08_ValueUnary.j1, if_neg (by decide), show (8 : Int) = ((8 : Nat) : Int) from rfl, e0, Option.bind_some]
theorem vu_all (op k0 a : Int) (x : ByteArray) (o : Int) (ha : 0 ≤ a ∧ a < 18446744073709551616) (k : Nat) (hk : 700 ≤ k) : platformfwlaw08_ValueUnary.f (k + 7) op k0 a x o = some true := by
  unfold platformfwlaw08_ValueUnary.f
  obtain ⟨m, m0, m1, e0⟩ := vu_step op k0 a x o 0 (by decide) ha (k + 5) (by omega)
  rw [show k + 7 = (k + 5) + 2 from rfl, e0, if_pos rfl]
  obtain ⟨r, r1, ra⟩ := some_ex k0 a x o ha (k + 5) (by omega)
  rw [r1, Option.bind_some, show wrap64 ((0 : Int) + 1) = 1 by unfold wrap64; omega]
  obtain ⟨n, n0, n1, e1⟩ := vu_step (wrap64 (77 + m)) r.1 r.2.1 r.2.2.1 r.2.2.2 1 (by decide) ra (k + 3) (by omega)
  rw [show k + 5 = (k + 3) + 2 from rfl, e1, if_neg (by decide), show wrap64 ((1 : Int) + 1) = 2 by unfold wrap64; omega]
  obtain ⟨p, p0, p1, e2⟩ := vu_step (wrap64 (77 + n)) r.1 r.2.1 r.2.2.1 r.2.2.2 2 (by decide) ra (k + 1) (by omega)
  rw [show k + 3 = (k + 1) + 2 from rfl, e2, if_neg (by decide), show wrap64 ((2 : Int) + 1) = 3 by unfold wrap64; omega, platformfwlaw08_ValueUnary.l0, if_neg (by decide), awake08_at k (by omega), Option.bind_some]
theorem ValueUnary : St.ValueUnary := by
  intro op a0 a1 a2 a3 _ _ w1 _ _
  exact ⟨707, vu_all op a0 a1 a2 a3 (wf_u64 w1) 700 (by omega)⟩
end Go.Proofs.YtdmeglmmihaonaaGreatDoor.Pure
