/- Exactly one of equal, less and greater holds of two values of a kind, and exchanging them exchanges the last two. -/
import Derived.Test.YtdmeglmmihaonaaDoorStValueComparison
import Derived.Test.YtdmeglmmihaonaaDoorBytes
import Derived.Test.YtdmeglmmihaonaaDoorExtP
namespace Go.Proofs.YtdmeglmmihaonaaDoor.Pure
open Go.RowKit Go.Proofs.YtdmeglmmihaonaaDoor.PValueComparison Go.Proofs.YtdmeglmmihaonaaDoorW.PrintWords Go.Proofs.YtdmeglmmihaonaaDoorW.PrintLast Go.Proofs.YtdmeglmmihaonaaDoorW.PrintMore Go.Proofs.YtdmeglmmihaonaaDoor.Plain
open Go.Proofs.YtdmeglmmihaonaaDoor.Ext
set_option linter.unusedVariables false
set_option linter.unusedSimpArgs false
/-! ### layer 8: values -/
/-- The eight bytes of a number. -/
def bytes8 (v : Int) : List Int := (List.range 8).map fun j : Nat => shr .u64 v (8 * (j : Int)) % 256
theorem eight_eq (v : Int) (k : Nat) (hk : 20 ≤ k) : value_eight.f k v = some (strOfNums (bytes8 v)) := by
  have loop : ∀ (e : Nat) (j : Nat) (q : Nat) (l : List Int), j + e = 8 → e < q → l = ((List.range j).map fun j : Nat => shr .u64 v (8 * (j : Int)) % 256) ++ List.replicate (8 - j) 0 → value_eight.l0 q v l 8 j = some (strOfNums (bytes8 v)) := by
    intro e
    induction e with
    | zero =>
      intro j q l hj hq hl
      obtain ⟨q, rfl⟩ : ∃ m, q = m + 1 := ⟨q - 1, by omega⟩
      obtain rfl : j = 8 := by omega
      simp only [value_eight.l0]; rw [if_neg (by omega), hl]; simp [bytes8]
    | succ e ih =>
      intro j q l hj hq hl
      obtain ⟨q, rfl⟩ : ∃ m, q = m + 1 := ⟨q - 1, by omega⟩
      have hlen : l.length = 8 := by rw [hl, List.length_append, List.length_map, List.length_range, List.length_replicate]; omega
      simp only [value_eight.l0]
      rw [if_pos (by omega), wrap64_id (a := 8 * (j : Int)) (by omega) (by omega), if_pos (by omega), if_pos (by omega), if_pos (by omega), wrap64_id (a := (j : Int) + 1) (by omega) (by omega), Int.toNat_natCast]
      refine ih (j + 1) q _ (by omega) (by omega) ?_
      have hx1 : ((List.range j).map fun j : Nat => shr .u64 v (8 * (j : Int)) % 256).length = j := by rw [List.length_map, List.length_range]
      rw [hl, List.set_append_right _ _ (by omega), hx1, Nat.sub_self, show 8 - j = (8 - (j + 1)) + 1 by omega, List.replicate_succ, List.set_cons_zero, List.range_succ, List.map_append]
      simp
  unfold value_eight.f
  rw [if_pos (by omega), Option.bind_some]
  exact loop 8 0 k _ (by omega) (by omega) (by simp)
theorem valids (k0 a : Int) (x : ByteArray) (o : Int) : value_Valid.f k0 a x o = platformfwref08_Valid.f k0 a x o := by
  unfold value_Valid.f platformfwref08_Valid.f
  by_cases h2 : k0 = 2
  · rw [if_pos h2, if_pos (by omega), if_pos (by omega), if_pos h2]
  · rw [if_neg h2]
    by_cases h3 : k0 = 3
    · rw [if_pos h3, if_pos (by omega), if_pos (by omega), if_neg h2, if_pos h3]
    · rw [if_neg h3]
      by_cases h0 : k0 ≥ 0
      · rw [if_pos h0, if_pos h0]
        by_cases h6 : k0 ≤ 6
        · rw [if_pos h6, if_neg h2, if_neg h3, decide_eq_true h6]
        · rw [if_neg h6, decide_eq_false h6]
      · rw [if_neg h0, if_neg h0]
/-- The number that the first e bytes from place i on make. -/
def lacc (x : ByteArray) : Nat → Int → Int → Int
  | 0, _, v => v
  | e + 1, i, v => lacc x e (i + 1) (Go.bits .or .u64 v (shl .u64 (IntKind.u64.wrap (bt x i)) (8 * i)))
theorem little_go (x : ByteArray) (k : Nat) (hk : 20 ≤ k) : value_little.f k x = some (lacc x (min x.size 8) 0 0) := by
  have hm : mn (x.size : Int) 8 = ((min x.size 8 : Nat) : Int) := by unfold mn; split <;> omega
  have l1 : ∀ (e : Nat) (j : Int) (q : Nat) (v : Int), 0 ≤ j → j + e = (min x.size 8 : Nat) → e < q → value_little.l0 q x v ((min x.size 8 : Nat) : Int) j = some (lacc x e j v) := by
    intro e
    induction e with
    | zero =>
      intro j q v h0 hj hq
      obtain ⟨q, rfl⟩ : ∃ m, q = m + 1 := ⟨q - 1, by omega⟩
      simp only [value_little.l0]; rw [if_neg (by omega)]; rfl
    | succ e ih =>
      intro j q v h0 hj hq
      obtain ⟨q, rfl⟩ : ∃ m, q = m + 1 := ⟨q - 1, by omega⟩
      simp only [value_little.l0, lacc]
      rw [if_pos (by omega), if_pos h0, if_pos (by omega), wrap64_id (a := 8 * j) (by omega) (by omega), if_pos (by omega), wrap64_id (a := j + 1) (by omega) (by omega)]
      exact ih (j + 1) q _ (by omega) (by omega) (by omega)
  unfold value_little.f
  rw [hm]
  exact l1 _ 0 k 0 (by omega) (by omega) (by omega)
/-- The value of a hexadecimal digit, or -1. -/
def hexv (c : Int) : Int := if 48 ≤ c ∧ c ≤ 57 then c - 48 else if 97 ≤ c ∧ c ≤ 102 then c - 87 else if 65 ≤ c ∧ c ≤ 70 then c - 55 else -1
theorem digit_go (c : Int) (h0 : 0 ≤ c) (h1 : c ≤ 255) (k : Nat) (hk : 1 ≤ k) : value_digit.f k c 16 = some (hexv c) := by
  obtain ⟨k, rfl⟩ : ∃ m, k = m + 1 := ⟨k - 1, by omega⟩
  obtain ⟨c, rfl⟩ := Int.eq_ofNat_of_zero_le h0
  have e1 : value_digit.f (k + 1) (c : Int) 16 = value_digit.f 1 (c : Int) 16 := by unfold value_digit.f; simp only [value_digit.j0]
  have all : ∀ c : Fin 256, value_digit.f 1 ((c.val : Nat) : Int) 16 = some (hexv ((c.val : Nat) : Int)) := by decide +kernel
  rw [e1]
  exact all ⟨c, by omega⟩
/-- The number that the leading hexadecimal digits make, e places from i on looked at. -/
def hacc (x : ByteArray) : Nat → Int → Int → Int
  | 0, _, v => v
  | e + 1, i, v => if hexv (bt x i) < 0 then v else hacc x e (i + 1) (Go.bits .or .u64 (IntKind.u64.wrap (v * 16)) (IntKind.u64.wrap (hexv (bt x i))))
theorem leading_go (x : ByteArray) (k : Nat) (hk : 30 ≤ k) : value_leading.f k x = some (hacc x (min x.size 16) 0 0) := by
  have hm : mn (x.size : Int) 16 = ((min x.size 16 : Nat) : Int) := by unfold mn; split <;> omega
  have l1 : ∀ (e : Nat) (j : Int) (q : Nat) (v : Int), 0 ≤ j → j + e = (min x.size 16 : Nat) → e + 2 < q → value_leading.l0 q x v ((min x.size 16 : Nat) : Int) j = some (hacc x e j v) := by
    intro e
    induction e with
    | zero =>
      intro j q v h0 hj hq
      obtain ⟨q, rfl⟩ : ∃ m, q = m + 1 := ⟨q - 1, by omega⟩
      simp only [value_leading.l0]; rw [if_neg (by omega)]; rfl
    | succ e ih =>
      intro j q v h0 hj hq
      obtain ⟨q, rfl⟩ : ∃ m, q = m + 1 := ⟨q - 1, by omega⟩
      have hb := bt_range x j
      simp only [value_leading.l0, hacc]
      rw [if_pos (by omega), if_pos h0, if_pos (by omega), digit_go _ hb.1 hb.2 q (by omega), Option.bind_some]
      by_cases hd : hexv (bt x j) < 0
      · rw [if_pos hd, if_pos hd]
      · rw [if_neg hd, if_neg hd, wrap64_id (a := j + 1) (by omega) (by omega)]
        exact ih (j + 1) q _ (by omega) (by omega) (by omega)
  unfold value_leading.f
  rw [hm]
  exact l1 _ 0 k 0 (by omega) (by omega) (by omega)
/-- Is a value valid. -/
def vOK (k0 : Int) (x : ByteArray) : Bool := if k0 = 2 then decide ((x.size : Int) ≤ 255) else if k0 = 3 then decide ((x.size : Int) ≤ 255) else if k0 ≥ 0 then decide (k0 ≤ 6) else false
theorem valid_go (k0 a : Int) (x : ByteArray) (o : Int) : value_Valid.f k0 a x o = some (vOK k0 x) := by
  unfold value_Valid.f vOK
  split <;> (try split) <;> (try split) <;> rfl
theorem valid_ref (k0 a : Int) (x : ByteArray) (o : Int) : platformfwref08_Valid.f k0 a x o = some (vOK k0 x) := by rw [← valids, valid_go]
/-- What a value is as an integer. -/
def intV (k0 a : Int) (x : ByteArray) : Int × Int :=
  if vOK k0 x = true then (if k0 = 1 then (a, 0) else if k0 = 2 then (hacc x (min x.size 16) 0 0, 0) else if k0 = 3 then (lacc x (min x.size 8) 0 0, 0) else (0, 10)) else (0, 1)
theorem int_go (k0 a : Int) (x : ByteArray) (o : Int) (k : Nat) (hk : 30 ≤ k) : value_Integer.f k k0 a x o = some (intV k0 a x) := by
  unfold value_Integer.f intV
  rw [valid_go, Option.bind_some, leading_go x k hk, little_go x k (by omega)]
  simp only [Option.bind_some]
  split <;> (try split) <;> (try split) <;> (try split) <;> rfl
theorem or_rng (x y : Int) : 0 ≤ Go.bits .or .u64 x y ∧ Go.bits .or .u64 x y < 18446744073709551616 := by
  unfold Go.bits
  rw [wrap_u64]
  omega
theorem lacc_rng (x : ByteArray) : ∀ (e : Nat) (i v : Int), 0 ≤ v ∧ v < 18446744073709551616 → 0 ≤ lacc x e i v ∧ lacc x e i v < 18446744073709551616
  | 0, _, _, h => h
  | e + 1, i, v, _ => lacc_rng x e _ _ (or_rng _ _)
theorem hacc_rng (x : ByteArray) : ∀ (e : Nat) (i v : Int), 0 ≤ v ∧ v < 18446744073709551616 → 0 ≤ hacc x e i v ∧ hacc x e i v < 18446744073709551616
  | 0, _, _, h => h
  | e + 1, i, v, h => by
    simp only [hacc]
    split
    · exact h
    · exact hacc_rng x e _ _ (or_rng _ _)
theorem intV_rng (k0 a : Int) (x : ByteArray) (ha : 0 ≤ a ∧ a < 18446744073709551616) : 0 ≤ (intV k0 a x).1 ∧ (intV k0 a x).1 < 18446744073709551616 := by
  unfold intV
  have h1 := hacc_rng x (min x.size 16) 0 0 (by omega)
  have h2 := lacc_rng x (min x.size 8) 0 0 (by omega)
  split <;> (try split) <;> (try split) <;> (try split) <;> first | exact ha | exact h1 | exact h2 | (constructor <;> decide)
/-- The m lowest hexadecimal digits of u, the highest first, in capitals. -/
def rowUp (m u : Nat) : List UInt8 := (List.range m).map fun t => hexUp (u / 16 ^ (m - 1 - t) % 16)
theorem rowUp_snoc (m u : Nat) : rowUp (m + 1) u = rowUp m (u / 16) ++ [hexUp (u % 16)] := by
  unfold rowUp
  rw [List.range_succ, List.map_append]
  congr 1
  · apply List.map_congr_left
    intro t ht
    have ht := List.mem_range.1 ht
    rw [Nat.div_div_eq_div_mul, show m + 1 - 1 - t = (m - 1 - t) + 1 by omega, Nat.pow_succ, Nat.mul_comm]
  · simp
theorem rowUp_pad (m d u : Nat) (h : u < 16 ^ m) : rowUp (m + d) u = List.replicate d 48 ++ rowUp m u := by
  apply List.ext_getElem
  · simp [rowUp]; omega
  · intro t h1 h2
    have h3 : t < m + d := by simpa [rowUp] using h1
    simp only [rowUp, List.getElem_map, List.getElem_range]
    by_cases ht : t < d
    · rw [List.getElem_append_left (by simpa using ht), List.getElem_replicate]
      have : u / 16 ^ (m + d - 1 - t) = 0 := Nat.div_eq_of_lt (Nat.lt_of_lt_of_le h (Nat.pow_le_pow_right (by decide) (by omega)))
      rw [this]; rfl
    · rw [List.getElem_append_right (by simp; omega)]
      simp only [List.length_replicate, List.getElem_map, List.getElem_range]
      rw [show m + d - 1 - t = m - 1 - (t - d) by omega]
theorem upper_dig (d : Nat) (h : d < 16) : Lib.upperB (hexDig d) = hexUp d := by
  have all : ∀ d : Fin 16, Lib.upperB (hexDig d.val) = hexUp d.val := by decide
  exact all ⟨d, h⟩
theorem dig_ascii (d : Nat) (h : d < 16) : (hexDig d).toNat < 128 := by
  have all : ∀ d : Fin 16, (hexDig d.val).toNat < 128 := by decide
  exact all ⟨d, h⟩
theorem upper_row (m u : Nat) : Lib.toUpperA (hexRow m u) = rowUp m u := by
  unfold Lib.toUpperA hexRow rowUp
  rw [List.map_map]
  apply List.map_congr_left
  intro t _
  exact upper_dig _ (Nat.mod_lt _ (by decide))
theorem row_ascii (m u : Nat) : (hexRow m u).all (fun b => decide (b.toNat < 128)) = true := by
  rw [List.all_eq_true]
  intro b hb
  obtain ⟨t, _, rfl⟩ := List.mem_map.1 hb
  exact decide_eq_true (dig_ascii _ (Nat.mod_lt _ (by decide)))
theorem hexLen_le (u : Nat) (h : u < 18446744073709551616) : 1 ≤ hexLen u ∧ hexLen u ≤ 16 ∧ u < 16 ^ hexLen u := by
  unfold hexLen
  have e1 : ∀ n, (16 : Nat) ^ n = 2 ^ (4 * n) := fun n => by rw [show (16 : Nat) = 2 ^ 4 from rfl, ← Nat.pow_mul]
  by_cases h0 : u = 0
  · subst h0
    refine ⟨by omega, by decide, by decide⟩
  · have h4 : Nat.log2 u < 64 := (Nat.log2_lt h0).2 h
    refine ⟨by omega, by omega, ?_⟩
    rw [e1]
    exact (Nat.log2_lt h0).1 (by omega)
def hex16 (u : Nat) : ByteArray := ⟨(rowUp 16 u).toArray⟩
theorem ba_append (a b : List UInt8) : (⟨a.toArray⟩ : ByteArray) ++ (⟨b.toArray⟩ : ByteArray) = ⟨(a ++ b).toArray⟩ := by
  apply ByteArray.ext
  rw [ByteArray.data_append]
  simp
theorem rep_list (n : Nat) : Lib.repeatL [48] n = List.replicate n (48 : UInt8) := by
  induction n with
  | zero => rfl
  | succ n ih => rw [List.replicate_succ, ← ih]; rfl
theorem size_mk (l : List UInt8) : (⟨l.toArray⟩ : ByteArray).size = l.length := List.size_toArray
/-- What a string of an integer comes to. -/
theorem str_int (a : Int) (h0 : 0 ≤ a) (h1 : a < 18446744073709551616) {β : Type} (f : ByteArray → Option β) :
    ((strconv_FormatUint.f a 16).bind fun t123 => ((strings_ToUpper.f t123).bind fun t124 => ((strings_Repeat.f (⟨#[48]⟩ : ByteArray) (wrap64 (16 - (t124.size : Int)))).bind fun t125 => (if t125.size + t124.size ≤ 9223372036854775807 then f (t125 ++ t124) else none)))) = f (hex16 a.toNat) := by
  obtain ⟨u, rfl⟩ := Int.eq_ofNat_of_zero_le h0
  obtain ⟨l1, l2, l3⟩ := hexLen_le u (by omega)
  have hz : (hexRow (hexLen u) u).length = hexLen u := by simp [hexRow]
  have e1 : strconv_FormatUint.f (u : Int) 16 = some (hexStr u) := by unfold strconv_FormatUint.f; rw [if_pos ⟨rfl, by omega, by omega⟩, Int.toNat_natCast]
  have hs : (hexStr u).size = hexLen u := (size_mk _).trans hz
  have e2 : strings_ToUpper.f (hexStr u) = some ⟨(rowUp (hexLen u) u).toArray⟩ := by
    unfold strings_ToUpper.f
    rw [if_pos ⟨by omega, row_ascii _ _⟩, ← upper_row]
    rfl
  have hr : (rowUp (hexLen u) u).length = hexLen u := by simp [rowUp]
  have hsz := (size_mk (rowUp (hexLen u) u)).trans hr
  have e3 : strings_Repeat.f (⟨#[48]⟩ : ByteArray) ((16 - hexLen u : Nat) : Int) = some ⟨(List.replicate (16 - hexLen u) (48 : UInt8)).toArray⟩ := by
    unfold strings_Repeat.f
    rw [if_pos ⟨by omega, by omega, by decide⟩, Int.toNat_natCast]
    unfold repB
    exact congrArg (fun l : List UInt8 => some (⟨l.toArray⟩ : ByteArray)) (rep_list _)
  have hr3 := (size_mk (List.replicate (16 - hexLen u) (48 : UInt8))).trans List.length_replicate
  rw [e1, Option.bind_some, e2, Option.bind_some, hsz, wrap64_id (by omega) (by omega), show (16 - (hexLen u : Int)) = ((16 - hexLen u : Nat) : Int) by omega, e3, Option.bind_some, hr3, if_pos (by omega), ba_append, ← rowUp_pad _ _ _ l3, show hexLen u + (16 - hexLen u) = 16 by omega, Int.toNat_natCast]
  rfl
/-- What a value is as a string. -/
def strV (k0 a : Int) (x : ByteArray) : ByteArray × Int :=
  if vOK k0 x = true then (if k0 = 1 then (hex16 a.toNat, 0) else if k0 = 2 then (x, 0) else if k0 = 3 then (if ((joinB (hexes x) ⟨#[32]⟩).size : Int) > 255 then (⟨#[]⟩, 11) else (joinB (hexes x) ⟨#[32]⟩, 0)) else (⟨#[]⟩, 10)) else (⟨#[]⟩, 1)
theorem hex16_size (u : Nat) : (hex16 u).size = 16 := by unfold hex16; rw [size_mk]; simp [rowUp]
theorem vOK_size {k0 : Int} {x : ByteArray} (h : vOK k0 x = true) (h2 : k0 = 2 ∨ k0 = 3) : x.size ≤ 255 := by
  unfold vOK at h
  rcases h2 with rfl | rfl
  · rw [if_pos rfl] at h; have := of_decide_eq_true h; omega
  · rw [if_neg (by decide), if_pos rfl] at h; have := of_decide_eq_true h; omega
theorem str_go (k0 a : Int) (x : ByteArray) (o : Int) (ha : 0 ≤ a ∧ a < 18446744073709551616) : value_String.f k0 a x o = some (strV k0 a x) := by
  unfold value_String.f strV
  rw [valid_go, Option.bind_some]
  by_cases hv : vOK k0 x = true
  case neg => rw [if_neg hv, if_neg hv]
  rw [if_pos hv, if_pos hv]
  by_cases h1 : k0 = 1
  · rw [if_pos h1, if_pos h1, str_int a ha.1 ha.2 (fun s => if (s.size : Int) > 255 then (some ((⟨#[]⟩ : ByteArray), (11 : Int))) else (some (s, 0))), if_neg (by rw [hex16_size]; decide)]
  rw [if_neg h1, if_neg h1]
  by_cases h2 : k0 = 2
  · have := vOK_size hv (.inl h2)
    rw [if_pos h2, if_pos h2, if_neg (by omega)]
  rw [if_neg h2, if_neg h2]
  by_cases h3 : k0 = 3
  · have := vOK_size hv (.inr h3)
    have e : value_each.f x (⟨#[32]⟩ : ByteArray) = some (joinB (hexes x) ⟨#[32]⟩) := by unfold value_each.f; rw [if_pos ⟨this, by decide⟩]
    rw [if_pos h3, if_pos h3, e, Option.bind_some]
    split <;> rfl
  rw [if_neg h3, if_neg h3]
/-- What a value is as a buffer. -/
def bufV (k0 a : Int) (x : ByteArray) : ByteArray × Int :=
  if vOK k0 x = true then (if k0 = 1 then (strOfNums (bytes8 a), 0) else if k0 = 2 then (if ((x ++ (⟨#[0]⟩ : ByteArray)).size : Int) > 255 then (⟨#[]⟩, 11) else (x ++ (⟨#[0]⟩ : ByteArray), 0)) else if k0 = 3 then (x, 0) else (⟨#[]⟩, 10)) else (⟨#[]⟩, 1)
theorem bytes8_size (a : Int) : (strOfNums (bytes8 a)).size = 8 := by rw [strOfNums_size']; simp [bytes8]
theorem buf_go (k0 a : Int) (x : ByteArray) (o : Int) (k : Nat) (hk : 20 ≤ k) : value_Buffer.f k k0 a x o = some (bufV k0 a x) := by
  unfold value_Buffer.f bufV
  rw [valid_go, Option.bind_some]
  by_cases hv : vOK k0 x = true
  case neg => rw [if_neg hv, if_neg hv]
  rw [if_pos hv, if_pos hv]
  by_cases h1 : k0 = 1
  · rw [if_pos h1, if_pos h1, eight_eq a k hk, Option.bind_some, bytes8_size, if_neg (by decide)]
  rw [if_neg h1, if_neg h1]
  by_cases h2 : k0 = 2
  · have := vOK_size hv (.inl h2)
    rw [if_pos h2, if_pos h2, if_pos (by omega)]
    split <;> rfl
  rw [if_neg h2, if_neg h2]
  by_cases h3 : k0 = 3
  · have := vOK_size hv (.inr h3)
    rw [if_pos h3, if_pos h3, if_neg (by omega)]
  rw [if_neg h3, if_neg h3]
/-- What a conversion comes to. -/
def convV (k0 a : Int) (x : ByteArray) (o kd : Int) : Int × Int × ByteArray × Int × Int :=
  if vOK k0 x = true then
    (if kd = 1 then (if (intV k0 a x).2 = 0 then (1, (intV k0 a x).1, ⟨#[]⟩, 0, 0) else (0, 0, ⟨#[]⟩, 0, (intV k0 a x).2))
     else if kd = 2 then (if (strV k0 a x).2 = 0 then (kd, 0, (strV k0 a x).1, 0, 0) else (0, 0, ⟨#[]⟩, 0, (strV k0 a x).2))
     else if kd = 3 then (if (bufV k0 a x).2 = 0 then (kd, 0, (bufV k0 a x).1, 0, 0) else (0, 0, ⟨#[]⟩, 0, (bufV k0 a x).2))
     else if k0 = kd then (if kd = 0 then (0, 0, ⟨#[]⟩, 0, 0) else (kd, 0, ⟨#[]⟩, o, 0)) else (0, 0, ⟨#[]⟩, 0, 10))
  else (0, 0, ⟨#[]⟩, 0, 1)
theorem conv_go (k0 a : Int) (x : ByteArray) (o kd : Int) (ha : 0 ≤ a ∧ a < 18446744073709551616) (k : Nat) (hk : 30 ≤ k) : value_Convert.f k k0 a x o kd = some (convV k0 a x o kd) := by
  unfold value_Convert.f convV
  rw [valid_go, Option.bind_some, int_go k0 a x o k hk, str_go k0 a x o ha, buf_go k0 a x o k (by omega)]
  simp only [Option.bind_some, value_integer.f, value_result.f]
  by_cases hv : vOK k0 x = true
  case neg => rw [if_neg hv, if_neg hv]
  rw [if_pos hv, if_pos hv]
  by_cases h1 : kd = 1
  · rw [if_pos h1, if_pos h1]; split <;> rfl
  rw [if_neg h1, if_neg h1]
  by_cases h2 : kd = 2
  · rw [if_pos h2, if_pos h2]; split <;> rfl
  rw [if_neg h2, if_neg h2]
  by_cases h3 : kd = 3
  · rw [if_pos h3, if_pos h3]; split <;> rfl
  rw [if_neg h3, if_neg h3]
  split
  · split <;> rfl
  · rfl
/-- What a conversion to an integer holds. -/
theorem convV_int (k0 a : Int) (x : ByteArray) (o kd : Int) (ha : 0 ≤ a ∧ a < 18446744073709551616) : 0 ≤ (convV k0 a x o kd).2.1 ∧ (convV k0 a x o kd).2.1 < 18446744073709551616 := by
  have hi := intV_rng k0 a x ha
  have zr : (0 : Int) ≤ 0 ∧ (0 : Int) < 18446744073709551616 := by decide
  unfold convV
  split <;> (try split) <;> (try split) <;> (try split) <;> (try split) <;> (try split) <;> first | exact hi | exact zr
theorem strV_size (k0 a : Int) (x : ByteArray) (h : (strV k0 a x).2 = 0) : (strV k0 a x).1.size ≤ 255 := by
  unfold strV at h ⊢
  by_cases hv : vOK k0 x = true
  case neg => rw [if_neg hv]; decide
  rw [if_pos hv] at h ⊢
  by_cases h1 : k0 = 1
  · rw [if_pos h1, hex16_size]; decide
  rw [if_neg h1] at h ⊢
  by_cases h2 : k0 = 2
  · rw [if_pos h2]; exact vOK_size hv (.inl h2)
  rw [if_neg h2] at h ⊢
  by_cases h3 : k0 = 3
  · rw [if_pos h3]; split
    · decide
    · show (joinB (hexes x) ⟨#[32]⟩).size ≤ 255; omega
  rw [if_neg h3]; decide
theorem bufV_size (k0 a : Int) (x : ByteArray) : (bufV k0 a x).1.size ≤ 255 := by
  unfold bufV
  by_cases hv : vOK k0 x = true
  case neg => rw [if_neg hv]; decide
  rw [if_pos hv]
  by_cases h1 : k0 = 1
  · rw [if_pos h1, bytes8_size]; decide
  rw [if_neg h1]
  by_cases h2 : k0 = 2
  · rw [if_pos h2]; split
    · decide
    · show (x ++ (⟨#[0]⟩ : ByteArray)).size ≤ 255; omega
  rw [if_neg h2]
  by_cases h3 : k0 = 3
  · rw [if_pos h3]; exact vOK_size hv (.inr h3)
  rw [if_neg h3]; decide
theorem convV_size (k0 a : Int) (x : ByteArray) (o kd : Int) : (convV k0 a x o kd).2.2.1.size ≤ 255 := by
  have hb := bufV_size k0 a x
  have e0 : (⟨#[]⟩ : ByteArray).size ≤ 255 := by decide
  unfold convV
  by_cases hv : vOK k0 x = true
  case neg => rw [if_neg hv]; exact e0
  rw [if_pos hv]
  by_cases h1 : kd = 1
  · rw [if_pos h1]; split <;> exact e0
  rw [if_neg h1]
  by_cases h2 : kd = 2
  · rw [if_pos h2]
    by_cases hs : (strV k0 a x).2 = 0
    · rw [if_pos hs]; exact strV_size k0 a x hs
    · rw [if_neg hs]; exact e0
  rw [if_neg h2]
  by_cases h3 : kd = 3
  · rw [if_pos h3]; split
    · exact hb
    · exact e0
  rw [if_neg h3]
  split
  · split <;> exact e0
  · exact e0
/-- A bool as a value. -/
def boolV (b : Bool) : Int × Int × ByteArray × Int := (1, if b = true then 18446744073709551615 else 0, ⟨#[]⟩, 0)
theorem bool_go (b : Bool) : value_boolean.f b = some (boolV b) := by cases b <;> rfl
theorem bool_ref (b : Bool) : platformfwref08_Bool.f b = some (boolV b) := by cases b <;> rfl
theorem cmp_less : ∀ x y : List UInt8, Lib.compareBytes x y = if Op.bytesLess x y = true then -1 else if Op.bytesLess y x = true then 1 else 0 := by
  intro x
  induction x with
  | nil => intro y; cases y <;> rfl
  | cons a x ih =>
    intro y
    cases y with
    | nil => rfl
    | cons b y =>
      simp only [Lib.compareBytes, Op.bytesLess]
      by_cases h1 : a < b
      · have h2 : ¬ b < a := by rw [UInt8.lt_iff_toNat_lt] at *; omega
        simp [h1, h2]
      · by_cases h2 : b < a
        · have h3 : a ≠ b := by intro e; rw [e, UInt8.lt_iff_toNat_lt] at h2; omega
          simp [h1, h2, h3]
        · have he : a = b := by rw [UInt8.lt_iff_toNat_lt] at h1 h2; exact UInt8.toNat_inj.1 (by omega)
          subst he
          simp [h1, ih]
theorem cmp_eq : ∀ x y : List UInt8, (Lib.compareBytes x y == 0) = (x == y) := by
  intro x
  induction x with
  | nil => intro y; cases y <;> rfl
  | cons a x ih =>
    intro y
    cases y with
    | nil => rfl
    | cons b y =>
      simp only [Lib.compareBytes, List.cons_beq_cons]
      by_cases h1 : a < b
      · have h3 : (a == b) = false := by rw [beq_eq_false_iff_ne]; intro e; rw [e, UInt8.lt_iff_toNat_lt] at h1; omega
        rw [if_pos h1, h3]; rfl
      · by_cases h2 : b < a
        · have h3 : (a == b) = false := by rw [beq_eq_false_iff_ne]; intro e; rw [e, UInt8.lt_iff_toNat_lt] at h2; omega
          rw [if_neg h1, if_pos h2, h3]; rfl
        · have he : a = b := by rw [UInt8.lt_iff_toNat_lt] at h1 h2; exact UInt8.toNat_inj.1 (by omega)
          subst he
          rw [if_neg h1, if_neg h1, ih]; simp
theorem less_asym : ∀ x y : List UInt8, Op.bytesLess x y = true → Op.bytesLess y x = false := by
  intro x
  induction x with
  | nil => intro y h; cases y <;> simp [Op.bytesLess] at *
  | cons a x ih =>
    intro y h
    cases y with
    | nil => simp [Op.bytesLess] at h
    | cons b y =>
      simp only [Op.bytesLess] at *
      by_cases h1 : a < b
      · have h2 : ¬ b < a := by rw [UInt8.lt_iff_toNat_lt] at *; omega
        have h3 : b ≠ a := by intro e; rw [e, UInt8.lt_iff_toNat_lt] at h1; omega
        simp [h2, h3]
      · by_cases h2 : b < a
        · have h3 : a ≠ b := by intro e; rw [e, UInt8.lt_iff_toNat_lt] at h2; omega
          simp [h1, h3] at h
        · simp [h1] at h
          simp [h2, h.1, ih y h.2]
theorem toL (s : ByteArray) : s.toList = s.data.toList := by
  have h1 := bytesOf_length s
  exact ByteArray.toList_eq s
/-- What the order of two values is. -/
def ordV (k0 a : Int) (x : ByteArray) (b : Int) (y : ByteArray) : Int := if k0 = 1 then (if a < b then -1 else if a > b then 1 else 0) else Lib.compareBytes x.data.toList y.data.toList
theorem order_go (k0 a : Int) (x : ByteArray) (o k1 b : Int) (y : ByteArray) (o1 : Int) : value_order.f k0 a x o k1 b y o1 = some (ordV k0 a x b y) := by
  unfold value_order.f ordV strings_Compare.f
  split
  · split
    · rfl
    · split <;> rfl
  · rfl
/-- What an operator on two values of one kind makes. -/
def pairV (op k0 a : Int) (x : ByteArray) (k1 b : Int) (y : ByteArray) (o1 : Int) : Int × Int × ByteArray × Int × Int :=
  if k0 = 1 ∨ k0 = 2 ∨ k0 = 3 then
    let c := convV k1 b y o1 k0
    if c.2.2.2.2 = 0 then
      (if op = 72 then ((boolV (ordV k0 a x c.2.1 c.2.2.1 == 0)).1, (boolV (ordV k0 a x c.2.1 c.2.2.1 == 0)).2.1, ⟨#[]⟩, 0, 0)
       else if op = 73 then ((boolV (decide (ordV k0 a x c.2.1 c.2.2.1 < 0))).1, (boolV (decide (ordV k0 a x c.2.1 c.2.2.1 < 0))).2.1, ⟨#[]⟩, 0, 0)
       else if op = 74 then ((boolV (decide (ordV k0 a x c.2.1 c.2.2.1 > 0))).1, (boolV (decide (ordV k0 a x c.2.1 c.2.2.1 > 0))).2.1, ⟨#[]⟩, 0, 0)
       else if k0 = 1 then (3, 0, strOfNums (bytes8 a) ++ strOfNums (bytes8 c.2.1), 0, 0)
       else if ((x ++ c.2.2.1).size : Int) > 255 then (0, 0, ⟨#[]⟩, 0, 11) else (k0, 0, x ++ c.2.2.1, 0, 0))
    else (0, 0, ⟨#[]⟩, 0, c.2.2.2.2)
  else (0, 0, ⟨#[]⟩, 0, 10)
theorem concat_go (k0 a : Int) (x : ByteArray) (o k1 b : Int) (y : ByteArray) (o1 : Int) (hx : k0 ≠ 1 → x.size ≤ 1000000) (hy : y.size ≤ 1000000) (k : Nat) (hk : 20 ≤ k) :
    value_concatenate.f k k0 a x o k1 b y o1 = some (if k0 = 1 then (3, 0, strOfNums (bytes8 a) ++ strOfNums (bytes8 b), 0, 0) else if ((x ++ y).size : Int) > 255 then (0, 0, ⟨#[]⟩, 0, 11) else (k0, 0, x ++ y, 0, 0)) := by
  unfold value_concatenate.f value_bytes.f
  by_cases h : k0 = 1
  · rw [if_pos h, if_pos h, eight_eq a k hk, Option.bind_some, eight_eq b k hk, Option.bind_some, bytes8_size, bytes8_size, if_pos (by omega), if_neg (by rw [ByteArray.size_append, bytes8_size, bytes8_size]; decide)]
    rfl
  · have := hx h
    rw [if_neg h, if_neg h, if_pos (by omega)]
    split <;> rfl
theorem matched_go (op k0 a : Int) (x : ByteArray) (o k1 b : Int) (y : ByteArray) (o1 : Int) (hx : k0 = 2 ∨ k0 = 3 → x.size ≤ 1000000) (hb : 0 ≤ b ∧ b < 18446744073709551616) (k : Nat) (hk : 40 ≤ k) :
    value_matched.f k op k0 a x o k1 b y o1 = some (pairV op k0 a x k1 b y o1) := by
  obtain ⟨k, rfl⟩ : ∃ m, k = m + 1 := ⟨k - 1, by omega⟩
  have hs := convV_size k1 b y o1 k0
  have go : (k0 ≠ 1 → x.size ≤ 1000000) → value_matched.j0 (k + 1) op false k0 a x o k1 b y o1 = some (let c := convV k1 b y o1 k0
    if c.2.2.2.2 = 0 then
      (if op = 72 then ((boolV (ordV k0 a x c.2.1 c.2.2.1 == 0)).1, (boolV (ordV k0 a x c.2.1 c.2.2.1 == 0)).2.1, ⟨#[]⟩, 0, 0)
       else if op = 73 then ((boolV (decide (ordV k0 a x c.2.1 c.2.2.1 < 0))).1, (boolV (decide (ordV k0 a x c.2.1 c.2.2.1 < 0))).2.1, ⟨#[]⟩, 0, 0)
       else if op = 74 then ((boolV (decide (ordV k0 a x c.2.1 c.2.2.1 > 0))).1, (boolV (decide (ordV k0 a x c.2.1 c.2.2.1 > 0))).2.1, ⟨#[]⟩, 0, 0)
       else if k0 = 1 then (3, 0, strOfNums (bytes8 a) ++ strOfNums (bytes8 c.2.1), 0, 0)
       else if ((x ++ c.2.2.1).size : Int) > 255 then (0, 0, ⟨#[]⟩, 0, 11) else (k0, 0, x ++ c.2.2.1, 0, 0))
    else (0, 0, ⟨#[]⟩, 0, c.2.2.2.2)) := by
    intro hx
    simp only [value_matched.j0]
    rw [if_neg (by decide), conv_go k1 b y o1 k0 hb k (by omega), Option.bind_some]
    generalize convV k1 b y o1 k0 = c at hs ⊢
    by_cases he : c.2.2.2.2 = 0
    case neg => rw [if_neg he, if_neg he]
    rw [if_pos he, if_pos he, order_go, Option.bind_some, bool_go, Option.bind_some, Option.bind_some, bool_go, Option.bind_some, Option.bind_some, bool_go, Option.bind_some, concat_go k0 a x o c.1 c.2.1 c.2.2.1 c.2.2.2.1 hx (by omega) k (by omega), Option.bind_some]
    by_cases h1 : op = 72
    · rw [if_pos h1, if_pos h1]; rfl
    rw [if_neg h1, if_neg h1]
    by_cases h2 : op = 73
    · rw [if_pos h2, if_pos h2]; rfl
    rw [if_neg h2, if_neg h2]
    by_cases h3 : op = 74
    · rw [if_pos h3, if_pos h3]; rfl
    rw [if_neg h3, if_neg h3]
  unfold value_matched.f pairV
  by_cases h1 : k0 = 1
  · rw [if_pos h1, if_pos (.inl h1), go (fun h => absurd h1 h)]
  rw [if_neg h1]
  by_cases h2 : k0 = 2
  · rw [if_pos h2, if_pos (.inr (.inl h2)), go (fun _ => hx (.inl h2))]
  rw [if_neg h2]
  by_cases h3 : k0 = 3
  · rw [if_pos (.inr (.inr h3)), show (k0 != 3) = false by simp [h3], go (fun _ => hx (.inr h3))]
  · rw [if_neg (by omega), show (k0 != 3) = true by simp [h3]]
    simp only [value_matched.j0]
    rw [if_pos trivial]
theorem awake08 : platformfwlaw08_awake.f 100 = some true := by decide +kernel
theorem awake08_at (k : Nat) (hk : 100 ≤ k) : platformfwlaw08_awake.f k = some true := at_rounds platformfwlaw08_awake.mono hk awake08
theorem mod_ex (v : Int) (n : Nat) (h0 : 0 < n) (h1 : n ≤ 1000) : ∃ m : Int, platformfwhelp_Mod.f v n = some m ∧ 0 ≤ m ∧ m < n := by
  unfold platformfwhelp_Mod.f
  have hw : IntKind.u64.wrap ((n : Nat) : Int) = n := wrap_u64_id (by omega) (by omega)
  have hv : 0 ≤ IntKind.u64.wrap v := by rw [wrap_u64]; omega
  have e : Int.tmod (IntKind.u64.wrap v) n = IntKind.u64.wrap v % n := Int.tmod_eq_emod_of_nonneg hv
  have h2 := Int.emod_nonneg (IntKind.u64.wrap v) (show (n : Int) ≠ 0 by omega)
  have h3 := Int.emod_lt_of_pos (IntKind.u64.wrap v) (show 0 < (n : Int) by omega)
  rw [hw, if_neg (by omega), e, wrap64_id (by omega) (by omega)]
  exact ⟨_, rfl, h2, h3⟩
theorem mn_rng (s : ByteArray) (n : Int) (h : 0 ≤ n) : 0 ≤ mn (s.size : Int) n ∧ mn (s.size : Int) n ≤ s.size ∧ mn (s.size : Int) n ≤ n := by unfold mn; split <;> omega
theorem some_ex (k0 a : Int) (x : ByteArray) (o : Int) (ha : 0 ≤ a ∧ a < 18446744073709551616) (k : Nat) (hk : 1 ≤ k) :
    ∃ r, platformfwlaw08_some.f k k0 a x o = some r ∧ 0 ≤ r.2.1 ∧ r.2.1 < 18446744073709551616 := by
  obtain ⟨k, rfl⟩ : ∃ m, k = m + 1 := ⟨k - 1, by omega⟩
  have zr : (0 : Int) ≤ 0 ∧ (0 : Int) < 18446744073709551616 := by decide
  obtain ⟨m, e0, m0, m1⟩ := mod_ex k0 9 (by omega) (by omega)
  obtain ⟨m8, e8, p0, p1⟩ := mod_ex o 8 (by omega) (by omega)
  obtain ⟨m7, e7, q0, q1⟩ := mod_ex o 7 (by omega) (by omega)
  obtain ⟨m2, e2, s0, s1⟩ := mod_ex o 2 (by omega) (by omega)
  have h24 := mn_rng x 24 (by omega)
  have h255 := mn_rng x 255 (by omega)
  have go : ∀ b, ∃ r, platformfwlaw08_some.j0 (k + 1) m b k0 a x o = some r ∧ 0 ≤ r.2.1 ∧ r.2.1 < 18446744073709551616 := by
    intro b
    simp only [platformfwlaw08_some.j0]
    cases b with
    | true => exact ⟨_, rfl, ha⟩
    | false =>
      rw [if_neg (by decide)]
      by_cases h2 : m = 2
      · rw [if_pos h2, if_pos h24.1, if_pos h24.2.1]; exact ⟨_, rfl, zr⟩
      rw [if_neg h2]
      by_cases h3 : m = 3
      · rw [if_pos h3, if_pos h24.1, if_pos h24.2.1]; exact ⟨_, rfl, zr⟩
      rw [if_neg h3]
      by_cases h4 : m = 4
      · rw [if_pos h4, Option.bind_some]
        rw [show ((([(⟨#[]⟩ : ByteArray), (⟨#[48]⟩ : ByteArray), (⟨#[48, 120, 49, 71]⟩ : ByteArray), (⟨#[70, 70, 70, 70, 70, 70, 70, 70, 70, 70, 70, 70, 70, 70, 70, 70, 70, 70]⟩ : ByteArray), (⟨#[49, 56, 52, 52, 54, 55, 52, 52, 48, 55, 51, 55, 48, 57, 53, 53, 49, 54, 49, 54]⟩ : ByteArray), (⟨#[49, 50, 97]⟩ : ByteArray), (⟨#[48, 88, 97, 66, 99]⟩ : ByteArray), (⟨#[57]⟩ : ByteArray)] : List ByteArray)).length : Int) = ((8 : Nat) : Int) from rfl, e8, Option.bind_some, if_pos p0, if_pos p1]
        exact ⟨_, rfl, zr⟩
      rw [if_neg h4]
      by_cases h5 : m = 5
      · rw [if_pos h5, show (7 : Int) = ((7 : Nat) : Int) from rfl, e7, Option.bind_some, if_pos h255.1, if_pos h255.2.1]; exact ⟨_, rfl, ha⟩
      rw [if_neg h5]
      by_cases h6 : m = 6
      · rw [if_pos h6, show (2 : Int) = ((2 : Nat) : Int) from rfl, e2, Option.bind_some, if_pos h255.1, if_pos h255.2.1]; exact ⟨_, rfl, zr⟩
      rw [if_neg h6]
      exact ⟨_, rfl, ha⟩
  unfold platformfwlaw08_some.f
  rw [show (9 : Int) = ((9 : Nat) : Int) from rfl, e0, Option.bind_some]
  split
  · exact go _
  · exact go _
/-- A bool as an element of the row. -/
def sv (v : Bool) : S24 := ⟨1, if v = true then 18446744073709551615 else 0, ⟨#[]⟩, 0⟩
theorem loop_step (v : Bool) (L : List S24) (hL : L.length = 3) (i : Nat) (hi : i < 3) (hr : rd_T24 L (i : Int) = sv v) (a b c n : Int) (g1 g2 : Int) (g3 : ByteArray) (g4 t1 t2 : Int) (t3 : ByteArray) (t4 : Int) (k : Nat) :
    platformfwlaw08_ValueComparison.l0 (k + 1) a b c n L 3 (i : Int) g1 g2 g3 g4 t1 t2 t3 t4 = platformfwlaw08_ValueComparison.l0 k a b c (if v = true then wrap64 (n + 1) else n) L 3 (wrap64 ((i : Int) + 1)) g1 g2 g3 g4 t1 t2 t3 t4 := by
  rw [platformfwlaw08_ValueComparison.l0, if_pos (by omega), if_pos (by omega), if_pos (by omega), hr, bool_ref, bool_ref, Option.bind_some, Option.bind_some]
  cases v with
  | true => rw [if_pos (by simp [sv, boolV]), if_pos rfl]
  | false => rw [if_neg (by simp [sv, boolV]), if_neg (by simp [sv, boolV]), if_neg (by decide)]
theorem cmp_loop (e l g : Bool) (h : (e = true ∧ l = false ∧ g = false) ∨ (e = false ∧ l = true ∧ g = false) ∨ (e = false ∧ l = false ∧ g = true)) (k : Nat) (hk : 200 ≤ k) :
    platformfwlaw08_ValueComparison.l0 k 0 0 0 0 [sv e, sv l, sv g] 3 0 (boolV g).1 (boolV g).2.1 ⟨#[]⟩ 0 (boolV g).1 (boolV g).2.1 ⟨#[]⟩ 0 = some true := by
  obtain ⟨k, rfl⟩ : ∃ m, k = m + 4 := ⟨k - 4, by omega⟩
  have w0 : wrap64 (((0 : Nat) : Int) + 1) = ((1 : Nat) : Int) := by unfold wrap64; omega
  have w1 : wrap64 (((1 : Nat) : Int) + 1) = ((2 : Nat) : Int) := by unfold wrap64; omega
  have w2 : wrap64 (((2 : Nat) : Int) + 1) = ((3 : Nat) : Int) := by unfold wrap64; omega
  have s0 := loop_step e [sv e, sv l, sv g] rfl 0 (by omega) rfl 0 0 0 0 (boolV g).1 (boolV g).2.1 ⟨#[]⟩ 0 (boolV g).1 (boolV g).2.1 ⟨#[]⟩ 0 (k + 3)
  have s1 := fun n => loop_step l [sv e, sv l, sv g] rfl 1 (by omega) rfl 0 0 0 n (boolV g).1 (boolV g).2.1 ⟨#[]⟩ 0 (boolV g).1 (boolV g).2.1 ⟨#[]⟩ 0 (k + 2)
  have s2 := fun n => loop_step g [sv e, sv l, sv g] rfl 2 (by omega) rfl 0 0 0 n (boolV g).1 (boolV g).2.1 ⟨#[]⟩ 0 (boolV g).1 (boolV g).2.1 ⟨#[]⟩ 0 (k + 1)
  rw [w0] at s0
  simp only [w1] at s1
  simp only [w2] at s2
  refine (s0.trans ((s1 _).trans (s2 _))).trans ?_
  have one : (if g = true then wrap64 ((if l = true then wrap64 ((if e = true then wrap64 ((0 : Int) + 1) else (0 : Int)) + 1) else (if e = true then wrap64 ((0 : Int) + 1) else (0 : Int))) + 1) else (if l = true then wrap64 ((if e = true then wrap64 ((0 : Int) + 1) else (0 : Int)) + 1) else (if e = true then wrap64 ((0 : Int) + 1) else (0 : Int)))) = 1 := by
    rcases h with ⟨rfl, rfl, rfl⟩ | ⟨rfl, rfl, rfl⟩ | ⟨rfl, rfl, rfl⟩ <;> simp [wrap64]
  rw [one, platformfwlaw08_ValueComparison.l0, if_neg (by decide), awake08_at k (by omega), Option.bind_some, if_pos rfl, if_pos rfl, if_pos rfl, if_pos rfl, if_pos rfl]
  simp
theorem conv_same (k0 b : Int) (y : ByteArray) (o : Int) (hk : k0 = 1 ∨ k0 = 2 ∨ k0 = 3) (hv : vOK k0 y = true) : (convV k0 b y o k0).2.2.2.2 = 0 ∧ (k0 = 1 → (convV k0 b y o k0).2.1 = b) ∧ (k0 ≠ 1 → (convV k0 b y o k0).2.2.1 = y) := by
  unfold convV
  rw [if_pos hv]
  rcases hk with rfl | rfl | rfl
  · have e : intV 1 b y = (b, 0) := by unfold intV; rw [if_pos hv]; rfl
    rw [if_pos rfl, e]
    exact ⟨rfl, fun _ => rfl, fun h => absurd rfl h⟩
  · have e : strV 2 b y = (y, 0) := by unfold strV; rw [if_pos hv]; rfl
    rw [if_neg (by decide), if_pos rfl, e]
    exact ⟨rfl, fun h => absurd h (by decide), fun _ => rfl⟩
  · have e : bufV 3 b y = (y, 0) := by unfold bufV; rw [if_pos hv]; rfl
    rw [if_neg (by decide), if_neg (by decide), if_pos rfl, e]
    exact ⟨rfl, fun h => absurd h (by decide), fun _ => rfl⟩
theorem cmp_go (op k0 a : Int) (x : ByteArray) (o b : Int) (y : ByteArray) (o1 : Int) (hop : op = 72 ∨ op = 73 ∨ op = 74) (hk0 : k0 = 1 ∨ k0 = 2 ∨ k0 = 3) (hv : vOK k0 x = true) (hw : vOK k0 y = true) (hb : 0 ≤ b ∧ b < 18446744073709551616) (k : Nat) (hk : 100 ≤ k) :
    value_Binary.f k op k0 a x o k0 b y o1 = some ((boolV (if op = 72 then ordV k0 a x b y == 0 else if op = 73 then decide (ordV k0 a x b y < 0) else decide (ordV k0 a x b y > 0))).1, (boolV (if op = 72 then ordV k0 a x b y == 0 else if op = 73 then decide (ordV k0 a x b y < 0) else decide (ordV k0 a x b y > 0))).2.1, ⟨#[]⟩, 0, 0) := by
  obtain ⟨k, rfl⟩ : ∃ m, k = m + 1 := ⟨k - 1, by omega⟩
  obtain ⟨c1, c2, c3⟩ := conv_same k0 b y o1 hk0 hw
  have eo : ordV k0 a x (convV k0 b y o1 k0).2.1 (convV k0 b y o1 k0).2.2.1 = ordV k0 a x b y := by
    unfold ordV
    by_cases h1 : k0 = 1
    · rw [if_pos h1, if_pos h1, c2 h1]
    · rw [if_neg h1, if_neg h1, c3 h1]
  unfold value_Binary.f
  rw [valid_go, valid_go, hv, hw, Option.bind_some, if_pos rfl, Option.bind_some, if_pos rfl, if_neg (by omega), decide_eq_false (by omega)]
  simp only [value_Binary.j0]
  rw [if_neg (by decide), if_pos (by omega), matched_go op k0 a x o k0 b y o1 (fun h => Nat.le_trans (vOK_size hv h) (by decide)) hb k (by omega), Option.bind_some]
  unfold pairV
  rw [if_pos hk0]
  simp only
  rw [if_pos c1, eo]
  rcases hop with rfl | rfl | rfl
  · rw [if_pos rfl, if_pos rfl]
  · rw [if_neg (by decide), if_pos rfl, if_neg (by decide), if_pos rfl]
  · rw [if_neg (by decide), if_neg (by decide), if_pos rfl, if_neg (by decide), if_neg (by decide)]
theorem ord_swap (k0 a : Int) (x : ByteArray) (b : Int) (y : ByteArray) : decide (ordV k0 b y a x < 0) = decide (ordV k0 a x b y > 0) := by
  unfold ordV
  by_cases h1 : k0 = 1
  · rw [if_pos h1, if_pos h1, decide_eq_decide]
    split <;> split <;> (try split) <;> (try split) <;> omega
  · rw [if_neg h1, if_neg h1, cmp_less, cmp_less, decide_eq_decide]
    cases h2 : Op.bytesLess x.data.toList y.data.toList
    · cases h3 : Op.bytesLess y.data.toList x.data.toList <;> simp
    · rw [less_asym _ _ h2]; simp
theorem ValueComparison : St.ValueComparison := by
  intro a0 a1 a2 a3 b0 b1 b2 b3 kd _ wa _ _ _ wb _ _ wk
  have ha := wf_u64 wa
  have hb := wf_u64 wb
  have hkd := wf_u8 wk
  refine ⟨500, ?_⟩
  obtain ⟨r, r1, ra⟩ := some_ex a0 a1 a2 a3 ha 500 (by omega)
  obtain ⟨s, s1, sb⟩ := some_ex b0 b1 b2 b3 hb 500 (by omega)
  have e : Int.tmod kd 3 = kd % 3 := Int.tmod_eq_emod_of_nonneg hkd.1
  obtain ⟨k0, ek, hk0⟩ : ∃ k0 : Int, wrap64 (1 + (wrap64 (Int.tmod kd 3))) = k0 ∧ (k0 = 1 ∨ k0 = 2 ∨ k0 = 3) := by
    refine ⟨1 + kd % 3, by rw [e, wrap64_id (a := kd % 3) (by omega) (by omega)]; exact wrap64_id (by omega) (by omega), by omega⟩
  have away : ∀ p1 p2 p3 p4 p5 p6 p7 p8, platformfwlaw08_ValueComparison.j0 500 true p1 p2 p3 p4 p5 p6 p7 p8 = some true := fun p1 p2 p3 p4 p5 p6 p7 p8 => by
    rw [show 500 = 499 + 1 from rfl, platformfwlaw08_ValueComparison.j0, if_pos rfl, awake08_at 499 (by omega), Option.bind_some]
  unfold platformfwlaw08_ValueComparison.f
  rw [r1, Option.bind_some, s1, Option.bind_some, ek, valid_ref, Option.bind_some]
  by_cases hv : vOK k0 r.2.2.1 = true
  case neg => rw [if_neg hv]; exact away _ _ _ _ _ _ _ _
  rw [if_pos hv, valid_ref, Option.bind_some]
  by_cases hw : vOK k0 s.2.2.1 = true
  case neg => rw [Bool.not_eq_true] at hw; rw [hw]; exact away _ _ _ _ _ _ _ _
  rw [hw, show (!true) = false from rfl, show 500 = 499 + 1 from rfl, platformfwlaw08_ValueComparison.j0, if_neg (by decide)]
  rw [cmp_go 72 k0 r.2.1 r.2.2.1 r.2.2.2 s.2.1 s.2.2.1 s.2.2.2 (.inl rfl) hk0 hv hw sb 499 (by omega), Option.bind_some, cmp_go 73 k0 r.2.1 r.2.2.1 r.2.2.2 s.2.1 s.2.2.1 s.2.2.2 (.inr (.inl rfl)) hk0 hv hw sb 499 (by omega), Option.bind_some, cmp_go 74 k0 r.2.1 r.2.2.1 r.2.2.2 s.2.1 s.2.2.1 s.2.2.2 (.inr (.inr rfl)) hk0 hv hw sb 499 (by omega), Option.bind_some, cmp_go 73 k0 s.2.1 s.2.2.1 s.2.2.2 r.2.1 r.2.2.1 r.2.2.2 (.inr (.inl rfl)) hk0 hw hv ra 499 (by omega), Option.bind_some, Option.bind_some]
  rw [if_pos rfl, if_neg (by decide), if_pos rfl, if_neg (by decide), if_neg (by decide), if_neg (by decide), if_pos rfl, ord_swap k0 r.2.1 r.2.2.1 s.2.1 s.2.2.1]
  refine cmp_loop (ordV k0 r.2.1 r.2.2.1 s.2.1 s.2.2.1 == 0) (decide (ordV k0 r.2.1 r.2.2.1 s.2.1 s.2.2.1 < 0)) (decide (ordV k0 r.2.1 r.2.2.1 s.2.1 s.2.2.1 > 0)) ?_ 499 (by omega)
  generalize ordV k0 r.2.1 r.2.2.1 s.2.1 s.2.2.1 = c
  rcases Int.lt_trichotomy c 0 with h | h | h
  · right; left; refine ⟨by simp; omega, by simp; omega, by simp; omega⟩
  · left; subst h; refine ⟨by simp, by simp, by simp⟩
  · right; right; refine ⟨by simp; omega, by simp; omega, by simp; omega⟩
end Go.Proofs.YtdmeglmmihaonaaDoor.Pure
