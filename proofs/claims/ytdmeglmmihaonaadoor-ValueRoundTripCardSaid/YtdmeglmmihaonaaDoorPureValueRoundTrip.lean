/- Converting an integer to a buffer or a string and back returns the integer; the explicit conversions invert each other. -/
import Derived.Test.YtdmeglmmihaonaaDoorStValueRoundTrip
import Derived.Test.YtdmeglmmihaonaaDoorBytes
import Derived.Test.YtdmeglmmihaonaaDoorExtS
namespace Go.Proofs.YtdmeglmmihaonaaDoor.Pure
open Go.RowKit Go.Proofs.YtdmeglmmihaonaaDoor.PValueRoundTrip Go.Proofs.YtdmeglmmihaonaaDoorW.PrintWords Go.Proofs.YtdmeglmmihaonaaDoorW.PrintLast Go.Proofs.YtdmeglmmihaonaaDoorW.PrintMore Go.Proofs.YtdmeglmmihaonaaDoor.Plain
open Go.Proofs.YtdmeglmmihaonaaDoor.Ext
set_option linter.unusedVariables false
set_option linter.unusedSimpArgs false
/-! ### layer 8: values -/
/-- The eight bytes of a number. -/
def bytes8 (v : Int) : List Int := (List.range 8).map fun j : Nat => shr .u64 v (8 * (j : Int)) % 256
theorem eight_eq (v : Int) (k : Nat) (hk : 20 ≤ k) : value_eight.f k v = some (strOfNums (bytes8 v)) := by
  have loop : ∀ (e : Nat) (j : Nat) (q : Nat) (l : List Int), j + e = 8 → e < q → l = ((List.range j).map fun j : Nat => shr .u64 v (8 * (j : Int)) % 256) ++ List.replicate (8 - j) 0 → value_eight.l0 q v l 8 j = some (strOfNums (bytes8 v)) := by
    intro e
    induction e with
    | zero =>
      intro j q l hj hq hl
      obtain ⟨q, rfl⟩ : ∃ m, q = m + 1 := ⟨q - 1, by omega⟩
      obtain rfl : j = 8 := by omega
      simp only [value_eight.l0]; rw [if_neg (by omega), hl]; simp [bytes8]
    | succ e ih =>
      intro j q l hj hq hl
      obtain ⟨q, rfl⟩ : ∃ m, q = m + 1 := ⟨q - 1, by omega⟩
      have hlen : l.length = 8 := by rw [hl, List.length_append, List.length_map, List.length_range, List.length_replicate]; omega
      simp only [value_eight.l0]
      rw [if_pos (by omega), wrap64_id (a := 8 * (j : Int)) (by omega) (by omega), if_pos (by omega), if_pos (by omega), if_pos (by omega), wrap64_id (a := (j : Int) + 1) (by omega) (by omega), Int.toNat_natCast]
      refine ih (j + 1) q _ (by omega) (by omega) ?_
      have hx1 : ((List.range j).map fun j : Nat => shr .u64 v (8 * (j : Int)) % 256).length = j := by rw [List.length_map, List.length_range]
      rw [hl, List.set_append_right _ _ (by omega), hx1, Nat.sub_self, show 8 - j = (8 - (j + 1)) + 1 by omega, List.replicate_succ, List.set_cons_zero, List.range_succ, List.map_append]
      simp
  unfold value_eight.f
  rw [if_pos (by omega), Option.bind_some]
  exact loop 8 0 k _ (by omega) (by omega) (by simp)
/-- The number that the first e bytes from place i on make. -/
def lacc (x : ByteArray) : Nat → Int → Int → Int
  | 0, _, v => v
  | e + 1, i, v => lacc x e (i + 1) (Go.bits .or .u64 v (shl .u64 (IntKind.u64.wrap (bt x i)) (8 * i)))
theorem little_go (x : ByteArray) (k : Nat) (hk : 20 ≤ k) : value_little.f k x = some (lacc x (min x.size 8) 0 0) := by
  have hm : mn (x.size : Int) 8 = ((min x.size 8 : Nat) : Int) := by unfold mn; split <;> omega
  have l1 : ∀ (e : Nat) (j : Int) (q : Nat) (v : Int), 0 ≤ j → j + e = (min x.size 8 : Nat) → e < q → value_little.l0 q x v ((min x.size 8 : Nat) : Int) j = some (lacc x e j v) := by
    intro e
    induction e with
    | zero =>
      intro j q v h0 hj hq
      obtain ⟨q, rfl⟩ : ∃ m, q = m + 1 := ⟨q - 1, by omega⟩
      simp only [value_little.l0]; rw [if_neg (by omega)]; rfl
    | succ e ih =>
      intro j q v h0 hj hq
      obtain ⟨q, rfl⟩ : ∃ m, q = m + 1 := ⟨q - 1, by omega⟩
      simp only [value_little.l0, lacc]
      rw [if_pos (by omega), if_pos h0, if_pos (by omega), wrap64_id (a := 8 * j) (by omega) (by omega), if_pos (by omega), wrap64_id (a := j + 1) (by omega) (by omega)]
      exact ih (j + 1) q _ (by omega) (by omega) (by omega)
  unfold value_little.f
  rw [hm]
  exact l1 _ 0 k 0 (by omega) (by omega) (by omega)
/-- The value of a hexadecimal digit, or -1. -/
def hexv (c : Int) : Int := if 48 ≤ c ∧ c ≤ 57 then c - 48 else if 97 ≤ c ∧ c ≤ 102 then c - 87 else if 65 ≤ c ∧ c ≤ 70 then c - 55 else -1
theorem digit_go (c : Int) (h0 : 0 ≤ c) (h1 : c ≤ 255) (k : Nat) (hk : 1 ≤ k) : value_digit.f k c 16 = some (hexv c) := by
  obtain ⟨k, rfl⟩ : ∃ m, k = m + 1 := ⟨k - 1, by omega⟩
  obtain ⟨c, rfl⟩ := Int.eq_ofNat_of_zero_le h0
  have e1 : value_digit.f (k + 1) (c : Int) 16 = value_digit.f 1 (c : Int) 16 := by unfold value_digit.f; simp only [value_digit.j0]
  have all : ∀ c : Fin 256, value_digit.f 1 ((c.val : Nat) : Int) 16 = some (hexv ((c.val : Nat) : Int)) := by decide +kernel
  rw [e1]
  exact all ⟨c, by omega⟩
/-- The number that the leading hexadecimal digits make, e places from i on looked at. -/
def hacc (x : ByteArray) : Nat → Int → Int → Int
  | 0, _, v => v
  | e + 1, i, v => if hexv (bt x i) < 0 then v else hacc x e (i + 1) (Go.bits .or .u64 (IntKind.u64.wrap (v * 16)) (IntKind.u64.wrap (hexv (bt x i))))
theorem leading_go (x : ByteArray) (k : Nat) (hk : 30 ≤ k) : value_leading.f k x = some (hacc x (min x.size 16) 0 0) := by
  have hm : mn (x.size : Int) 16 = ((min x.size 16 : Nat) : Int) := by unfold mn; split <;> omega
  have l1 : ∀ (e : Nat) (j : Int) (q : Nat) (v : Int), 0 ≤ j → j + e = (min x.size 16 : Nat) → e + 2 < q → value_leading.l0 q x v ((min x.size 16 : Nat) : Int) j = some (hacc x e j v) := by
    intro e
    induction e with
    | zero =>
      intro j q v h0 hj hq
      obtain ⟨q, rfl⟩ : ∃ m, q = m + 1 := ⟨q - 1, by omega⟩
      simp only [value_leading.l0]; rw [if_neg (by omega)]; rfl
    | succ e ih =>
      intro j q v h0 hj hq
      obtain ⟨q, rfl⟩ : ∃ m, q = m + 1 := ⟨q - 1, by omega⟩
      have hb := bt_range x j
      simp only [value_leading.l0, hacc]
      rw [if_pos (by omega), if_pos h0, if_pos (by omega), digit_go _ hb.1 hb.2 q (by omega), Option.bind_some]
      by_cases hd : hexv (bt x j) < 0
      · rw [if_pos hd, if_pos hd]
      · rw [if_neg hd, if_neg hd, wrap64_id (a := j + 1) (by omega) (by omega)]
        exact ih (j + 1) q _ (by omega) (by omega) (by omega)
  unfold value_leading.f
  rw [hm]
  exact l1 _ 0 k 0 (by omega) (by omega) (by omega)
/-- Is a value valid. -/
def vOK (k0 : Int) (x : ByteArray) : Bool := if k0 = 2 then decide ((x.size : Int) ≤ 255) else if k0 = 3 then decide ((x.size : Int) ≤ 255) else if k0 ≥ 0 then decide (k0 ≤ 6) else false
theorem valid_go (k0 a : Int) (x : ByteArray) (o : Int) : value_Valid.f k0 a x o = some (vOK k0 x) := by
  unfold value_Valid.f vOK
  split <;> (try split) <;> (try split) <;> rfl
/-- What a value is as an integer. -/
def intV (k0 a : Int) (x : ByteArray) : Int × Int :=
  if vOK k0 x = true then (if k0 = 1 then (a, 0) else if k0 = 2 then (hacc x (min x.size 16) 0 0, 0) else if k0 = 3 then (lacc x (min x.size 8) 0 0, 0) else (0, 10)) else (0, 1)
theorem int_go (k0 a : Int) (x : ByteArray) (o : Int) (k : Nat) (hk : 30 ≤ k) : value_Integer.f k k0 a x o = some (intV k0 a x) := by
  unfold value_Integer.f intV
  rw [valid_go, Option.bind_some, leading_go x k hk, little_go x k (by omega)]
  simp only [Option.bind_some]
  split <;> (try split) <;> (try split) <;> (try split) <;> rfl
theorem or_rng (x y : Int) : 0 ≤ Go.bits .or .u64 x y ∧ Go.bits .or .u64 x y < 18446744073709551616 := by
  unfold Go.bits
  rw [wrap_u64]
  omega
theorem lacc_rng (x : ByteArray) : ∀ (e : Nat) (i v : Int), 0 ≤ v ∧ v < 18446744073709551616 → 0 ≤ lacc x e i v ∧ lacc x e i v < 18446744073709551616
  | 0, _, _, h => h
  | e + 1, i, v, _ => lacc_rng x e _ _ (or_rng _ _)
theorem hacc_rng (x : ByteArray) : ∀ (e : Nat) (i v : Int), 0 ≤ v ∧ v < 18446744073709551616 → 0 ≤ hacc x e i v ∧ hacc x e i v < 18446744073709551616
  | 0, _, _, h => h
  | e + 1, i, v, h => by
    simp only [hacc]
    split
    · exact h
    · exact hacc_rng x e _ _ (or_rng _ _)
theorem intV_rng (k0 a : Int) (x : ByteArray) (ha : 0 ≤ a ∧ a < 18446744073709551616) : 0 ≤ (intV k0 a x).1 ∧ (intV k0 a x).1 < 18446744073709551616 := by
  unfold intV
  have h1 := hacc_rng x (min x.size 16) 0 0 (by omega)
  have h2 := lacc_rng x (min x.size 8) 0 0 (by omega)
  split <;> (try split) <;> (try split) <;> (try split) <;> first | exact ha | exact h1 | exact h2 | (constructor <;> decide)
/-- The m lowest hexadecimal digits of u, the highest first, in capitals. -/
def rowUp (m u : Nat) : List UInt8 := (List.range m).map fun t => hexUp (u / 16 ^ (m - 1 - t) % 16)
theorem rowUp_snoc (m u : Nat) : rowUp (m + 1) u = rowUp m (u / 16) ++ [hexUp (u % 16)] := by
  unfold rowUp
  rw [List.range_succ, List.map_append]
  congr 1
  · apply List.map_congr_left
    intro t ht
    have ht := List.mem_range.1 ht
    rw [Nat.div_div_eq_div_mul, show m + 1 - 1 - t = (m - 1 - t) + 1 by omega, Nat.pow_succ, Nat.mul_comm]
  · simp
theorem rowUp_pad (m d u : Nat) (h : u < 16 ^ m) : rowUp (m + d) u = List.replicate d 48 ++ rowUp m u := by
  apply List.ext_getElem
  · simp [rowUp]; omega
  · intro t h1 h2
    have h3 : t < m + d := by simpa [rowUp] using h1
    simp only [rowUp, List.getElem_map, List.getElem_range]
    by_cases ht : t < d
    · rw [List.getElem_append_left (by simpa using ht), List.getElem_replicate]
      have : u / 16 ^ (m + d - 1 - t) = 0 := Nat.div_eq_of_lt (Nat.lt_of_lt_of_le h (Nat.pow_le_pow_right (by decide) (by omega)))
      rw [this]; rfl
    · rw [List.getElem_append_right (by simp; omega)]
      simp only [List.length_replicate, List.getElem_map, List.getElem_range]
      rw [show m + d - 1 - t = m - 1 - (t - d) by omega]
theorem upper_dig (d : Nat) (h : d < 16) : Lib.upperB (hexDig d) = hexUp d := by
  have all : ∀ d : Fin 16, Lib.upperB (hexDig d.val) = hexUp d.val := by decide
  exact all ⟨d, h⟩
theorem dig_ascii (d : Nat) (h : d < 16) : (hexDig d).toNat < 128 := by
  have all : ∀ d : Fin 16, (hexDig d.val).toNat < 128 := by decide
  exact all ⟨d, h⟩
theorem upper_row (m u : Nat) : Lib.toUpperA (hexRow m u) = rowUp m u := by
  unfold Lib.toUpperA hexRow rowUp
  rw [List.map_map]
  apply List.map_congr_left
  intro t _
  exact upper_dig _ (Nat.mod_lt _ (by decide))
theorem row_ascii (m u : Nat) : (hexRow m u).all (fun b => decide (b.toNat < 128)) = true := by
  rw [List.all_eq_true]
  intro b hb
  obtain ⟨t, _, rfl⟩ := List.mem_map.1 hb
  exact decide_eq_true (dig_ascii _ (Nat.mod_lt _ (by decide)))
theorem hexLen_le (u : Nat) (h : u < 18446744073709551616) : 1 ≤ hexLen u ∧ hexLen u ≤ 16 ∧ u < 16 ^ hexLen u := by
  unfold hexLen
  have e1 : ∀ n, (16 : Nat) ^ n = 2 ^ (4 * n) := fun n => by rw [show (16 : Nat) = 2 ^ 4 from rfl, ← Nat.pow_mul]
  by_cases h0 : u = 0
  · subst h0
    refine ⟨by omega, by decide, by decide⟩
  · have h4 : Nat.log2 u < 64 := (Nat.log2_lt h0).2 h
    refine ⟨by omega, by omega, ?_⟩
    rw [e1]
    exact (Nat.log2_lt h0).1 (by omega)
def hex16 (u : Nat) : ByteArray := ⟨(rowUp 16 u).toArray⟩
theorem ba_append (a b : List UInt8) : (⟨a.toArray⟩ : ByteArray) ++ (⟨b.toArray⟩ : ByteArray) = ⟨(a ++ b).toArray⟩ := by
  apply ByteArray.ext
  rw [ByteArray.data_append]
  simp
theorem rep_list (n : Nat) : Lib.repeatL [48] n = List.replicate n (48 : UInt8) := by
  induction n with
  | zero => rfl
  | succ n ih => rw [List.replicate_succ, ← ih]; rfl
theorem size_mk (l : List UInt8) : (⟨l.toArray⟩ : ByteArray).size = l.length := List.size_toArray
/-- What a string of an integer comes to. -/
theorem str_int (a : Int) (h0 : 0 ≤ a) (h1 : a < 18446744073709551616) {β : Type} (f : ByteArray → Option β) :
    ((strconv_FormatUint.f a 16).bind fun t123 => ((strings_ToUpper.f t123).bind fun t124 => ((strings_Repeat.f (⟨#[48]⟩ : ByteArray) (wrap64 (16 - (t124.size : Int)))).bind fun t125 => (if t125.size + t124.size ≤ 9223372036854775807 then f (t125 ++ t124) else none)))) = f (hex16 a.toNat) := by
  obtain ⟨u, rfl⟩ := Int.eq_ofNat_of_zero_le h0
  obtain ⟨l1, l2, l3⟩ := hexLen_le u (by omega)
  have hz : (hexRow (hexLen u) u).length = hexLen u := by simp [hexRow]
  have e1 : strconv_FormatUint.f (u : Int) 16 = some (hexStr u) := by unfold strconv_FormatUint.f; first | rw [if_pos (show (16 : Int) = 16 ∧ 0 ≤ (u : Int) ∧ (u : Int) < 18446744073709551616 from ⟨rfl, by omega, by omega⟩), Int.toNat_natCast] | rw [if_pos ⟨by omega, by omega⟩, if_pos rfl, Int.toNat_natCast]
  have hs : (hexStr u).size = hexLen u := (size_mk _).trans hz
  have e2 : strings_ToUpper.f (hexStr u) = some ⟨(rowUp (hexLen u) u).toArray⟩ := by
    unfold strings_ToUpper.f
    rw [if_pos ⟨by omega, row_ascii _ _⟩, ← upper_row]
    rfl
  have hr : (rowUp (hexLen u) u).length = hexLen u := by simp [rowUp]
  have hsz := (size_mk (rowUp (hexLen u) u)).trans hr
  have e3 : strings_Repeat.f (⟨#[48]⟩ : ByteArray) ((16 - hexLen u : Nat) : Int) = some ⟨(List.replicate (16 - hexLen u) (48 : UInt8)).toArray⟩ := by
    unfold strings_Repeat.f
    rw [if_pos ⟨by omega, by omega, by decide⟩, Int.toNat_natCast]
    unfold repB
    exact congrArg (fun l : List UInt8 => some (⟨l.toArray⟩ : ByteArray)) (rep_list _)
  have hr3 := (size_mk (List.replicate (16 - hexLen u) (48 : UInt8))).trans List.length_replicate
  rw [e1, Option.bind_some, e2, Option.bind_some, hsz, wrap64_id (by omega) (by omega), show (16 - (hexLen u : Int)) = ((16 - hexLen u : Nat) : Int) by omega, e3, Option.bind_some, hr3, if_pos (by omega), ba_append, ← rowUp_pad _ _ _ l3, show hexLen u + (16 - hexLen u) = 16 by omega, Int.toNat_natCast]
  rfl
/-- What a value is as a string. -/
def strV (k0 a : Int) (x : ByteArray) : ByteArray × Int :=
  if vOK k0 x = true then (if k0 = 1 then (hex16 a.toNat, 0) else if k0 = 2 then (x, 0) else if k0 = 3 then (if ((joinB (hexes x) ⟨#[32]⟩).size : Int) > 255 then (⟨#[]⟩, 11) else (joinB (hexes x) ⟨#[32]⟩, 0)) else (⟨#[]⟩, 10)) else (⟨#[]⟩, 1)
theorem hex16_size (u : Nat) : (hex16 u).size = 16 := by unfold hex16; rw [size_mk]; simp [rowUp]
theorem vOK_size {k0 : Int} {x : ByteArray} (h : vOK k0 x = true) (h2 : k0 = 2 ∨ k0 = 3) : x.size ≤ 255 := by
  unfold vOK at h
  rcases h2 with rfl | rfl
  · rw [if_pos rfl] at h; have := of_decide_eq_true h; omega
  · rw [if_neg (by decide), if_pos rfl] at h; have := of_decide_eq_true h; omega
theorem str_go (k0 a : Int) (x : ByteArray) (o : Int) (ha : 0 ≤ a ∧ a < 18446744073709551616) : value_String.f k0 a x o = some (strV k0 a x) := by
  unfold value_String.f strV
  rw [valid_go, Option.bind_some]
  by_cases hv : vOK k0 x = true
  case neg => rw [if_neg hv, if_neg hv]
  rw [if_pos hv, if_pos hv]
  by_cases h1 : k0 = 1
  · rw [if_pos h1, if_pos h1, str_int a ha.1 ha.2 (fun s => if (s.size : Int) > 255 then (some ((⟨#[]⟩ : ByteArray), (11 : Int))) else (some (s, 0))), if_neg (by rw [hex16_size]; decide)]
  rw [if_neg h1, if_neg h1]
  by_cases h2 : k0 = 2
  · have := vOK_size hv (.inl h2)
    rw [if_pos h2, if_pos h2, if_neg (by omega)]
  rw [if_neg h2, if_neg h2]
  by_cases h3 : k0 = 3
  · have := vOK_size hv (.inr h3)
    have e : value_each.f x (⟨#[32]⟩ : ByteArray) = some (joinB (hexes x) ⟨#[32]⟩) := by unfold value_each.f; rw [if_pos ⟨this, by decide⟩]
    rw [if_pos h3, if_pos h3, e, Option.bind_some]
    split <;> rfl
  rw [if_neg h3, if_neg h3]
/-- What a value is as a buffer. -/
def bufV (k0 a : Int) (x : ByteArray) : ByteArray × Int :=
  if vOK k0 x = true then (if k0 = 1 then (strOfNums (bytes8 a), 0) else if k0 = 2 then (if ((x ++ (⟨#[0]⟩ : ByteArray)).size : Int) > 255 then (⟨#[]⟩, 11) else (x ++ (⟨#[0]⟩ : ByteArray), 0)) else if k0 = 3 then (x, 0) else (⟨#[]⟩, 10)) else (⟨#[]⟩, 1)
theorem bytes8_size (a : Int) : (strOfNums (bytes8 a)).size = 8 := by rw [strOfNums_size']; simp [bytes8]
theorem buf_go (k0 a : Int) (x : ByteArray) (o : Int) (k : Nat) (hk : 20 ≤ k) : value_Buffer.f k k0 a x o = some (bufV k0 a x) := by
  unfold value_Buffer.f bufV
  rw [valid_go, Option.bind_some]
  by_cases hv : vOK k0 x = true
  case neg => rw [if_neg hv, if_neg hv]
  rw [if_pos hv, if_pos hv]
  by_cases h1 : k0 = 1
  · rw [if_pos h1, if_pos h1, eight_eq a k hk, Option.bind_some, bytes8_size, if_neg (by decide)]
  rw [if_neg h1, if_neg h1]
  by_cases h2 : k0 = 2
  · have := vOK_size hv (.inl h2)
    rw [if_pos h2, if_pos h2, if_pos (by omega)]
    split <;> rfl
  rw [if_neg h2, if_neg h2]
  by_cases h3 : k0 = 3
  · have := vOK_size hv (.inr h3)
    rw [if_pos h3, if_pos h3, if_neg (by omega)]
  rw [if_neg h3, if_neg h3]
theorem awake08 : platformfwlaw08_awake.f 100 = some true := by decide +kernel
theorem awake08_at (k : Nat) (hk : 100 ≤ k) : platformfwlaw08_awake.f k = some true := at_rounds platformfwlaw08_awake.mono hk awake08
/-! ### numerals, written and read -/
/-- A number that goes on with these digits. -/
def foldB (B : Nat) : Nat → List Nat → Nat
  | n, [] => n
  | n, d :: l => foldB B (n * B + d) l
theorem foldB_le (B : Nat) (hB : 1 ≤ B) : ∀ (l : List Nat) (n : Nat), n ≤ foldB B n l
  | [], n => Nat.le_refl n
  | d :: l, n => Nat.le_trans (Nat.le_trans (Nat.le_mul_of_pos_right n hB) (Nat.le_add_right _ _)) (foldB_le B hB l _)
theorem foldB_snoc (B : Nat) : ∀ (l : List Nat) (n d : Nat), foldB B n (l ++ [d]) = foldB B n l * B + d
  | [], _, _ => rfl
  | _ :: l, _, d => foldB_snoc B l _ d
/-- The m lowest digits of u, the highest first. -/
def rowB (B m u : Nat) : List Nat := (List.range m).map fun t => u / B ^ (m - 1 - t) % B
theorem rowB_snoc (B m u : Nat) : rowB B (m + 1) u = rowB B m (u / B) ++ [u % B] := by
  unfold rowB
  rw [List.range_succ, List.map_append]
  congr 1
  · apply List.map_congr_left
    intro t ht
    have ht := List.mem_range.1 ht
    rw [Nat.div_div_eq_div_mul, show m + 1 - 1 - t = (m - 1 - t) + 1 by omega, Nat.pow_succ, Nat.mul_comm]
  · simp
theorem foldB_row (B : Nat) (hB : 2 ≤ B) : ∀ (m u : Nat), u < B ^ m → foldB B 0 (rowB B m u) = u
  | 0, u, h => by have : u = 0 := by simpa using h
                  subst this; rfl
  | m + 1, u, h => by
    have h2 : u / B < B ^ m := by rw [Nat.div_lt_iff_lt_mul (by omega)]; rw [Nat.pow_succ] at h; exact h
    rw [rowB_snoc, foldB_snoc, foldB_row B hB m _ h2, Nat.mul_comm]
    exact Nat.div_add_mod u B
theorem rowB_lt (B m u : Nat) (hB : 2 ≤ B) : ∀ d ∈ rowB B m u, d < B := by
  intro d hd
  obtain ⟨t, _, rfl⟩ := List.mem_map.1 hd
  exact Nat.mod_lt _ (by omega)
theorem digit16 (d : Nat) (h : d < 16) (k : Nat) (hk : 1 ≤ k) : value_digit.f k ((hexUp d).toNat : Int) 16 = some (d : Int) := by
  have all : ∀ d : Fin 16, hexv ((hexUp d.val).toNat : Int) = ((d.val : Nat) : Int) ∧ (hexUp d.val).toNat ≤ 255 := by decide
  have h1 : hexv ((hexUp d).toNat : Int) = (d : Int) := (all ⟨d, h⟩).1
  have h2 : (hexUp d).toNat ≤ 255 := (all ⟨d, h⟩).2
  rw [digit_go _ (by omega) (by omega) k hk, h1]
theorem digit10 (d : Nat) (h : d < 10) (k : Nat) (hk : 1 ≤ k) : value_digit.f k ((hexUp d).toNat : Int) 10 = some (d : Int) := by
  obtain ⟨k, rfl⟩ : ∃ m, k = m + 1 := ⟨k - 1, by omega⟩
  have e1 : value_digit.f (k + 1) ((hexUp d).toNat : Int) 10 = value_digit.f 1 ((hexUp d).toNat : Int) 10 := by unfold value_digit.f; simp only [value_digit.j0]
  have all : ∀ d : Fin 10, value_digit.f 1 ((hexUp d.val).toNat : Int) 10 = some ((d.val : Nat) : Int) := by decide +kernel
  rw [e1]
  exact all ⟨d, h⟩
/-- A string of digits is read as its number. -/
theorem parse_go (B : Nat) (hB : B = 10 ∨ B = 16) (s : ByteArray) (hs : s.size ≤ 1000) : ∀ (l : List Nat) (i n k : Nat), (bytesOf s).drop i = l.map (fun d => ((hexUp d).toNat : Int)) → (∀ d ∈ l, d < B) → foldB B n l < 18446744073709551616 → l.length + 1 < k →
    value_parse.l0 k s (B : Int) (n : Int) (s.size : Int) (i : Int) = some (((foldB B n l : Nat) : Int), 0) := by
  intro l
  induction l with
  | nil =>
    intro i n k hd hl hf hk
    obtain ⟨k, rfl⟩ : ∃ m, k = m + 1 := ⟨k - 1, by omega⟩
    have hi : s.size ≤ i := by
      have := congrArg List.length hd
      simp [B_size] at this
      omega
    simp only [value_parse.l0]
    rw [if_neg (by omega)]
    rfl
  | cons d l ih =>
    intro i n k hd hl hf hk
    obtain ⟨k, rfl⟩ : ∃ m, k = m + 1 := ⟨k - 1, by omega⟩
    have hlen : i < s.size := by
      have := congrArg List.length hd
      simp [B_size] at this
      omega
    have hbl : i < (bytesOf s).length := by rw [B_size]; exact hlen
    rw [List.drop_eq_getElem_cons hbl, List.map_cons, List.cons.injEq] at hd
    have hb : bt s (i : Int) = ((hexUp d).toNat : Int) := by rw [bt_B, Int.toNat_natCast, getD_at _ _ hbl]; exact hd.1
    have hdB := hl d (by simp)
    have hdig : value_digit.f k (bt s (i : Int)) (B : Int) = some (d : Int) := by
      rw [hb]
      simp only [List.length_cons] at hk
      rcases hB with rfl | rfl
      · exact digit10 d hdB k (by omega)
      · exact digit16 d hdB k (by omega)
    have hstep : n * B + d ≤ foldB B (n * B + d) l := foldB_le B (by omega) l _
    have hf' : foldB B (n * B + d) l < 18446744073709551616 := hf
    have hB1 : 1 ≤ B := by omega
    have hnB : (n : Int) * (B : Int) = ((n * B : Nat) : Int) := by rw [Int.natCast_mul]
    have e1 : IntKind.u64.wrap ((B : Nat) : Int) = (B : Int) := wrap_u64_id (by omega) (by omega)
    have e2 : IntKind.u64.wrap ((d : Nat) : Int) = (d : Int) := wrap_u64_id (by omega) (by omega)
    have e3 : IntKind.u64.wrap (18446744073709551615 - (d : Int)) = 18446744073709551615 - (d : Int) := wrap_u64_id (by omega) (by omega)
    have e4 : IntKind.u64.wrap ((n : Int) * (B : Int)) = ((n * B : Nat) : Int) := by rw [hnB]; exact wrap_u64_id (by omega) (by omega)
    have e5 : IntKind.u64.wrap (((n * B : Nat) : Int) + (d : Int)) = ((n * B + d : Nat) : Int) := by rw [wrap_u64_id (by omega) (by omega)]; omega
    have hq : (18446744073709551615 - d) / B ≤ 18446744073709551615 := Nat.le_trans (Nat.div_le_self _ _) (by omega)
    have hnle : n ≤ (18446744073709551615 - d) / B := (Nat.le_div_iff_mul_le (by omega)).2 (by omega)
    have e6 : Int.tdiv (18446744073709551615 - (d : Int)) (B : Int) = (((18446744073709551615 - d) / B : Nat) : Int) := by
      rw [Int.tdiv_eq_ediv_of_nonneg (by omega), show (18446744073709551615 - (d : Int)) = ((18446744073709551615 - d : Nat) : Int) by omega, Int.natCast_ediv]
    generalize (18446744073709551615 - d) / B = q at hq hnle e6
    have e7 : IntKind.u64.wrap (q : Int) = (q : Int) := wrap_u64_id (by omega) (by omega)
    simp only [value_parse.l0]
    rw [if_pos (by omega), if_pos (by omega), if_pos (by omega), hdig, Option.bind_some, if_neg (show ¬ ((d : Int) < 0) by omega), e1, if_neg (show ¬ ((B : Int) = 0) by omega), e2, e3, e6, e7, if_neg (show ¬ ((n : Int) > (q : Int)) by omega), e4, e5, wrap64_id (by omega) (by omega), show (i : Int) + 1 = ((i + 1 : Nat) : Int) by omega]
    exact ih (i + 1) (n * B + d) k hd.2 (fun x hx => hl x (by simp [hx])) hf' (by simp only [List.length_cons] at hk; omega)
theorem bytes_mk (l : List UInt8) : bytesOf (⟨l.toArray⟩ : ByteArray) = l.map fun b => (b.toNat : Int) := rfl
/-- The hexadecimal numeral is read back. -/
theorem parse_hex (u : Nat) (h : u < 18446744073709551616) (k : Nat) (hk : 40 ≤ k) : value_parse.f k (⟨(rowUp (hexLen u) u).toArray⟩ : ByteArray) 16 = some ((u : Int), 0) := by
  obtain ⟨l1, l2, l3⟩ := hexLen_le u h
  have hsz : (⟨(rowUp (hexLen u) u).toArray⟩ : ByteArray).size = hexLen u := (size_mk _).trans (by simp [rowUp])
  have e : (bytesOf (⟨(rowUp (hexLen u) u).toArray⟩ : ByteArray)).drop 0 = (rowB 16 (hexLen u) u).map (fun d => ((hexUp d).toNat : Int)) := by
    rw [List.drop_zero, bytes_mk]
    unfold rowUp rowB
    rw [List.map_map, List.map_map]
    rfl
  have := parse_go 16 (.inr rfl) _ (by omega) (rowB 16 (hexLen u) u) 0 0 k e (rowB_lt 16 _ _ (by omega)) (by rw [foldB_row 16 (by omega) _ _ l3]; exact h) (by simp [rowB]; omega)
  rw [foldB_row 16 (by omega) _ _ l3] at this
  exact this
theorem dg_up (u j : Nat) : Lib.dg u j = hexUp (u / 10 ^ j % 10) := by
  have h : u / 10 ^ j % 10 < 10 := Nat.mod_lt _ (by decide)
  unfold Lib.dg hexUp
  rw [if_pos h]
theorem dec_bytes (u : Nat) : bytesOf (decStr u) = (rowB 10 (Lib.nDigits u) u).map (fun d => ((hexUp d).toNat : Int)) := by
  unfold decStr
  rw [bytes_mk, Lib.decDigits_eq]
  unfold rowB
  rw [List.map_map, List.map_map]
  apply List.map_congr_left
  intro t _
  simp only [Function.comp, dg_up]
theorem nd_le (u : Nat) (h : u < 18446744073709551616) : 1 ≤ Lib.nDigits u ∧ Lib.nDigits u ≤ 20 := by
  refine ⟨Lib.nDigits_pos u, ?_⟩
  by_cases h0 : u = 0
  · subst h0; rw [Lib.nDigits_small (by omega)]; omega
  · have := Lib.numDigits_eq u (by omega) h
    split at this <;> omega
theorem dec_size (u : Nat) : (decStr u).size = Lib.nDigits u := (size_mk _).trans (Lib.decDigits_length u)
/-- The decimal numeral is read back. -/
theorem parse_dec (u : Nat) (h : u < 18446744073709551616) (k : Nat) (hk : 40 ≤ k) : value_parse.f k (decStr u) 10 = some ((u : Int), 0) := by
  have hn := nd_le u h
  have l3 := Lib.lt_pow_nDigits u
  have := parse_go 10 (.inl rfl) (decStr u) (by rw [dec_size]; omega) (rowB 10 (Lib.nDigits u) u) 0 0 k (by rw [List.drop_zero, dec_bytes]) (rowB_lt 10 _ _ (by omega)) (by rw [foldB_row 10 (by omega) _ _ l3]; exact h) (by simp [rowB]; omega)
  rw [foldB_row 10 (by omega) _ _ l3] at this
  exact this
/-- The leading digits of the sixteen make the number again. -/
theorem hacc_row (x : ByteArray) : ∀ (l : List Nat) (i n : Nat), (bytesOf x).drop i = l.map (fun d => ((hexUp d).toNat : Int)) → (∀ d ∈ l, d < 16) → foldB 16 n l < 18446744073709551616 → hacc x l.length (i : Int) (n : Int) = ((foldB 16 n l : Nat) : Int) := by
  intro l
  induction l with
  | nil => intro i n _ _ _; rfl
  | cons d l ih =>
    intro i n hd hl hf
    have hlen : i < (bytesOf x).length := by
      have := congrArg List.length hd
      simp at this
      omega
    rw [List.drop_eq_getElem_cons hlen, List.map_cons, List.cons.injEq] at hd
    have hb : bt x (i : Int) = ((hexUp d).toNat : Int) := by rw [bt_B, Int.toNat_natCast, getD_at _ _ hlen]; exact hd.1
    have hdB := hl d (by simp)
    have hv : hexv (bt x (i : Int)) = (d : Int) := by
      have all : ∀ d : Fin 16, hexv ((hexUp d.val).toNat : Int) = ((d.val : Nat) : Int) := by decide
      rw [hb]; exact all ⟨d, hdB⟩
    have hstep : n * 16 + d ≤ foldB 16 (n * 16 + d) l := foldB_le 16 (by omega) l _
    have hf' : foldB 16 (n * 16 + d) l < 18446744073709551616 := hf
    have e1 : IntKind.u64.wrap ((n : Int) * 16) = ((n * 16 : Nat) : Int) := by rw [show (n : Int) * 16 = ((n * 16 : Nat) : Int) by omega]; exact wrap_u64_id (by omega) (by omega)
    have e2 : IntKind.u64.wrap ((d : Nat) : Int) = (d : Int) := wrap_u64_id (by omega) (by omega)
    have e3 : Go.bits .or .u64 ((n * 16 : Nat) : Int) (d : Int) = ((n * 16 + d : Nat) : Int) := by
      rw [bits_join .u64 64 (by decide) wraps_u64 4 _ _ (by omega) (by show ((n * 16 : Nat) : Int) % 16 = 0; omega) (by rw [p2_64]; omega) (by omega) (by show (d : Int) < 16; omega) (by rw [p2_64]; omega)]
      omega
    show (if hexv (bt x (i : Int)) < 0 then _ else hacc x l.length ((i : Int) + 1) _) = _
    rw [hv, if_neg (by omega), e1, e2, e3, show (i : Int) + 1 = ((i + 1 : Nat) : Int) by omega]
    exact ih (i + 1) (n * 16 + d) hd.2 (fun y hy => hl y (by simp [hy])) hf'
theorem hacc_back (u : Nat) (h : u < 18446744073709551616) : hacc (hex16 u) (min (hex16 u).size 16) 0 0 = (u : Int) := by
  have e : (bytesOf (hex16 u)).drop 0 = (rowB 16 16 u).map (fun d => ((hexUp d).toNat : Int)) := by
    rw [List.drop_zero]
    unfold hex16
    rw [bytes_mk]
    unfold rowUp rowB
    rw [List.map_map, List.map_map]
    rfl
  have h16 : u < 16 ^ 16 := h
  have := hacc_row (hex16 u) (rowB 16 16 u) 0 0 e (rowB_lt 16 _ _ (by omega)) (by rw [foldB_row 16 (by omega) _ _ h16]; exact h)
  rw [foldB_row 16 (by omega) _ _ h16] at this
  rw [hex16_size]
  exact this
theorem emod_two (n : Int) (h0 : 0 ≤ n) (i : Nat) : n % (256 ^ i * 256) = n % 256 ^ i + n / 256 ^ i % 256 * 256 ^ i := by
  obtain ⟨u, rfl⟩ := Int.eq_ofNat_of_zero_le h0
  have hP : (256 : Int) ^ i = ((256 ^ i : Nat) : Int) := by rw [Int.natCast_pow]; rfl
  have h := Nat.mod_mul (x := u) (a := 256 ^ i) (b := 256)
  rw [hP]
  generalize 256 ^ i = P at h ⊢
  have e1 : (u : Int) % ((P : Int) * 256) = ((u % (P * 256) : Nat) : Int) := by rw [Int.natCast_emod, Int.natCast_mul]; rfl
  have e2 : ((u % P + P * (u / P % 256) : Nat) : Int) = (u : Int) % (P : Int) + (u : Int) / (P : Int) % 256 * (P : Int) := by
    rw [Int.natCast_add, Int.natCast_mul, Int.natCast_emod, Int.natCast_emod, Int.natCast_ediv, Int.mul_comm (P : Int)]; rfl
  rw [e1, h, e2]
/-- The eight bytes make the number again. -/
theorem lacc_back (n : Int) (h0 : 0 ≤ n) (h1 : n < 18446744073709551616) : lacc (strOfNums (bytes8 n)) (min (strOfNums (bytes8 n)).size 8) 0 0 = n := by
  have hb : ∀ i : Nat, i < 8 → bt (strOfNums (bytes8 n)) (i : Int) = n / 256 ^ i % 256 := fun i hi => by
    have hr : ∀ x ∈ bytes8 n, 0 ≤ x ∧ x < 256 := fun x hx => by
      obtain ⟨j, _, rfl⟩ := List.mem_map.1 hx
      omega
    have hl : i < (bytes8 n).length := by simp [bytes8]; omega
    rw [bt_B, B_nums hr, Int.toNat_natCast, getD_at _ _ hl]
    simp only [bytes8, List.getElem_map, List.getElem_range]
    rw [shr_u64 (by omega)]
  have go : ∀ (e i : Nat), i + e = 8 → lacc (strOfNums (bytes8 n)) e (i : Int) (n % 256 ^ i) = n % 256 ^ 8 := by
    intro e
    induction e with
    | zero => intro i hi; obtain rfl : i = 8 := by omega
              rfl
    | succ e ih =>
      intro i hi
      have hp : (0 : Int) < 256 ^ i := Int.pow_pos (by decide)
      have hx0 := Int.emod_nonneg n (show (256 : Int) ^ i ≠ 0 by omega)
      have hx1 := Int.emod_lt_of_pos n hp
      have hbr := hb i (by omega)
      have hb0 : 0 ≤ n / 256 ^ i % 256 ∧ n / 256 ^ i % 256 < 256 := by omega
      have hple : (256 : Int) ^ (i + 1) ≤ 18446744073709551616 := p256_le (by omega)
      have hps : (256 : Int) ^ (i + 1) = 256 ^ i * 256 := Int.pow_succ _ _
      have hmul0 : 0 ≤ (n / 256 ^ i % 256) * 256 ^ i := Int.mul_nonneg hb0.1 (Int.le_of_lt hp)
      have hmul1 : (n / 256 ^ i % 256) * 256 ^ i < 18446744073709551616 := by
        have : (n / 256 ^ i % 256) * 256 ^ i ≤ 255 * 256 ^ i := Int.mul_le_mul_of_nonneg_right (by omega) (Int.le_of_lt hp)
        omega
      have esh : shl .u64 (IntKind.u64.wrap (bt (strOfNums (bytes8 n)) (i : Int))) (8 * (i : Int)) = (n / 256 ^ i % 256) * 256 ^ i := by
        rw [hbr, wrap_u64_id (by omega) (by omega)]
        unfold shl
        have em : min (8 * (i : Int)).toNat (IntKind.bits .u64) = 8 * i := by show min (8 * (i : Int)).toNat 64 = 8 * i; omega
        rw [em, two_pow_8]
        exact wrap_u64_id hmul0 hmul1
      have eor : Go.bits .or .u64 (n % 256 ^ i) ((n / 256 ^ i % 256) * 256 ^ i) = n % 256 ^ (i + 1) := by
        rw [or_u64 (8 * i) (by omega) hx0 (by rw [two_pow_8]; exact hx1) hmul0 (by rw [two_pow_8]; exact Int.mul_emod_left _ _) hmul1, hps, emod_two n h0]
      show lacc _ e ((i : Int) + 1) (Go.bits .or .u64 (n % 256 ^ i) (shl .u64 (IntKind.u64.wrap (bt (strOfNums (bytes8 n)) (i : Int))) (8 * (i : Int)))) = _
      rw [esh, eor, show (i : Int) + 1 = ((i + 1 : Nat) : Int) by omega]
      exact ih (i + 1) (by omega)
  rw [bytes8_size]
  have := go 8 0 (by omega)
  rw [show n % 256 ^ 0 = 0 by rw [Int.pow_zero]; exact Int.emod_one n, p256_8] at this
  exact this.trans (Int.emod_eq_of_lt h0 h1)
theorem no_prefix (u : Nat) (c : UInt8) (hc : 57 < c) : Lib.hasPrefix (decStr u).data.toList [48, c] = false := by
  rw [Bool.eq_false_iff]
  intro h
  unfold Lib.hasPrefix at h
  obtain ⟨t, ht⟩ := List.isPrefixOf_iff_prefix.1 h
  have hd : (decStr u).data.toList = Lib.decDigits u := rfl
  rw [hd, Lib.decDigits_eq] at ht
  have hmem : c ∈ (List.range (Lib.nDigits u)).map fun t => Lib.dg u (Lib.nDigits u - 1 - t) := by rw [← ht]; simp
  obtain ⟨j, _, hj⟩ := List.mem_map.1 hmem
  rw [dg_up] at hj
  have hm : u / 10 ^ (Lib.nDigits u - 1 - j) % 10 < 10 := Nat.mod_lt _ (by decide)
  generalize u / 10 ^ (Lib.nDigits u - 1 - j) % 10 = d at hj hm
  have all : ∀ d : Fin 10, ¬ 57 < hexUp d.val := by decide
  exact all ⟨d, hm⟩ (by rw [hj]; exact hc)
theorem v1 (x : ByteArray) : vOK 1 x = true := rfl
def upStr (u : Nat) : ByteArray := ⟨(rowUp (hexLen u) u).toArray⟩
def oxStr (u : Nat) : ByteArray := (⟨#[48, 120]⟩ : ByteArray) ++ upStr u
theorem up_size (u : Nat) : (upStr u).size = hexLen u := (size_mk _).trans (by simp [rowUp])
theorem ox_size (u : Nat) : (oxStr u).size = 2 + hexLen u := by unfold oxStr; rw [ByteArray.size_append, up_size]; rfl
theorem rt_str (u : Nat) (hu : u < 18446744073709551616) : value_String.f 1 (u : Int) ⟨#[]⟩ 0 = some (hex16 u, 0) := by
  rw [str_go 1 (u : Int) ⟨#[]⟩ 0 (by omega)]
  unfold strV
  rw [if_pos (v1 _), if_pos rfl, Int.toNat_natCast]
theorem rt_buf (u : Nat) (k : Nat) (hk : 40 ≤ k) : value_Buffer.f k 1 (u : Int) ⟨#[]⟩ 0 = some (strOfNums (bytes8 u), 0) := by
  rw [buf_go 1 (u : Int) ⟨#[]⟩ 0 k (by omega)]
  unfold bufV
  rw [if_pos (v1 _), if_pos rfl]
theorem vh (u : Nat) : vOK 2 (hex16 u) = true := by unfold vOK; rw [if_pos rfl, hex16_size]; decide
theorem vb (u : Nat) : vOK 3 (strOfNums (bytes8 u)) = true := by unfold vOK; rw [if_neg (by decide), if_pos rfl, bytes8_size]; decide
theorem rt_i2 (u : Nat) (hu : u < 18446744073709551616) (k : Nat) (hk : 40 ≤ k) : value_Integer.f k 2 0 (hex16 u) 0 = some ((u : Int), 0) := by
  rw [int_go 2 0 _ 0 k (by omega)]
  unfold intV
  rw [if_pos (vh u), if_neg (by decide), if_pos rfl, hacc_back u hu]
theorem rt_i3 (u : Nat) (hu : u < 18446744073709551616) (k : Nat) (hk : 40 ≤ k) : value_Integer.f k 3 0 (strOfNums (bytes8 u)) 0 = some ((u : Int), 0) := by
  rw [int_go 3 0 _ 0 k (by omega)]
  unfold intV
  rw [if_pos (vb u), if_neg (by decide), if_neg (by decide), if_pos rfl, lacc_back u (by omega) (by omega)]
theorem fmt_h (u : Nat) (hu : u < 18446744073709551616) : strconv_FormatUint.f (u : Int) 16 = some (hexStr u) := by unfold strconv_FormatUint.f; rw [if_pos ⟨by omega, by omega⟩, if_pos rfl, Int.toNat_natCast]
theorem fmt_d (u : Nat) (hu : u < 18446744073709551616) : strconv_FormatUint.f (u : Int) 10 = some (decStr u) := by unfold strconv_FormatUint.f; rw [if_pos ⟨by omega, by omega⟩, if_neg (by decide), if_pos rfl, Int.toNat_natCast]
theorem up_h (u : Nat) (hu : u < 18446744073709551616) : strings_ToUpper.f (hexStr u) = some (upStr u) := by
  obtain ⟨l1, l2, l3⟩ := hexLen_le u hu
  unfold strings_ToUpper.f
  have hs : (hexStr u).size = hexLen u := (size_mk _).trans (by simp [hexRow])
  rw [if_pos ⟨by omega, row_ascii _ _⟩]
  unfold upStr
  rw [← upper_row]
  rfl
theorem text_h (u : Nat) (hu : u < 18446744073709551616) : value_text.f 1 (u : Int) ⟨#[]⟩ 0 48 49 = some (2, 0, oxStr u, 0, 0) := by
  obtain ⟨l1, l2, l3⟩ := hexLen_le u hu
  unfold value_text.f
  rw [if_pos ⟨rfl, rfl⟩]
  unfold YtdmeglmmihaonaaDoor.PtextH.value_text.f YtdmeglmmihaonaaDoor.PtextH.value_Unary_1.f YtdmeglmmihaonaaDoor.PtextH.value_bytes.f
  have hz := ox_size u
  unfold oxStr at hz ⊢
  rw [if_pos rfl, fmt_h u hu, Option.bind_some, up_h u hu, Option.bind_some, up_size, if_pos (by omega), Option.bind_some, if_neg (by omega), Option.bind_some]
theorem text_d (u : Nat) (hu : u < 18446744073709551616) : value_text.f 1 (u : Int) ⟨#[]⟩ 0 50 51 = some (2, 0, decStr u, 0, 0) := by
  have hz := dec_size u
  have hnd := nd_le u hu
  unfold value_text.f
  rw [if_neg (by decide), if_pos ⟨rfl, rfl⟩]
  unfold YtdmeglmmihaonaaDoor.PtextD.value_text.f YtdmeglmmihaonaaDoor.PtextD.value_Unary_3.f YtdmeglmmihaonaaDoor.PtextD.value_bytes.f
  rw [if_pos rfl, fmt_d u hu, Option.bind_some, Option.bind_some, if_neg (by omega), Option.bind_some]
theorem rt_82 (u : Nat) (hu : u < 18446744073709551616) (k : Nat) : value_Unary.f k 82 1 (u : Int) ⟨#[]⟩ 0 = some (2, 0, oxStr u, 0, 0) := by
  unfold value_Unary.f
  rw [valid_go, v1, Option.bind_some, if_pos rfl, if_neg (by decide), if_neg (by decide), if_neg (by decide), if_neg (by decide), if_neg (by decide), if_pos rfl, text_h u hu, Option.bind_some]
theorem rt_83 (u : Nat) (hu : u < 18446744073709551616) (k : Nat) : value_Unary.f k 83 1 (u : Int) ⟨#[]⟩ 0 = some (2, 0, decStr u, 0, 0) := by
  unfold value_Unary.f
  rw [valid_go, v1, Option.bind_some, if_pos rfl, if_neg (by decide), if_neg (by decide), if_neg (by decide), if_neg (by decide), if_neg (by decide), if_neg (by decide), if_pos rfl, text_d u hu, Option.bind_some]
theorem rt_80 (u : Nat) (s : ByteArray) (hs : vOK 2 s = true) (k : Nat) (he : value_explicit.f k 2 0 s 0 = some ((u : Int), 0)) : value_Unary.f k 80 2 0 s 0 = some (1, (u : Int), ⟨#[]⟩, 0, 0) := by
  unfold value_Unary.f
  rw [valid_go, hs, Option.bind_some, if_pos rfl, if_neg (by decide), if_neg (by decide), if_neg (by decide), if_pos rfl, he]
  simp only [Option.bind_some]
  unfold value_number.f value_integer.f
  rw [if_pos rfl]
  simp only [Option.bind_some]
theorem ox_prefix (u : Nat) : strings_HasPrefix.f (oxStr u) ⟨#[48, 120]⟩ = some true := by
  unfold strings_HasPrefix.f oxStr upStr
  rw [show (⟨#[48, 120]⟩ : ByteArray) = ⟨([48, 120] : List UInt8).toArray⟩ from rfl, ba_append]
  unfold Lib.hasPrefix
  simp
theorem ox_rest (u : Nat) : (oxStr u).extract 2 (oxStr u).size = upStr u := by
  apply B_inj
  rw [B_extract, List.take_of_length_le (by rw [B_size]; exact Nat.le_refl _)]
  unfold oxStr
  rw [B_append]
  have e2 : bytesOf (⟨#[48, 120]⟩ : ByteArray) = [48, 120] := by decide +kernel
  rw [e2]
  rfl
theorem rt_eh (u : Nat) (hu : u < 18446744073709551616) (k : Nat) (hk : 60 ≤ k) : value_explicit.f k 2 0 (oxStr u) 0 = some ((u : Int), 0) := by
  obtain ⟨k, rfl⟩ : ∃ m, k = m + 1 := ⟨k - 1, by omega⟩
  have hz := ox_size u
  have hp := parse_hex u hu k (by omega)
  unfold value_explicit.f
  rw [if_pos rfl, ox_prefix, Option.bind_some, if_pos rfl, value_explicit.j0, if_pos rfl, if_pos (by omega), ox_rest]
  unfold upStr
  rw [hp, Option.bind_some]
theorem rt_ed (u : Nat) (hu : u < 18446744073709551616) (k : Nat) (hk : 60 ≤ k) : value_explicit.f k 2 0 (decStr u) 0 = some ((u : Int), 0) := by
  obtain ⟨k, rfl⟩ : ∃ m, k = m + 1 := ⟨k - 1, by omega⟩
  have hnp : ∀ c : UInt8, 57 < c → strings_HasPrefix.f (decStr u) ⟨#[48, c]⟩ = some false := fun c hc => congrArg some (no_prefix u c hc)
  unfold value_explicit.f
  rw [if_pos rfl, hnp 120 (by decide), Option.bind_some, if_neg (by decide), hnp 88 (by decide), Option.bind_some, value_explicit.j0, if_neg (by decide), parse_dec u hu k (by omega), Option.bind_some]
theorem vxh (u : Nat) (hu : u < 18446744073709551616) : vOK 2 (oxStr u) = true := by
  obtain ⟨l1, l2, l3⟩ := hexLen_le u hu
  unfold vOK
  rw [if_pos rfl, ox_size]
  exact decide_eq_true (by omega)
theorem vxd (u : Nat) (hu : u < 18446744073709551616) : vOK 2 (decStr u) = true := by
  have hnd := nd_le u hu
  unfold vOK
  rw [if_pos rfl, dec_size]
  exact decide_eq_true (by omega)
theorem rt_all (u : Nat) (hu : u < 18446744073709551616) (k : Nat) (hk : 100 ≤ k) : platformfwlaw08_ValueRoundTrip.f k (u : Int) = some true := by
  unfold platformfwlaw08_ValueRoundTrip.f platformfwref08_Number.f
  rw [Option.bind_some, rt_str u hu, Option.bind_some, rt_buf u k (by omega), Option.bind_some, rt_i2 u hu k (by omega), Option.bind_some, rt_i3 u hu k (by omega), Option.bind_some, rt_82 u hu k, Option.bind_some, rt_83 u hu k, Option.bind_some, rt_80 u _ (vxh u hu) k (rt_eh u hu k (by omega)), Option.bind_some, rt_80 u _ (vxd u hu) k (rt_ed u hu k (by omega)), Option.bind_some, awake08_at k (by omega), Option.bind_some]
  generalize (⟨#[]⟩ : ByteArray) = z
  simp
theorem ValueRoundTrip : St.ValueRoundTrip := by
  intro n wn
  have hn := wf_u64 wn
  obtain ⟨u, rfl⟩ := Int.eq_ofNat_of_zero_le hn.1
  exact ⟨401, rt_all u (by omega) 401 (by omega)⟩
end Go.Proofs.YtdmeglmmihaonaaDoor.Pure
