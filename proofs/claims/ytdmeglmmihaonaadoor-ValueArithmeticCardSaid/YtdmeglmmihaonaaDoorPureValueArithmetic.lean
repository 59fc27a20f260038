/- The laws of the operators on integers: quotient and remainder, shifts and multiplication, De Morgan, subtraction and addition. -/
import Derived.Test.YtdmeglmmihaonaaDoorStValueArithmetic
import Derived.Test.YtdmeglmmihaonaaDoorVValueArithmeticBytes
import Derived.Test.YtdmeglmmihaonaaDoorVValueArithmeticExtP
namespace Go.Proofs.YtdmeglmmihaonaaDoor.Pure
open Go.RowKit Go.Proofs.YtdmeglmmihaonaaDoor.PValueArithmetic Go.Proofs.YtdmeglmmihaonaaDoorW.PrintWords Go.Proofs.YtdmeglmmihaonaaDoorW.PrintLast Go.Proofs.YtdmeglmmihaonaaDoorW.PrintMore Go.Proofs.YtdmeglmmihaonaaDoor.Plain
open Go.Proofs.YtdmeglmmihaonaaDoor.Ext
set_option linter.unusedVariables false
set_option linter.unusedSimpArgs false
/-! ### layer 8: values -/
/-- The eight bytes of a number. -/
def bytes8 (v : Int) : List Int := (List.range 8).map fun j : Nat => shr .u64 v (8 * (j : Int)) % 256
theorem eight_eq (v : Int) (k : Nat) (hk : 20 ≤ k) : value_eight.f k v = some (strOfNums (bytes8 v)) := by
  have loop : ∀ (e : Nat) (j : Nat) (q : Nat) (l : List Int), j + e = 8 → e < q → l = ((List.range j).map fun j : Nat => shr .u64 v (8 * (j : Int)) % 256) ++ List.replicate (8 - j) 0 → value_eight.l0 q v l 8 j = some (strOfNums (bytes8 v)) := by
    intro e
    induction e with
    | zero =>
      intro j q l hj hq hl
      obtain ⟨q, rfl⟩ : ∃ m, q = m + 1 := ⟨q - 1, by omega⟩
      obtain rfl : j = 8 := by omega
      simp only [value_eight.l0]; rw [if_neg (by omega), hl]; simp [bytes8]
    | succ e ih =>
      intro j q l hj hq hl
      obtain ⟨q, rfl⟩ : ∃ m, q = m + 1 := ⟨q - 1, by omega⟩
      have hlen : l.length = 8 := by rw [hl, List.length_append, List.length_map, List.length_range, List.length_replicate]; omega
      simp only [value_eight.l0]
      rw [if_pos (by omega), wrap64_id (a := 8 * (j : Int)) (by omega) (by omega), if_pos (by omega), if_pos (by omega), if_pos (by omega), wrap64_id (a := (j : Int) + 1) (by omega) (by omega), Int.toNat_natCast]
      refine ih (j + 1) q _ (by omega) (by omega) ?_
      have hx1 : ((List.range j).map fun j : Nat => shr .u64 v (8 * (j : Int)) % 256).length = j := by rw [List.length_map, List.length_range]
      rw [hl, List.set_append_right _ _ (by omega), hx1, Nat.sub_self, show 8 - j = (8 - (j + 1)) + 1 by omega, List.replicate_succ, List.set_cons_zero, List.range_succ, List.map_append]
      simp
  unfold value_eight.f
  rw [if_pos (by omega), Option.bind_some]
  exact loop 8 0 k _ (by omega) (by omega) (by simp)
/-- The number that the first e bytes from place i on make. -/
def lacc (x : ByteArray) : Nat → Int → Int → Int
  | 0, _, v => v
  | e + 1, i, v => lacc x e (i + 1) (Go.bits .or .u64 v (shl .u64 (IntKind.u64.wrap (bt x i)) (8 * i)))
theorem little_go (x : ByteArray) (k : Nat) (hk : 20 ≤ k) : value_little.f k x = some (lacc x (min x.size 8) 0 0) := by
  have hm : mn (x.size : Int) 8 = ((min x.size 8 : Nat) : Int) := by unfold mn; split <;> omega
  have l1 : ∀ (e : Nat) (j : Int) (q : Nat) (v : Int), 0 ≤ j → j + e = (min x.size 8 : Nat) → e < q → value_little.l0 q x v ((min x.size 8 : Nat) : Int) j = some (lacc x e j v) := by
    intro e
    induction e with
    | zero =>
      intro j q v h0 hj hq
      obtain ⟨q, rfl⟩ : ∃ m, q = m + 1 := ⟨q - 1, by omega⟩
      simp only [value_little.l0]; rw [if_neg (by omega)]; rfl
    | succ e ih =>
      intro j q v h0 hj hq
      obtain ⟨q, rfl⟩ : ∃ m, q = m + 1 := ⟨q - 1, by omega⟩
      simp only [value_little.l0, lacc]
      rw [if_pos (by omega), if_pos h0, if_pos (by omega), wrap64_id (a := 8 * j) (by omega) (by omega), if_pos (by omega), wrap64_id (a := j + 1) (by omega) (by omega)]
      exact ih (j + 1) q _ (by omega) (by omega) (by omega)
  unfold value_little.f
  rw [hm]
  exact l1 _ 0 k 0 (by omega) (by omega) (by omega)
/-- The value of a hexadecimal digit, or -1. -/
def hexv (c : Int) : Int := if 48 ≤ c ∧ c ≤ 57 then c - 48 else if 97 ≤ c ∧ c ≤ 102 then c - 87 else if 65 ≤ c ∧ c ≤ 70 then c - 55 else -1
theorem digit_go (c : Int) (h0 : 0 ≤ c) (h1 : c ≤ 255) (k : Nat) (hk : 1 ≤ k) : value_digit.f k c 16 = some (hexv c) := by
  obtain ⟨k, rfl⟩ : ∃ m, k = m + 1 := ⟨k - 1, by omega⟩
  obtain ⟨c, rfl⟩ := Int.eq_ofNat_of_zero_le h0
  have e1 : value_digit.f (k + 1) (c : Int) 16 = value_digit.f 1 (c : Int) 16 := by unfold value_digit.f; simp only [value_digit.j0]
  have all : ∀ c : Fin 256, value_digit.f 1 ((c.val : Nat) : Int) 16 = some (hexv ((c.val : Nat) : Int)) := by decide +kernel
  rw [e1]
  exact all ⟨c, by omega⟩
/-- The number that the leading hexadecimal digits make, e places from i on looked at. -/
def hacc (x : ByteArray) : Nat → Int → Int → Int
  | 0, _, v => v
  | e + 1, i, v => if hexv (bt x i) < 0 then v else hacc x e (i + 1) (Go.bits .or .u64 (IntKind.u64.wrap (v * 16)) (IntKind.u64.wrap (hexv (bt x i))))
theorem leading_go (x : ByteArray) (k : Nat) (hk : 30 ≤ k) : value_leading.f k x = some (hacc x (min x.size 16) 0 0) := by
  have hm : mn (x.size : Int) 16 = ((min x.size 16 : Nat) : Int) := by unfold mn; split <;> omega
  have l1 : ∀ (e : Nat) (j : Int) (q : Nat) (v : Int), 0 ≤ j → j + e = (min x.size 16 : Nat) → e + 2 < q → value_leading.l0 q x v ((min x.size 16 : Nat) : Int) j = some (hacc x e j v) := by
    intro e
    induction e with
    | zero =>
      intro j q v h0 hj hq
      obtain ⟨q, rfl⟩ : ∃ m, q = m + 1 := ⟨q - 1, by omega⟩
      simp only [value_leading.l0]; rw [if_neg (by omega)]; rfl
    | succ e ih =>
      intro j q v h0 hj hq
      obtain ⟨q, rfl⟩ : ∃ m, q = m + 1 := ⟨q - 1, by omega⟩
      have hb := bt_range x j
      simp only [value_leading.l0, hacc]
      rw [if_pos (by omega), if_pos h0, if_pos (by omega), digit_go _ hb.1 hb.2 q (by omega), Option.bind_some]
      by_cases hd : hexv (bt x j) < 0
      · rw [if_pos hd, if_pos hd]
      · rw [if_neg hd, if_neg hd, wrap64_id (a := j + 1) (by omega) (by omega)]
        exact ih (j + 1) q _ (by omega) (by omega) (by omega)
  unfold value_leading.f
  rw [hm]
  exact l1 _ 0 k 0 (by omega) (by omega) (by omega)
/-- Is a value valid. -/
def vOK (k0 : Int) (x : ByteArray) : Bool := if k0 = 2 then decide ((x.size : Int) ≤ 255) else if k0 = 3 then decide ((x.size : Int) ≤ 255) else if k0 ≥ 0 then decide (k0 ≤ 6) else false
theorem valid_go (k0 a : Int) (x : ByteArray) (o : Int) : value_Valid.f k0 a x o = some (vOK k0 x) := by
  unfold value_Valid.f vOK
  split <;> (try split) <;> (try split) <;> rfl
/-- What a value is as an integer. -/
def intV (k0 a : Int) (x : ByteArray) : Int × Int :=
  if vOK k0 x = true then (if k0 = 1 then (a, 0) else if k0 = 2 then (hacc x (min x.size 16) 0 0, 0) else if k0 = 3 then (lacc x (min x.size 8) 0 0, 0) else (0, 10)) else (0, 1)
theorem int_go (k0 a : Int) (x : ByteArray) (o : Int) (k : Nat) (hk : 30 ≤ k) : value_Integer.f k k0 a x o = some (intV k0 a x) := by
  unfold value_Integer.f intV
  rw [valid_go, Option.bind_some, leading_go x k hk, little_go x k (by omega)]
  simp only [Option.bind_some]
  split <;> (try split) <;> (try split) <;> (try split) <;> rfl
theorem or_rng (x y : Int) : 0 ≤ Go.bits .or .u64 x y ∧ Go.bits .or .u64 x y < 18446744073709551616 := by
  unfold Go.bits
  rw [wrap_u64]
  omega
theorem lacc_rng (x : ByteArray) : ∀ (e : Nat) (i v : Int), 0 ≤ v ∧ v < 18446744073709551616 → 0 ≤ lacc x e i v ∧ lacc x e i v < 18446744073709551616
  | 0, _, _, h => h
  | e + 1, i, v, _ => lacc_rng x e _ _ (or_rng _ _)
theorem hacc_rng (x : ByteArray) : ∀ (e : Nat) (i v : Int), 0 ≤ v ∧ v < 18446744073709551616 → 0 ≤ hacc x e i v ∧ hacc x e i v < 18446744073709551616
  | 0, _, _, h => h
  | e + 1, i, v, h => by
    simp only [hacc]
    split
    · exact h
    · exact hacc_rng x e _ _ (or_rng _ _)
theorem intV_rng (k0 a : Int) (x : ByteArray) (ha : 0 ≤ a ∧ a < 18446744073709551616) : 0 ≤ (intV k0 a x).1 ∧ (intV k0 a x).1 < 18446744073709551616 := by
  unfold intV
  have h1 := hacc_rng x (min x.size 16) 0 0 (by omega)
  have h2 := lacc_rng x (min x.size 8) 0 0 (by omega)
  split <;> (try split) <;> (try split) <;> (try split) <;> first | exact ha | exact h1 | exact h2 | (constructor <;> decide)
theorem awake08 : platformfwlaw08_awake.f 100 = some true := by decide +kernel
theorem awake08_at (k : Nat) (hk : 100 ≤ k) : platformfwlaw08_awake.f k = some true := at_rounds platformfwlaw08_awake.mono hk awake08
theorem shl_big (x y : Int) (h : 64 ≤ y) : shl .u64 x y = 0 := by
  unfold shl
  have e : min y.toNat (IntKind.bits .u64) = 64 := by show min y.toNat 64 = 64; omega
  rw [e, wrap_u64, p2_64]
  exact Int.mul_emod_left _ _
theorem V_back (v : BitVec 64) : BitVec.ofInt 64 (IntKind.u64.wrap (v.toNat : Int)) = v := by
  have := v.isLt
  rw [wrap_u64_id (by omega) (by omega), BitVec.ofInt_natCast, BitVec.ofNat_toNat, BitVec.setWidth_eq]
theorem de_morgan (a b : Int) : Go.bits .xor .u64 18446744073709551615 (Go.bits .and .u64 a b) = Go.bits .or .u64 (Go.bits .xor .u64 18446744073709551615 a) (Go.bits .xor .u64 18446744073709551615 b) := by
  have e1 : BitVec.ofInt 64 (Go.bits .and .u64 a b) = BitVec.ofInt 64 a &&& BitVec.ofInt 64 b := V_back _
  have e2 : ∀ x, BitVec.ofInt 64 (Go.bits .xor .u64 18446744073709551615 x) = BitVec.ofInt 64 18446744073709551615 ^^^ BitVec.ofInt 64 x := fun x => V_back _
  have e3 : BitVec.ofInt 64 18446744073709551615 = BitVec.allOnes 64 := by decide
  have key : BitVec.ofInt 64 18446744073709551615 ^^^ BitVec.ofInt 64 (Go.bits .and .u64 a b) = BitVec.ofInt 64 (Go.bits .xor .u64 18446744073709551615 a) ||| BitVec.ofInt 64 (Go.bits .xor .u64 18446744073709551615 b) := by
    rw [e1, e2, e2, e3]
    apply BitVec.eq_of_getLsbD_eq
    intro i hi
    simp only [BitVec.getLsbD_xor, BitVec.getLsbD_and, BitVec.getLsbD_or, BitVec.getLsbD_allOnes, hi, decide_true]
    cases (BitVec.ofInt 64 a).getLsbD i <;> cases (BitVec.ofInt 64 b).getLsbD i <;> rfl
  exact congrArg (fun v : BitVec 64 => IntKind.u64.wrap (v.toNat : Int)) key
theorem bin_int (op a b : Int) (h1 : 60 ≤ op) (h2 : op < 72) (k : Nat) (hk : 40 ≤ k) :
    value_Binary.f k op 1 a ⟨#[]⟩ 0 1 b ⟨#[]⟩ 0 = (value_arithmetic.f op a b).bind fun bt282 => some (bt282.1, bt282.2.1, bt282.2.2.1, bt282.2.2.2.1, bt282.2.2.2.2) := by
  obtain ⟨k, rfl⟩ : ∃ m, k = m + 1 := ⟨k - 1, by omega⟩
  unfold value_Binary.f
  have hv : ∀ x : ByteArray, vOK 1 x = true := fun x => rfl
  have hi : ∀ x : Int, intV 1 x ⟨#[]⟩ = (x, 0) := fun x => rfl
  rw [valid_go, valid_go, hv, Option.bind_some, if_pos rfl, Option.bind_some, if_pos rfl, if_neg (by omega), decide_eq_false (by omega)]
  simp only [value_Binary.j0]
  rw [if_neg (by decide), if_neg (by omega), int_go 1 a _ 0 k (by omega), int_go 1 b _ 0 k (by omega), hi, hi, Option.bind_some]
  rfl
theorem number_go (op a b : Int) (h1 : 60 ≤ op) (h2 : op < 72) (k : Nat) (hk : 40 ≤ k) : platformfwlaw08_number.f k op a b = (value_arithmetic.f op a b).bind fun bt282 => some bt282.2.1 := by
  unfold platformfwlaw08_number.f platformfwref08_Number.f
  rw [Option.bind_some, Option.bind_some, bin_int op a b h1 h2 k hk]
  cases value_arithmetic.f op a b <;> rfl
theorem not_go (a : Int) (k : Nat) (hk : 40 ≤ k) : value_Unary.f k 77 1 a ⟨#[]⟩ 0 = some (1, Go.bits .xor .u64 18446744073709551615 a, ⟨#[]⟩, 0, 0) := by
  unfold value_Unary.f
  have hv : ∀ x : ByteArray, vOK 1 x = true := fun x => rfl
  have hi : ∀ x : Int, intV 1 x ⟨#[]⟩ = (x, 0) := fun x => rfl
  rw [valid_go, hv, Option.bind_some, if_pos rfl, if_pos rfl, int_go 1 a _ 0 k (by omega), hi]
  rfl
theorem ValueArithmetic : St.ValueArithmetic := by
  intro a b s wa wb _
  have ha := wf_u64 wa
  have hb := wf_u64 wb
  refine ⟨401, ?_⟩
  have n65 := number_go 65 a b (by omega) (by omega) 401 (by omega)
  have n60 := number_go 60 a b (by omega) (by omega) 401 (by omega)
  have e65 : value_arithmetic.f 65 a b = some (1, Go.bits .and .u64 a b, ⟨#[]⟩, 0, 0) := rfl
  have e60 : ∀ x y, value_arithmetic.f 60 x y = some (1, IntKind.u64.wrap (x + y), ⟨#[]⟩, 0, 0) := fun _ _ => rfl
  have e61 : ∀ x y, value_arithmetic.f 61 x y = some (1, IntKind.u64.wrap (x - y), ⟨#[]⟩, 0, 0) := fun _ _ => rfl
  have e62 : ∀ x y, value_arithmetic.f 62 x y = some (1, IntKind.u64.wrap (x * y), ⟨#[]⟩, 0, 0) := fun _ _ => rfl
  have e66 : ∀ x y, value_arithmetic.f 66 x y = some (1, Go.bits .or .u64 x y, ⟨#[]⟩, 0, 0) := fun _ _ => rfl
  have e68 : ∀ x y : Int, 0 ≤ y → value_arithmetic.f 68 x y = some (1, shl .u64 x y, ⟨#[]⟩, 0, 0) := fun x y h => by
    show Option.bind (if 0 ≤ y then _ else _) _ = _; rw [if_pos h]; rfl
  have e63 : ∀ x y : Int, y ≠ 0 → value_arithmetic.f 63 x y = some (1, IntKind.u64.wrap (Int.tdiv x y), ⟨#[]⟩, 0, 0) := fun x y h => by
    show Option.bind (if y = 0 then _ else _) _ = _; rw [if_neg h]; rfl
  have e64 : ∀ x y : Int, y ≠ 0 → value_arithmetic.f 64 x y = some (1, Int.tmod x y, ⟨#[]⟩, 0, 0) := fun x y h => by
    show Option.bind (if y = 0 then _ else _) _ = _; rw [if_neg h]; rfl
  have num : ∀ op x y v, 60 ≤ op → op < 72 → value_arithmetic.f op x y = some (1, v, ⟨#[]⟩, 0, 0) → ∀ k, 40 ≤ k → platformfwlaw08_number.f k op x y = some v := fun op x y v h1 h2 he k hk => by
    rw [number_go op x y h1 h2 k hk, he]; rfl
  obtain ⟨s', es', s0, s1⟩ : ∃ s' : Int, IntKind.u64.wrap (Int.tmod s 64) = s' ∧ 0 ≤ s' ∧ s' < 64 := by
    have hs := wf_u8 (by assumption)
    have e : Int.tmod s 64 = s % 64 := Int.tmod_eq_emod_of_nonneg hs.1
    exact ⟨s % 64, by rw [e]; exact wrap_u64_id (by omega) (by omega), by omega, by omega⟩
  obtain ⟨d, hd, hdz⟩ : ∃ d : Int × Int × ByteArray × Int × Int, value_Binary.f 401 63 1 a ⟨#[]⟩ 0 1 b ⟨#[]⟩ 0 = some d ∧ d.2.2.2.2 = if b = 0 then 12 else 0 := by
    rw [bin_int 63 a b (by omega) (by omega) 401 (by omega)]
    by_cases hz : b = 0
    · refine ⟨(0, 0, ⟨#[]⟩, 0, 12), ?_, by rw [if_pos hz]⟩
      subst hz; rfl
    · refine ⟨(1, IntKind.u64.wrap (Int.tdiv a b), ⟨#[]⟩, 0, 0), ?_, by rw [if_neg hz]⟩
      rw [e63 a b hz]; rfl
  have shm : shl .u64 a s' = IntKind.u64.wrap (a * shl .u64 1 s') := by
    unfold shl
    have em : min s'.toNat (IntKind.bits .u64) = s'.toNat := by show min s'.toNat 64 = _; omega
    rw [em]
    have hp : (1 : Int) * 2 ^ s'.toNat < 18446744073709551616 := by
      have : (2 : Int) ^ s'.toNat < 2 ^ 64 := Int.pow_lt_pow_of_lt (by decide) (by omega)
      rw [Int.one_mul]; rw [p2_64] at this; exact this
    have hp0 : (0 : Int) ≤ 1 * 2 ^ s'.toNat := by rw [Int.one_mul]; exact Int.le_of_lt (Int.pow_pos (by decide))
    rw [wrap_u64_id hp0 hp, Int.one_mul]
  unfold platformfwlaw08_ValueArithmetic.f
  rw [num 65 a b _ (by omega) (by omega) e65 401 (by omega)]
  simp only [Option.bind_some, platformfwref08_Number.f]
  rw [not_go _ 401 (by omega), Option.bind_some, not_go _ 401 (by omega), Option.bind_some, not_go _ 401 (by omega), Option.bind_some, hd, Option.bind_some, awake08_at 401 (by omega), Option.bind_some, if_pos rfl, num 60 a b _ (by omega) (by omega) (e60 a b) 401 (by omega), Option.bind_some, num 61 _ b _ (by omega) (by omega) (e61 _ b) 401 (by omega), Option.bind_some]
  rw [if_pos (by rw [wrap_u64, wrap_u64]; omega), num 66 _ _ _ (by omega) (by omega) (e66 _ _) 401 (by omega), Option.bind_some, if_pos (de_morgan a b), es', num 68 a s' _ (by omega) (by omega) (e68 a s' s0) 401 (by omega), Option.bind_some, if_pos s0, num 62 a _ _ (by omega) (by omega) (e62 a _) 401 (by omega), Option.bind_some, ← shm, show (shl .u64 a s' != shl .u64 a s') = false by simp, hdz]
  rw [show 401 = 400 + 1 from rfl, platformfwlaw08_ValueArithmetic.j0, if_neg (by decide)]
  by_cases hz : b = 0
  · rw [if_pos hz, if_pos hz]; rfl
  · have hq : Int.tdiv a b = a / b := Int.tdiv_eq_ediv_of_nonneg ha.1
    have hm : Int.tmod a b = a % b := Int.tmod_eq_emod_of_nonneg ha.1
    have hb0 : 0 < b := by omega
    have hmb := Int.emod_lt_of_pos a hb0
    have hm0 := Int.emod_nonneg a hz
    have hq0 : 0 ≤ a / b := Int.ediv_nonneg ha.1 hb.1
    have hqa : a / b ≤ a := Int.ediv_le_self _ ha.1
    have hmul := Int.ediv_mul_add_emod a b
    have hqb0 : 0 ≤ a / b * b := Int.mul_nonneg hq0 hb.1
    rw [if_neg hz, num 64 a b _ (by omega) (by omega) (e64 a b hz) 400 (by omega), Option.bind_some, if_neg hz, if_pos rfl, if_pos (by rw [hm]; exact hmb), num 63 a b _ (by omega) (by omega) (e63 a b hz) 400 (by omega), Option.bind_some, num 62 _ b _ (by omega) (by omega) (e62 _ b) 400 (by omega), Option.bind_some, num 60 _ _ _ (by omega) (by omega) (e60 _ _) 400 (by omega), Option.bind_some, hq, hm, wrap_u64_id hq0 (by omega), wrap_u64_id hqb0 (by omega), hmul, wrap_u64_id ha.1 ha.2]
    simp
end Go.Proofs.YtdmeglmmihaonaaDoor.Pure
