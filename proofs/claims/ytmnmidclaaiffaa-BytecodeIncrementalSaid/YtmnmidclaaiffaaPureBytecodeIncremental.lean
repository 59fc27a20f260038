/- More bytes behind do not change what was decoded: the plain law. -/
import Derived.Test.YtmnmidclaaiffaaPBytecodeIncrementalx7
import Derived.Test.YtmnmidclaaiffaaBytes
import Derived.Test.YtmnmidclaaiffaaExtP
namespace Go.Proofs.Ytmnmidclaaiffaa.Pure
open Go.RowKit Go.Proofs.Ytmnmidclaaiffaa.PBytecodeIncremental Go.Proofs.YtmnmidclaaiffaaW.PrintWords Go.Proofs.YtmnmidclaaiffaaW.PrintLast Go.Proofs.YtmnmidclaaiffaaW.PrintMore Go.Proofs.Ytmnmidclaaiffaa.Plain
open Go.Proofs.Ytmnmidclaaiffaa.Ext
set_option linter.unusedVariables false
set_option linter.unusedSimpArgs false
theorem awake_eq : platformfwlaw05_awake.f 20 = some true := by decide +kernel
theorem awake_at (k : Nat) (hk : 20 ≤ k) : platformfwlaw05_awake.f k = some true := at_rounds platformfwlaw05_awake.mono hk awake_eq
/-! ### layer 5: integers -/
def enc (v : Int) : List Int :=
  if v = 0 then [0] else if v = 1 then [1] else if v = 18446744073709551615 then [255] else if v < 256 then 10 :: toLE v 1 else if v < 65536 then 11 :: toLE v 2 else if v < 4294967296 then 12 :: toLE v 4 else 14 :: toLE v 8
theorem enc_range (v : Int) : ∀ x ∈ enc v, 0 ≤ x ∧ x < 256 := by
  intro x hx
  unfold enc at hx
  have key : ∀ (p : Int) (d : Nat), 0 ≤ p → p < 256 → x ∈ p :: toLE v d → 0 ≤ x ∧ x < 256 := by
    intro p d h0 h1 h
    rcases List.mem_cons.1 h with rfl | h
    · exact ⟨h0, h1⟩
    · exact toLE_range x h
  repeat' split at hx
  all_goals first | exact key _ 0 (by decide) (by decide) hx | exact key _ _ (by decide) (by decide) hx
theorem enc_length (v : Int) : (enc v).length ≤ 9 := by
  unfold enc
  repeat' split
  all_goals simp [toLE_length]
theorem lit_cons (p : Int) (u : ByteArray) (l : List Int) (h : u = strOfNums [p]) : u ++ strOfNums l = strOfNums (p :: l) := by
  subst h; rw [← strOfNums_append]; rfl
theorem appendInt_loop (b : ByteArray) (hb : b.size ≤ 140737488351232) (v : Int) (n : Nat) (hn : n ≤ 8) : ∀ (d : Nat) (i k : Nat) (l : List Int), l.length = i + 1 → i + d = n → d < k → bytecode_AppendInt.l0 k b v l n i = some (b ++ strOfNums (l ++ toLE (v / 256 ^ i) d)) := by
  intro d
  induction d with
  | zero =>
    intro i k l hl hi hk
    obtain ⟨k, rfl⟩ : ∃ m, k = m + 1 := ⟨k - 1, by omega⟩
    simp only [bytecode_AppendInt.l0]
    rw [if_neg (by omega), if_pos (by rw [strOfNums_size', hl]; omega)]
    simp [toLE]
  | succ d ih =>
    intro i k l hl hi hk
    obtain ⟨k, rfl⟩ : ∃ m, k = m + 1 := ⟨k - 1, by omega⟩
    simp only [bytecode_AppendInt.l0]
    rw [if_pos (by omega), wrap64_id (by omega) (by omega), if_pos (by omega), if_pos (by omega), wrap64_id (by omega) (by omega), shr_u64 (by omega)]
    have := ih (i + 1) k (l ++ [v / 256 ^ i % 256]) (by simp [hl]) (by omega) (by omega)
    rw [show ((i : Int) + 1) = ((i + 1 : Nat) : Int) by omega, this, List.append_assoc]
    rw [← div_pow_succ]; rfl
theorem appendInt_eq (b : ByteArray) (hb : b.size ≤ 140737488351232) (v : Int) (k : Nat) (hk : 8 < k) : bytecode_AppendInt.f k b v = some (b ++ strOfNums (enc v)) := by
  have key : ∀ (p : Int) (n : Nat), n ≤ 8 → bytecode_AppendInt.l0 k b v [p] n 0 = some (b ++ strOfNums (p :: toLE v n)) := by
    intro p n hn
    have := appendInt_loop b hb v n hn n 0 k [p] rfl (by omega) (by omega)
    simpa using this
  unfold bytecode_AppendInt.f bytecode_form.f enc
  repeat' split
  all_goals simp only [Option.bind_some]
  · exact key 0 0 (by decide)
  · exact key 1 0 (by decide)
  · exact key 255 0 (by decide)
  · exact key 10 1 (by decide)
  · exact key 11 2 (by decide)
  · exact key 12 4 (by decide)
  · exact key 14 8 (by decide)
/-- The prefix byte of a number. -/
def pre (v : Int) : Int := if v = 0 then 0 else if v = 1 then 1 else if v = 18446744073709551615 then 255 else if v < 256 then 10 else if v < 65536 then 11 else if v < 4294967296 then 12 else 14
theorem form_pre (v : Int) : ∃ n, bytecode_form.f v = some (pre v, n) := by
  unfold bytecode_form.f pre
  repeat' split
  all_goals exact ⟨_, rfl⟩
/-- How many bytes follow a prefix byte; -1: none begins so. -/
def sz (p : Int) : Int := if p = 0 ∨ p = 1 ∨ p = 255 then 0 else if p = 10 then 1 else if p = 11 then 2 else if p = 12 then 4 else if p = 14 then 8 else -1
/-- What both decoders tell. -/
def decInt : List Int → Int × Int × Int
  | [] => (0, 0, 4)
  | p :: t => if sz p < 0 then (0, 0, 3) else if (t.length : Int) < sz p then (0, 0, 4) else if p = 1 then (1, 1, 0) else if p = 255 then (18446744073709551615, 1, 0) else if pre (ofLE (t.take (sz p).toNat)) = p then (ofLE (t.take (sz p).toNat), sz p + 1, 0) else (0, 0, 3)
theorem size_eq (p : Int) (k : Nat) (hk : 0 < k) : bytecode_size.f k p = some (sz p) := by
  obtain ⟨k, rfl⟩ : ∃ m, k = m + 1 := ⟨k - 1, by omega⟩
  unfold bytecode_size.f sz
  by_cases h0 : p = 0
  · rw [if_pos h0]; simp [bytecode_size.j0, h0]
  rw [if_neg h0]
  by_cases h1 : p = 1
  · rw [if_pos h1]; simp [bytecode_size.j0, h1]
  rw [if_neg h1]
  by_cases h2 : p = 255
  · simp [bytecode_size.j0, h2]
  · have h2' : (p == 255) = false := by simpa using h2
    simp only [bytecode_size.j0, h2', h0, h1, h2, or_self, if_false, Bool.false_eq_true]
    repeat' split
    all_goals rfl
theorem Int_loop (s : ByteArray) (n : Nat) (hn : n ≤ 8) (hs : n < s.size) (hz : s.size ≤ 9223372036854775800) : ∀ (d i k : Nat), i + d = n → d < k →
    bytecode_Int.l0 k s n (ofLE (((bytesOf s).drop 1).take i)) n i = bytecode_Int.l0 1 s n (ofLE (((bytesOf s).drop 1).take n)) n n := by
  intro d
  induction d with
  | zero =>
    intro i k hi hk
    obtain ⟨k, rfl⟩ : ∃ m, k = m + 1 := ⟨k - 1, by omega⟩
    obtain rfl : i = n := by omega
    conv => lhs; unfold bytecode_Int.l0
    conv => rhs; unfold bytecode_Int.l0
    have hnn : ¬ ((i : Int) < i) := by omega
    rw [if_neg hnn, if_neg hnn]
  | succ d ih =>
    intro i k hi hk
    obtain ⟨k, rfl⟩ : ∃ m, k = m + 1 := ⟨k - 1, by omega⟩
    rw [← ih (i + 1) k (by omega) (by omega)]
    conv => lhs; unfold bytecode_Int.l0
    have hlen : ((bytesOf s).drop 1).length = s.size - 1 := by rw [List.length_drop, B_size]
    have hi' : i < ((bytesOf s).drop 1).length := by omega
    have hget : bt s (1 + (i : Int)) = ((bytesOf s).drop 1)[i] := by
      rw [bt_B, List.getElem_drop, show (1 + (i : Int)).toNat = 1 + i by omega]
      exact getD_at _ _ (by rw [B_size]; omega)
    have hr : 0 ≤ ((bytesOf s).drop 1)[i] ∧ ((bytesOf s).drop 1)[i] < 256 := B_range (List.mem_of_mem_drop (List.getElem_mem hi'))
    have hD := ofLE_range (l := ((bytesOf s).drop 1).take i) (fun x hx => B_range (List.mem_of_mem_drop (List.mem_of_mem_take hx)))
    rw [List.length_take, Nat.min_eq_left (by omega)] at hD
    rw [if_pos (by omega), wrap64_id (a := 1 + (i : Int)) (by omega) (by omega), if_pos (by omega), if_pos (by omega), wrap64_id (a := 8 * (i : Int)) (by omega) (by omega), if_pos (by omega), wrap64_id (a := (i : Int) + 1) (by omega) (by omega)]
    rw [List.take_succ_eq_append_getElem hi', ofLE_snoc, List.length_take, Nat.min_eq_left (by omega), hget]
    generalize ((bytesOf s).drop 1)[i] = b at hr
    generalize ofLE (((bytesOf s).drop 1).take i) = D at hD
    have hpow : (0 : Int) < 256 ^ i := Int.pow_pos (by decide)
    have hmul : b * 256 ^ i + 256 ^ i ≤ 256 * 256 ^ i := by
      
      have := Int.mul_le_mul_of_nonneg_right (show b + 1 ≤ 256 by omega) (Int.le_of_lt hpow)
      rw [Int.add_mul, Int.one_mul] at this; exact this
    have hpow8 : 256 * (256 : Int) ^ i ≤ 18446744073709551616 := by
      have := p256_le (show i + 1 ≤ 8 by omega)
      rw [Int.pow_succ] at this; rw [Int.mul_comm]; exact this
    have hb0 : 0 ≤ b * 256 ^ i := Int.mul_nonneg hr.1 (Int.le_of_lt hpow)
    have hw : IntKind.u64.wrap b = b := wrap_u64_id hr.1 (by omega)
    have hshl : shl .u64 b (8 * (i : Int)) = b * 256 ^ i := by
      unfold shl
      rw [show (8 * (i : Int)).toNat = 8 * i by omega, show IntKind.u64.bits = 64 from rfl, Nat.min_eq_left (by omega), two_pow_8]
      exact wrap_u64_id hb0 (by omega)
    rw [hw, hshl, or_u64 (8 * i) (by omega) hD.1 (by rw [two_pow_8]; exact hD.2) hb0 (by rw [two_pow_8]; exact Int.mul_emod_left _ _) (by omega)]
    rfl
theorem Int_end (s : ByteArray) (n : Nat) (v : Int) (hn : n ≤ 8) (hs : 0 < s.size) : bytecode_Int.l0 1 s n v n n = some (if bt s 0 = 1 then (1, (n : Int) + 1, 0) else if bt s 0 = 255 then (18446744073709551615, (n : Int) + 1, 0) else if pre v = bt s 0 then (v, (n : Int) + 1, 0) else (0, 0, 3)) := by
  unfold bytecode_Int.l0
  rw [if_neg (by omega), if_pos (by omega), wrap64_id (by omega) (by omega)]
  obtain ⟨m, hm⟩ := form_pre v
  by_cases h1 : bt s 0 = 1
  · rw [if_pos h1, if_pos h1]; simp [bytecode_form.f, h1]
  rw [if_neg h1, if_neg h1]
  by_cases h2 : bt s 0 = 255
  · rw [if_pos h2, if_pos h2]; simp [bytecode_form.f, h2]
  rw [if_neg h2, if_neg h2, hm]
  simp only [Option.bind_some]
  split <;> rfl
theorem Int_eq (s : ByteArray) (hz : s.size ≤ 9223372036854775800) (k : Nat) (hk : 9 < k) : bytecode_Int.f k s = some (decInt (bytesOf s)) := by
  unfold bytecode_Int.f
  by_cases h0 : s.size = 0
  · rw [if_pos (toList_nil_iff.2 h0)]
    have : bytesOf s = [] := List.length_eq_zero_iff.1 (by rw [B_size]; exact h0)
    rw [this]; rfl
  rw [if_neg (fun h => h0 (toList_nil_iff.1 h)), if_pos (by omega), size_eq _ _ (by omega)]
  simp only [Option.bind_some]
  have hb : bt s 0 = (bytesOf s).getD 0 0 := bt_B s 0
  have hlen := B_size s
  have hend := fun n v hn => Int_end s n v hn (by omega)
  have hloop := fun n hn hs => Int_loop s n hn hs hz n 0 k (by omega)
  cases hl : bytesOf s with
  | nil => rw [hl] at hlen; simp at hlen; omega
  | cons p t =>
    rw [hl] at hb hlen
    simp only [hl, List.drop_succ_cons, List.drop_zero, List.take_zero] at hloop
    simp at hb hlen
    simp only [hb] at hend ⊢
    simp only [decInt]
    by_cases c1 : sz p < 0
    · rw [if_pos c1, if_pos c1]
    rw [if_neg c1, if_neg c1]
    by_cases c2 : (t.length : Int) < sz p
    · rw [if_pos c2, if_pos (by omega)]
    rw [if_neg c2, if_neg (by omega)]
    obtain ⟨n, hn, hn8⟩ : ∃ n : Nat, sz p = n ∧ n ≤ 8 := by
      refine ⟨(sz p).toNat, by omega, ?_⟩
      unfold sz; repeat' split
      all_goals simp
    rw [hn] at c1 c2 ⊢
    have := hloop n hn8 (by omega) (by omega)
    simp only [ofLE] at this
    rw [show ((0 : Nat) : Int) = 0 from rfl] at this
    rw [this, hend n _ hn8, show ((n : Int)).toNat = n by omega]
    congr 1
    have hsz1 : p = 1 → n = 0 := by intro h; subst h; simp [sz] at hn; omega
    have hsz2 : p = 255 → n = 0 := by intro h; subst h; simp [sz] at hn; omega
    split
    · rename_i h; rw [hsz1 h]; rfl
    split
    · rename_i h; rw [hsz2 h]; rfl
    · rfl
theorem pre_enc {v : Int} (h0 : 0 ≤ v) (h1 : v < 18446744073709551616) : ∃ l, enc v = pre v :: l ∧ sz (pre v) = l.length ∧ (pre v = 1 → v = 1) ∧ (pre v = 255 → v = 18446744073709551615) ∧ (pre v ≠ 1 → pre v ≠ 255 → ofLE l = v) := by
  unfold enc pre
  repeat' split
  · exact ⟨[], rfl, rfl, by omega, by omega, fun _ _ => by simp [ofLE]; omega⟩
  · exact ⟨[], rfl, rfl, by omega, by omega, by omega⟩
  · exact ⟨[], rfl, rfl, by omega, by omega, by omega⟩
  · exact ⟨_, rfl, rfl, by omega, by omega, fun _ _ => ofLE_toLE h0 (by simpa using ‹_›)⟩
  · exact ⟨_, rfl, rfl, by omega, by omega, fun _ _ => ofLE_toLE h0 (by simpa using ‹_›)⟩
  · exact ⟨_, rfl, rfl, by omega, by omega, fun _ _ => ofLE_toLE h0 (by simpa using ‹_›)⟩
  · exact ⟨_, rfl, rfl, by omega, by omega, fun _ _ => ofLE_toLE h0 (by simpa using h1)⟩
theorem decInt_enc {v : Int} (h0 : 0 ≤ v) (h1 : v < 18446744073709551616) (t : List Int) : decInt (enc v ++ t) = (v, ((enc v).length : Int), 0) := by
  obtain ⟨l, he, hs, ha, hb, hc⟩ := pre_enc h0 h1
  rw [he]
  simp only [List.cons_append, decInt, List.length_cons, List.length_append]
  rw [if_neg (by omega), if_neg (by omega), hs, show ((l.length : Int)).toNat = l.length by omega, List.take_left]
  by_cases c1 : pre v = 1
  · rw [if_pos c1]
    have : l.length = 0 := by rw [c1] at hs; simp [sz] at hs; omega
    rw [ha c1, this]; rfl
  by_cases c2 : pre v = 255
  · rw [if_neg c1, if_pos c2]
    have : l.length = 0 := by rw [c2] at hs; simp [sz] at hs; omega
    rw [hb c2, this]; rfl
  · rw [if_neg c1, if_neg c2, hc c1 c2, if_pos rfl]
    simp
/-! ### layer 5: package lengths -/
theorem and15 {x : Int} (h0 : 0 ≤ x) (h1 : x < 9223372036854775808) : Go.bits .and .i64 x 15 = x % 16 :=
  bits_mask .i64 63 (by decide) wraps_i64 4 (by decide) x h0 (by simpa using h1)
theorem and63 {x : Int} (h0 : 0 ≤ x) (h1 : x < 9223372036854775808) : Go.bits .and .i64 x 63 = x % 64 :=
  bits_mask .i64 63 (by decide) wraps_i64 6 (by decide) x h0 (by simpa using h1)
theorem or_i64 (i : Nat) {x y : Int} (hx₀ : 0 ≤ x) (hx : x % 2 ^ i = 0) (hx₁ : x < 9223372036854775808) (hy₀ : 0 ≤ y) (hy : y < 2 ^ i) (hy₁ : y < 9223372036854775808) : Go.bits .or .i64 x y = x + y :=
  bits_join .i64 63 (by decide) wraps_i64 i x y hx₀ hx (by simpa using hx₁) hy₀ hy (by simpa using hy₁)
theorem or_i64_low (i : Nat) {x y : Int} (hx₀ : 0 ≤ x) (hx : x < 2 ^ i) (hx₁ : x < 9223372036854775808) (hy₀ : 0 ≤ y) (hy : y % 2 ^ i = 0) (hy₁ : y < 9223372036854775808) : Go.bits .or .i64 x y = x + y := by
  have hc : Go.bits .or .i64 x y = Go.bits .or .i64 y x := by
    obtain ⟨a, rfl⟩ := Int.eq_ofNat_of_zero_le hx₀
    obtain ⟨b, rfl⟩ := Int.eq_ofNat_of_zero_le hy₀
    have ha : a < 2 ^ 63 := by exact_mod_cast (show (a : Int) < 2 ^ 63 by simpa using hx₁)
    have hb : b < 2 ^ 63 := by exact_mod_cast (show (b : Int) < 2 ^ 63 by simpa using hy₁)
    rw [(bits_nat .i64 63 (by decide) wraps_i64 a b ha hb).2, (bits_nat .i64 63 (by decide) wraps_i64 b a hb ha).2, Nat.or_comm]
  rw [hc, or_i64 i hy₀ hy hy₁ hx₀ hx hx₁]; omega
/-- How many bytes the package length of n bytes has. -/
def lb (n : Int) : Int := if n < 0 then 0 else if n + 1 < 64 then 1 else if n + 2 < 4096 then 2 else if n + 3 < 1048576 then 3 else if n + 4 < 268435456 then 4 else 0
theorem limit1 : bytecode_limit.f 1 = some 64 := by decide +kernel
theorem limit2 : bytecode_limit.f 2 = some 4096 := by decide +kernel
theorem limit3 : bytecode_limit.f 3 = some 1048576 := by decide +kernel
theorem limit4 : bytecode_limit.f 4 = some 268435456 := by decide +kernel
theorem lengthBytes_eq (n : Int) (h1 : n < 9223372036854775808) (k : Nat) (hk : 8 ≤ k) : bytecode_lengthBytes.f k n = some (lb n) := by
  obtain ⟨k, rfl⟩ : ∃ m, k = m + 7 := ⟨k - 7, by omega⟩
  unfold bytecode_lengthBytes.f lb
  by_cases h0 : n < 0
  · rw [if_pos h0, if_pos h0]; simp [bytecode_lengthBytes.j0]
  rw [if_neg h0, if_neg h0, limit4]
  simp only [Option.bind_some, bytecode_lengthBytes.j0]
  by_cases c : n ≥ 268435456
  · rw [if_pos (by simpa using c), if_neg (by omega), if_neg (by omega), if_neg (by omega), if_neg (by omega)]
  rw [if_neg (by simpa using c)]
  simp only [bytecode_lengthBytes.l0]
  rw [if_pos (by omega), limit1]
  simp only [Option.bind_some]
  rw [wrap64_id (a := n + 1) (by omega) (by omega)]
  by_cases c1 : n + 1 < 64
  · rw [if_pos c1, if_pos c1]
  rw [if_neg c1, if_neg c1, show wrap64 (1 + 1) = 2 from by decide +kernel, if_pos (by omega), limit2]
  simp only [Option.bind_some]
  rw [wrap64_id (a := n + 2) (by omega) (by omega)]
  by_cases c2 : n + 2 < 4096
  · rw [if_pos c2, if_pos c2]
  rw [if_neg c2, if_neg c2, show wrap64 (2 + 1) = 3 from by decide +kernel, if_pos (by omega), limit3]
  simp only [Option.bind_some]
  rw [wrap64_id (a := n + 3) (by omega) (by omega)]
  by_cases c3 : n + 3 < 1048576
  · rw [if_pos c3, if_pos c3]
  rw [if_neg c3, if_neg c3, show wrap64 (3 + 1) = 4 from by decide +kernel, if_pos (by omega), limit4]
  simp only [Option.bind_some]
  rw [wrap64_id (a := n + 4) (by omega) (by omega)]
  by_cases c4 : n + 4 < 268435456
  · rw [if_pos c4, if_pos c4]
  rw [if_neg c4, if_neg c4, show wrap64 (4 + 1) = 5 from by decide +kernel, if_neg (by omega)]
theorem lb_cases (n : Int) : (lb n = 0 ∧ (n < 0 ∨ 268435452 ≤ n)) ∨ (lb n = 1 ∧ 0 ≤ n ∧ n + 1 < 64) ∨ (lb n = 2 ∧ 63 ≤ n ∧ n + 2 < 4096) ∨ (lb n = 3 ∧ 4094 ≤ n ∧ n + 3 < 1048576) ∨ (lb n = 4 ∧ 1048573 ≤ n ∧ n + 4 < 268435456) := by
  unfold lb
  repeat' split
  all_goals omega
/-- The package length of n bytes. -/
def lenEnc (n : Int) : List Int := if lb n = 0 then [] else if lb n = 1 then [n + 1] else ((lb n - 1) * 64 + (n + lb n) % 16) :: toLE ((n + lb n) / 16) (lb n - 1).toNat
theorem lenEnc_length (n : Int) : ((lenEnc n).length : Int) = lb n := by
  unfold lenEnc
  rcases lb_cases n with ⟨h, _⟩ | ⟨h, _⟩ | ⟨h, _⟩ | ⟨h, _⟩ | ⟨h, _⟩ <;> rw [h] <;> simp [toLE_length]
theorem lenEnc_range (n : Int) : ∀ x ∈ lenEnc n, 0 ≤ x ∧ x < 256 := by
  intro x hx
  unfold lenEnc at hx
  have key : ∀ (p : Int) (d : Nat) (v : Int), 0 ≤ p → p < 256 → x ∈ p :: toLE v d → 0 ≤ x ∧ x < 256 := by
    intro p d v h0 h1 h
    rcases List.mem_cons.1 h with rfl | h
    · exact ⟨h0, h1⟩
    · exact toLE_range x h
  rcases lb_cases n with ⟨h, _⟩ | ⟨h, _⟩ | ⟨h, _⟩ | ⟨h, _⟩ | ⟨h, _⟩ <;> simp only [h] at hx
  · simp at hx
  · simp at hx; omega
  all_goals
    simp only [Int.reduceEq, ↓reduceIte] at hx
    exact key _ _ _ (by omega) (by omega) hx
theorem appendLength_loop (b : ByteArray) (hb : b.size ≤ 140737488351232) (l : Nat) (hl : l ≤ 4) : ∀ (d k : Nat) (t : Int) (o : List Int), o.length + d = l → d < k → bytecode_AppendLength.l0 k b l t o = some (b ++ strOfNums (o ++ toLE t d)) := by
  intro d
  induction d with
  | zero =>
    intro k t o ho hk
    obtain ⟨k, rfl⟩ : ∃ m, k = m + 1 := ⟨k - 1, by omega⟩
    simp only [bytecode_AppendLength.l0]
    rw [if_neg (by omega), if_pos (by rw [strOfNums_size']; omega)]
    simp [toLE]
  | succ d ih =>
    intro k t o ho hk
    obtain ⟨k, rfl⟩ : ∃ m, k = m + 1 := ⟨k - 1, by omega⟩
    simp only [bytecode_AppendLength.l0]
    rw [if_pos (by omega), if_pos (by omega), ih k (t / 256) _ (by simp; omega) (by omega), List.append_assoc]
    rfl
theorem appendLength_eq (b : ByteArray) (hb : b.size ≤ 140737488351232) (n : Int) (h1 : n < 9223372036854775808) (k : Nat) (hk : 8 ≤ k) : bytecode_AppendLength.f k b n = some (b ++ strOfNums (lenEnc n)) := by
  unfold bytecode_AppendLength.f lenEnc
  rw [lengthBytes_eq n h1 k hk]
  simp only [Option.bind_some]
  rcases lb_cases n with ⟨h, hn⟩ | ⟨h, hn⟩ | ⟨h, hn⟩ | ⟨h, hn⟩ | ⟨h, hn⟩ <;> simp only [h, Int.reduceEq, ↓reduceIte]
  · congr 1
    exact ByteArray.append_empty.symm
  · rw [wrap64_id (a := n + 1) (by omega) (by omega), Int.emod_eq_of_lt (by omega) (by omega), if_pos (by rw [strOfNums_size']; simp; omega)]
  all_goals
    rw [show wrap64 (_ - 1) = _ from wrap64_id (by decide) (by decide), show wrap64 (_ * 64) = _ from wrap64_id (by decide) (by decide), wrap64_id (a := n + _) (by omega) (by omega), and15 (by omega) (by omega), or_i64 6 (by decide) (by decide) (by decide) (by omega) (by omega) (by omega), Int.emod_eq_of_lt (b := 256) (by omega) (by omega)]
  · exact appendLength_loop b hb 2 (by decide) 1 k _ _ rfl (by omega)
  · exact appendLength_loop b hb 3 (by decide) 2 k _ _ rfl (by omega)
  · exact appendLength_loop b hb 4 (by decide) 3 k _ _ rfl (by omega)
/-! ### layer 5: decoders of package lengths -/
/-- What both decoders tell. -/
def decLen : List Int → Int × Int × Int
  | [] => (0, 0, 4)
  | c :: t =>
    if 1 < 1 + c / 64 ∧ 16 ≤ c % 64 then (0, 0, 3)
    else if (t.length : Int) < c / 64 then (0, 0, 4)
    else if lb (c % 64 + 16 * ofLE (t.take (c / 64).toNat) - (1 + c / 64)) = 1 + c / 64 then (c % 64 + 16 * ofLE (t.take (c / 64).toNat) - (1 + c / 64), 1 + c / 64, 0)
    else (0, 0, 3)
theorem ofLE_take_lt (t : List Int) (j : Nat) (h : ∀ x ∈ t, 0 ≤ x ∧ x < 256) (hj : j ≤ 3) : 0 ≤ ofLE (t.take j) ∧ ofLE (t.take j) < 16777216 := by
  have := ofLE_range (l := t.take j) fun x hx => h x (List.mem_of_mem_take hx)
  have hp : (256 : Int) ^ (t.take j).length ≤ 256 ^ 3 := p256_mono (by rw [List.length_take]; omega)
  have : (256 : Int) ^ 3 = 16777216 := by decide
  omega
theorem Length_loop (s : ByteArray) (c : Int) (t : List Int) (hs : bytesOf s = c :: t) (m : Nat) (hm : m ≤ 3) (hlen : m < s.size) (v : Int) (hv : 0 ≤ v ∧ v < 16 ∨ m = 0) (hz : s.size ≤ 9223372036854775800) : ∀ (d i k : Nat), i + d = m → d < k →
    bytecode_Length.l0 k s (1 + m : Int) (v + 16 * ofLE (t.take i)) (1 + i : Int) = bytecode_Length.l0 (k - d) s (1 + m : Int) (v + 16 * ofLE (t.take m)) (1 + m : Int) := by
  intro d
  induction d with
  | zero =>
    intro i k hi hk
    obtain rfl : i = m := by omega
    rfl
  | succ d ih =>
    intro i k hi hk
    obtain ⟨k, rfl⟩ : ∃ q, k = q + 1 := ⟨k - 1, by omega⟩
    rw [show k + 1 - (d + 1) = k - d by omega, ← ih (i + 1) k (by omega) (by omega)]
    conv => lhs; unfold bytecode_Length.l0
    have hall : ∀ x ∈ t, 0 ≤ x ∧ x < 256 := fun x hx => B_range (s := s) (by rw [hs]; exact List.mem_cons_of_mem _ hx)
    have hl := B_size s
    rw [hs] at hl; simp at hl
    have hi' : i < t.length := by omega
    have hget : bt s (1 + (i : Int)) = t[i] := by
      rw [bt_B, hs, show (1 + (i : Int)).toNat = i + 1 by omega, List.getD_cons_succ]
      exact getD_at _ _ hi'
    have hr := hall _ (List.getElem_mem hi')
    have hD := ofLE_take_lt t i hall (by omega)
    have hD2 := ofLE_range (l := t.take i) fun x hx => hall x (List.mem_of_mem_take hx)
    rw [List.length_take, Nat.min_eq_left (by omega)] at hD2
    rw [if_pos (by omega), if_pos (by omega), if_pos (by omega), wrap64_id (a := 1 + (i : Int) - 1) (by omega) (by omega), wrap64_id (a := 8 * (1 + (i : Int) - 1)) (by omega) (by omega), wrap64_id (a := 4 + 8 * (1 + (i : Int) - 1)) (by omega) (by omega), if_pos (by omega), wrap64_id (a := 1 + (i : Int) + 1) (by omega) (by omega), hget, wrap64_id (a := t[i]) (by omega) (by omega)]
    rw [List.take_succ_eq_append_getElem hi', ofLE_snoc, List.length_take, Nat.min_eq_left (by omega)]
    generalize t[i] = b at hr
    generalize ofLE (t.take i) = D at hD hD2
    have hp2 : (2 : Int) ^ (4 + 8 * i) = 16 * 256 ^ i := by rw [Int.pow_add, two_pow_8]; rfl
    have hpow : (0 : Int) < 256 ^ i := Int.pow_pos (by decide)
    have hpow2 : (256 : Int) ^ i ≤ 65536 := by
      have h2 : (256 : Int) ^ i ≤ 256 ^ 2 := p256_mono (by omega)
      have h3 : (256 : Int) ^ 2 = 65536 := by decide
      omega
    have hb0 : 0 ≤ b * 256 ^ i := Int.mul_nonneg hr.1 (Int.le_of_lt hpow)
    have hb1 : b * 256 ^ i ≤ 255 * 65536 := Int.mul_le_mul (by omega) hpow2 (Int.le_of_lt hpow) (by decide)
    have hshl : shl .i64 b (4 + 8 * (1 + (i : Int) - 1)) = 16 * (b * 256 ^ i) := by
      unfold shl
      rw [show (4 + 8 * (1 + (i : Int) - 1)).toNat = 4 + 8 * i by omega, show IntKind.i64.bits = 64 from rfl, Nat.min_eq_left (by omega), hp2, Int.mul_left_comm, i64_w]
      exact wrap64_id (by omega) (by omega)
    rw [hshl, or_i64_low (4 + 8 * i) (by omega) (by rw [hp2]; omega) (by omega) (by omega) (by rw [hp2, Int.mul_left_comm]; exact Int.mul_emod_left _ _) (by omega)]
    rw [show (1 + ((i + 1 : Nat) : Int)) = 1 + (i : Int) + 1 by omega]
    congr 1
    omega
theorem Length_eq (s : ByteArray) (hz : s.size ≤ 9223372036854775800) (k : Nat) (hk : 20 ≤ k) : bytecode_Length.f k s = some (decLen (bytesOf s)) := by
  obtain ⟨k, rfl⟩ : ∃ m, k = m + 20 := ⟨k - 20, by omega⟩
  unfold bytecode_Length.f
  by_cases h0 : s.size = 0
  · rw [if_pos (toList_nil_iff.2 h0)]
    have : bytesOf s = [] := List.length_eq_zero_iff.1 (by rw [B_size]; exact h0)
    rw [this]; rfl
  rw [if_neg (fun h => h0 (toList_nil_iff.1 h)), if_pos (by omega)]
  have hb : bt s 0 = (bytesOf s).getD 0 0 := bt_B s 0
  have hlen := B_size s
  cases hl : bytesOf s with
  | nil => rw [hl] at hlen; simp at hlen; omega
  | cons c t =>
    rw [hl] at hb hlen
    simp at hb hlen
    have hc : 0 ≤ c ∧ c < 256 := B_range (s := s) (by rw [hl]; exact List.mem_cons_self ..)
    have hall : ∀ x ∈ t, 0 ≤ x ∧ x < 256 := fun x hx => B_range (s := s) (by rw [hl]; exact List.mem_cons_of_mem _ hx)
    rw [hb, wrap64_id (a := c / 64) (by omega) (by omega), wrap64_id (a := 1 + c / 64) (by omega) (by omega), wrap64_id (a := c) (by omega) (by omega), and63 (by omega) (by omega)]
    have key : ¬ (1 < 1 + c / 64 ∧ 16 ≤ c % 64) → bytecode_Length.j0 (k + 20) s (1 + c / 64) (c % 64) false = some (decLen (c :: t)) := by
      intro hbad
      simp only [bytecode_Length.j0, decLen]
      rw [if_neg (by decide), if_neg hbad]
      by_cases ht : (t.length : Int) < c / 64
      · rw [if_pos ht, if_pos (by omega)]
      rw [if_neg ht, if_neg (by omega)]
      obtain ⟨m, hm⟩ := Int.eq_ofNat_of_zero_le (show 0 ≤ c / 64 by omega)
      have hloop := Length_loop s c t hl m (by omega) (by omega) (c % 64) (by omega) hz m 0 (k + 19) (by omega) (by omega)
      simp only [List.take_zero, ofLE, Int.mul_zero, Int.add_zero] at hloop
      rw [hm, show (1 : Int) = 1 + ((0 : Nat) : Int) by omega]
      rw [show ((0 : Nat) : Int) = 0 from rfl] at hloop ⊢
      simp only [Int.add_zero] at hloop ⊢
      rw [hloop, show k + 19 - m = (k + 18 - m) + 1 by omega]
      have hD := ofLE_take_lt t m hall (by omega)
      simp only [bytecode_Length.l0, Int.toNat_natCast]
      rw [if_neg (by omega)]
      generalize ofLE (t.take m) = D at hD
      by_cases hT : c % 64 + 16 * D < 1 + m
      · rw [if_pos hT, if_neg]
        have := lb_cases (c % 64 + 16 * D - (1 + m)); omega
      rw [if_neg hT, wrap64_id (by omega) (by omega), lengthBytes_eq _ (by omega) _ (by omega)]
      simp only [Option.bind_some]
      split <;> rfl
    by_cases c1 : 1 + c / 64 > 1
    · rw [if_pos c1]
      by_cases c2 : c % 64 ≥ 16
      · have : decide (c % 64 ≥ 16) = true := decide_eq_true c2
        rw [this]
        simp only [bytecode_Length.j0, decLen]
        rw [if_pos trivial, if_pos ⟨c1, c2⟩]
      · have : decide (c % 64 ≥ 16) = false := decide_eq_false c2
        rw [this]; exact key (by omega)
    · rw [if_neg c1]; exact key (by omega)
theorem u8and (c : Int) (h : 0 ≤ c ∧ c < 256) : Go.bits .and .u8 c 15 = c % 16 ∧ Go.bits .and .u8 c 63 = c % 64 ∧ (Go.bits .and .u8 c 48 = 0 ↔ c % 64 < 16) := by
  refine ⟨u8_and15 c h.1 h.2, u8_and63 c h.1 h.2, ?_⟩
  obtain ⟨a, rfl⟩ := Int.eq_ofNat_of_zero_le h.1
  have ha : a < 2 ^ 8 := by omega
  have h48 := (bits_nat .u8 8 (by decide) wraps_u8 a 48 ha (by decide)).1
  have key : ∀ b : Nat, b < 256 → (b &&& 48 = 0 ↔ b % 64 < 16) := by decide +kernel
  have := key a (by omega)
  rw [show ((48 : Nat) : Int) = 48 from rfl] at h48
  rw [h48]
  omega
theorem decLen_enc (n : Int) (h : lb n ≠ 0) (u : List Int) : decLen (lenEnc n ++ u) = (n, lb n, 0) := by
  have hlen := lenEnc_length n
  have hr := lenEnc_range n
  have hc := lb_cases n
  by_cases h1 : lb n = 1
  · have : lenEnc n = [n + 1] := by unfold lenEnc; rw [if_neg h, if_pos h1]
    rw [this]
    simp only [List.cons_append, List.nil_append, decLen]
    rw [if_neg (by omega), if_neg (by omega), show (n + 1) / 64 = 0 by omega]
    simp only [Int.toNat_zero, List.take_zero, ofLE]
    rw [show (n + 1) % 64 + 16 * 0 - (1 + 0) = n by omega, if_pos (by omega), h1]
    rfl
  · have he : lenEnc n = ((lb n - 1) * 64 + (n + lb n) % 16) :: toLE ((n + lb n) / 16) (lb n - 1).toNat := by unfold lenEnc; rw [if_neg h, if_neg h1]
    rw [he]
    simp only [List.cons_append, decLen, List.length_append, toLE_length]
    have e : ((lb n - 1) * 64 + (n + lb n) % 16) / 64 = lb n - 1 := by omega
    have e2 : ((lb n - 1) * 64 + (n + lb n) % 16) % 64 = (n + lb n) % 16 := by omega
    rw [if_neg (by omega), e, e2, if_neg (by omega)]
    have ht : (toLE ((n + lb n) / 16) (lb n - 1).toNat ++ u).take (lb n - 1).toNat = toLE ((n + lb n) / 16) (lb n - 1).toNat := by
      rw [List.take_append_of_le_length (by rw [toLE_length]; exact Nat.le_refl _), List.take_of_length_le (by rw [toLE_length]; exact Nat.le_refl _)]
    have hd : ofLE (toLE ((n + lb n) / 16) (lb n - 1).toNat) = (n + lb n) / 16 := by
      refine ofLE_toLE (by omega) ?_
      rcases hc with hc | hc | hc | hc | hc
      · omega
      · omega
      all_goals (rw [hc.1]; simp; omega)
    rw [ht, hd, show (n + lb n) % 16 + 16 * ((n + lb n) / 16) - (1 + (lb n - 1)) = n by omega, if_pos (by omega)]
    congr 2; omega
/-! ### bytes of a part of a string -/
theorem bt_extract (s : ByteArray) (a b : Nat) {j : Int} (h0 : 0 ≤ j) (h1 : a + j < b) : bt (s.extract a b) j = bt s (a + j) := by
  rw [bt_B, bt_B, B_extract, List.getD_eq_getElem?_getD, List.getD_eq_getElem?_getD, List.getElem?_drop, List.getElem?_take, if_pos (by omega), show a + j.toNat = ((a : Int) + j).toNat by omega]
theorem bt_app (a b : ByteArray) {j : Int} (h0 : 0 ≤ j) (h1 : j < a.size) : bt (a ++ b) j = bt a j := by
  rw [bt_B, bt_B, B_append, List.getD_eq_getElem?_getD, List.getD_eq_getElem?_getD, List.getElem?_append_left (by rw [B_size]; omega)]
theorem bt_out (s : ByteArray) {j : Int} (h1 : s.size ≤ j) : bt s j = 0 := by
  rw [bt_B, List.getD_eq_getElem?_getD, List.getElem?_eq_none (by rw [B_size]; omega)]; rfl
theorem ex_size (s : ByteArray) (a b : Nat) : (s.extract a b).size = min b s.size - a := by simp
theorem ba_ext {a b : ByteArray} (hs : a.size = b.size) (h : ∀ j : Nat, j < a.size → bt a j = bt b j) : a = b := by
  refine B_inj (List.ext_getElem? fun j => ?_)
  by_cases hj : j < a.size
  · have := h j hj
    rw [bt_B, bt_B, Int.toNat_natCast, List.getD_eq_getElem?_getD, List.getD_eq_getElem?_getD] at this
    have h1 : j < (bytesOf a).length := by rw [B_size]; exact hj
    have h2 : j < (bytesOf b).length := by rw [B_size]; omega
    rw [List.getElem?_eq_getElem h1, List.getElem?_eq_getElem h2] at this ⊢
    simpa using this
  · rw [List.getElem?_eq_none (by rw [B_size]; omega), List.getElem?_eq_none (by rw [B_size]; omega)]
theorem list_eq_iff {a b : ByteArray} : a.toList = b.toList ↔ a = b := by
  rw [B_eq_iff]; exact ⟨B_inj, fun h => by rw [h]⟩
/-- Are the bytes of s from x on, e of them, zero. -/
def zer (s : ByteArray) : Nat → Int → Bool
  | 0, _ => true
  | e + 1, x => decide (bt s x = 0) && zer s e (x + 1)
theorem zer_iff (s : ByteArray) : ∀ (e : Nat) (x : Int), zer s e x = true ↔ ∀ j : Nat, j < e → bt s (x + j) = 0 := by
  intro e
  induction e with
  | zero => intro x; simp [zer]
  | succ e ih =>
    intro x
    simp only [zer, Bool.and_eq_true, decide_eq_true_eq, ih]
    constructor
    · rintro ⟨h0, h⟩ j hj
      cases j with
      | zero => simpa using h0
      | succ j => have := h j (by omega); rw [show x + ((j + 1 : Nat) : Int) = x + 1 + (j : Int) by omega]; exact this
    · intro h
      refine ⟨by simpa using h 0 (by omega), fun j hj => ?_⟩
      have := h (j + 1) (by omega)
      rw [show x + ((j + 1 : Nat) : Int) = x + 1 + (j : Int) by omega] at this; exact this
theorem zeros3 : ∀ c : Fin 4, ∀ j : Fin 4, bt ((⟨#[0, 0, 0]⟩ : ByteArray).extract 0 c) (j : Nat) = 0 ∧ ((⟨#[0, 0, 0]⟩ : ByteArray).extract 0 c).size = c := by decide +kernel
theorem zeros_eq (s : ByteArray) (a : Nat) (c : Int) (h0 : 0 ≤ c) (h3 : c ≤ 3) (hs : a + c ≤ s.size) (b : Nat) (hb : (b : Int) = a + c) : (s.extract a b).toList = ((⟨#[0, 0, 0]⟩ : ByteArray).extract 0 c.toNat).toList ↔ zer s c.toNat a = true := by
  rw [list_eq_iff, zer_iff]
  have hz := fun j : Fin 4 => zeros3 ⟨c.toNat, by omega⟩ j
  have hz0 : ((⟨#[0, 0, 0]⟩ : ByteArray).extract 0 c.toNat).size = c.toNat := (hz 0).2
  constructor
  · intro h j hj
    have := bt_extract s a b (j := (j : Int)) (by omega) (by omega)
    rw [← this, h]; exact (hz ⟨j, by omega⟩).1
  · intro h
    refine ba_ext (by rw [ex_size, hz0]; omega) fun j hj => ?_
    rw [ex_size] at hj
    rw [bt_extract s a b (by omega) (by omega), h j (by omega)]
    exact ((hz ⟨j, by omega⟩).1).symm
/-! ### what is a segment: the two answers are one -/
theorem segFrom_iff (s : ByteArray) : ∀ (e : Nat) (i : Int), segFrom s e i = true ↔ ∀ j : Nat, j < e → segCh (bt s (i + j)) (i + j) = true := by
  intro e
  induction e with
  | zero => intro i; simp [segFrom]
  | succ e ih =>
    intro i
    simp only [segFrom, Bool.and_eq_true, ih]
    constructor
    · rintro ⟨h0, h⟩ j hj
      cases j with
      | zero => simpa using h0
      | succ j => have := h j (by omega); rw [show i + ((j + 1 : Nat) : Int) = i + 1 + (j : Int) by omega]; exact this
    · intro h
      refine ⟨by simpa using h 0 (by omega), fun j hj => ?_⟩
      have := h (j + 1) (by omega)
      rw [show i + ((j + 1 : Nat) : Int) = i + 1 + (j : Int) by omega] at this; exact this
theorem nsSeg_iff (s : ByteArray) : nsSeg s = true ↔ 1 ≤ s.size ∧ s.size ≤ 4 ∧ ∀ j : Nat, j < s.size → segCh (bt s j) j = true := by
  unfold nsSeg
  rw [Bool.and_eq_true, Bool.and_eq_true, decide_eq_true_eq, decide_eq_true_eq, segFrom_iff]
  constructor
  · rintro ⟨h, h1, h2⟩; exact ⟨h1, h2, fun j hj => by simpa using h j hj⟩
  · rintro ⟨h1, h2, h⟩; exact ⟨fun j hj => by simpa using h j hj, h1, h2⟩
theorem segCh_nz {c i : Int} (h : segCh c i = true) : c ≠ 0 := by
  unfold segCh at h; intro h0; subst h0; simp at h
/-! letters, digits -/
def isL (c : Int) : Bool := (decide (97 ≤ c) && decide (c ≤ 122)) || (decide (65 ≤ c) && decide (c ≤ 90)) || decide (c = 95)
def isD (c : Int) : Bool := decide (48 ≤ c) && decide (c ≤ 57)
def isLow (c : Int) : Bool := decide (97 ≤ c) && decide (c ≤ 122)
def allLD (s : ByteArray) : Nat → Int → Bool
  | 0, _ => true
  | e + 1, i => (isL (bt s i) || isD (bt s i)) && allLD s e (i + 1)
def anyLow (s : ByteArray) : Nat → Int → Bool
  | 0, _ => false
  | e + 1, i => isLow (bt s i) || anyLow s e (i + 1)
theorem segCh_pos {c i : Int} (h : 0 < i) : segCh c i = ((isL c || isD c) && !isLow c) := by
  unfold segCh isL isD isLow
  rw [decide_eq_true h]
  by_cases a : 97 ≤ c <;> by_cases b : c ≤ 122 <;> by_cases d : 65 ≤ c <;> by_cases e : c ≤ 90 <;> by_cases f : c = 95 <;> by_cases g : 48 ≤ c <;> by_cases m : c ≤ 57 <;> simp [a, b, d, e, f, g, m] <;> omega
theorem segCh_zero {c : Int} : segCh c 0 = (isL c && !isLow c) := by
  unfold segCh isL isLow
  by_cases a : 97 ≤ c <;> by_cases b : c ≤ 122 <;> by_cases d : 65 ≤ c <;> by_cases e : c ≤ 90 <;> by_cases f : c = 95 <;> simp [a, b, d, e, f] <;> omega
theorem segFrom_pos (s : ByteArray) : ∀ (e : Nat) (i : Int), 0 < i → segFrom s e i = (allLD s e i && !anyLow s e i) := by
  intro e
  induction e with
  | zero => intro i h; rfl
  | succ e ih =>
    intro i h
    simp only [segFrom, allLD, anyLow]
    rw [ih (i + 1) (by omega), segCh_pos h]
    cases (isL (bt s i) || isD (bt s i)) <;> cases isLow (bt s i) <;> cases allLD s e (i + 1) <;> cases anyLow s e (i + 1) <;> rfl
/-! ### a segment in four bytes -/
/-- The first zero byte at n or later, within e bytes; else n + e. -/
def leadF (s : ByteArray) : Nat → Int → Int
  | 0, n => n
  | e + 1, n => if bt s n = 0 then n else leadF s e (n + 1)
def four (s : ByteArray) : Nat := min 4 s.size
def lead (s : ByteArray) : Int := leadF s (four s) 0
theorem leadF_bd (s : ByteArray) : ∀ (e : Nat) (n : Int), n ≤ leadF s e n ∧ leadF s e n ≤ n + e ∧ (∀ j, n ≤ j → j < leadF s e n → bt s j ≠ 0) ∧ (leadF s e n < n + e → bt s (leadF s e n) = 0) := by
  intro e
  induction e with
  | zero => intro n; exact ⟨Int.le_refl _, by simp [leadF], fun j h1 h2 => by simp only [leadF] at h2; omega, fun h => by simp only [leadF] at h; omega⟩
  | succ e ih =>
    intro n
    obtain ⟨h1, h2, h3, h4⟩ := ih (n + 1)
    simp only [leadF]
    by_cases h : bt s n = 0
    · rw [if_pos h]; exact ⟨Int.le_refl _, by omega, fun j a b => by omega, fun _ => h⟩
    · rw [if_neg h]
      refine ⟨by omega, by omega, fun j a b => ?_, fun hh => h4 (by omega)⟩
      by_cases e : j = n
      · rw [e]; exact h
      · exact h3 j (by omega) b
theorem lead_bd (s : ByteArray) : 0 ≤ lead s ∧ lead s ≤ four s ∧ (∀ j, 0 ≤ j → j < lead s → bt s j ≠ 0) ∧ (lead s < four s → bt s (lead s) = 0) := by
  have := leadF_bd s (four s) 0
  unfold lead; rw [Int.zero_add] at this; exact this
/-- A segment of x bytes, and nothing but zeros behind it. -/
def okAt (s : ByteArray) (x : Int) : Bool := nsSeg (s.extract 0 x.toNat) && zer s ((four s : Int) - x).toNat x
theorem okAt_iff (s : ByteArray) {x : Int} (h0 : 0 ≤ x) (h1 : x ≤ four s) : okAt s x = true ↔ 1 ≤ x ∧ (∀ j : Nat, j < x → segCh (bt s j) j = true) ∧ ∀ j : Nat, x ≤ j → j < four s → bt s j = 0 := by
  have hf : four s ≤ s.size ∧ four s ≤ 4 := by unfold four; omega
  unfold okAt
  rw [Bool.and_eq_true, nsSeg_iff, zer_iff, ex_size]
  constructor
  · rintro ⟨⟨a, b, c⟩, d⟩
    refine ⟨by omega, fun j hj => ?_, fun j hj hj2 => ?_⟩
    · have := c j (by omega)
      rwa [bt_extract s 0 x.toNat (by omega) (by omega), show ((0 : Nat) : Int) + (j : Int) = j by omega] at this
    · have := d (j - x.toNat) (by omega)
      rwa [show x + ((j - x.toNat : Nat) : Int) = j by omega] at this
  · rintro ⟨a, b, c⟩
    refine ⟨⟨by omega, by omega, fun j hj => ?_⟩, fun j hj => ?_⟩
    · rw [bt_extract s 0 x.toNat (by omega) (by omega), show ((0 : Nat) : Int) + (j : Int) = j by omega]; exact b j (by omega)
    · have := c (x.toNat + j) (by omega) (by omega)
      rwa [show ((x.toNat + j : Nat) : Int) = x + (j : Int) by omega] at this
theorem okAt_lead (s : ByteArray) {x : Int} (h0 : 0 ≤ x) (h1 : x ≤ four s) (h : okAt s x = true) : x = lead s := by
  obtain ⟨a, b, c⟩ := (okAt_iff s h0 h1).1 h
  obtain ⟨l1, l2, l3, l4⟩ := lead_bd s
  rcases Int.lt_trichotomy x (lead s) with hh | hh | hh
  · have := c x.toNat (by omega) (by omega)
    rw [Int.toNat_of_nonneg h0] at this
    exact absurd this (l3 x h0 hh)
  · exact hh
  · have := segCh_nz (b (lead s).toNat (by omega))
    rw [Int.toNat_of_nonneg l1] at this
    exact absurd (l4 (by omega)) this
/-- What four bytes hold: a segment; no segment (3); too few bytes (4). -/
def dseg (s : ByteArray) : ByteArray × Int := if s.size = 0 then (⟨#[]⟩, 4) else if okAt s (lead s) = true then (if s.size < 4 then (⟨#[]⟩, 4) else (s.extract 0 (lead s).toNat, 0)) else (⟨#[]⟩, 3)
theorem valid_one (t : ByteArray) (h : t.size ≤ 4) : nspath_Valid.f false 0 [t] = some (nsSeg t) := by
  unfold nspath_Valid.f
  rw [if_neg (by omega), if_neg (by omega), if_neg (by decide), if_neg (by rw [List.length_singleton, wrap64_id (by omega) (by omega)]; omega), if_neg (by omega), if_pos (by simp)]
  unfold slices_ContainsFunc.f
  rw [if_pos (by simp; omega), Option.bind_some]
  simp
theorem bseg_tail (s : ByteArray) (hs : s.size ≤ 562949953421312) {n : Int} (h0 : 0 ≤ n) (hn : n ≤ s.size) : ∀ (e : Nat) (x : Int) (k : Nat), 0 ≤ x → x + e = four s → 2 * e + 1 < k →
    bytecode_segment.l1 k s n x = some (if zer s e x = true then (if s.size < 4 then (⟨#[]⟩, 4) else (s.extract 0 n.toNat, 0)) else (⟨#[]⟩, 3)) := by
  have hf : four s = 4 ∧ 4 ≤ s.size ∨ four s = s.size ∧ s.size < 4 := by unfold four; omega
  intro e
  induction e with
  | zero =>
    intro x k hx0 hx hk
    obtain ⟨k, rfl⟩ : ∃ m, k = m + 2 := ⟨k - 2, by omega⟩
    have fin : bytecode_segment.j4 (k + 1) s n x false = some (if zer s 0 x = true then (if s.size < 4 then (⟨#[]⟩, 4) else (s.extract 0 n.toNat, 0)) else (⟨#[]⟩, 3)) := by
      simp only [bytecode_segment.j4]
      rw [if_neg (by decide), if_pos (show zer s 0 x = true from rfl)]
      by_cases h4 : s.size < 4
      · rw [if_pos (by omega), if_pos h4]
      · rw [if_neg (by omega), if_neg h4, if_pos h0, if_pos hn]
    simp only [bytecode_segment.l1]
    by_cases hlt : x < s.size
    · rw [if_pos hlt, decide_eq_false (by omega)]; exact fin
    · rw [if_neg hlt]; exact fin
  | succ e ih =>
    intro x k hx0 hx hk
    obtain ⟨k, rfl⟩ : ∃ m, k = m + 2 := ⟨k - 2, by omega⟩
    have hn := ih (x + 1) k (by omega) (by omega) (by omega)
    simp only [bytecode_segment.l1]
    rw [if_pos (by omega), decide_eq_true (by omega)]
    simp only [bytecode_segment.j4]
    rw [if_pos trivial, if_pos hx0, if_pos (by omega)]
    by_cases hz : bt s x = 0
    · have hz' : zer s (e + 1) x = zer s e (x + 1) := by simp [zer, hz]
      rw [if_pos hz, wrap64_id (a := x + 1) (by omega) (by omega), hn, hz']
    · have hz' : zer s (e + 1) x = false := by simp [zer, hz]
      rw [if_neg hz, hz', if_neg (by decide)]
theorem bseg_j1 (s : ByteArray) (hs : s.size ≤ 562949953421312) (k : Nat) (hk : 20 ≤ k) : bytecode_segment.j1 k s (lead s) = some (dseg s) := by
  obtain ⟨l1, l2, l3, l4⟩ := lead_bd s
  have hf : four s ≤ s.size ∧ four s ≤ 4 := by unfold four; omega
  obtain ⟨k, rfl⟩ : ∃ m, k = m + 2 := ⟨k - 2, by omega⟩
  have tail := bseg_tail s hs l1 (by omega) (four s - (lead s).toNat) (lead s) k l1 (by omega) (by omega)
  have bad : bytecode_segment.j2 (k + 1) s (lead s) true = some (⟨#[]⟩, 3) := by simp only [bytecode_segment.j2]; rw [if_pos trivial]
  have good : bytecode_segment.j2 (k + 1) s (lead s) false = bytecode_segment.l1 k s (lead s) (lead s) := by simp only [bytecode_segment.j2]; rw [if_neg (by decide)]
  simp only [bytecode_segment.j1]
  unfold dseg
  by_cases hz : lead s = 0
  · rw [if_pos hz]
    by_cases he : s.size = 0
    · rw [if_pos (toList_nil_iff.2 he), if_neg (by omega), good, tail, if_pos he]
      have : four s - (lead s).toNat = 0 := by omega
      rw [this, if_pos (show zer s 0 _ = true from rfl), if_pos (by omega)]
    · rw [if_neg (fun h => he (toList_nil_iff.1 h)), bad, if_neg he, if_neg]
      intro h
      have := (okAt_iff s l1 l2).1 h
      omega
  · have hsz : s.size ≠ 0 := by omega
    rw [if_neg hz, if_pos (by omega), if_pos l1, if_pos (by omega), valid_one _ (by rw [ex_size]; omega), Option.bind_some, if_neg hsz]
    unfold okAt
    rw [show ((four s : Int) - lead s).toNat = four s - (lead s).toNat by omega]
    cases hg : nsSeg (s.extract 0 (lead s).toNat) with
    | false => rw [show (!false) = true from rfl, bad]; rfl
    | true => rw [show (!true) = false from rfl, good, tail, Bool.true_and]
theorem bseg_eq (s : ByteArray) (hs : s.size ≤ 562949953421312) (k : Nat) (hk : 30 ≤ k) : bytecode_segment.f k s = some (dseg s) := by
  have hf : four s = 4 ∧ 4 ≤ s.size ∨ four s = s.size ∧ s.size < 4 := by unfold four; omega
  have loop : ∀ (e : Nat) (n : Int) (k : Nat), 0 ≤ n → n + e = four s → leadF s e n = lead s → 20 + e < k → bytecode_segment.l0 k s n = some (dseg s) := by
    intro e
    induction e with
    | zero =>
      intro n k h0 hn hl hk
      obtain ⟨k, rfl⟩ : ∃ m, k = m + 1 := ⟨k - 1, by omega⟩
      simp only [leadF] at hl
      simp only [bytecode_segment.l0]
      rw [hl]
      by_cases hlt : n < s.size
      · rw [if_pos (by omega), if_neg (by omega), bseg_j1 s hs k (by omega)]
      · rw [if_neg (by omega), bseg_j1 s hs k (by omega)]
    | succ e ih =>
      intro n k h0 hn hl hk
      obtain ⟨k, rfl⟩ : ∃ m, k = m + 1 := ⟨k - 1, by omega⟩
      simp only [leadF] at hl
      simp only [bytecode_segment.l0]
      rw [if_pos (by omega), if_pos (by omega), if_pos h0]
      by_cases hz : bt s n = 0
      · rw [if_pos hz] at hl ⊢
        rw [hl, bseg_j1 s hs k (by omega)]
      · rw [if_neg hz] at hl ⊢
        rw [wrap64_id (a := n + 1) (by omega) (by omega)]
        exact ih (n + 1) k (by omega) (by omega) hl (by omega)
  exact loop (four s) 0 k (by omega) (by omega) rfl (by omega)
theorem okAt_zero (s : ByteArray) (h : lead s = 0) : okAt s (lead s) = false := by
  have l := lead_bd s
  rw [Bool.eq_false_iff]
  intro hh
  have := (okAt_iff s l.1 l.2.1).1 hh
  omega
/-! ### the path that some bytes hold -/
theorem ite_iff {p q : Prop} [Decidable p] [Decidable q] {α : Type} {x y : α} (h : p ↔ q) : (if p then x else y) = if q then x else y := by
  by_cases hp : p
  · rw [if_pos hp, if_pos (h.1 hp)]
  · rw [if_neg hp, if_neg (fun hq => hp (h.2 hq))]
def bad (c : Int) : Bool × Int × List ByteArray × Int × Int := (false, 0, [], 0, c)
/-- e more segments from place i on. -/
def dloop (s : ByteArray) (root : Bool) (up : Int) : Nat → Int → List ByteArray → Bool × Int × List ByteArray × Int × Int
  | 0, i, acc => (root, up, acc, i, 0)
  | e + 1, i, acc => if (dseg (s.extract i.toNat s.size)).2 = 0 then dloop s root up e (i + 4) (acc ++ [(dseg (s.extract i.toNat s.size)).1]) else bad (dseg (s.extract i.toNat s.size)).2
theorem dseg_long {s : ByteArray} (h : (dseg s).2 = 0) : 4 ≤ s.size := by
  unfold dseg at h
  by_cases h0 : s.size = 0
  · rw [if_pos h0] at h; cases h
  · rw [if_neg h0] at h
    by_cases h1 : okAt s (lead s) = true
    · rw [if_pos h1] at h
      by_cases h2 : s.size < 4
      · rw [if_pos h2] at h; cases h
      · omega
    · rw [if_neg h1] at h; cases h
theorem bpath_loop (s : ByteArray) (hs : s.size ≤ 562949953421312) (root : Bool) (up n : Int) (hn : n ≤ 1000) : ∀ (e : Nat) (x i : Int) (acc : List ByteArray) (k : Nat), 0 ≤ x → x + e = n → 0 ≤ i → i ≤ s.size → (acc.length : Int) = x → 40 + e < k →
    bytecode_Path.l1 k s i n x root up acc = some (dloop s root up e i acc) := by
  intro e
  induction e with
  | zero =>
    intro x i acc k h0 hx hi hi2 ha hk
    obtain ⟨k, rfl⟩ : ∃ m, k = m + 1 := ⟨k - 1, by omega⟩
    simp only [bytecode_Path.l1]; rw [if_neg (by omega)]; rfl
  | succ e ih =>
    intro x i acc k h0 hx hi hi2 ha hk
    obtain ⟨k, rfl⟩ : ∃ m, k = m + 1 := ⟨k - 1, by omega⟩
    have hsz := ex_size s i.toNat s.size
    simp only [bytecode_Path.l1]
    rw [if_pos (by omega), if_pos hi, if_pos hi2, bseg_eq _ (by omega) k (by omega), Option.bind_some]
    simp only [dloop]
    by_cases hd : (dseg (s.extract i.toNat s.size)).2 = 0
    · have h4 := dseg_long hd
      rw [if_pos hd, if_pos hd, if_pos (by omega), wrap64_id (a := i + 4) (by omega) (by omega), wrap64_id (a := x + 1) (by omega) (by omega)]
      exact ih (x + 1) (i + 4) _ k (by omega) (by omega) (by omega) (by omega) (by simp; omega) (by omega)
    · rw [if_neg hd, if_neg hd]; rfl
/-- The number of segments that byte b announces, and how many bytes tell it; c is the byte behind it, if there is one. -/
def segN (b : Int) (c : Option Int) : Int × Int := if b = 0 then (0, 1) else if b = 46 then (2, 1) else if b = 47 then (match c with | some c => (c, 2) | none => (3, 2)) else (1, 0)
def nextB (s : ByteArray) (i : Int) : Option Int := if i + 1 < s.size then some (bt s (i + 1)) else none
/-- What stands behind the prefix of a path. -/
def tailD (s : ByteArray) (i : Int) (root : Bool) (up : Int) : Bool × Int × List ByteArray × Int × Int :=
  if up > 32 then bad 3 else if i = s.size then bad 4 else
    if ((segN (bt s i) (nextB s i)).1 = 0 ∧ root = false ∧ up = 0) ∨ up + (segN (bt s i) (nextB s i)).1 > 32 ∨ ((segN (bt s i) (nextB s i)).2 = 2 ∧ ((segN (bt s i) (nextB s i)).1 < 3 ∨ up + 3 > 32)) then bad 3
    else if (s.size : Int) - i < (segN (bt s i) (nextB s i)).2 then bad 4
    else dloop s root up (segN (bt s i) (nextB s i)).1.toNat (i + (segN (bt s i) (nextB s i)).2) []
theorem segs_end (r : ByteArray) {n kk up : Int} (root : Bool) (hn : 0 ≤ n) (hn2 : n ≤ 255) (hu : 0 ≤ up) (hu2 : up ≤ 32) (k : Nat) (hk : 5 ≤ k) :
    bytecode_segments.j0 k r n kk root up [] = some (if (n = 0 ∧ root = false ∧ up = 0) ∨ up + n > 32 ∨ (kk = 2 ∧ (n < 3 ∨ up + 3 > 32)) then (0, 0, 3) else if (r.size : Int) < kk then (0, 0, 4) else (n, kk, 0)) := by
  obtain ⟨k, rfl⟩ : ∃ m, k = m + 3 := ⟨k - 3, by omega⟩
  have e2 : ∀ b, bytecode_segments.j2 (k + 1) r n kk b = some (if b = true then (0, 0, 3) else if (r.size : Int) < kk then (0, 0, 4) else (n, kk, 0)) := by
    intro b
    simp only [bytecode_segments.j2]
    cases b with
    | true => rw [if_pos rfl, if_pos rfl]
    | false =>
      rw [if_neg (c := false = true) (by decide), if_neg (c := false = true) (by decide)]
      by_cases h : (r.size : Int) < kk
      · rw [if_pos h, if_pos h]
      · rw [if_neg h, if_neg h]
  have e1 : ∀ b, bytecode_segments.j1 (k + 2) r n kk b root up [] = some (if b = true ∨ up + n > 32 ∨ (kk = 2 ∧ (n < 3 ∨ up + 3 > 32)) then (0, 0, 3) else if (r.size : Int) < kk then (0, 0, 4) else (n, kk, 0)) := by
    intro b
    simp only [bytecode_segments.j1]
    rw [wrap64_id (a := up + n) (by omega) (by omega), wrap64_id (a := up + 3) (by omega) (by omega)]
    cases b with
    | true => rw [if_pos rfl, e2, if_pos rfl, if_pos (Or.inl rfl)]
    | false =>
      rw [if_neg (by decide)]
      by_cases h1 : up + n > 32
      · rw [if_pos h1, decide_eq_true h1, e2, if_pos rfl, if_pos (Or.inr (Or.inl h1))]
      · rw [if_neg h1]
        by_cases h2 : kk = 2
        · rw [if_pos h2]
          by_cases h3 : n < 3
          · rw [if_pos h3, e2, if_pos rfl, if_pos (Or.inr (Or.inr ⟨h2, Or.inl h3⟩))]
          · rw [if_neg h3, e2]
            by_cases h4 : up + 3 > 32
            · rw [decide_eq_true h4, if_pos rfl, if_pos (Or.inr (Or.inr ⟨h2, Or.inr h4⟩))]
            · rw [decide_eq_false h4, if_neg (c := false = true) (by decide), if_neg (show ¬ (false = true ∨ up + n > 32 ∨ (kk = 2 ∧ (n < 3 ∨ up + 3 > 32))) from fun h => h.elim (fun h => absurd h (by decide)) (fun h => h.elim h1 (fun h => h.2.elim h3 h4)))]
        · rw [if_neg h2, e2, if_neg (c := false = true) (by decide), if_neg (show ¬ (false = true ∨ up + n > 32 ∨ (kk = 2 ∧ (n < 3 ∨ up + 3 > 32))) from fun h => h.elim (fun h => absurd h (by decide)) (fun h => h.elim h1 (fun h => h2 h.1)))]
  simp only [bytecode_segments.j0]
  by_cases h0 : n = 0
  · rw [if_pos h0]
    cases root with
    | true => rw [if_pos rfl, e1]; congr 1; refine ite_iff ?_; simp [h0]
    | false =>
      rw [if_neg (by decide), e1]; congr 1; refine ite_iff ?_
      simp only [beq_iff_eq]
      constructor
      · rintro (h | h)
        · exact Or.inl ⟨h0, by trivial, h⟩
        · exact Or.inr h
      · rintro (h | h)
        · exact Or.inl h.2.2
        · exact Or.inr h
  · rw [if_neg h0, e1]; congr 1; refine ite_iff ?_
    constructor
    · rintro (h | h)
      · cases h
      · exact Or.inr h
    · rintro (h | h)
      · exact absurd h.1 h0
      · exact Or.inr h
theorem segN_bd (s : ByteArray) (i : Int) : 0 ≤ (segN (bt s i) (nextB s i)).1 ∧ (segN (bt s i) (nextB s i)).1 ≤ 255 ∧ 0 ≤ (segN (bt s i) (nextB s i)).2 ∧ (segN (bt s i) (nextB s i)).2 ≤ 2 := by
  have := bt_range s (i + 1)
  unfold segN nextB
  split
  · omega
  · split
    · omega
    · split
      · split
        · rename_i heq; split at heq
          · injection heq with heq; subst heq; exact ⟨this.1, this.2, by simp, by simp⟩
          · cases heq
        · simp
      · simp
theorem btail_eq (s : ByteArray) (hs : s.size ≤ 562949953421312) (root : Bool) {i up : Int} (hi : 0 ≤ i) (hi2 : i ≤ s.size) (hu : 0 ≤ up) (k : Nat) (hk : 400 ≤ k) : bytecode_Path.j2 k s i root up = some (tailD s i root up) := by
  obtain ⟨k, rfl⟩ : ∃ m, k = m + 1 := ⟨k - 1, by omega⟩
  simp only [bytecode_Path.j2]
  unfold tailD
  by_cases h1 : up > 32
  · rw [if_pos h1, if_pos h1]; rfl
  · rw [if_neg h1, if_neg h1, if_pos hi, if_pos hi2]
    have hr : (s.extract i.toNat s.size).size = s.size - i.toNat := by rw [ex_size]; omega
    have hb := segN_bd s i
    have fin : ∀ n kk : Int, (n, kk) = segN (bt s i) (nextB s i) → i < s.size → bytecode_segments.j0 k (s.extract i.toNat s.size) n kk root up [] = some (if ((segN (bt s i) (nextB s i)).1 = 0 ∧ root = false ∧ up = 0) ∨ up + (segN (bt s i) (nextB s i)).1 > 32 ∨ ((segN (bt s i) (nextB s i)).2 = 2 ∧ ((segN (bt s i) (nextB s i)).1 < 3 ∨ up + 3 > 32)) then (0, 0, 3) else if (s.size : Int) - i < (segN (bt s i) (nextB s i)).2 then (0, 0, 4) else ((segN (bt s i) (nextB s i)).1, (segN (bt s i) (nextB s i)).2, 0)) := by
      intro n kk he hlt
      rw [← he] at hb ⊢
      rw [segs_end _ root hb.1 hb.2.1 hu (by omega) k (by omega), hr, show ((s.size - i.toNat : Nat) : Int) = (s.size : Int) - i by omega]
    unfold bytecode_segments.f
    by_cases h2 : i = s.size
    · rw [if_pos (toList_nil_iff.2 (by rw [hr]; omega)), Option.bind_some, if_neg (by decide), if_pos h2]; rfl
    · rw [if_neg (fun h => by have := toList_nil_iff.1 h; rw [hr] at this; omega), if_neg h2]
      have hb0 : bt (s.extract i.toNat s.size) 0 = bt s i := by rw [bt_extract _ _ _ (by omega) (by omega)]; congr 1; omega
      rw [if_pos (by rw [hr]; omega), hb0]
      have done_ : ∀ (r : Option (Int × Int × Int)), r = some (if ((segN (bt s i) (nextB s i)).1 = 0 ∧ root = false ∧ up = 0) ∨ up + (segN (bt s i) (nextB s i)).1 > 32 ∨ ((segN (bt s i) (nextB s i)).2 = 2 ∧ ((segN (bt s i) (nextB s i)).1 < 3 ∨ up + 3 > 32)) then (0, 0, 3) else if (s.size : Int) - i < (segN (bt s i) (nextB s i)).2 then (0, 0, 4) else ((segN (bt s i) (nextB s i)).1, (segN (bt s i) (nextB s i)).2, 0)) →
          (r.bind fun bt168 => (if bt168.2.2 = 0 then (bytecode_Path.l1 k s (wrap64 (i + bt168.2.1)) bt168.1 0 root up ([] : List ByteArray)) else (some (false, 0, ([] : List ByteArray), 0, bt168.2.2)))) = some (if ((segN (bt s i) (nextB s i)).1 = 0 ∧ root = false ∧ up = 0) ∨ up + (segN (bt s i) (nextB s i)).1 > 32 ∨ ((segN (bt s i) (nextB s i)).2 = 2 ∧ ((segN (bt s i) (nextB s i)).1 < 3 ∨ up + 3 > 32)) then bad 3 else if (s.size : Int) - i < (segN (bt s i) (nextB s i)).2 then bad 4 else dloop s root up (segN (bt s i) (nextB s i)).1.toNat (i + (segN (bt s i) (nextB s i)).2) []) := by
        intro r hr2
        rw [hr2, Option.bind_some]
        by_cases c1 : ((segN (bt s i) (nextB s i)).1 = 0 ∧ root = false ∧ up = 0) ∨ up + (segN (bt s i) (nextB s i)).1 > 32 ∨ ((segN (bt s i) (nextB s i)).2 = 2 ∧ ((segN (bt s i) (nextB s i)).1 < 3 ∨ up + 3 > 32))
        · rw [if_pos c1, if_pos c1, if_neg (by decide)]; rfl
        · rw [if_neg c1, if_neg c1]
          by_cases c2 : (s.size : Int) - i < (segN (bt s i) (nextB s i)).2
          · rw [if_pos c2, if_pos c2, if_neg (by decide)]; rfl
          · rw [if_neg c2, if_neg c2, if_pos rfl]
            simp only
            rw [wrap64_id (by omega) (by omega)]
            exact bpath_loop s hs root up _ (by omega) (segN (bt s i) (nextB s i)).1.toNat 0 _ [] k (by omega) (by omega) (by omega) (by omega) (by simp) (by omega)
      refine done_ _ ?_
      by_cases b0 : bt s i = 0
      · rw [if_pos b0]; exact fin 0 1 (by unfold segN; rw [if_pos b0]) (by omega)
      · rw [if_neg b0]
        by_cases b1 : bt s i = 46
        · rw [if_pos b1]; exact fin 2 1 (by unfold segN; rw [if_neg b0, if_pos b1]) (by omega)
        · rw [if_neg b1]
          by_cases b2 : bt s i = 47
          · rw [if_pos b2]
            by_cases b3 : i + 1 < s.size
            · have hb1 : bt (s.extract i.toNat s.size) 1 = bt s (i + 1) := by rw [bt_extract _ _ _ (by omega) (by omega)]; congr 1; omega
              have := bt_range s (i + 1)
              rw [if_pos (by rw [hr]; omega), if_pos (by rw [hr]; omega), hb1, wrap64_id (by omega) (by omega)]
              exact fin _ 2 (by unfold segN nextB; rw [if_neg b0, if_neg b1, if_pos b2, if_pos b3]) (by omega)
            · rw [if_neg (by rw [hr]; omega)]
              exact fin 3 2 (by unfold segN nextB; rw [if_neg b0, if_neg b1, if_pos b2, if_neg b3]) (by omega)
          · rw [if_neg b2]; exact fin 1 0 (by unfold segN; rw [if_neg b0, if_neg b1, if_neg b2]) (by omega)
/-- The first place, from n on, that holds no caret. -/
def caretF (s : ByteArray) : Nat → Int → Int
  | 0, n => n
  | e + 1, n => if bt s n = 94 then caretF s e (n + 1) else n
theorem caretF_bd (s : ByteArray) : ∀ (e : Nat) (n : Int), n ≤ caretF s e n ∧ caretF s e n ≤ n + e := by
  intro e
  induction e with
  | zero => intro n; simp [caretF]
  | succ e ih =>
    intro n
    have := ih (n + 1)
    simp only [caretF]
    split <;> omega
def pathD (s : ByteArray) : Bool × Int × List ByteArray × Int × Int := if 0 < s.size ∧ bt s 0 = 92 then tailD s 1 true 0 else tailD s (caretF s s.size 0) false (caretF s s.size 0)
theorem tailD_big (s : ByteArray) (i j : Int) (root : Bool) {up vp : Int} (h : up > 32) (h' : vp > 32) : tailD s i root up = tailD s j root vp := by unfold tailD; rw [if_pos h, if_pos h']
theorem bpath_eq (s : ByteArray) (hs : s.size ≤ 562949953421312) (k : Nat) (hk : s.size + 500 ≤ k) : bytecode_Path.f k s = some (pathD s) := by
  have loop : ∀ (e : Nat) (n : Int) (k : Nat), 0 ≤ n → n + e = s.size → n ≤ 33 → 420 + e ≤ k → bytecode_Path.l0 k s n false 0 = some (tailD s (caretF s e n) false (caretF s e n)) := by
    intro e
    induction e with
    | zero =>
      intro n k h0 hn h33 hk
      obtain ⟨k, rfl⟩ : ∃ m, k = m + 1 := ⟨k - 1, by omega⟩
      simp only [bytecode_Path.l0, caretF]
      rw [if_neg (by omega)]
      exact btail_eq s hs false h0 (by omega) h0 k (by omega)
    | succ e ih =>
      intro n k h0 hn h33 hk
      obtain ⟨k, rfl⟩ : ∃ m, k = m + 1 := ⟨k - 1, by omega⟩
      simp only [bytecode_Path.l0, caretF]
      rw [if_pos (by omega), if_pos h0]
      by_cases hc : bt s n = 94
      · rw [if_pos hc, if_pos hc]
        by_cases hl : n ≤ 32
        · rw [if_pos hl, wrap64_id (by omega) (by omega)]
          exact ih (n + 1) k (by omega) (by omega) (by omega) (by omega)
        · rw [if_neg hl, btail_eq s hs false h0 (by omega) h0 k (by omega)]
          have := caretF_bd s e (n + 1)
          exact congrArg some (tailD_big s _ _ false (by omega) (by omega))
      · rw [if_neg hc, if_neg hc]
        exact btail_eq s hs false h0 (by omega) h0 k (by omega)
  unfold bytecode_Path.f pathD
  obtain ⟨k, rfl⟩ : ∃ m, k = m + 1 := ⟨k - 1, by omega⟩
  by_cases h0 : s.size = 0
  · rw [if_pos (toList_nil_iff.2 h0), if_neg (by omega)]
    simp only [bytecode_Path.j0]
    rw [if_neg (by decide)]
    exact loop s.size 0 k (by omega) (by omega) (by omega) (by omega)
  · rw [if_neg (fun h => h0 (toList_nil_iff.1 h)), if_pos (by omega)]
    simp only [bytecode_Path.j0]
    by_cases h1 : bt s 0 = 92
    · rw [if_pos (by simpa using h1), if_pos ⟨by omega, h1⟩]
      exact btail_eq s hs true (by omega) (by omega) (by omega) k (by omega)
    · rw [if_neg (by simpa using h1), if_neg (fun h => h1 h.2)]
      exact loop s.size 0 k (by omega) (by omega) (by omega) (by omega)
theorem dloop_len (s : ByteArray) (root : Bool) (up : Int) : ∀ (e : Nat) (i : Int) (acc : List ByteArray), (dloop s root up e i acc).2.2.1.length ≤ acc.length + e := by
  intro e
  induction e with
  | zero => intro i acc; simp [dloop]
  | succ e ih =>
    intro i acc
    simp only [dloop]
    split
    · have := ih (i + 4) (acc ++ [(dseg (s.extract i.toNat s.size)).1])
      rw [List.length_append, List.length_singleton] at this; omega
    · simp [bad]
theorem tailD_len (s : ByteArray) (i : Int) (root : Bool) (up : Int) : (tailD s i root up).2.2.1.length ≤ 255 := by
  have hb := segN_bd s i
  unfold tailD
  repeat' split
  all_goals (first | (simp [bad]; done) | (have := dloop_len s root up (segN (bt s i) (nextB s i)).1.toNat (i + (segN (bt s i) (nextB s i)).2) []; simp at this ⊢; omega))
theorem pathD_len (s : ByteArray) : (pathD s).2.2.1.length ≤ 255 := by unfold pathD; split <;> exact tailD_len _ _ _ _
theorem equal_str (l : List ByteArray) (hl : l.length ≤ 1000000) (k : Nat) (hk : l.length < k) : platformfwhelp_Equal_string.f k l l = some true := by
  have loop : ∀ (e : Nat) (i q : Nat), i + e = l.length → e < q → platformfwhelp_Equal_string.l0 q l l i = some true := by
    intro e
    induction e with
    | zero =>
      intro i q hi hq
      obtain ⟨q, rfl⟩ : ∃ m, q = m + 1 := ⟨q - 1, by omega⟩
      simp only [platformfwhelp_Equal_string.l0]; rw [if_neg (by omega)]
    | succ e ih =>
      intro i q hi hq
      obtain ⟨q, rfl⟩ : ∃ m, q = m + 1 := ⟨q - 1, by omega⟩
      simp only [platformfwhelp_Equal_string.l0]
      rw [if_pos (by omega), if_pos (by omega), if_pos (by omega), if_pos trivial, wrap64_id (by omega) (by omega)]
      exact ih (i + 1) q (by omega) (by omega)
  unfold platformfwhelp_Equal_string.f
  rw [if_pos rfl]; exact loop l.length 0 k (by omega) hk
theorem same_refl (root : Bool) (up : Int) (l : List ByteArray) (hl : l.length ≤ 1000000) (k : Nat) (hk : l.length < k) : platformfwlaw05_same.f k root up l root up l = some true := by
  unfold platformfwlaw05_same.f
  rw [if_pos (by simp), if_pos rfl, equal_str l hl k hk, Option.bind_some]
/-! ### more bytes behind do not change what was decoded -/
theorem decInt_app (l t : List Int) (h : (decInt l).2.2 ≠ 4) : decInt (l ++ t) = decInt l := by
  cases l with
  | nil => exact absurd rfl h
  | cons p l =>
    rw [List.cons_append]
    simp only [decInt] at h ⊢
    by_cases c0 : sz p < 0
    · rw [if_pos c0, if_pos c0]
    · rw [if_neg c0] at h
      by_cases c1 : (l.length : Int) < sz p
      · rw [if_pos c1] at h; exact absurd rfl h
      · rw [if_neg c0, if_neg c0, if_neg c1, if_neg (show ¬ ((l ++ t).length : Int) < sz p by rw [List.length_append]; omega), List.take_append_of_le_length (by omega)]
theorem decLen_app (l t : List Int) (h : (decLen l).2.2 ≠ 4) : decLen (l ++ t) = decLen l := by
  cases l with
  | nil => exact absurd rfl h
  | cons c l =>
    rw [List.cons_append]
    simp only [decLen] at h ⊢
    by_cases c0 : 1 < 1 + c / 64 ∧ 16 ≤ c % 64
    · rw [if_pos c0, if_pos c0]
    · rw [if_neg c0] at h
      by_cases c1 : (l.length : Int) < c / 64
      · rw [if_pos c1] at h; exact absurd rfl h
      · rw [if_neg c0, if_neg c0, if_neg c1, if_neg (show ¬ ((l ++ t).length : Int) < c / 64 by rw [List.length_append]; omega), List.take_append_of_le_length (by omega)]
theorem ext_app (s t : ByteArray) (i : Nat) (h : i ≤ s.size) : (s ++ t).extract i (s ++ t).size = s.extract i s.size ++ t := by
  refine ba_ext ?_ fun j hj => ?_
  · rw [ex_size, ByteArray.size_append, ByteArray.size_append, ex_size]; omega
  · rw [ex_size, ByteArray.size_append] at hj
    rw [bt_extract _ _ _ (by omega) (by rw [ByteArray.size_append]; omega)]
    by_cases hlt : i + j < s.size
    · rw [bt_app s t (by omega) (by omega), bt_app _ t (by omega) (by rw [ex_size]; omega), bt_extract _ _ _ (by omega) (by omega)]
    · have e1 : bt (s ++ t) ((i : Int) + j) = bt t ((i : Int) + j - s.size) := by
        rw [bt_B, bt_B, B_append, List.getD_eq_getElem?_getD, List.getD_eq_getElem?_getD, List.getElem?_append_right (by rw [B_size]; omega), B_size]; congr 2; omega
      have e2 : bt (s.extract i s.size ++ t) (j : Int) = bt t ((i : Int) + j - s.size) := by
        rw [bt_B, bt_B, B_append, List.getD_eq_getElem?_getD, List.getD_eq_getElem?_getD, List.getElem?_append_right (by rw [B_size, ex_size]; omega), B_size, ex_size]; congr 2; omega
      rw [e1, e2]
theorem ext_low (s t : ByteArray) (n : Nat) (h : n ≤ s.size) : (s ++ t).extract 0 n = s.extract 0 n := by
  refine ba_ext ?_ fun j hj => ?_
  · rw [ex_size, ex_size, ByteArray.size_append]; omega
  · rw [ex_size, ByteArray.size_append] at hj
    rw [bt_extract _ _ _ (by omega) (by omega), bt_extract _ _ _ (by omega) (by omega), bt_app s t (by omega) (by omega)]
theorem okAt_down (s t : ByteArray) {x : Int} (h0 : 0 ≤ x) (h1 : x ≤ four (s ++ t)) (hs : 1 ≤ s.size) (h : okAt (s ++ t) x = true) : okAt s (if x ≤ four s then x else four s) = true := by
  have hf : four s ≤ s.size ∧ four s ≤ 4 ∧ 1 ≤ four s ∧ four s ≤ four (s ++ t) := by unfold four; rw [ByteArray.size_append]; omega
  obtain ⟨a, b, c⟩ := (okAt_iff (s ++ t) h0 h1).1 h
  have hy : (if x ≤ four s then x else (four s : Int)) ≤ x ∧ 1 ≤ (if x ≤ four s then x else (four s : Int)) ∧ (if x ≤ four s then x else (four s : Int)) ≤ four s ∧ ((if x ≤ four s then x else (four s : Int)) = x ∨ (if x ≤ four s then x else (four s : Int)) = four s) := by split <;> omega
  generalize (if x ≤ four s then x else (four s : Int)) = y at hy
  refine (okAt_iff s (by omega) hy.2.2.1).2 ⟨hy.2.1, fun j hj => ?_, fun j hj hj2 => ?_⟩
  · have := b j (by omega)
    rwa [bt_app s t (by omega) (by omega)] at this
  · have := c j (by omega) (by omega)
    rwa [bt_app s t (by omega) (by omega)] at this
theorem okAt_up (s t : ByteArray) {x : Int} (h0 : 0 ≤ x) (h1 : x ≤ four s) (hs : 4 ≤ s.size) (h : okAt s x = true) : okAt (s ++ t) x = true := by
  have hf : four s = 4 ∧ four (s ++ t) = 4 := by unfold four; rw [ByteArray.size_append]; omega
  obtain ⟨a, b, c⟩ := (okAt_iff s h0 h1).1 h
  refine (okAt_iff (s ++ t) h0 (by omega)).2 ⟨a, fun j hj => ?_, fun j hj hj2 => ?_⟩
  · rw [bt_app s t (by omega) (by omega)]; exact b j hj
  · rw [bt_app s t (by omega) (by omega)]; exact c j hj (by omega)
theorem dseg_app (s t : ByteArray) (h : (dseg s).2 ≠ 4) : dseg (s ++ t) = dseg s := by
  obtain ⟨l1, l2, _, _⟩ := lead_bd s
  obtain ⟨m1, m2, _, _⟩ := lead_bd (s ++ t)
  have hf : four s ≤ s.size := by unfold four; omega
  unfold dseg at h ⊢
  by_cases h0 : s.size = 0
  · rw [if_pos h0] at h; exact absurd rfl h
  · rw [if_neg h0] at h ⊢
    rw [if_neg (show ¬ (s ++ t).size = 0 by rw [ByteArray.size_append]; omega)]
    by_cases hok : okAt s (lead s) = true
    · rw [if_pos hok] at h ⊢
      by_cases h4 : s.size < 4
      · rw [if_pos h4] at h; exact absurd rfl h
      · have hu := okAt_up s t l1 l2 (by omega) hok
        have he := okAt_lead (s ++ t) l1 (by unfold four at l2 ⊢; rw [ByteArray.size_append]; omega) hu
        rw [if_neg h4, ← he, if_pos hu, if_neg (show ¬ (s ++ t).size < 4 by rw [ByteArray.size_append]; omega), ext_low s t _ (by omega)]
    · rw [if_neg hok, if_neg]
      intro hh
      have hd := okAt_down s t m1 m2 (by omega) hh
      have hy : 0 ≤ (if lead (s ++ t) ≤ four s then lead (s ++ t) else (four s : Int)) ∧ (if lead (s ++ t) ≤ four s then lead (s ++ t) else (four s : Int)) ≤ four s := by split <;> omega
      have he := okAt_lead s hy.1 hy.2 hd
      rw [he] at hd
      exact hok hd
theorem dloop_app (s t : ByteArray) (root : Bool) (up : Int) : ∀ (e : Nat) (i : Int) (acc : List ByteArray), 0 ≤ i → i ≤ s.size → (dloop s root up e i acc).2.2.2.2 ≠ 4 → dloop (s ++ t) root up e i acc = dloop s root up e i acc := by
  intro e
  induction e with
  | zero => intro i acc _ _ _; rfl
  | succ e ih =>
    intro i acc h0 h1 h
    have hx := ext_app s t i.toNat (by omega)
    simp only [dloop] at h ⊢
    rw [hx]
    by_cases hd : (dseg (s.extract i.toNat s.size)).2 = 0
    · have hl := dseg_long hd
      rw [ex_size] at hl
      have ha := dseg_app (s.extract i.toNat s.size) t (by omega)
      rw [if_pos hd] at h
      rw [ha, if_pos hd, if_pos hd]
      exact ih (i + 4) _ (by omega) (by omega) h
    · rw [if_neg hd] at h
      have ha := dseg_app (s.extract i.toNat s.size) t h
      rw [ha, if_neg hd, if_neg hd]
theorem bad_code (c : Int) : (bad c).2.2.2.2 = c := rfl
theorem tailD_app (s t : ByteArray) (root : Bool) {i up : Int} (h0 : 0 ≤ i) (h1 : i ≤ s.size) (h : (tailD s i root up).2.2.2.2 ≠ 4) : tailD (s ++ t) i root up = tailD s i root up := by
  unfold tailD at h ⊢
  by_cases hu : up > 32
  · rw [if_pos hu, if_pos hu]
  · rw [if_neg hu] at h
    rw [if_neg hu, if_neg hu]
    by_cases hi : i = s.size
    · rw [if_pos hi] at h; exact absurd rfl h
    · have hsz : (s ++ t).size = s.size + t.size := ByteArray.size_append
      have hb : bt (s ++ t) i = bt s i := bt_app s t h0 (by omega)
      rw [if_neg hi] at h
      rw [if_neg hi, if_neg (show ¬ i = ((s ++ t).size : Int) by rw [hsz]; omega), hb]
      by_cases hn : nextB (s ++ t) i = nextB s i
      · rw [hn]
        by_cases c1 : ((segN (bt s i) (nextB s i)).1 = 0 ∧ root = false ∧ up = 0) ∨ up + (segN (bt s i) (nextB s i)).1 > 32 ∨ ((segN (bt s i) (nextB s i)).2 = 2 ∧ ((segN (bt s i) (nextB s i)).1 < 3 ∨ up + 3 > 32))
        · rw [if_pos c1, if_pos c1]
        · rw [if_neg c1] at h
          rw [if_neg c1, if_neg c1]
          by_cases c2 : (s.size : Int) - i < (segN (bt s i) (nextB s i)).2
          · rw [if_pos c2] at h; exact absurd rfl h
          · have hb2 := segN_bd s i
            rw [if_neg c2] at h
            rw [if_neg c2, if_neg (show ¬ ((s ++ t).size : Int) - i < (segN (bt s i) (nextB s i)).2 by rw [hsz]; omega)]
            exact dloop_app s t root up _ _ _ (by omega) (by omega) h
      · have hlast : ¬ i + 1 < s.size := by
          intro hlt
          apply hn
          unfold nextB
          rw [if_pos hlt, if_pos (by rw [hsz]; omega), bt_app s t (by omega) hlt]
        have hnone : nextB s i = none := by unfold nextB; rw [if_neg hlast]
        by_cases b0 : bt s i = 47
        · have he : segN (bt s i) (nextB s i) = (3, 2) := by rw [hnone, b0]; rfl
          have he1 : (segN (bt s i) (nextB s i)).1 = 3 := by rw [he]
          have he2 : (segN (bt s i) (nextB s i)).2 = 2 := by rw [he]
          rw [he1, he2] at h ⊢
          by_cases c1 : ((3 : Int) = 0 ∧ root = false ∧ up = 0) ∨ up + 3 > 32 ∨ ((2 : Int) = 2 ∧ ((3 : Int) < 3 ∨ up + 3 > 32))
          · rw [if_pos c1]
            have hu3 : up + 3 > 32 := by omega
            have hsome : ∃ c, nextB (s ++ t) i = some c := by
              unfold nextB at hn hnone ⊢
              rw [if_neg hlast] at hn
              by_cases hh : i + 1 < (s ++ t).size
              · rw [if_pos hh]; exact ⟨_, rfl⟩
              · rw [if_neg hh] at hn; exact absurd rfl hn
            obtain ⟨c, hc⟩ := hsome
            have he' : segN (bt s i) (nextB (s ++ t) i) = (c, 2) := by rw [hc, b0]; rfl
            have he3 : (segN (bt s i) (nextB (s ++ t) i)).1 = c := by rw [he']
            have he4 : (segN (bt s i) (nextB (s ++ t) i)).2 = 2 := by rw [he']
            rw [he3, he4, if_pos]
            by_cases hc3 : c < 3
            · exact Or.inr (Or.inr ⟨by trivial, Or.inl hc3⟩)
            · exact Or.inr (Or.inl (by omega))
          · rw [if_neg c1, if_pos (by omega)] at h; exact absurd rfl h
        · have he : segN (bt s i) (nextB (s ++ t) i) = segN (bt s i) (nextB s i) := by
            unfold segN
            by_cases a0 : bt s i = 0
            · rw [if_pos a0, if_pos a0]
            · rw [if_neg a0, if_neg a0]
              by_cases a1 : bt s i = 46
              · rw [if_pos a1, if_pos a1]
              · rw [if_neg a1, if_neg a1, if_neg b0, if_neg b0]
          rw [he]
          by_cases c1 : ((segN (bt s i) (nextB s i)).1 = 0 ∧ root = false ∧ up = 0) ∨ up + (segN (bt s i) (nextB s i)).1 > 32 ∨ ((segN (bt s i) (nextB s i)).2 = 2 ∧ ((segN (bt s i) (nextB s i)).1 < 3 ∨ up + 3 > 32))
          · rw [if_pos c1, if_pos c1]
          · rw [if_neg c1] at h
            rw [if_neg c1, if_neg c1]
            by_cases c2 : (s.size : Int) - i < (segN (bt s i) (nextB s i)).2
            · rw [if_pos c2] at h; exact absurd rfl h
            · have hb2 := segN_bd s i
              rw [if_neg c2] at h
              rw [if_neg c2, if_neg (show ¬ ((s ++ t).size : Int) - i < (segN (bt s i) (nextB s i)).2 by rw [hsz]; omega)]
              exact dloop_app s t root up _ _ _ (by omega) (by omega) h
theorem tailD_big' (s t : ByteArray) (i j : Int) (root : Bool) {up vp : Int} (h : up > 32) (h' : vp > 32) : tailD t i root up = tailD s j root vp := by unfold tailD; rw [if_pos h, if_pos h']
theorem caretF_app (s t : ByteArray) : ∀ (e f : Nat) (n : Int), 0 ≤ n → n + e = s.size → (caretF s e n < s.size → caretF (s ++ t) (e + f) n = caretF s e n) ∧ caretF s e n ≤ caretF (s ++ t) (e + f) n := by
  intro e
  induction e with
  | zero =>
    intro f n h0 hn
    have := caretF_bd (s ++ t) (0 + f) n
    simp only [caretF]
    exact ⟨fun h => by omega, this.1⟩
  | succ e ih =>
    intro f n h0 hn
    rw [show e + 1 + f = (e + f) + 1 by omega]
    simp only [caretF]
    rw [bt_app s t h0 (by omega)]
    by_cases hc : bt s n = 94
    · rw [if_pos hc, if_pos hc]; exact ih f (n + 1) (by omega) (by omega)
    · rw [if_neg hc, if_neg hc]; exact ⟨fun _ => rfl, Int.le_refl _⟩
theorem pathD_app (s t : ByteArray) (h : (pathD s).2.2.2.2 ≠ 4) : pathD (s ++ t) = pathD s := by
  have hsz : (s ++ t).size = s.size + t.size := ByteArray.size_append
  unfold pathD at h ⊢
  by_cases h0 : s.size = 0
  · have hc : caretF s s.size 0 = 0 := by rw [h0]; rfl
    rw [if_neg (by omega), hc] at h
    unfold tailD at h
    rw [if_neg (by omega), if_pos (by omega)] at h
    exact absurd rfl h
  · by_cases hr : 0 < s.size ∧ bt s 0 = 92
    · rw [if_pos hr] at h
      rw [if_pos hr, if_pos ⟨by omega, by rw [bt_app s t (by omega) (by omega)]; exact hr.2⟩]
      exact tailD_app s t true (by omega) (by omega) h
    · rw [if_neg hr] at h
      rw [if_neg hr, if_neg (show ¬ (0 < (s ++ t).size ∧ bt (s ++ t) 0 = 92) from fun hh => hr ⟨by omega, by rw [bt_app s t (by omega) (by omega)] at hh; exact hh.2⟩)]
      have hb := caretF_bd s s.size 0
      have hap := caretF_app s t s.size t.size 0 (by omega) (by omega)
      rw [hsz]
      by_cases hlt : caretF s s.size 0 < s.size
      · rw [hap.1 hlt]
        exact tailD_app s t false (by omega) (by omega) h
      · by_cases hbig : caretF s s.size 0 > 32
        · exact tailD_big' s (s ++ t) _ _ false (by omega) hbig
        · exfalso
          unfold tailD at h
          rw [if_neg hbig, if_pos (by omega)] at h
          exact h rfl
theorem BytecodeIncremental : platformfwlaw05_BytecodeIncremental.Pure := by
  intro s t hs ht
  have loop : ∀ (e : Nat) (x : Int) (k : Nat), 0 ≤ x → x + e = 300 → s.size + t.size + 2000 + 4 * e ≤ k → platformfwlaw05_BytecodeIncremental.l0 k s t x = some true := by
    intro e
    induction e with
    | zero =>
      intro x k h0 hx hk
      obtain ⟨k, rfl⟩ : ∃ m, k = m + 2 := ⟨k - 2, by omega⟩
      have fin : platformfwlaw05_BytecodeIncremental.j1 (k + 1) s t x false = some true := by
        simp only [platformfwlaw05_BytecodeIncremental.j1]
        rw [if_neg (by decide), awake_at k (by omega), Option.bind_some]
      simp only [platformfwlaw05_BytecodeIncremental.l0]
      rw [decide_eq_false (show ¬ x < 300 by omega), fin]
      split <;> rfl
    | succ e ih =>
      intro x k h0 hx hk
      obtain ⟨k, rfl⟩ : ∃ m, k = m + 4 := ⟨k - 4, by omega⟩
      simp only [platformfwlaw05_BytecodeIncremental.l0]
      rw [decide_eq_true (show x < 300 by omega)]
      by_cases hlt : x < s.size
      · have hp : (s.extract 0 x.toNat).size = x.toNat := by rw [ex_size]; omega
        have hn := ih (x + 1) k (by omega) (by omega) (by omega)
        have hq : (s.extract 0 x.toNat ++ t).size = x.toNat + t.size := by rw [ByteArray.size_append, hp]
        have hP := pathD_len (s.extract 0 x.toNat)
        have eI := decInt_app (bytesOf (s.extract 0 x.toNat)) (bytesOf t)
        have eL := decLen_app (bytesOf (s.extract 0 x.toNat)) (bytesOf t)
        have eP := pathD_app (s.extract 0 x.toNat) t
        rw [← B_append] at eI eL
        have e3 : platformfwlaw05_BytecodeIncremental.j3 (k + 1) s t x false = some true := by
          simp only [platformfwlaw05_BytecodeIncremental.j3]
          rw [if_neg (by decide), if_pos h0, if_pos (by omega), Length_eq _ (by omega) k (by omega), Option.bind_some, if_pos (by omega), Length_eq _ (by omega) k (by omega), Option.bind_some, wrap64_id (a := x + 1) (by omega) (by omega)]
          by_cases hc : (decLen (bytesOf (s.extract 0 x.toNat))).2.2 = 4
          · rw [if_pos hc]; exact hn
          · rw [if_neg hc, eL hc, if_pos rfl, if_pos rfl, if_pos rfl]; exact hn
        have e2 : platformfwlaw05_BytecodeIncremental.j2 (k + 2) s t x false = some true := by
          simp only [platformfwlaw05_BytecodeIncremental.j2]
          rw [if_neg (by decide), if_pos h0, if_pos (by omega), bpath_eq _ (by omega) (k + 1) (by omega), Option.bind_some, if_pos (by omega), bpath_eq _ (by omega) (k + 1) (by omega), Option.bind_some]
          by_cases hc : (pathD (s.extract 0 x.toNat)).2.2.2.2 = 4
          · rw [if_pos hc]; exact e3
          · rw [if_neg hc, eP hc, same_refl _ _ _ (by omega) (k + 1) (by omega), Option.bind_some, if_pos rfl, if_pos rfl]
            simp only [bne_self_eq_false]; exact e3
        rw [if_pos hlt]
        simp only [platformfwlaw05_BytecodeIncremental.j1]
        rw [if_pos trivial, if_pos h0, if_pos (by omega), Int_eq _ (by omega) (k + 2) (by omega), Option.bind_some, if_pos (by omega), Int_eq _ (by omega) (k + 2) (by omega), Option.bind_some]
        by_cases hc : (decInt (bytesOf (s.extract 0 x.toNat))).2.2 = 4
        · rw [if_pos hc]; exact e2
        · rw [if_neg hc, eI hc, if_pos rfl, if_pos rfl]
          simp only [bne_self_eq_false]; exact e2
      · rw [if_neg hlt]
        simp only [platformfwlaw05_BytecodeIncremental.j1]
        rw [if_neg (by decide), awake_at (k + 2) (by omega), Option.bind_some]
  exact ⟨s.size + t.size + 4000, loop 300 0 _ (by omega) (by omega) (by omega)⟩
end Go.Proofs.Ytmnmidclaaiffaa.Pure
