/- BytecodeLengths: for every text, every number, every shift and every text behind, package lengths are encoded and decoded as specified -/
import Derived.Test.YtmnmidclaaiffaaPBytecodeLengthsx5
import Derived.Test.YtmnmidclaaiffaaBytes
namespace Go.Proofs.Ytmnmidclaaiffaa.Pure
open Go.RowKit Go.Proofs.Ytmnmidclaaiffaa.PBytecodeLengths Go.Proofs.YtmnmidclaaiffaaW.PrintWords Go.Proofs.YtmnmidclaaiffaaW.PrintLast Go.Proofs.YtmnmidclaaiffaaW.PrintMore Go.Proofs.Ytmnmidclaaiffaa.Plain
set_option linter.unusedVariables false
set_option linter.unusedSimpArgs false
theorem awake_eq : platformfwlaw05_awake.f 20 = some true := by decide +kernel
theorem awake_at (k : Nat) (hk : 20 ≤ k) : platformfwlaw05_awake.f k = some true := at_rounds platformfwlaw05_awake.mono hk awake_eq
/-! ### layer 5: integers -/
def enc (v : Int) : List Int :=
  if v = 0 then [0] else if v = 1 then [1] else if v = 18446744073709551615 then [255] else if v < 256 then 10 :: toLE v 1 else if v < 65536 then 11 :: toLE v 2 else if v < 4294967296 then 12 :: toLE v 4 else 14 :: toLE v 8
theorem enc_range (v : Int) : ∀ x ∈ enc v, 0 ≤ x ∧ x < 256 := by
  intro x hx
  unfold enc at hx
  have key : ∀ (p : Int) (d : Nat), 0 ≤ p → p < 256 → x ∈ p :: toLE v d → 0 ≤ x ∧ x < 256 := by
    intro p d h0 h1 h
    rcases List.mem_cons.1 h with rfl | h
    · exact ⟨h0, h1⟩
    · exact toLE_range x h
  repeat' split at hx
  all_goals first | exact key _ 0 (by decide) (by decide) hx | exact key _ _ (by decide) (by decide) hx
theorem enc_length (v : Int) : (enc v).length ≤ 9 := by
  unfold enc
  repeat' split
  all_goals simp [toLE_length]
theorem little_loop (n : Nat) (hn : n ≤ 8) : ∀ (d : Nat) (i k : Nat) (v : Int) (s : ByteArray), s.size = i → i + d = n → d < k → platformfwref05_little.l0 k v n s i = some (s ++ strOfNums (toLE v d)) := by
  intro d
  induction d with
  | zero =>
    intro i k v s hs hi hk
    obtain ⟨k, rfl⟩ : ∃ m, k = m + 1 := ⟨k - 1, by omega⟩
    simp only [platformfwref05_little.l0]
    rw [if_neg (by omega)]
    exact congrArg some (str_nil s).symm
  | succ d ih =>
    intro i k v s hs hi hk
    obtain ⟨k, rfl⟩ : ∃ m, k = m + 1 := ⟨k - 1, by omega⟩
    simp only [platformfwref05_little.l0]
    rw [if_pos (by omega)]
    simp only [Option.bind_some]
    have e1 : (strOfNums [v % 256]).size = 1 := by rw [strOfNums_size']; rfl
    rw [if_pos (by rw [e1]; omega), wrap64_id (by omega) (by omega)]
    have := ih (i + 1) k (v / 256) (s ++ strOfNums [v % 256]) (by rw [ByteArray.size_append, e1, hs]) (by omega) (by omega)
    rw [show ((i : Int) + 1) = ((i + 1 : Nat) : Int) by omega, this]
    congr 1
    rw [ByteArray.append_assoc, ← strOfNums_append]; rfl
theorem little_eq (n : Nat) (hn : n ≤ 8) (v : Int) (k : Nat) (hk : n < k) : platformfwref05_little.f k v n = some (strOfNums (toLE v n)) := by
  unfold platformfwref05_little.f
  have := little_loop n hn n 0 k v (⟨#[]⟩ : ByteArray) rfl (by omega) hk
  rw [show ((⟨#[]⟩ : ByteArray) ++ strOfNums (toLE v n)) = strOfNums (toLE v n) from ByteArray.empty_append] at this
  exact this
theorem lit_cons (p : Int) (u : ByteArray) (l : List Int) (h : u = strOfNums [p]) : u ++ strOfNums l = strOfNums (p :: l) := by
  subst h; rw [← strOfNums_append]; rfl
theorem appendInt_loop (b : ByteArray) (hb : b.size ≤ 140737488351232) (v : Int) (n : Nat) (hn : n ≤ 8) : ∀ (d : Nat) (i k : Nat) (l : List Int), l.length = i + 1 → i + d = n → d < k → bytecode_AppendInt.l0 k b v l n i = some (b ++ strOfNums (l ++ toLE (v / 256 ^ i) d)) := by
  intro d
  induction d with
  | zero =>
    intro i k l hl hi hk
    obtain ⟨k, rfl⟩ : ∃ m, k = m + 1 := ⟨k - 1, by omega⟩
    simp only [bytecode_AppendInt.l0]
    rw [if_neg (by omega), if_pos (by rw [strOfNums_size', hl]; omega)]
    simp [toLE]
  | succ d ih =>
    intro i k l hl hi hk
    obtain ⟨k, rfl⟩ : ∃ m, k = m + 1 := ⟨k - 1, by omega⟩
    simp only [bytecode_AppendInt.l0]
    rw [if_pos (by omega), wrap64_id (by omega) (by omega), if_pos (by omega), if_pos (by omega), wrap64_id (by omega) (by omega), shr_u64 (by omega)]
    have := ih (i + 1) k (l ++ [v / 256 ^ i % 256]) (by simp [hl]) (by omega) (by omega)
    rw [show ((i : Int) + 1) = ((i + 1 : Nat) : Int) by omega, this, List.append_assoc]
    rw [← div_pow_succ]; rfl
theorem appendInt_eq (b : ByteArray) (hb : b.size ≤ 140737488351232) (v : Int) (k : Nat) (hk : 8 < k) : bytecode_AppendInt.f k b v = some (b ++ strOfNums (enc v)) := by
  have key : ∀ (p : Int) (n : Nat), n ≤ 8 → bytecode_AppendInt.l0 k b v [p] n 0 = some (b ++ strOfNums (p :: toLE v n)) := by
    intro p n hn
    have := appendInt_loop b hb v n hn n 0 k [p] rfl (by omega) (by omega)
    simpa using this
  unfold bytecode_AppendInt.f bytecode_form.f enc
  repeat' split
  all_goals simp only [Option.bind_some]
  · exact key 0 0 (by decide)
  · exact key 1 0 (by decide)
  · exact key 255 0 (by decide)
  · exact key 10 1 (by decide)
  · exact key 11 2 (by decide)
  · exact key 12 4 (by decide)
  · exact key 14 8 (by decide)
/-- The prefix byte of a number. -/
def pre (v : Int) : Int := if v = 0 then 0 else if v = 1 then 1 else if v = 18446744073709551615 then 255 else if v < 256 then 10 else if v < 65536 then 11 else if v < 4294967296 then 12 else 14
theorem form_pre (v : Int) : ∃ n, bytecode_form.f v = some (pre v, n) := by
  unfold bytecode_form.f pre
  repeat' split
  all_goals exact ⟨_, rfl⟩
/-- How many bytes follow a prefix byte; -1: none begins so. -/
def sz (p : Int) : Int := if p = 0 ∨ p = 1 ∨ p = 255 then 0 else if p = 10 then 1 else if p = 11 then 2 else if p = 12 then 4 else if p = 14 then 8 else -1
/-- What both decoders tell. -/
def decInt : List Int → Int × Int × Int
  | [] => (0, 0, 4)
  | p :: t => if sz p < 0 then (0, 0, 3) else if (t.length : Int) < sz p then (0, 0, 4) else if p = 1 then (1, 1, 0) else if p = 255 then (18446744073709551615, 1, 0) else if pre (ofLE (t.take (sz p).toNat)) = p then (ofLE (t.take (sz p).toNat), sz p + 1, 0) else (0, 0, 3)
theorem size_eq (p : Int) (k : Nat) (hk : 0 < k) : bytecode_size.f k p = some (sz p) := by
  obtain ⟨k, rfl⟩ : ∃ m, k = m + 1 := ⟨k - 1, by omega⟩
  unfold bytecode_size.f sz
  by_cases h0 : p = 0
  · rw [if_pos h0]; simp [bytecode_size.j0, h0]
  rw [if_neg h0]
  by_cases h1 : p = 1
  · rw [if_pos h1]; simp [bytecode_size.j0, h1]
  rw [if_neg h1]
  by_cases h2 : p = 255
  · simp [bytecode_size.j0, h2]
  · have h2' : (p == 255) = false := by simpa using h2
    simp only [bytecode_size.j0, h2', h0, h1, h2, or_self, if_false, Bool.false_eq_true]
    repeat' split
    all_goals rfl
theorem Int_loop (s : ByteArray) (n : Nat) (hn : n ≤ 8) (hs : n < s.size) (hz : s.size ≤ 9223372036854775800) : ∀ (d i k : Nat), i + d = n → d < k →
    bytecode_Int.l0 k s n (ofLE (((bytesOf s).drop 1).take i)) n i = bytecode_Int.l0 1 s n (ofLE (((bytesOf s).drop 1).take n)) n n := by
  intro d
  induction d with
  | zero =>
    intro i k hi hk
    obtain ⟨k, rfl⟩ : ∃ m, k = m + 1 := ⟨k - 1, by omega⟩
    obtain rfl : i = n := by omega
    conv => lhs; unfold bytecode_Int.l0
    conv => rhs; unfold bytecode_Int.l0
    have hnn : ¬ ((i : Int) < i) := by omega
    rw [if_neg hnn, if_neg hnn]
  | succ d ih =>
    intro i k hi hk
    obtain ⟨k, rfl⟩ : ∃ m, k = m + 1 := ⟨k - 1, by omega⟩
    rw [← ih (i + 1) k (by omega) (by omega)]
    conv => lhs; unfold bytecode_Int.l0
    have hlen : ((bytesOf s).drop 1).length = s.size - 1 := by rw [List.length_drop, B_size]
    have hi' : i < ((bytesOf s).drop 1).length := by omega
    have hget : bt s (1 + (i : Int)) = ((bytesOf s).drop 1)[i] := by
      rw [bt_B, List.getElem_drop, show (1 + (i : Int)).toNat = 1 + i by omega]
      exact getD_at _ _ (by rw [B_size]; omega)
    have hr : 0 ≤ ((bytesOf s).drop 1)[i] ∧ ((bytesOf s).drop 1)[i] < 256 := B_range (List.mem_of_mem_drop (List.getElem_mem hi'))
    have hD := ofLE_range (l := ((bytesOf s).drop 1).take i) (fun x hx => B_range (List.mem_of_mem_drop (List.mem_of_mem_take hx)))
    rw [List.length_take, Nat.min_eq_left (by omega)] at hD
    rw [if_pos (by omega), wrap64_id (a := 1 + (i : Int)) (by omega) (by omega), if_pos (by omega), if_pos (by omega), wrap64_id (a := 8 * (i : Int)) (by omega) (by omega), if_pos (by omega), wrap64_id (a := (i : Int) + 1) (by omega) (by omega)]
    rw [List.take_succ_eq_append_getElem hi', ofLE_snoc, List.length_take, Nat.min_eq_left (by omega), hget]
    generalize ((bytesOf s).drop 1)[i] = b at hr
    generalize ofLE (((bytesOf s).drop 1).take i) = D at hD
    have hpow : (0 : Int) < 256 ^ i := Int.pow_pos (by decide)
    have hmul : b * 256 ^ i + 256 ^ i ≤ 256 * 256 ^ i := by
      
      have := Int.mul_le_mul_of_nonneg_right (show b + 1 ≤ 256 by omega) (Int.le_of_lt hpow)
      rw [Int.add_mul, Int.one_mul] at this; exact this
    have hpow8 : 256 * (256 : Int) ^ i ≤ 18446744073709551616 := by
      have := p256_le (show i + 1 ≤ 8 by omega)
      rw [Int.pow_succ] at this; rw [Int.mul_comm]; exact this
    have hb0 : 0 ≤ b * 256 ^ i := Int.mul_nonneg hr.1 (Int.le_of_lt hpow)
    have hw : IntKind.u64.wrap b = b := wrap_u64_id hr.1 (by omega)
    have hshl : shl .u64 b (8 * (i : Int)) = b * 256 ^ i := by
      unfold shl
      rw [show (8 * (i : Int)).toNat = 8 * i by omega, show IntKind.u64.bits = 64 from rfl, Nat.min_eq_left (by omega), two_pow_8]
      exact wrap_u64_id hb0 (by omega)
    rw [hw, hshl, or_u64 (8 * i) (by omega) hD.1 (by rw [two_pow_8]; exact hD.2) hb0 (by rw [two_pow_8]; exact Int.mul_emod_left _ _) (by omega)]
    rfl
theorem Int_end (s : ByteArray) (n : Nat) (v : Int) (hn : n ≤ 8) (hs : 0 < s.size) : bytecode_Int.l0 1 s n v n n = some (if bt s 0 = 1 then (1, (n : Int) + 1, 0) else if bt s 0 = 255 then (18446744073709551615, (n : Int) + 1, 0) else if pre v = bt s 0 then (v, (n : Int) + 1, 0) else (0, 0, 3)) := by
  unfold bytecode_Int.l0
  rw [if_neg (by omega), if_pos (by omega), wrap64_id (by omega) (by omega)]
  obtain ⟨m, hm⟩ := form_pre v
  by_cases h1 : bt s 0 = 1
  · rw [if_pos h1, if_pos h1]; simp [bytecode_form.f, h1]
  rw [if_neg h1, if_neg h1]
  by_cases h2 : bt s 0 = 255
  · rw [if_pos h2, if_pos h2]; simp [bytecode_form.f, h2]
  rw [if_neg h2, if_neg h2, hm]
  simp only [Option.bind_some]
  split <;> rfl
theorem Int_eq (s : ByteArray) (hz : s.size ≤ 9223372036854775800) (k : Nat) (hk : 9 < k) : bytecode_Int.f k s = some (decInt (bytesOf s)) := by
  unfold bytecode_Int.f
  by_cases h0 : s.size = 0
  · rw [if_pos (toList_nil_iff.2 h0)]
    have : bytesOf s = [] := List.length_eq_zero_iff.1 (by rw [B_size]; exact h0)
    rw [this]; rfl
  rw [if_neg (fun h => h0 (toList_nil_iff.1 h)), if_pos (by omega), size_eq _ _ (by omega)]
  simp only [Option.bind_some]
  have hb : bt s 0 = (bytesOf s).getD 0 0 := bt_B s 0
  have hlen := B_size s
  have hend := fun n v hn => Int_end s n v hn (by omega)
  have hloop := fun n hn hs => Int_loop s n hn hs hz n 0 k (by omega)
  cases hl : bytesOf s with
  | nil => rw [hl] at hlen; simp at hlen; omega
  | cons p t =>
    rw [hl] at hb hlen
    simp only [hl, List.drop_succ_cons, List.drop_zero, List.take_zero] at hloop
    simp at hb hlen
    simp only [hb] at hend ⊢
    simp only [decInt]
    by_cases c1 : sz p < 0
    · rw [if_pos c1, if_pos c1]
    rw [if_neg c1, if_neg c1]
    by_cases c2 : (t.length : Int) < sz p
    · rw [if_pos c2, if_pos (by omega)]
    rw [if_neg c2, if_neg (by omega)]
    obtain ⟨n, hn, hn8⟩ : ∃ n : Nat, sz p = n ∧ n ≤ 8 := by
      refine ⟨(sz p).toNat, by omega, ?_⟩
      unfold sz; repeat' split
      all_goals simp
    rw [hn] at c1 c2 ⊢
    have := hloop n hn8 (by omega) (by omega)
    simp only [ofLE] at this
    rw [show ((0 : Nat) : Int) = 0 from rfl] at this
    rw [this, hend n _ hn8, show ((n : Int)).toNat = n by omega]
    congr 1
    have hsz1 : p = 1 → n = 0 := by intro h; subst h; simp [sz] at hn; omega
    have hsz2 : p = 255 → n = 0 := by intro h; subst h; simp [sz] at hn; omega
    split
    · rename_i h; rw [hsz1 h]; rfl
    split
    · rename_i h; rw [hsz2 h]; rfl
    · rfl
theorem pre_enc {v : Int} (h0 : 0 ≤ v) (h1 : v < 18446744073709551616) : ∃ l, enc v = pre v :: l ∧ sz (pre v) = l.length ∧ (pre v = 1 → v = 1) ∧ (pre v = 255 → v = 18446744073709551615) ∧ (pre v ≠ 1 → pre v ≠ 255 → ofLE l = v) := by
  unfold enc pre
  repeat' split
  · exact ⟨[], rfl, rfl, by omega, by omega, fun _ _ => by simp [ofLE]; omega⟩
  · exact ⟨[], rfl, rfl, by omega, by omega, by omega⟩
  · exact ⟨[], rfl, rfl, by omega, by omega, by omega⟩
  · exact ⟨_, rfl, rfl, by omega, by omega, fun _ _ => ofLE_toLE h0 (by simpa using ‹_›)⟩
  · exact ⟨_, rfl, rfl, by omega, by omega, fun _ _ => ofLE_toLE h0 (by simpa using ‹_›)⟩
  · exact ⟨_, rfl, rfl, by omega, by omega, fun _ _ => ofLE_toLE h0 (by simpa using ‹_›)⟩
  · exact ⟨_, rfl, rfl, by omega, by omega, fun _ _ => ofLE_toLE h0 (by simpa using h1)⟩
theorem decInt_enc {v : Int} (h0 : 0 ≤ v) (h1 : v < 18446744073709551616) (t : List Int) : decInt (enc v ++ t) = (v, ((enc v).length : Int), 0) := by
  obtain ⟨l, he, hs, ha, hb, hc⟩ := pre_enc h0 h1
  rw [he]
  simp only [List.cons_append, decInt, List.length_cons, List.length_append]
  rw [if_neg (by omega), if_neg (by omega), hs, show ((l.length : Int)).toNat = l.length by omega, List.take_left]
  by_cases c1 : pre v = 1
  · rw [if_pos c1]
    have : l.length = 0 := by rw [c1] at hs; simp [sz] at hs; omega
    rw [ha c1, this]; rfl
  by_cases c2 : pre v = 255
  · rw [if_neg c1, if_pos c2]
    have : l.length = 0 := by rw [c2] at hs; simp [sz] at hs; omega
    rw [hb c2, this]; rfl
  · rw [if_neg c1, if_neg c2, hc c1 c2, if_pos rfl]
    simp
/-! ### layer 5: the reference's little-endian number -/
theorem number_loop (s : ByteArray) (hz : s.size ≤ 8) : ∀ (d k : Nat) (v : Int), d ≤ s.size → d < k → 0 ≤ v → v < 256 ^ (s.size - d) → v = ofLE ((bytesOf s).drop d) →
    platformfwref05_number.l0 k s v ((d : Int) - 1) = some (ofLE (bytesOf s)) := by
  intro d
  induction d with
  | zero =>
    intro k v hd hk h0 h1 hv
    obtain ⟨k, rfl⟩ : ∃ m, k = m + 1 := ⟨k - 1, by omega⟩
    simp only [platformfwref05_number.l0]
    rw [if_neg (by omega), hv]; rfl
  | succ d ih =>
    intro k v hd hk h0 h1 hv
    obtain ⟨k, rfl⟩ : ∃ m, k = m + 1 := ⟨k - 1, by omega⟩
    simp only [platformfwref05_number.l0]
    rw [show ((d + 1 : Nat) : Int) - 1 = (d : Int) by omega, if_pos (by omega), if_pos (by omega), if_pos (by omega), wrap64_id (by omega) (by omega)]
    have hlt : d < (bytesOf s).length := by rw [B_size]; omega
    have hb : bt s (d : Int) = (bytesOf s)[d] := by rw [bt_B, show ((d : Int)).toNat = d by omega]; exact getD_at _ _ hlt
    have hr := B_range (List.getElem_mem hlt)
    have e : (bytesOf s).drop d = (bytesOf s)[d] :: (bytesOf s).drop (d + 1) := List.drop_eq_getElem_cons hlt
    have hp : (256 : Int) ^ (s.size - d) = 256 ^ (s.size - (d + 1)) * 256 := by rw [← Int.pow_succ]; congr 1; omega
    have hp8 : (256 : Int) ^ (s.size - d) ≤ 18446744073709551616 := by
      exact p256_le (by omega)
    rw [hb, wrap_u64_id hr.1 (by omega), wrap_u64_id (a := v * 256) (by omega) (by omega)]
    have hor : Go.bits .or .u64 (v * 256) (bytesOf s)[d] = (bytesOf s)[d] + v * 256 := by
      rw [bits_join .u64 64 (by decide) wraps_u64 8 _ _ (by omega) (by omega) (by rw [p2_64]; omega) hr.1 (by omega) (by rw [p2_64]; omega)]
      omega
    rw [hor]
    refine ih k _ (by omega) (by omega) (by omega) (by rw [hp]; omega) ?_
    rw [e]; simp only [ofLE]; rw [← hv]; omega
theorem number_eq (s : ByteArray) (hz : s.size ≤ 8) (k : Nat) (hk : 8 < k) : platformfwref05_number.f k s = some (ofLE (bytesOf s)) := by
  unfold platformfwref05_number.f
  rw [wrap64_id (by omega) (by omega)]
  refine number_loop s hz s.size k 0 (Nat.le_refl _) (by omega) (by omega) (by simp) ?_
  rw [List.drop_of_length_le (by rw [B_size]; exact Nat.le_refl _)]; rfl
/-! ### layer 5: package lengths -/
theorem and15 {x : Int} (h0 : 0 ≤ x) (h1 : x < 9223372036854775808) : Go.bits .and .i64 x 15 = x % 16 :=
  bits_mask .i64 63 (by decide) wraps_i64 4 (by decide) x h0 (by simpa using h1)
theorem and63 {x : Int} (h0 : 0 ≤ x) (h1 : x < 9223372036854775808) : Go.bits .and .i64 x 63 = x % 64 :=
  bits_mask .i64 63 (by decide) wraps_i64 6 (by decide) x h0 (by simpa using h1)
theorem or_i64 (i : Nat) {x y : Int} (hx₀ : 0 ≤ x) (hx : x % 2 ^ i = 0) (hx₁ : x < 9223372036854775808) (hy₀ : 0 ≤ y) (hy : y < 2 ^ i) (hy₁ : y < 9223372036854775808) : Go.bits .or .i64 x y = x + y :=
  bits_join .i64 63 (by decide) wraps_i64 i x y hx₀ hx (by simpa using hx₁) hy₀ hy (by simpa using hy₁)
theorem or_i64_low (i : Nat) {x y : Int} (hx₀ : 0 ≤ x) (hx : x < 2 ^ i) (hx₁ : x < 9223372036854775808) (hy₀ : 0 ≤ y) (hy : y % 2 ^ i = 0) (hy₁ : y < 9223372036854775808) : Go.bits .or .i64 x y = x + y := by
  have hc : Go.bits .or .i64 x y = Go.bits .or .i64 y x := by
    obtain ⟨a, rfl⟩ := Int.eq_ofNat_of_zero_le hx₀
    obtain ⟨b, rfl⟩ := Int.eq_ofNat_of_zero_le hy₀
    have ha : a < 2 ^ 63 := by exact_mod_cast (show (a : Int) < 2 ^ 63 by simpa using hx₁)
    have hb : b < 2 ^ 63 := by exact_mod_cast (show (b : Int) < 2 ^ 63 by simpa using hy₁)
    rw [(bits_nat .i64 63 (by decide) wraps_i64 a b ha hb).2, (bits_nat .i64 63 (by decide) wraps_i64 b a hb ha).2, Nat.or_comm]
  rw [hc, or_i64 i hy₀ hy hy₁ hx₀ hx hx₁]; omega
/-- How many bytes the package length of n bytes has. -/
def lb (n : Int) : Int := if n < 0 then 0 else if n + 1 < 64 then 1 else if n + 2 < 4096 then 2 else if n + 3 < 1048576 then 3 else if n + 4 < 268435456 then 4 else 0
theorem limit1 : bytecode_limit.f 1 = some 64 := by decide +kernel
theorem limit2 : bytecode_limit.f 2 = some 4096 := by decide +kernel
theorem limit3 : bytecode_limit.f 3 = some 1048576 := by decide +kernel
theorem limit4 : bytecode_limit.f 4 = some 268435456 := by decide +kernel
theorem lengthBytes_eq (n : Int) (h1 : n < 9223372036854775808) (k : Nat) (hk : 8 ≤ k) : bytecode_lengthBytes.f k n = some (lb n) := by
  obtain ⟨k, rfl⟩ : ∃ m, k = m + 7 := ⟨k - 7, by omega⟩
  unfold bytecode_lengthBytes.f lb
  by_cases h0 : n < 0
  · rw [if_pos h0, if_pos h0]; simp [bytecode_lengthBytes.j0]
  rw [if_neg h0, if_neg h0, limit4]
  simp only [Option.bind_some, bytecode_lengthBytes.j0]
  by_cases c : n ≥ 268435456
  · rw [if_pos (by simpa using c), if_neg (by omega), if_neg (by omega), if_neg (by omega), if_neg (by omega)]
  rw [if_neg (by simpa using c)]
  simp only [bytecode_lengthBytes.l0]
  rw [if_pos (by omega), limit1]
  simp only [Option.bind_some]
  rw [wrap64_id (a := n + 1) (by omega) (by omega)]
  by_cases c1 : n + 1 < 64
  · rw [if_pos c1, if_pos c1]
  rw [if_neg c1, if_neg c1, show wrap64 (1 + 1) = 2 from by decide +kernel, if_pos (by omega), limit2]
  simp only [Option.bind_some]
  rw [wrap64_id (a := n + 2) (by omega) (by omega)]
  by_cases c2 : n + 2 < 4096
  · rw [if_pos c2, if_pos c2]
  rw [if_neg c2, if_neg c2, show wrap64 (2 + 1) = 3 from by decide +kernel, if_pos (by omega), limit3]
  simp only [Option.bind_some]
  rw [wrap64_id (a := n + 3) (by omega) (by omega)]
  by_cases c3 : n + 3 < 1048576
  · rw [if_pos c3, if_pos c3]
  rw [if_neg c3, if_neg c3, show wrap64 (3 + 1) = 4 from by decide +kernel, if_pos (by omega), limit4]
  simp only [Option.bind_some]
  rw [wrap64_id (a := n + 4) (by omega) (by omega)]
  by_cases c4 : n + 4 < 268435456
  · rw [if_pos c4, if_pos c4]
  rw [if_neg c4, if_neg c4, show wrap64 (4 + 1) = 5 from by decide +kernel, if_neg (by omega)]
theorem lb_cases (n : Int) : (lb n = 0 ∧ (n < 0 ∨ 268435452 ≤ n)) ∨ (lb n = 1 ∧ 0 ≤ n ∧ n + 1 < 64) ∨ (lb n = 2 ∧ 63 ≤ n ∧ n + 2 < 4096) ∨ (lb n = 3 ∧ 4094 ≤ n ∧ n + 3 < 1048576) ∨ (lb n = 4 ∧ 1048573 ≤ n ∧ n + 4 < 268435456) := by
  unfold lb
  repeat' split
  all_goals omega
/-- The package length of n bytes. -/
def lenEnc (n : Int) : List Int := if lb n = 0 then [] else if lb n = 1 then [n + 1] else ((lb n - 1) * 64 + (n + lb n) % 16) :: toLE ((n + lb n) / 16) (lb n - 1).toNat
theorem lenEnc_length (n : Int) : ((lenEnc n).length : Int) = lb n := by
  unfold lenEnc
  rcases lb_cases n with ⟨h, _⟩ | ⟨h, _⟩ | ⟨h, _⟩ | ⟨h, _⟩ | ⟨h, _⟩ <;> rw [h] <;> simp [toLE_length]
theorem lenEnc_range (n : Int) : ∀ x ∈ lenEnc n, 0 ≤ x ∧ x < 256 := by
  intro x hx
  unfold lenEnc at hx
  have key : ∀ (p : Int) (d : Nat) (v : Int), 0 ≤ p → p < 256 → x ∈ p :: toLE v d → 0 ≤ x ∧ x < 256 := by
    intro p d v h0 h1 h
    rcases List.mem_cons.1 h with rfl | h
    · exact ⟨h0, h1⟩
    · exact toLE_range x h
  rcases lb_cases n with ⟨h, _⟩ | ⟨h, _⟩ | ⟨h, _⟩ | ⟨h, _⟩ | ⟨h, _⟩ <;> simp only [h] at hx
  · simp at hx
  · simp at hx; omega
  all_goals
    simp only [Int.reduceEq, ↓reduceIte] at hx
    exact key _ _ _ (by omega) (by omega) hx
theorem appendLength_loop (b : ByteArray) (hb : b.size ≤ 140737488351232) (l : Nat) (hl : l ≤ 4) : ∀ (d k : Nat) (t : Int) (o : List Int), o.length + d = l → d < k → bytecode_AppendLength.l0 k b l t o = some (b ++ strOfNums (o ++ toLE t d)) := by
  intro d
  induction d with
  | zero =>
    intro k t o ho hk
    obtain ⟨k, rfl⟩ : ∃ m, k = m + 1 := ⟨k - 1, by omega⟩
    simp only [bytecode_AppendLength.l0]
    rw [if_neg (by omega), if_pos (by rw [strOfNums_size']; omega)]
    simp [toLE]
  | succ d ih =>
    intro k t o ho hk
    obtain ⟨k, rfl⟩ : ∃ m, k = m + 1 := ⟨k - 1, by omega⟩
    simp only [bytecode_AppendLength.l0]
    rw [if_pos (by omega), if_pos (by omega), ih k (t / 256) _ (by simp; omega) (by omega), List.append_assoc]
    rfl
theorem appendLength_eq (b : ByteArray) (hb : b.size ≤ 140737488351232) (n : Int) (h1 : n < 9223372036854775808) (k : Nat) (hk : 8 ≤ k) : bytecode_AppendLength.f k b n = some (b ++ strOfNums (lenEnc n)) := by
  unfold bytecode_AppendLength.f lenEnc
  rw [lengthBytes_eq n h1 k hk]
  simp only [Option.bind_some]
  rcases lb_cases n with ⟨h, hn⟩ | ⟨h, hn⟩ | ⟨h, hn⟩ | ⟨h, hn⟩ | ⟨h, hn⟩ <;> simp only [h, Int.reduceEq, ↓reduceIte]
  · congr 1
    exact ByteArray.append_empty.symm
  · rw [wrap64_id (a := n + 1) (by omega) (by omega), Int.emod_eq_of_lt (by omega) (by omega), if_pos (by rw [strOfNums_size']; simp; omega)]
  all_goals
    rw [show wrap64 (_ - 1) = _ from wrap64_id (by decide) (by decide), show wrap64 (_ * 64) = _ from wrap64_id (by decide) (by decide), wrap64_id (a := n + _) (by omega) (by omega), and15 (by omega) (by omega), or_i64 6 (by decide) (by decide) (by decide) (by omega) (by omega) (by omega), Int.emod_eq_of_lt (b := 256) (by omega) (by omega)]
  · exact appendLength_loop b hb 2 (by decide) 1 k _ _ rfl (by omega)
  · exact appendLength_loop b hb 3 (by decide) 2 k _ _ rfl (by omega)
  · exact appendLength_loop b hb 4 (by decide) 3 k _ _ rfl (by omega)
/-! ### layer 5: decoders of package lengths -/
/-- What both decoders tell. -/
def decLen : List Int → Int × Int × Int
  | [] => (0, 0, 4)
  | c :: t =>
    if 1 < 1 + c / 64 ∧ 16 ≤ c % 64 then (0, 0, 3)
    else if (t.length : Int) < c / 64 then (0, 0, 4)
    else if lb (c % 64 + 16 * ofLE (t.take (c / 64).toNat) - (1 + c / 64)) = 1 + c / 64 then (c % 64 + 16 * ofLE (t.take (c / 64).toNat) - (1 + c / 64), 1 + c / 64, 0)
    else (0, 0, 3)
theorem refLength_eq (n : Int) (h0 : -9223372036854775808 ≤ n) (h1 : n < 9223372036854775808) (k : Nat) (hk : 30 ≤ k) : platformfwref05_Length.f k n = some (strOfNums (lenEnc n)) := by
  obtain ⟨k, rfl⟩ : ∃ m, k = m + 30 := ⟨k - 30, by omega⟩
  unfold platformfwref05_Length.f lenEnc
  have hl := lb_cases n
  simp only [platformfwref05_Length.l0]
  rw [if_pos (by omega)]
  by_cases c0 : n < 0
  · rw [if_neg (by omega)]
    simp only [platformfwref05_Length.j1]
    rw [if_neg (by decide), show lb n = 0 by omega]; rfl
  rw [if_pos (by omega)]
  simp only [platformfwref05_Length.j1]
  by_cases cb : n < 268435456
  case neg =>
    rw [if_neg (by simpa using cb), show lb n = 0 by omega]; rfl
  have hb : decide (n < 268435456) = true := decide_eq_true cb
  rw [if_pos hb, if_pos trivial, wrap64_id (a := n + 1) (by omega) (by omega)]
  simp only [platformfwref05_Length.j2]
  by_cases c1 : n + 1 < 64
  · rw [if_pos (by simpa using c1), wrap_u64_id (by omega) (by omega)]
    have := little_eq 1 (by decide) (n + 1) (k + 27) (by omega)
    rw [show ((1 : Nat) : Int) = 1 from rfl] at this
    rw [this, show lb n = 1 by omega]
    simp only [Option.bind_some, toLE, Int.reduceEq, ↓reduceIte]
    rw [Int.emod_eq_of_lt (by omega) (by omega)]
  rw [if_neg (by simpa using c1), if_neg (by decide)]
  have s2 : IntKind.u64.wrap (wrap64 ((wrap64 (8 * 2)) - 4)) = 12 := by decide +kernel
  have s3 : IntKind.u64.wrap (wrap64 ((wrap64 (8 * 3)) - 4)) = 20 := by decide +kernel
  have s4 : IntKind.u64.wrap (wrap64 ((wrap64 (8 * 4)) - 4)) = 28 := by decide +kernel
  have t2 : shl .i64 1 12 = 4096 := by decide +kernel
  have t3 : shl .i64 1 20 = 1048576 := by decide +kernel
  have t4 : shl .i64 1 28 = 268435456 := by decide +kernel
  have w2 : wrap64 (1 + 1) = 2 := by decide +kernel
  have w3 : wrap64 (2 + 1) = 3 := by decide +kernel
  have w4 : wrap64 (3 + 1) = 4 := by decide +kernel
  have w5 : wrap64 (4 + 1) = 5 := by decide +kernel
  have fin : ∀ (l : Nat) (K : Nat), 2 ≤ l → l ≤ 4 → 10 ≤ K → n + l < 268435456 → ((platformfwref05_little.f K (IntKind.u64.wrap (Go.bits .or .i64 (wrap64 ((wrap64 ((l : Int) - 1)) * 64)) (Go.bits .and .i64 (n + l) 15))) 1).bind fun t138 => ((platformfwref05_little.f K (IntKind.u64.wrap ((n + l) / 16)) (wrap64 ((l : Int) - 1))).bind fun t139 => (if t138.size + t139.size ≤ 9223372036854775807 then (some (t138 ++ t139)) else (none)))) = some (strOfNums (((l - 1 : Int) * 64 + (n + l) % 16) :: toLE ((n + l) / 16) ((l : Int) - 1).toNat)) := by
    intro l K hl2 hl4 hK hlt
    rw [wrap64_id (a := (l : Int) - 1) (by omega) (by omega), wrap64_id (by omega) (by omega), and15 (by omega) (by omega), or_i64 6 (by omega) (by omega) (by omega) (by omega) (by omega) (by omega), wrap_u64_id (by omega) (by omega), wrap_u64_id (by omega) (by omega)]
    have h1 := little_eq 1 (by decide) (((l : Int) - 1) * 64 + (n + l) % 16) K (by omega)
    have h2 := little_eq (l - 1) (by omega) ((n + l) / 16) K (by omega)
    rw [show ((l - 1 : Nat) : Int) = (l : Int) - 1 by omega] at h2
    rw [show ((1 : Nat) : Int) = 1 from rfl] at h1
    rw [h1, h2]
    simp only [Option.bind_some]
    rw [if_pos (by rw [strOfNums_size', strOfNums_size', toLE_length, toLE_length]; omega), ← strOfNums_append, show ((l : Int) - 1).toNat = l - 1 by omega]
    simp only [toLE, List.cons_append, List.nil_append]
    rw [Int.emod_eq_of_lt (b := 256) (by omega) (by omega)]
  simp only [platformfwref05_Length.j3]
  rw [if_neg (by decide), w2]
  simp only [platformfwref05_Length.l0]
  rw [if_pos (by omega), if_pos (by omega)]
  simp only [platformfwref05_Length.j1]
  rw [if_pos hb, if_neg (by decide), wrap64_id (a := n + 2) (by omega) (by omega)]
  simp only [platformfwref05_Length.j2]
  rw [if_neg (by decide), if_pos (by decide), s2, if_pos (by decide), t2]
  simp only [platformfwref05_Length.j3]
  by_cases c2 : n + 2 < 4096
  · rw [if_pos (by simpa using c2), show lb n = 2 by omega]
    have := fin 2 (k + 22) (by decide) (by decide) (by omega) (by omega)
    simpa using this
  rw [if_neg (by simpa using c2), w3]
  simp only [platformfwref05_Length.l0]
  rw [if_pos (by omega), if_pos (by omega)]
  simp only [platformfwref05_Length.j1]
  rw [if_pos hb, if_neg (by decide), wrap64_id (a := n + 3) (by omega) (by omega)]
  simp only [platformfwref05_Length.j2]
  rw [if_neg (by decide), if_pos (by decide), s3, if_pos (by decide), t3]
  simp only [platformfwref05_Length.j3]
  by_cases c3 : n + 3 < 1048576
  · rw [if_pos (by simpa using c3), show lb n = 3 by omega]
    have := fin 3 (k + 18) (by decide) (by decide) (by omega) (by omega)
    simpa using this
  rw [if_neg (by simpa using c3), w4]
  simp only [platformfwref05_Length.l0]
  rw [if_pos (by omega), if_pos (by omega)]
  simp only [platformfwref05_Length.j1]
  rw [if_pos hb, if_neg (by decide), wrap64_id (a := n + 4) (by omega) (by omega)]
  simp only [platformfwref05_Length.j2]
  rw [if_neg (by decide), if_pos (by decide), s4, if_pos (by decide), t4]
  simp only [platformfwref05_Length.j3]
  by_cases c4 : n + 4 < 268435456
  · rw [if_pos (by simpa using c4), show lb n = 4 by omega]
    have := fin 4 (k + 14) (by decide) (by decide) (by omega) (by omega)
    simpa using this
  rw [if_neg (by simpa using c4), w5]
  simp only [platformfwref05_Length.l0]
  rw [if_neg (by omega)]
  simp only [platformfwref05_Length.j1]
  rw [if_neg (by decide), show lb n = 0 by omega]; rfl
theorem ofLE_take_lt (t : List Int) (j : Nat) (h : ∀ x ∈ t, 0 ≤ x ∧ x < 256) (hj : j ≤ 3) : 0 ≤ ofLE (t.take j) ∧ ofLE (t.take j) < 16777216 := by
  have := ofLE_range (l := t.take j) fun x hx => h x (List.mem_of_mem_take hx)
  have hp : (256 : Int) ^ (t.take j).length ≤ 256 ^ 3 := p256_mono (by rw [List.length_take]; omega)
  have : (256 : Int) ^ 3 = 16777216 := by decide
  omega
theorem Length_loop (s : ByteArray) (c : Int) (t : List Int) (hs : bytesOf s = c :: t) (m : Nat) (hm : m ≤ 3) (hlen : m < s.size) (v : Int) (hv : 0 ≤ v ∧ v < 16 ∨ m = 0) (hz : s.size ≤ 9223372036854775800) : ∀ (d i k : Nat), i + d = m → d < k →
    bytecode_Length.l0 k s (1 + m : Int) (v + 16 * ofLE (t.take i)) (1 + i : Int) = bytecode_Length.l0 (k - d) s (1 + m : Int) (v + 16 * ofLE (t.take m)) (1 + m : Int) := by
  intro d
  induction d with
  | zero =>
    intro i k hi hk
    obtain rfl : i = m := by omega
    rfl
  | succ d ih =>
    intro i k hi hk
    obtain ⟨k, rfl⟩ : ∃ q, k = q + 1 := ⟨k - 1, by omega⟩
    rw [show k + 1 - (d + 1) = k - d by omega, ← ih (i + 1) k (by omega) (by omega)]
    conv => lhs; unfold bytecode_Length.l0
    have hall : ∀ x ∈ t, 0 ≤ x ∧ x < 256 := fun x hx => B_range (s := s) (by rw [hs]; exact List.mem_cons_of_mem _ hx)
    have hl := B_size s
    rw [hs] at hl; simp at hl
    have hi' : i < t.length := by omega
    have hget : bt s (1 + (i : Int)) = t[i] := by
      rw [bt_B, hs, show (1 + (i : Int)).toNat = i + 1 by omega, List.getD_cons_succ]
      exact getD_at _ _ hi'
    have hr := hall _ (List.getElem_mem hi')
    have hD := ofLE_take_lt t i hall (by omega)
    have hD2 := ofLE_range (l := t.take i) fun x hx => hall x (List.mem_of_mem_take hx)
    rw [List.length_take, Nat.min_eq_left (by omega)] at hD2
    rw [if_pos (by omega), if_pos (by omega), if_pos (by omega), wrap64_id (a := 1 + (i : Int) - 1) (by omega) (by omega), wrap64_id (a := 8 * (1 + (i : Int) - 1)) (by omega) (by omega), wrap64_id (a := 4 + 8 * (1 + (i : Int) - 1)) (by omega) (by omega), if_pos (by omega), wrap64_id (a := 1 + (i : Int) + 1) (by omega) (by omega), hget, wrap64_id (a := t[i]) (by omega) (by omega)]
    rw [List.take_succ_eq_append_getElem hi', ofLE_snoc, List.length_take, Nat.min_eq_left (by omega)]
    generalize t[i] = b at hr
    generalize ofLE (t.take i) = D at hD hD2
    have hp2 : (2 : Int) ^ (4 + 8 * i) = 16 * 256 ^ i := by rw [Int.pow_add, two_pow_8]; rfl
    have hpow : (0 : Int) < 256 ^ i := Int.pow_pos (by decide)
    have hpow2 : (256 : Int) ^ i ≤ 65536 := by
      have h2 : (256 : Int) ^ i ≤ 256 ^ 2 := p256_mono (by omega)
      have h3 : (256 : Int) ^ 2 = 65536 := by decide
      omega
    have hb0 : 0 ≤ b * 256 ^ i := Int.mul_nonneg hr.1 (Int.le_of_lt hpow)
    have hb1 : b * 256 ^ i ≤ 255 * 65536 := Int.mul_le_mul (by omega) hpow2 (Int.le_of_lt hpow) (by decide)
    have hshl : shl .i64 b (4 + 8 * (1 + (i : Int) - 1)) = 16 * (b * 256 ^ i) := by
      unfold shl
      rw [show (4 + 8 * (1 + (i : Int) - 1)).toNat = 4 + 8 * i by omega, show IntKind.i64.bits = 64 from rfl, Nat.min_eq_left (by omega), hp2, Int.mul_left_comm, i64_w]
      exact wrap64_id (by omega) (by omega)
    rw [hshl, or_i64_low (4 + 8 * i) (by omega) (by rw [hp2]; omega) (by omega) (by omega) (by rw [hp2, Int.mul_left_comm]; exact Int.mul_emod_left _ _) (by omega)]
    rw [show (1 + ((i + 1 : Nat) : Int)) = 1 + (i : Int) + 1 by omega]
    congr 1
    omega
theorem Length_eq (s : ByteArray) (hz : s.size ≤ 9223372036854775800) (k : Nat) (hk : 20 ≤ k) : bytecode_Length.f k s = some (decLen (bytesOf s)) := by
  obtain ⟨k, rfl⟩ : ∃ m, k = m + 20 := ⟨k - 20, by omega⟩
  unfold bytecode_Length.f
  by_cases h0 : s.size = 0
  · rw [if_pos (toList_nil_iff.2 h0)]
    have : bytesOf s = [] := List.length_eq_zero_iff.1 (by rw [B_size]; exact h0)
    rw [this]; rfl
  rw [if_neg (fun h => h0 (toList_nil_iff.1 h)), if_pos (by omega)]
  have hb : bt s 0 = (bytesOf s).getD 0 0 := bt_B s 0
  have hlen := B_size s
  cases hl : bytesOf s with
  | nil => rw [hl] at hlen; simp at hlen; omega
  | cons c t =>
    rw [hl] at hb hlen
    simp at hb hlen
    have hc : 0 ≤ c ∧ c < 256 := B_range (s := s) (by rw [hl]; exact List.mem_cons_self ..)
    have hall : ∀ x ∈ t, 0 ≤ x ∧ x < 256 := fun x hx => B_range (s := s) (by rw [hl]; exact List.mem_cons_of_mem _ hx)
    rw [hb, wrap64_id (a := c / 64) (by omega) (by omega), wrap64_id (a := 1 + c / 64) (by omega) (by omega), wrap64_id (a := c) (by omega) (by omega), and63 (by omega) (by omega)]
    have key : ¬ (1 < 1 + c / 64 ∧ 16 ≤ c % 64) → bytecode_Length.j0 (k + 20) s (1 + c / 64) (c % 64) false = some (decLen (c :: t)) := by
      intro hbad
      simp only [bytecode_Length.j0, decLen]
      rw [if_neg (by decide), if_neg hbad]
      by_cases ht : (t.length : Int) < c / 64
      · rw [if_pos ht, if_pos (by omega)]
      rw [if_neg ht, if_neg (by omega)]
      obtain ⟨m, hm⟩ := Int.eq_ofNat_of_zero_le (show 0 ≤ c / 64 by omega)
      have hloop := Length_loop s c t hl m (by omega) (by omega) (c % 64) (by omega) hz m 0 (k + 19) (by omega) (by omega)
      simp only [List.take_zero, ofLE, Int.mul_zero, Int.add_zero] at hloop
      rw [hm, show (1 : Int) = 1 + ((0 : Nat) : Int) by omega]
      rw [show ((0 : Nat) : Int) = 0 from rfl] at hloop ⊢
      simp only [Int.add_zero] at hloop ⊢
      rw [hloop, show k + 19 - m = (k + 18 - m) + 1 by omega]
      have hD := ofLE_take_lt t m hall (by omega)
      simp only [bytecode_Length.l0, Int.toNat_natCast]
      rw [if_neg (by omega)]
      generalize ofLE (t.take m) = D at hD
      by_cases hT : c % 64 + 16 * D < 1 + m
      · rw [if_pos hT, if_neg]
        have := lb_cases (c % 64 + 16 * D - (1 + m)); omega
      rw [if_neg hT, wrap64_id (by omega) (by omega), lengthBytes_eq _ (by omega) _ (by omega)]
      simp only [Option.bind_some]
      split <;> rfl
    by_cases c1 : 1 + c / 64 > 1
    · rw [if_pos c1]
      by_cases c2 : c % 64 ≥ 16
      · have : decide (c % 64 ≥ 16) = true := decide_eq_true c2
        rw [this]
        simp only [bytecode_Length.j0, decLen]
        rw [if_pos trivial, if_pos ⟨c1, c2⟩]
      · have : decide (c % 64 ≥ 16) = false := decide_eq_false c2
        rw [this]; exact key (by omega)
    · rw [if_neg c1]; exact key (by omega)
theorem u8and (c : Int) (h : 0 ≤ c ∧ c < 256) : Go.bits .and .u8 c 15 = c % 16 ∧ Go.bits .and .u8 c 63 = c % 64 ∧ (Go.bits .and .u8 c 48 = 0 ↔ c % 64 < 16) := by
  refine ⟨u8_and15 c h.1 h.2, u8_and63 c h.1 h.2, ?_⟩
  obtain ⟨a, rfl⟩ := Int.eq_ofNat_of_zero_le h.1
  have ha : a < 2 ^ 8 := by omega
  have h48 := (bits_nat .u8 8 (by decide) wraps_u8 a 48 ha (by decide)).1
  have key : ∀ b : Nat, b < 256 → (b &&& 48 = 0 ↔ b % 64 < 16) := by decide +kernel
  have := key a (by omega)
  rw [show ((48 : Nat) : Int) = 48 from rfl] at h48
  rw [h48]
  omega
theorem lenEnc_iff (c : Int) (t : List Int) (m : Nat) (hc : 0 ≤ c ∧ c < 256) (hall : ∀ x ∈ t, 0 ≤ x ∧ x < 256) (hm : c / 64 = m) (hlo : m = 0 ∨ c % 64 < 16) (hlen : m ≤ t.length) :
    lenEnc (c % 64 + 16 * ofLE (t.take m) - (1 + m)) = c :: t.take m ↔ lb (c % 64 + 16 * ofLE (t.take m) - (1 + m)) = 1 + m := by
  have hm3 : m ≤ 3 := by omega
  have hD := ofLE_take_lt t m hall hm3
  constructor
  · intro h
    rw [← lenEnc_length, h, List.length_cons, List.length_take]; omega
  · intro h
    unfold lenEnc
    rw [h, if_neg (by omega)]
    by_cases h0 : m = 0
    · subst h0; rw [if_pos (by omega)]; simp [ofLE]; omega
    rw [if_neg (by omega)]
    have e1 : c % 64 + 16 * ofLE (t.take m) - (1 + (m : Int)) + (1 + m) = c % 64 + 16 * ofLE (t.take m) := by omega
    have hLE := toLE_ofLE (l := t.take m) fun x hx => hall x (List.mem_of_mem_take hx)
    rw [List.length_take, Nat.min_eq_left hlen] at hLE
    rw [e1, show (1 + (m : Int) - 1).toNat = m by omega, show (c % 64 + 16 * ofLE (t.take m)) / 16 = ofLE (t.take m) by omega, hLE]
    congr 1
    omega
theorem or_T (c X : Int) (hc : 0 ≤ c ∧ c < 256) (hX : 0 ≤ X ∧ X < 16777216) (hlo : c % 64 < 16) : Go.bits .or .i64 (wrap64 (c % 16)) (wrap64 (wrap64 X * 16)) = c % 64 + 16 * X := by
  rw [wrap64_id (a := c % 16) (by omega) (by omega), wrap64_id (a := X) (by omega) (by omega), wrap64_id (a := X * 16) (by omega) (by omega)]
  have h2 : (2 : Int) ^ 4 = 16 := by decide
  rw [or_i64_low 4 (by omega) (by rw [h2]; omega) (by omega) (by omega) (by rw [h2]; omega) (by omega)]
  omega
theorem ReadLength_eq (s : ByteArray) (hz : s.size ≤ 9223372036854775800) (k : Nat) (hk : 40 ≤ k) : platformfwref05_ReadLength.f k s = some (decLen (bytesOf s)) := by
  obtain ⟨k, rfl⟩ : ∃ m, k = m + 40 := ⟨k - 40, by omega⟩
  unfold platformfwref05_ReadLength.f
  by_cases h0 : s.size = 0
  · rw [if_pos (toList_nil_iff.2 h0)]
    have : bytesOf s = [] := List.length_eq_zero_iff.1 (by rw [B_size]; exact h0)
    rw [this]; rfl
  rw [if_neg (fun h => h0 (toList_nil_iff.1 h)), if_pos (by omega)]
  have hb : bt s 0 = (bytesOf s).getD 0 0 := bt_B s 0
  have hlen := B_size s
  cases hl : bytesOf s with
  | nil => rw [hl] at hlen; simp at hlen; omega
  | cons c t =>
    rw [hl] at hb hlen
    simp at hb hlen
    have hc : 0 ≤ c ∧ c < 256 := B_range (s := s) (by rw [hl]; exact List.mem_cons_self ..)
    have hall : ∀ x ∈ t, 0 ≤ x ∧ x < 256 := fun x hx => B_range (s := s) (by rw [hl]; exact List.mem_cons_of_mem _ hx)
    obtain ⟨ha15, ha63, ha48⟩ := u8and c hc
    obtain ⟨m, hm⟩ := Int.eq_ofNat_of_zero_le (show 0 ≤ c / 64 by omega)
    have hm3 : m ≤ 3 := by omega
    rw [hb, wrap64_id (a := c / 64) (by omega) (by omega), wrap64_id (a := c / 64 + 1) (by omega) (by omega), hm]
    have bad : platformfwref05_ReadLength.j0 (k + 40) s (m + 1 : Int) true = some (0, 0, 3) := by
      simp only [platformfwref05_ReadLength.j0]; rw [if_pos trivial]
    have key : ¬ (1 < 1 + c / 64 ∧ 16 ≤ c % 64) → platformfwref05_ReadLength.j0 (k + 40) s (m + 1 : Int) false = some (decLen (c :: t)) := by
      intro hbad
      simp only [platformfwref05_ReadLength.j0, decLen]
      rw [if_neg (by decide), if_neg hbad, hm, Int.toNat_natCast]
      by_cases ht : (t.length : Int) < m
      · rw [if_pos ht, if_pos (by omega)]
      have hD := ofLE_take_lt t m hall hm3
      have hiff := lenEnc_iff c t m hc hall hm (by omega) (by omega)
      have hB : bytesOf (s.extract 0 (m + 1)) = c :: t.take m := by rw [B_extract, hl]; simp
      have htl : ∀ n : Int, (strOfNums (lenEnc n)).toList = (s.extract 0 (m + 1)).toList ↔ lenEnc n = c :: t.take m := by
        intro n; rw [B_eq_iff, B_nums (lenEnc_range n), hB]
      rw [if_neg ht, if_neg (by omega), if_pos (by omega)]
      by_cases h1 : (m : Int) + 1 > 1
      · have hB1 : bytesOf (s.extract 1 (m + 1)) = t.take m := by rw [B_extract, hl]; simp
        have hsz : (s.extract 1 (m + 1)).size = m := by rw [← B_size, hB1, List.length_take]; omega
        rw [if_pos h1, if_pos (by omega), if_pos (by omega), show ((m : Int) + 1).toNat = m + 1 by omega, number_eq _ (by omega) _ (by omega), hB1]
        rw [Option.bind_some, hb, ha15, or_T c (ofLE (t.take m)) hc hD (by omega), show (m : Int) + 1 = 1 + m by omega]
        by_cases hT : c % 64 + 16 * ofLE (t.take m) < 1 + m
        · rw [if_pos hT, if_neg]
          have := lb_cases (c % 64 + 16 * ofLE (t.take m) - (1 + m)); omega
        rw [if_neg hT, wrap64_id (a := c % 64 + 16 * ofLE (t.take m) - (1 + m)) (by omega) (by omega), refLength_eq _ (by omega) (by omega) _ (by omega)]
        rw [Option.bind_some, if_pos (by omega)]
        by_cases hx : lb (c % 64 + 16 * ofLE (t.take m) - (1 + m)) = 1 + m
        · rw [if_pos ((htl _).2 (hiff.2 hx)), if_pos hx]
        · rw [if_neg (fun h => hx (hiff.1 ((htl _).1 h))), if_neg hx]
      · obtain rfl : m = 0 := by omega
        rw [if_neg h1, hb, ha63, wrap64_id (a := c % 64) (by omega) (by omega)]
        have hz0 : ((0 : Nat) : Int) = 0 := rfl
        simp only [List.take_zero, ofLE, Int.mul_zero, Int.add_zero, hz0, Int.zero_add, Nat.zero_add] at hiff htl ⊢
        by_cases hT : c % 64 < 1
        · rw [if_pos hT, if_neg]
          have := lb_cases (c % 64 - 1); omega
        rw [if_neg hT, wrap64_id (by omega) (by omega), refLength_eq _ (by omega) (by omega) _ (by omega)]
        rw [Option.bind_some, if_pos (by omega), if_pos (by omega), show (1 : Int).toNat = 1 from rfl]
        by_cases hx : lb (c % 64 - 1) = 1
        · rw [if_pos ((htl _).2 (hiff.2 hx)), if_pos hx]
        · rw [if_neg (fun h => hx (hiff.1 ((htl _).1 h))), if_neg hx]
    by_cases c1 : (m : Int) + 1 > 1
    · rw [if_pos c1]
      by_cases c2 : Go.bits .and .u8 c 48 = 0
      · have := ha48.1 c2
        rw [if_pos c2, if_neg (by omega)]; exact key (by omega)
      · have : ¬ c % 64 < 16 := fun h => c2 (ha48.2 h)
        rw [if_neg c2, bad]
        simp only [decLen]; rw [if_pos (by omega)]
    · have hm0 : m = 0 := by omega
      subst hm0
      rw [if_neg c1, if_pos (by omega)]
      by_cases c0 : c = 0
      · have : (c == 0) = true := by simpa using c0
        rw [this, bad, c0]
        simp [decLen, ofLE, lb]
      · have : (c == 0) = false := by simpa using c0
        rw [this]; exact key (by omega)
theorem decLen_enc (n : Int) (h : lb n ≠ 0) (u : List Int) : decLen (lenEnc n ++ u) = (n, lb n, 0) := by
  have hlen := lenEnc_length n
  have hr := lenEnc_range n
  have hc := lb_cases n
  by_cases h1 : lb n = 1
  · have : lenEnc n = [n + 1] := by unfold lenEnc; rw [if_neg h, if_pos h1]
    rw [this]
    simp only [List.cons_append, List.nil_append, decLen]
    rw [if_neg (by omega), if_neg (by omega), show (n + 1) / 64 = 0 by omega]
    simp only [Int.toNat_zero, List.take_zero, ofLE]
    rw [show (n + 1) % 64 + 16 * 0 - (1 + 0) = n by omega, if_pos (by omega), h1]
    rfl
  · have he : lenEnc n = ((lb n - 1) * 64 + (n + lb n) % 16) :: toLE ((n + lb n) / 16) (lb n - 1).toNat := by unfold lenEnc; rw [if_neg h, if_neg h1]
    rw [he]
    simp only [List.cons_append, decLen, List.length_append, toLE_length]
    have e : ((lb n - 1) * 64 + (n + lb n) % 16) / 64 = lb n - 1 := by omega
    have e2 : ((lb n - 1) * 64 + (n + lb n) % 16) % 64 = (n + lb n) % 16 := by omega
    rw [if_neg (by omega), e, e2, if_neg (by omega)]
    have ht : (toLE ((n + lb n) / 16) (lb n - 1).toNat ++ u).take (lb n - 1).toNat = toLE ((n + lb n) / 16) (lb n - 1).toNat := by
      rw [List.take_append_of_le_length (by rw [toLE_length]; exact Nat.le_refl _), List.take_of_length_le (by rw [toLE_length]; exact Nat.le_refl _)]
    have hd : ofLE (toLE ((n + lb n) / 16) (lb n - 1).toNat) = (n + lb n) / 16 := by
      refine ofLE_toLE (by omega) ?_
      rcases hc with hc | hc | hc | hc | hc
      · omega
      · omega
      all_goals (rw [hc.1]; simp; omega)
    rw [ht, hd, show (n + lb n) % 16 + 16 * ((n + lb n) / 16) - (1 + (lb n - 1)) = n by omega, if_pos (by omega)]
    congr 2; omega
theorem BytecodeLengths : platformfwlaw05_BytecodeLengths.Pure := by
  intro b n sh s hb hn hs ht
  have hn' := wf_i64 hn
  refine ⟨60, ?_⟩
  unfold platformfwlaw05_BytecodeLengths.f
  have hm : 0 ≤ Int.tmod sh 64 := Int.tmod_nonneg _ (wf_u8 hs).1
  rw [if_pos hm]
  have hw : -9223372036854775808 ≤ wrap64 (shr .u64 (IntKind.u64.wrap n) (Int.tmod sh 64)) ∧ wrap64 (shr .u64 (IntKind.u64.wrap n) (Int.tmod sh 64)) < 9223372036854775808 := by
    unfold wrap64; omega
  generalize wrap64 (shr .u64 (IntKind.u64.wrap n) (Int.tmod sh 64)) = small at hw
  have round : ∀ (k : Nat) (x i : Int), 50 ≤ k → -9223372036854775808 ≤ x → x < 9223372036854775808 → i < 2 → 0 ≤ i → platformfwlaw05_BytecodeLengths.l0 (k + 1) b x s small i = platformfwlaw05_BytecodeLengths.l0 k b small s small (i + 1) := by
    intro k x i hk hx0 hx1 hi hi0
    conv => lhs; unfold platformfwlaw05_BytecodeLengths.l0
    have hsz : (strOfNums (lenEnc x)).size = (lenEnc x).length := strOfNums_size' _
    have hl4 : (lenEnc x).length ≤ 4 := by have := lenEnc_length x; have := lb_cases x; omega
    rw [if_pos hi, refLength_eq x hx0 hx1 k (by omega)]
    simp only [Option.bind_some]
    rw [appendLength_eq b hb x hx1 k (by omega)]
    simp only [Option.bind_some]
    rw [if_pos (by omega), if_pos trivial, if_pos (by omega), Length_eq _ (by rw [ByteArray.size_append]; omega) k (by omega), B_append, B_nums (lenEnc_range x)]
    simp only [Option.bind_some]
    rw [wrap64_id (a := i + 1) (by omega) (by omega)]
    by_cases h0 : lb x = 0
    · rw [if_pos (toList_nil_iff.2 (by have := lenEnc_length x; omega))]
    · rw [if_neg (fun h => h0 (by have := toList_nil_iff.1 h; have := lenEnc_length x; omega)), decLen_enc x h0]
      simp only []
      rw [if_pos trivial, if_pos (by have := lenEnc_length x; omega), if_pos trivial]
  rw [round 59 n 0 (by omega) hn'.1 hn'.2 (by omega) (by omega), round 58 small (0 + 1) (by omega) hw.1 hw.2 (by omega) (by omega)]
  unfold platformfwlaw05_BytecodeLengths.l0
  rw [if_neg (by omega), Length_eq s (by omega) 57 (by omega), ReadLength_eq s (by omega) 57 (by omega), awake_at 57 (by omega)]
  simp
end Go.Proofs.Ytmnmidclaaiffaa.Pure
