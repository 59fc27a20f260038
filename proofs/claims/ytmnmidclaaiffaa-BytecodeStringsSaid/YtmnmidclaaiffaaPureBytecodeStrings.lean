/- BytecodeStrings: for every text before, every string, every text behind and every byte of a length, strings are encoded and decoded as specified, and longer ones are not encoded -/
import Derived.Test.YtmnmidclaaiffaaPBytecodeStringsx3
import Derived.Test.YtmnmidclaaiffaaBytes
namespace Go.Proofs.Ytmnmidclaaiffaa.Pure
open Go.RowKit Go.Proofs.Ytmnmidclaaiffaa.PBytecodeStrings Go.Proofs.YtmnmidclaaiffaaW.PrintWords Go.Proofs.YtmnmidclaaiffaaW.PrintLast Go.Proofs.YtmnmidclaaiffaaW.PrintMore Go.Proofs.Ytmnmidclaaiffaa.Plain
set_option linter.unusedVariables false
set_option linter.unusedSimpArgs false
theorem awake_eq : platformfwlaw05_awake.f 20 = some true := by decide +kernel
theorem awake_at (k : Nat) (hk : 20 ≤ k) : platformfwlaw05_awake.f k = some true := at_rounds platformfwlaw05_awake.mono hk awake_eq
/-! ### layer 5: integers -/
def enc (v : Int) : List Int :=
  if v = 0 then [0] else if v = 1 then [1] else if v = 18446744073709551615 then [255] else if v < 256 then 10 :: toLE v 1 else if v < 65536 then 11 :: toLE v 2 else if v < 4294967296 then 12 :: toLE v 4 else 14 :: toLE v 8
theorem enc_range (v : Int) : ∀ x ∈ enc v, 0 ≤ x ∧ x < 256 := by
  intro x hx
  unfold enc at hx
  have key : ∀ (p : Int) (d : Nat), 0 ≤ p → p < 256 → x ∈ p :: toLE v d → 0 ≤ x ∧ x < 256 := by
    intro p d h0 h1 h
    rcases List.mem_cons.1 h with rfl | h
    · exact ⟨h0, h1⟩
    · exact toLE_range x h
  repeat' split at hx
  all_goals first | exact key _ 0 (by decide) (by decide) hx | exact key _ _ (by decide) (by decide) hx
theorem enc_length (v : Int) : (enc v).length ≤ 9 := by
  unfold enc
  repeat' split
  all_goals simp [toLE_length]
theorem little_loop (n : Nat) (hn : n ≤ 8) : ∀ (d : Nat) (i k : Nat) (v : Int) (s : ByteArray), s.size = i → i + d = n → d < k → platformfwref05_little.l0 k v n s i = some (s ++ strOfNums (toLE v d)) := by
  intro d
  induction d with
  | zero =>
    intro i k v s hs hi hk
    obtain ⟨k, rfl⟩ : ∃ m, k = m + 1 := ⟨k - 1, by omega⟩
    simp only [platformfwref05_little.l0]
    rw [if_neg (by omega)]
    exact congrArg some (str_nil s).symm
  | succ d ih =>
    intro i k v s hs hi hk
    obtain ⟨k, rfl⟩ : ∃ m, k = m + 1 := ⟨k - 1, by omega⟩
    simp only [platformfwref05_little.l0]
    rw [if_pos (by omega)]
    simp only [Option.bind_some]
    have e1 : (strOfNums [v % 256]).size = 1 := by rw [strOfNums_size']; rfl
    rw [if_pos (by rw [e1]; omega), wrap64_id (by omega) (by omega)]
    have := ih (i + 1) k (v / 256) (s ++ strOfNums [v % 256]) (by rw [ByteArray.size_append, e1, hs]) (by omega) (by omega)
    rw [show ((i : Int) + 1) = ((i + 1 : Nat) : Int) by omega, this]
    congr 1
    rw [ByteArray.append_assoc, ← strOfNums_append]; rfl
theorem little_eq (n : Nat) (hn : n ≤ 8) (v : Int) (k : Nat) (hk : n < k) : platformfwref05_little.f k v n = some (strOfNums (toLE v n)) := by
  unfold platformfwref05_little.f
  have := little_loop n hn n 0 k v (⟨#[]⟩ : ByteArray) rfl (by omega) hk
  rw [show ((⟨#[]⟩ : ByteArray) ++ strOfNums (toLE v n)) = strOfNums (toLE v n) from ByteArray.empty_append] at this
  exact this
theorem lit_cons (p : Int) (u : ByteArray) (l : List Int) (h : u = strOfNums [p]) : u ++ strOfNums l = strOfNums (p :: l) := by
  subst h; rw [← strOfNums_append]; rfl
theorem appendInt_loop (b : ByteArray) (hb : b.size ≤ 140737488351232) (v : Int) (n : Nat) (hn : n ≤ 8) : ∀ (d : Nat) (i k : Nat) (l : List Int), l.length = i + 1 → i + d = n → d < k → bytecode_AppendInt.l0 k b v l n i = some (b ++ strOfNums (l ++ toLE (v / 256 ^ i) d)) := by
  intro d
  induction d with
  | zero =>
    intro i k l hl hi hk
    obtain ⟨k, rfl⟩ : ∃ m, k = m + 1 := ⟨k - 1, by omega⟩
    simp only [bytecode_AppendInt.l0]
    rw [if_neg (by omega), if_pos (by rw [strOfNums_size', hl]; omega)]
    simp [toLE]
  | succ d ih =>
    intro i k l hl hi hk
    obtain ⟨k, rfl⟩ : ∃ m, k = m + 1 := ⟨k - 1, by omega⟩
    simp only [bytecode_AppendInt.l0]
    rw [if_pos (by omega), wrap64_id (by omega) (by omega), if_pos (by omega), if_pos (by omega), wrap64_id (by omega) (by omega), shr_u64 (by omega)]
    have := ih (i + 1) k (l ++ [v / 256 ^ i % 256]) (by simp [hl]) (by omega) (by omega)
    rw [show ((i : Int) + 1) = ((i + 1 : Nat) : Int) by omega, this, List.append_assoc]
    rw [← div_pow_succ]; rfl
theorem appendInt_eq (b : ByteArray) (hb : b.size ≤ 140737488351232) (v : Int) (k : Nat) (hk : 8 < k) : bytecode_AppendInt.f k b v = some (b ++ strOfNums (enc v)) := by
  have key : ∀ (p : Int) (n : Nat), n ≤ 8 → bytecode_AppendInt.l0 k b v [p] n 0 = some (b ++ strOfNums (p :: toLE v n)) := by
    intro p n hn
    have := appendInt_loop b hb v n hn n 0 k [p] rfl (by omega) (by omega)
    simpa using this
  unfold bytecode_AppendInt.f bytecode_form.f enc
  repeat' split
  all_goals simp only [Option.bind_some]
  · exact key 0 0 (by decide)
  · exact key 1 0 (by decide)
  · exact key 255 0 (by decide)
  · exact key 10 1 (by decide)
  · exact key 11 2 (by decide)
  · exact key 12 4 (by decide)
  · exact key 14 8 (by decide)
/-- The prefix byte of a number. -/
def pre (v : Int) : Int := if v = 0 then 0 else if v = 1 then 1 else if v = 18446744073709551615 then 255 else if v < 256 then 10 else if v < 65536 then 11 else if v < 4294967296 then 12 else 14
theorem form_pre (v : Int) : ∃ n, bytecode_form.f v = some (pre v, n) := by
  unfold bytecode_form.f pre
  repeat' split
  all_goals exact ⟨_, rfl⟩
/-- How many bytes follow a prefix byte; -1: none begins so. -/
def sz (p : Int) : Int := if p = 0 ∨ p = 1 ∨ p = 255 then 0 else if p = 10 then 1 else if p = 11 then 2 else if p = 12 then 4 else if p = 14 then 8 else -1
/-- What both decoders tell. -/
def decInt : List Int → Int × Int × Int
  | [] => (0, 0, 4)
  | p :: t => if sz p < 0 then (0, 0, 3) else if (t.length : Int) < sz p then (0, 0, 4) else if p = 1 then (1, 1, 0) else if p = 255 then (18446744073709551615, 1, 0) else if pre (ofLE (t.take (sz p).toNat)) = p then (ofLE (t.take (sz p).toNat), sz p + 1, 0) else (0, 0, 3)
theorem size_eq (p : Int) (k : Nat) (hk : 0 < k) : bytecode_size.f k p = some (sz p) := by
  obtain ⟨k, rfl⟩ : ∃ m, k = m + 1 := ⟨k - 1, by omega⟩
  unfold bytecode_size.f sz
  by_cases h0 : p = 0
  · rw [if_pos h0]; simp [bytecode_size.j0, h0]
  rw [if_neg h0]
  by_cases h1 : p = 1
  · rw [if_pos h1]; simp [bytecode_size.j0, h1]
  rw [if_neg h1]
  by_cases h2 : p = 255
  · simp [bytecode_size.j0, h2]
  · have h2' : (p == 255) = false := by simpa using h2
    simp only [bytecode_size.j0, h2', h0, h1, h2, or_self, if_false, Bool.false_eq_true]
    repeat' split
    all_goals rfl
theorem Int_loop (s : ByteArray) (n : Nat) (hn : n ≤ 8) (hs : n < s.size) (hz : s.size ≤ 9223372036854775800) : ∀ (d i k : Nat), i + d = n → d < k →
    bytecode_Int.l0 k s n (ofLE (((bytesOf s).drop 1).take i)) n i = bytecode_Int.l0 1 s n (ofLE (((bytesOf s).drop 1).take n)) n n := by
  intro d
  induction d with
  | zero =>
    intro i k hi hk
    obtain ⟨k, rfl⟩ : ∃ m, k = m + 1 := ⟨k - 1, by omega⟩
    obtain rfl : i = n := by omega
    conv => lhs; unfold bytecode_Int.l0
    conv => rhs; unfold bytecode_Int.l0
    have hnn : ¬ ((i : Int) < i) := by omega
    rw [if_neg hnn, if_neg hnn]
  | succ d ih =>
    intro i k hi hk
    obtain ⟨k, rfl⟩ : ∃ m, k = m + 1 := ⟨k - 1, by omega⟩
    rw [← ih (i + 1) k (by omega) (by omega)]
    conv => lhs; unfold bytecode_Int.l0
    have hlen : ((bytesOf s).drop 1).length = s.size - 1 := by rw [List.length_drop, B_size]
    have hi' : i < ((bytesOf s).drop 1).length := by omega
    have hget : bt s (1 + (i : Int)) = ((bytesOf s).drop 1)[i] := by
      rw [bt_B, List.getElem_drop, show (1 + (i : Int)).toNat = 1 + i by omega]
      exact getD_at _ _ (by rw [B_size]; omega)
    have hr : 0 ≤ ((bytesOf s).drop 1)[i] ∧ ((bytesOf s).drop 1)[i] < 256 := B_range (List.mem_of_mem_drop (List.getElem_mem hi'))
    have hD := ofLE_range (l := ((bytesOf s).drop 1).take i) (fun x hx => B_range (List.mem_of_mem_drop (List.mem_of_mem_take hx)))
    rw [List.length_take, Nat.min_eq_left (by omega)] at hD
    rw [if_pos (by omega), wrap64_id (a := 1 + (i : Int)) (by omega) (by omega), if_pos (by omega), if_pos (by omega), wrap64_id (a := 8 * (i : Int)) (by omega) (by omega), if_pos (by omega), wrap64_id (a := (i : Int) + 1) (by omega) (by omega)]
    rw [List.take_succ_eq_append_getElem hi', ofLE_snoc, List.length_take, Nat.min_eq_left (by omega), hget]
    generalize ((bytesOf s).drop 1)[i] = b at hr
    generalize ofLE (((bytesOf s).drop 1).take i) = D at hD
    have hpow : (0 : Int) < 256 ^ i := Int.pow_pos (by decide)
    have hmul : b * 256 ^ i + 256 ^ i ≤ 256 * 256 ^ i := by
      
      have := Int.mul_le_mul_of_nonneg_right (show b + 1 ≤ 256 by omega) (Int.le_of_lt hpow)
      rw [Int.add_mul, Int.one_mul] at this; exact this
    have hpow8 : 256 * (256 : Int) ^ i ≤ 18446744073709551616 := by
      have := p256_le (show i + 1 ≤ 8 by omega)
      rw [Int.pow_succ] at this; rw [Int.mul_comm]; exact this
    have hb0 : 0 ≤ b * 256 ^ i := Int.mul_nonneg hr.1 (Int.le_of_lt hpow)
    have hw : IntKind.u64.wrap b = b := wrap_u64_id hr.1 (by omega)
    have hshl : shl .u64 b (8 * (i : Int)) = b * 256 ^ i := by
      unfold shl
      rw [show (8 * (i : Int)).toNat = 8 * i by omega, show IntKind.u64.bits = 64 from rfl, Nat.min_eq_left (by omega), two_pow_8]
      exact wrap_u64_id hb0 (by omega)
    rw [hw, hshl, or_u64 (8 * i) (by omega) hD.1 (by rw [two_pow_8]; exact hD.2) hb0 (by rw [two_pow_8]; exact Int.mul_emod_left _ _) (by omega)]
    rfl
theorem Int_end (s : ByteArray) (n : Nat) (v : Int) (hn : n ≤ 8) (hs : 0 < s.size) : bytecode_Int.l0 1 s n v n n = some (if bt s 0 = 1 then (1, (n : Int) + 1, 0) else if bt s 0 = 255 then (18446744073709551615, (n : Int) + 1, 0) else if pre v = bt s 0 then (v, (n : Int) + 1, 0) else (0, 0, 3)) := by
  unfold bytecode_Int.l0
  rw [if_neg (by omega), if_pos (by omega), wrap64_id (by omega) (by omega)]
  obtain ⟨m, hm⟩ := form_pre v
  by_cases h1 : bt s 0 = 1
  · rw [if_pos h1, if_pos h1]; simp [bytecode_form.f, h1]
  rw [if_neg h1, if_neg h1]
  by_cases h2 : bt s 0 = 255
  · rw [if_pos h2, if_pos h2]; simp [bytecode_form.f, h2]
  rw [if_neg h2, if_neg h2, hm]
  simp only [Option.bind_some]
  split <;> rfl
theorem Int_eq (s : ByteArray) (hz : s.size ≤ 9223372036854775800) (k : Nat) (hk : 9 < k) : bytecode_Int.f k s = some (decInt (bytesOf s)) := by
  unfold bytecode_Int.f
  by_cases h0 : s.size = 0
  · rw [if_pos (toList_nil_iff.2 h0)]
    have : bytesOf s = [] := List.length_eq_zero_iff.1 (by rw [B_size]; exact h0)
    rw [this]; rfl
  rw [if_neg (fun h => h0 (toList_nil_iff.1 h)), if_pos (by omega), size_eq _ _ (by omega)]
  simp only [Option.bind_some]
  have hb : bt s 0 = (bytesOf s).getD 0 0 := bt_B s 0
  have hlen := B_size s
  have hend := fun n v hn => Int_end s n v hn (by omega)
  have hloop := fun n hn hs => Int_loop s n hn hs hz n 0 k (by omega)
  cases hl : bytesOf s with
  | nil => rw [hl] at hlen; simp at hlen; omega
  | cons p t =>
    rw [hl] at hb hlen
    simp only [hl, List.drop_succ_cons, List.drop_zero, List.take_zero] at hloop
    simp at hb hlen
    simp only [hb] at hend ⊢
    simp only [decInt]
    by_cases c1 : sz p < 0
    · rw [if_pos c1, if_pos c1]
    rw [if_neg c1, if_neg c1]
    by_cases c2 : (t.length : Int) < sz p
    · rw [if_pos c2, if_pos (by omega)]
    rw [if_neg c2, if_neg (by omega)]
    obtain ⟨n, hn, hn8⟩ : ∃ n : Nat, sz p = n ∧ n ≤ 8 := by
      refine ⟨(sz p).toNat, by omega, ?_⟩
      unfold sz; repeat' split
      all_goals simp
    rw [hn] at c1 c2 ⊢
    have := hloop n hn8 (by omega) (by omega)
    simp only [ofLE] at this
    rw [show ((0 : Nat) : Int) = 0 from rfl] at this
    rw [this, hend n _ hn8, show ((n : Int)).toNat = n by omega]
    congr 1
    have hsz1 : p = 1 → n = 0 := by intro h; subst h; simp [sz] at hn; omega
    have hsz2 : p = 255 → n = 0 := by intro h; subst h; simp [sz] at hn; omega
    split
    · rename_i h; rw [hsz1 h]; rfl
    split
    · rename_i h; rw [hsz2 h]; rfl
    · rfl
theorem pre_enc {v : Int} (h0 : 0 ≤ v) (h1 : v < 18446744073709551616) : ∃ l, enc v = pre v :: l ∧ sz (pre v) = l.length ∧ (pre v = 1 → v = 1) ∧ (pre v = 255 → v = 18446744073709551615) ∧ (pre v ≠ 1 → pre v ≠ 255 → ofLE l = v) := by
  unfold enc pre
  repeat' split
  · exact ⟨[], rfl, rfl, by omega, by omega, fun _ _ => by simp [ofLE]; omega⟩
  · exact ⟨[], rfl, rfl, by omega, by omega, by omega⟩
  · exact ⟨[], rfl, rfl, by omega, by omega, by omega⟩
  · exact ⟨_, rfl, rfl, by omega, by omega, fun _ _ => ofLE_toLE h0 (by simpa using ‹_›)⟩
  · exact ⟨_, rfl, rfl, by omega, by omega, fun _ _ => ofLE_toLE h0 (by simpa using ‹_›)⟩
  · exact ⟨_, rfl, rfl, by omega, by omega, fun _ _ => ofLE_toLE h0 (by simpa using ‹_›)⟩
  · exact ⟨_, rfl, rfl, by omega, by omega, fun _ _ => ofLE_toLE h0 (by simpa using h1)⟩
theorem decInt_enc {v : Int} (h0 : 0 ≤ v) (h1 : v < 18446744073709551616) (t : List Int) : decInt (enc v ++ t) = (v, ((enc v).length : Int), 0) := by
  obtain ⟨l, he, hs, ha, hb, hc⟩ := pre_enc h0 h1
  rw [he]
  simp only [List.cons_append, decInt, List.length_cons, List.length_append]
  rw [if_neg (by omega), if_neg (by omega), hs, show ((l.length : Int)).toNat = l.length by omega, List.take_left]
  by_cases c1 : pre v = 1
  · rw [if_pos c1]
    have : l.length = 0 := by rw [c1] at hs; simp [sz] at hs; omega
    rw [ha c1, this]; rfl
  by_cases c2 : pre v = 255
  · rw [if_neg c1, if_pos c2]
    have : l.length = 0 := by rw [c2] at hs; simp [sz] at hs; omega
    rw [hb c2, this]; rfl
  · rw [if_neg c1, if_neg c2, hc c1 c2, if_pos rfl]
    simp
theorem str_two (s : ByteArray) (hz : s.size ≤ 9223372036854775800) (k : Nat) (hk : 1 ≤ k) : ∃ r, bytecode_String.f k s = some r ∧ platformfwref05_ReadString.f s = some r := by
  obtain ⟨k, rfl⟩ : ∃ m, k = m + 1 := ⟨k - 1, by omega⟩
  unfold bytecode_String.f platformfwref05_ReadString.f
  by_cases h0 : s.size = 0
  · rw [if_pos (toList_nil_iff.2 h0), if_pos (toList_nil_iff.2 h0)]
    refine ⟨_, ?_, rfl⟩
    simp only [bytecode_String.j0]
    rw [if_neg (by decide), if_pos (by omega)]
  rw [if_neg (fun h => h0 (toList_nil_iff.1 h)), if_neg (fun h => h0 (toList_nil_iff.1 h)), if_pos (by omega), if_pos (by omega)]
  simp only [bytecode_String.j0]
  have hb := bt_range s 1
  by_cases h13 : bt s 0 = 13
  · rw [if_neg (by simp [h13]), if_pos h13, wrap64_id (a := bt s 1) (by omega) (by omega), wrap64_id (a := 2 + bt s 1) (by omega) (by omega)]
    by_cases h2 : (s.size : Int) < 2
    · rw [if_pos h2]; exact ⟨_, rfl, rfl⟩
    rw [if_neg h2, if_pos (by omega)]
    by_cases h3 : (s.size : Int) < 2 + bt s 1
    · rw [if_pos h3]; exact ⟨_, rfl, rfl⟩
    rw [if_neg h3, if_pos (by omega), if_pos (by omega)]
    exact ⟨_, rfl, rfl⟩
  · rw [if_pos (by simpa using h13), if_neg h13]
    exact ⟨_, rfl, rfl⟩
theorem refString_eq (v : ByteArray) (hv : v.size ≤ 255) (k : Nat) (hk : 2 ≤ k) : platformfwref05_String.f k v = some (strOfNums [13, v.size] ++ v) := by
  unfold platformfwref05_String.f
  rw [wrap_u64_id (by omega) (by omega)]
  have h1 := little_eq 1 (by decide) (v.size : Int) k (by omega)
  rw [show ((1 : Nat) : Int) = 1 from rfl] at h1
  rw [h1]
  simp only [Option.bind_some, toLE]
  have e1 : (strOfNums [(v.size : Int)]).size = 1 := by rw [strOfNums_size']; rfl
  rw [Int.emod_eq_of_lt (by omega) (by omega), if_pos (by omega), if_pos (by omega), lit_cons 13 (⟨#[13]⟩ : ByteArray) _ rfl]
theorem appendString_eq (b v : ByteArray) (hb : b.size ≤ 140737488351232) (hv : v.size ≤ 255) : bytecode_AppendString.f b v = some (b ++ (strOfNums [13, v.size] ++ v)) := by
  unfold bytecode_AppendString.f
  rw [if_neg (by omega)]
  simp only [Option.bind_some]
  have e1 : (strOfNums [13, (v.size : Int)]).size = 2 := by rw [strOfNums_size']; rfl
  rw [Int.emod_eq_of_lt (by omega) (by omega), if_pos (by omega), if_pos (by omega), ByteArray.append_assoc]
theorem String_enc (v s : ByteArray) (hv : v.size ≤ 255) (hs : s.size ≤ 140737488351232) (k : Nat) (hk : 1 ≤ k) : bytecode_String.f k (strOfNums [13, v.size] ++ v ++ s) = some (v, (v.size : Int) + 2, 0) := by
  obtain ⟨k, rfl⟩ : ∃ m, k = m + 1 := ⟨k - 1, by omega⟩
  have hB : bytesOf (strOfNums [13, (v.size : Int)] ++ v ++ s) = 13 :: (v.size : Int) :: (bytesOf v ++ bytesOf s) := by
    rw [B_append, B_append, B_nums (by simp; omega)]; rfl
  have hsz : (strOfNums [13, (v.size : Int)] ++ v ++ s).size = 2 + v.size + s.size := by rw [ByteArray.size_append, ByteArray.size_append, strOfNums_size']; simp
  have hext : (strOfNums [13, (v.size : Int)] ++ v ++ s).extract 2 (v.size + 2) = v := by
    apply B_inj; rw [B_extract, hB]; simp [← B_size v]
  have h0 : bt (strOfNums [13, (v.size : Int)] ++ v ++ s) 0 = 13 := by rw [bt_B, hB]; rfl
  have h1 : bt (strOfNums [13, (v.size : Int)] ++ v ++ s) 1 = v.size := by rw [bt_B, hB]; rfl
  generalize strOfNums [13, (v.size : Int)] ++ v ++ s = x at *
  unfold bytecode_String.f
  rw [if_neg (fun h => by have := toList_nil_iff.1 h; omega), if_pos (by omega), h0]
  simp only [bytecode_String.j0]
  rw [if_neg (by decide), if_neg (by omega), if_pos (by omega), h1, wrap64_id (a := (v.size : Int)) (by omega) (by omega), wrap64_id (by omega) (by omega), if_neg (by omega), if_pos (by omega), if_pos (by omega), show (2 + (v.size : Int)).toNat = v.size + 2 by omega, hext, Int.add_comm]
theorem BytecodeStrings : platformfwlaw05_BytecodeStrings.Pure := by
  intro b v s n hb hv hs hn
  have hn' := wf_u8 hn
  refine ⟨60, ?_⟩
  have key : platformfwlaw05_BytecodeStrings.j0 60 b v s n false = some true := by
    simp only [platformfwlaw05_BytecodeStrings.j0]
    have hmn : mn (v.size : Int) 255 = min (v.size : Int) 255 := by unfold mn; omega
    rw [if_neg (by decide), hmn, if_pos (by omega), if_pos (by omega)]
    obtain ⟨m, hm⟩ := Int.eq_ofNat_of_zero_le (show 0 ≤ min (v.size : Int) 255 by omega)
    rw [hm, Int.toNat_natCast]
    have hxs : (v.extract 0 m).size = m := by rw [ByteArray.size_extract]; omega
    generalize v.extract 0 m = x at hxs
    have hx : x.size ≤ 255 := by omega
    have hsz : (strOfNums [13, (x.size : Int)] ++ x).size = 2 + x.size := by rw [ByteArray.size_append, strOfNums_size']; simp
    have hsn : (strOfNums [n]).size = 1 := by rw [strOfNums_size']; rfl
    rw [refString_eq x hx 59 (by omega)]
    simp only [Option.bind_some]
    rw [if_pos (by omega), String_enc x s hx hs 59 (by omega)]
    simp only [Option.bind_some]
    have h13 : (⟨#[13]⟩ : ByteArray).size = 1 := rfl
    rw [if_pos (by omega), if_pos (by omega)]
    obtain ⟨r, h1, h2⟩ := str_two ((⟨#[13]⟩ : ByteArray) ++ strOfNums [n] ++ s) (by rw [ByteArray.size_append, ByteArray.size_append]; omega) 59 (by omega)
    rw [h1]
    simp only [Option.bind_some]
    rw [h2]
    simp only [Option.bind_some]
    rw [awake_at 59 (by omega)]
    simp only [Option.bind_some, if_true]
    rw [appendString_eq b x hb hx]
    simp only [Option.bind_some]
    rw [if_pos (by omega), wrap64_id (by omega) (by omega)]
    simp
  unfold platformfwlaw05_BytecodeStrings.f
  by_cases hc : (v.size : Int) > 255
  · rw [if_pos hc]
    have : bytecode_AppendString.f b v = some b := by unfold bytecode_AppendString.f; rw [if_pos hc]
    rw [this]
    simp only [Option.bind_some]
    rw [show (b.toList != b.toList) = false by simp]
    exact key
  · rw [if_neg hc]; exact key
end Go.Proofs.Ytmnmidclaaiffaa.Pure
