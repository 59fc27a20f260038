/- Valid paths are encoded as specified and decoded to themselves: the plain law. -/
import Derived.Test.YtmnmidclaaiffabStBytecodePaths
import Derived.Test.YtmnmidclaaiffabBytes
import Derived.Test.YtmnmidclaaiffabExtP
namespace Go.Proofs.Ytmnmidclaaiffab.Pure
open Go.RowKit Go.Proofs.Ytmnmidclaaiffab.PBytecodePaths Go.Proofs.YtmnmidclaaiffabW.PrintWords Go.Proofs.YtmnmidclaaiffabW.PrintLast Go.Proofs.YtmnmidclaaiffabW.PrintMore Go.Proofs.Ytmnmidclaaiffab.Plain
open Go.Proofs.Ytmnmidclaaiffab.Ext
set_option linter.unusedVariables false
set_option linter.unusedSimpArgs false
theorem awake_eq : platformfwlaw05_awake.f 20 = some true := by decide +kernel
theorem awake_at (k : Nat) (hk : 20 ≤ k) : platformfwlaw05_awake.f k = some true := at_rounds platformfwlaw05_awake.mono hk awake_eq
/-! ### bytes of a part of a string -/
theorem bt_extract (s : ByteArray) (a b : Nat) {j : Int} (h0 : 0 ≤ j) (h1 : a + j < b) : bt (s.extract a b) j = bt s (a + j) := by
  rw [bt_B, bt_B, B_extract, List.getD_eq_getElem?_getD, List.getD_eq_getElem?_getD, List.getElem?_drop, List.getElem?_take, if_pos (by omega), show a + j.toNat = ((a : Int) + j).toNat by omega]
theorem bt_app (a b : ByteArray) {j : Int} (h0 : 0 ≤ j) (h1 : j < a.size) : bt (a ++ b) j = bt a j := by
  rw [bt_B, bt_B, B_append, List.getD_eq_getElem?_getD, List.getD_eq_getElem?_getD, List.getElem?_append_left (by rw [B_size]; omega)]
theorem bt_out (s : ByteArray) {j : Int} (h1 : s.size ≤ j) : bt s j = 0 := by
  rw [bt_B, List.getD_eq_getElem?_getD, List.getElem?_eq_none (by rw [B_size]; omega)]; rfl
theorem ex_size (s : ByteArray) (a b : Nat) : (s.extract a b).size = min b s.size - a := by simp
theorem ba_ext {a b : ByteArray} (hs : a.size = b.size) (h : ∀ j : Nat, j < a.size → bt a j = bt b j) : a = b := by
  refine B_inj (List.ext_getElem? fun j => ?_)
  by_cases hj : j < a.size
  · have := h j hj
    rw [bt_B, bt_B, Int.toNat_natCast, List.getD_eq_getElem?_getD, List.getD_eq_getElem?_getD] at this
    have h1 : j < (bytesOf a).length := by rw [B_size]; exact hj
    have h2 : j < (bytesOf b).length := by rw [B_size]; omega
    rw [List.getElem?_eq_getElem h1, List.getElem?_eq_getElem h2] at this ⊢
    simpa using this
  · rw [List.getElem?_eq_none (by rw [B_size]; omega), List.getElem?_eq_none (by rw [B_size]; omega)]
theorem list_eq_iff {a b : ByteArray} : a.toList = b.toList ↔ a = b := by
  rw [B_eq_iff]; exact ⟨B_inj, fun h => by rw [h]⟩
/-- Are the bytes of s from x on, e of them, zero. -/
def zer (s : ByteArray) : Nat → Int → Bool
  | 0, _ => true
  | e + 1, x => decide (bt s x = 0) && zer s e (x + 1)
theorem zer_iff (s : ByteArray) : ∀ (e : Nat) (x : Int), zer s e x = true ↔ ∀ j : Nat, j < e → bt s (x + j) = 0 := by
  intro e
  induction e with
  | zero => intro x; simp [zer]
  | succ e ih =>
    intro x
    simp only [zer, Bool.and_eq_true, decide_eq_true_eq, ih]
    constructor
    · rintro ⟨h0, h⟩ j hj
      cases j with
      | zero => simpa using h0
      | succ j => have := h j (by omega); rw [show x + ((j + 1 : Nat) : Int) = x + 1 + (j : Int) by omega]; exact this
    · intro h
      refine ⟨by simpa using h 0 (by omega), fun j hj => ?_⟩
      have := h (j + 1) (by omega)
      rw [show x + ((j + 1 : Nat) : Int) = x + 1 + (j : Int) by omega] at this; exact this
theorem zeros3 : ∀ c : Fin 4, ∀ j : Fin 4, bt ((⟨#[0, 0, 0]⟩ : ByteArray).extract 0 c) (j : Nat) = 0 ∧ ((⟨#[0, 0, 0]⟩ : ByteArray).extract 0 c).size = c := by decide +kernel
theorem zeros_eq (s : ByteArray) (a : Nat) (c : Int) (h0 : 0 ≤ c) (h3 : c ≤ 3) (hs : a + c ≤ s.size) (b : Nat) (hb : (b : Int) = a + c) : (s.extract a b).toList = ((⟨#[0, 0, 0]⟩ : ByteArray).extract 0 c.toNat).toList ↔ zer s c.toNat a = true := by
  rw [list_eq_iff, zer_iff]
  have hz := fun j : Fin 4 => zeros3 ⟨c.toNat, by omega⟩ j
  have hz0 : ((⟨#[0, 0, 0]⟩ : ByteArray).extract 0 c.toNat).size = c.toNat := (hz 0).2
  constructor
  · intro h j hj
    have := bt_extract s a b (j := (j : Int)) (by omega) (by omega)
    rw [← this, h]; exact (hz ⟨j, by omega⟩).1
  · intro h
    refine ba_ext (by rw [ex_size, hz0]; omega) fun j hj => ?_
    rw [ex_size] at hj
    rw [bt_extract s a b (by omega) (by omega), h j (by omega)]
    exact ((hz ⟨j, by omega⟩).1).symm
/-! ### what is a segment: the two answers are one -/
theorem segFrom_iff (s : ByteArray) : ∀ (e : Nat) (i : Int), segFrom s e i = true ↔ ∀ j : Nat, j < e → segCh (bt s (i + j)) (i + j) = true := by
  intro e
  induction e with
  | zero => intro i; simp [segFrom]
  | succ e ih =>
    intro i
    simp only [segFrom, Bool.and_eq_true, ih]
    constructor
    · rintro ⟨h0, h⟩ j hj
      cases j with
      | zero => simpa using h0
      | succ j => have := h j (by omega); rw [show i + ((j + 1 : Nat) : Int) = i + 1 + (j : Int) by omega]; exact this
    · intro h
      refine ⟨by simpa using h 0 (by omega), fun j hj => ?_⟩
      have := h (j + 1) (by omega)
      rw [show i + ((j + 1 : Nat) : Int) = i + 1 + (j : Int) by omega] at this; exact this
theorem nsSeg_iff (s : ByteArray) : nsSeg s = true ↔ 1 ≤ s.size ∧ s.size ≤ 4 ∧ ∀ j : Nat, j < s.size → segCh (bt s j) j = true := by
  unfold nsSeg
  rw [Bool.and_eq_true, Bool.and_eq_true, decide_eq_true_eq, decide_eq_true_eq, segFrom_iff]
  constructor
  · rintro ⟨h, h1, h2⟩; exact ⟨h1, h2, fun j hj => by simpa using h j hj⟩
  · rintro ⟨h1, h2, h⟩; exact ⟨fun j hj => by simpa using h j hj, h1, h2⟩
theorem segCh_nz {c i : Int} (h : segCh c i = true) : c ≠ 0 := by
  unfold segCh at h; intro h0; subst h0; simp at h
/-! letters, digits -/
def isL (c : Int) : Bool := (decide (97 ≤ c) && decide (c ≤ 122)) || (decide (65 ≤ c) && decide (c ≤ 90)) || decide (c = 95)
def isD (c : Int) : Bool := decide (48 ≤ c) && decide (c ≤ 57)
def isLow (c : Int) : Bool := decide (97 ≤ c) && decide (c ≤ 122)
theorem letter_eq (c : Int) : platformfwref01_letter.f c = some (isL c) := by
  unfold platformfwref01_letter.f isL
  by_cases a : c ≥ 97 <;> by_cases b : c ≤ 122 <;> by_cases d : c ≥ 65 <;> by_cases e : c ≤ 90 <;> by_cases f : c = 95 <;> simp [a, b, d, e, f] <;> omega
theorem digit_eq (c : Int) : platformfwref01_digit.f c = some (isD c) := by
  unfold platformfwref01_digit.f isD
  by_cases a : c ≥ 48 <;> by_cases b : c ≤ 57 <;> simp [a, b] <;> omega
def allLD (s : ByteArray) : Nat → Int → Bool
  | 0, _ => true
  | e + 1, i => (isL (bt s i) || isD (bt s i)) && allLD s e (i + 1)
def anyLow (s : ByteArray) : Nat → Int → Bool
  | 0, _ => false
  | e + 1, i => isLow (bt s i) || anyLow s e (i + 1)
theorem ident_loop (s : ByteArray) (hs : s.size ≤ 562949953421312) : ∀ (e : Nat) (i : Int) (k : Nat), 0 ≤ i → i + e = s.size → e < k → ∃ r, platformfwref01_identifier.l0 k s i = some r ∧ (r = s.size ↔ allLD s e i = true) := by
  intro e
  induction e with
  | zero =>
    intro i k h0 hi hk
    obtain ⟨k, rfl⟩ : ∃ m, k = m + 1 := ⟨k - 1, by omega⟩
    refine ⟨i, by simp only [platformfwref01_identifier.l0]; rw [if_neg (by omega)], by simp [allLD]; omega⟩
  | succ e ih =>
    intro i k h0 hi hk
    obtain ⟨k, rfl⟩ : ∃ m, k = m + 1 := ⟨k - 1, by omega⟩
    obtain ⟨r, h1, h2⟩ := ih (i + 1) k (by omega) (by omega) (by omega)
    simp only [platformfwref01_identifier.l0, allLD]
    rw [if_pos (by omega), if_pos h0, letter_eq, Option.bind_some, wrap64_id (a := i + 1) (by omega) (by omega), digit_eq, Option.bind_some]
    cases hL : isL (bt s i) with
    | true => exact ⟨r, by rw [if_pos rfl]; exact h1, by rw [h2]; simp⟩
    | false =>
      rw [if_neg (by decide)]
      cases hD : isD (bt s i) with
      | true => exact ⟨r, by rw [if_pos rfl]; exact h1, by rw [h2]; simp⟩
      | false => exact ⟨i, by rw [if_neg (by decide)], by simp; omega⟩
theorem lower_loop (s : ByteArray) (hs : s.size ≤ 562949953421312) : ∀ (e : Nat) (i : Int) (k : Nat), 0 ≤ i → i + e = s.size → e < k → platformfwref01_lower.l0 k s i = some (anyLow s e i) := by
  intro e
  induction e with
  | zero =>
    intro i k h0 hi hk
    obtain ⟨k, rfl⟩ : ∃ m, k = m + 1 := ⟨k - 1, by omega⟩
    simp only [platformfwref01_lower.l0]; rw [if_neg (by omega)]; rfl
  | succ e ih =>
    intro i k h0 hi hk
    obtain ⟨k, rfl⟩ : ∃ m, k = m + 1 := ⟨k - 1, by omega⟩
    simp only [platformfwref01_lower.l0, anyLow]
    rw [if_pos (by omega), if_pos h0, wrap64_id (a := i + 1) (by omega) (by omega), ih (i + 1) k (by omega) (by omega) (by omega)]
    unfold isLow
    by_cases a : bt s i ≥ 97
    · rw [if_pos a, decide_eq_true (show 97 ≤ bt s i from a)]
      by_cases b : bt s i ≤ 122
      · rw [if_pos b, decide_eq_true b]; rfl
      · rw [if_neg b, decide_eq_false b]; rfl
    · rw [if_neg a, decide_eq_false (show ¬ 97 ≤ bt s i from a)]; rfl
theorem segCh_pos {c i : Int} (h : 0 < i) : segCh c i = ((isL c || isD c) && !isLow c) := by
  unfold segCh isL isD isLow
  rw [decide_eq_true h]
  by_cases a : 97 ≤ c <;> by_cases b : c ≤ 122 <;> by_cases d : 65 ≤ c <;> by_cases e : c ≤ 90 <;> by_cases f : c = 95 <;> by_cases g : 48 ≤ c <;> by_cases m : c ≤ 57 <;> simp [a, b, d, e, f, g, m] <;> omega
theorem segCh_zero {c : Int} : segCh c 0 = (isL c && !isLow c) := by
  unfold segCh isL isLow
  by_cases a : 97 ≤ c <;> by_cases b : c ≤ 122 <;> by_cases d : 65 ≤ c <;> by_cases e : c ≤ 90 <;> by_cases f : c = 95 <;> simp [a, b, d, e, f] <;> omega
theorem segFrom_pos (s : ByteArray) : ∀ (e : Nat) (i : Int), 0 < i → segFrom s e i = (allLD s e i && !anyLow s e i) := by
  intro e
  induction e with
  | zero => intro i h; rfl
  | succ e ih =>
    intro i h
    simp only [segFrom, allLD, anyLow]
    rw [ih (i + 1) (by omega), segCh_pos h]
    cases (isL (bt s i) || isD (bt s i)) <;> cases isLow (bt s i) <;> cases allLD s e (i + 1) <;> cases anyLow s e (i + 1) <;> rfl
theorem refSegment_eq (s : ByteArray) (hs : s.size ≤ 562949953421312) (k : Nat) (hk : 10 ≤ k) : platformfwref01_Segment.f k s = some (nsSeg s) := by
  unfold platformfwref01_Segment.f nsSeg
  by_cases h1 : 1 ≤ s.size
  · rw [if_pos (by omega), decide_eq_true h1]
    by_cases h4 : s.size ≤ 4
    · rw [if_pos (by omega), if_pos (by omega), decide_eq_true h4, letter_eq, Option.bind_some]
      obtain ⟨e, he⟩ : ∃ e, s.size = e + 1 := ⟨s.size - 1, by omega⟩
      obtain ⟨r, hr, hr2⟩ := ident_loop s hs s.size 0 k (by omega) (by omega) (by omega)
      have hl := lower_loop s hs s.size 0 k (by omega) (by omega) (by omega)
      unfold platformfwref01_identifier.f platformfwref01_lower.f
      rw [hr, hl]
      rw [he] at hr2 ⊢
      simp only [segFrom, allLD, anyLow] at hr2 ⊢
      rw [segCh_zero, segFrom_pos s e (0 + 1) (by omega)]
      simp only [Option.bind_some]
      cases hL : isL (bt s 0) with
      | false => rw [if_neg (by decide)]; rfl
      | true =>
        rw [hL] at hr2
        rw [if_pos rfl]
        by_cases hrr : r = ((e + 1 : Nat) : Int)
        · rw [if_pos hrr]
          have := hr2.1 hrr
          simp only [Bool.true_or, Bool.true_and] at this
          rw [this]
          cases isLow (bt s 0) <;> cases anyLow s e (0 + 1) <;> rfl
        · rw [if_neg hrr]
          have : allLD s e (0 + 1) = false := by
            cases hA : allLD s e (0 + 1) with
            | false => rfl
            | true => exact absurd (hr2.2 (by rw [hA]; rfl)) hrr
          rw [this]; cases isLow (bt s 0) <;> rfl
    · rw [if_neg (by omega), decide_eq_false h4]; simp
  · rw [if_neg (by omega), decide_eq_false h1]; simp
/-! ### a segment in four bytes -/
/-- The first zero byte at n or later, within e bytes; else n + e. -/
def leadF (s : ByteArray) : Nat → Int → Int
  | 0, n => n
  | e + 1, n => if bt s n = 0 then n else leadF s e (n + 1)
def four (s : ByteArray) : Nat := min 4 s.size
def lead (s : ByteArray) : Int := leadF s (four s) 0
theorem leadF_bd (s : ByteArray) : ∀ (e : Nat) (n : Int), n ≤ leadF s e n ∧ leadF s e n ≤ n + e ∧ (∀ j, n ≤ j → j < leadF s e n → bt s j ≠ 0) ∧ (leadF s e n < n + e → bt s (leadF s e n) = 0) := by
  intro e
  induction e with
  | zero => intro n; exact ⟨Int.le_refl _, by simp [leadF], fun j h1 h2 => by simp only [leadF] at h2; omega, fun h => by simp only [leadF] at h; omega⟩
  | succ e ih =>
    intro n
    obtain ⟨h1, h2, h3, h4⟩ := ih (n + 1)
    simp only [leadF]
    by_cases h : bt s n = 0
    · rw [if_pos h]; exact ⟨Int.le_refl _, by omega, fun j a b => by omega, fun _ => h⟩
    · rw [if_neg h]
      refine ⟨by omega, by omega, fun j a b => ?_, fun hh => h4 (by omega)⟩
      by_cases e : j = n
      · rw [e]; exact h
      · exact h3 j (by omega) b
theorem lead_bd (s : ByteArray) : 0 ≤ lead s ∧ lead s ≤ four s ∧ (∀ j, 0 ≤ j → j < lead s → bt s j ≠ 0) ∧ (lead s < four s → bt s (lead s) = 0) := by
  have := leadF_bd s (four s) 0
  unfold lead; rw [Int.zero_add] at this; exact this
/-- A segment of x bytes, and nothing but zeros behind it. -/
def okAt (s : ByteArray) (x : Int) : Bool := nsSeg (s.extract 0 x.toNat) && zer s ((four s : Int) - x).toNat x
theorem okAt_iff (s : ByteArray) {x : Int} (h0 : 0 ≤ x) (h1 : x ≤ four s) : okAt s x = true ↔ 1 ≤ x ∧ (∀ j : Nat, j < x → segCh (bt s j) j = true) ∧ ∀ j : Nat, x ≤ j → j < four s → bt s j = 0 := by
  have hf : four s ≤ s.size ∧ four s ≤ 4 := by unfold four; omega
  unfold okAt
  rw [Bool.and_eq_true, nsSeg_iff, zer_iff, ex_size]
  constructor
  · rintro ⟨⟨a, b, c⟩, d⟩
    refine ⟨by omega, fun j hj => ?_, fun j hj hj2 => ?_⟩
    · have := c j (by omega)
      rwa [bt_extract s 0 x.toNat (by omega) (by omega), show ((0 : Nat) : Int) + (j : Int) = j by omega] at this
    · have := d (j - x.toNat) (by omega)
      rwa [show x + ((j - x.toNat : Nat) : Int) = j by omega] at this
  · rintro ⟨a, b, c⟩
    refine ⟨⟨by omega, by omega, fun j hj => ?_⟩, fun j hj => ?_⟩
    · rw [bt_extract s 0 x.toNat (by omega) (by omega), show ((0 : Nat) : Int) + (j : Int) = j by omega]; exact b j (by omega)
    · have := c (x.toNat + j) (by omega) (by omega)
      rwa [show ((x.toNat + j : Nat) : Int) = x + (j : Int) by omega] at this
theorem okAt_lead (s : ByteArray) {x : Int} (h0 : 0 ≤ x) (h1 : x ≤ four s) (h : okAt s x = true) : x = lead s := by
  obtain ⟨a, b, c⟩ := (okAt_iff s h0 h1).1 h
  obtain ⟨l1, l2, l3, l4⟩ := lead_bd s
  rcases Int.lt_trichotomy x (lead s) with hh | hh | hh
  · have := c x.toNat (by omega) (by omega)
    rw [Int.toNat_of_nonneg h0] at this
    exact absurd this (l3 x h0 hh)
  · exact hh
  · have := segCh_nz (b (lead s).toNat (by omega))
    rw [Int.toNat_of_nonneg l1] at this
    exact absurd (l4 (by omega)) this
/-- What four bytes hold: a segment; no segment (3); too few bytes (4). -/
def dseg (s : ByteArray) : ByteArray × Int := if s.size = 0 then (⟨#[]⟩, 4) else if okAt s (lead s) = true then (if s.size < 4 then (⟨#[]⟩, 4) else (s.extract 0 (lead s).toNat, 0)) else (⟨#[]⟩, 3)
theorem valid_one (t : ByteArray) (h : t.size ≤ 4) : nspath_Valid.f false 0 [t] = some (nsSeg t) := by
  unfold nspath_Valid.f
  rw [if_neg (by omega), if_neg (by omega), if_neg (by decide), if_neg (by rw [List.length_singleton, wrap64_id (by omega) (by omega)]; omega), if_neg (by omega), if_pos (by simp)]
  unfold slices_ContainsFunc.f
  rw [if_pos (by simp; omega), Option.bind_some]
  simp
theorem bseg_tail (s : ByteArray) (hs : s.size ≤ 562949953421312) {n : Int} (h0 : 0 ≤ n) (hn : n ≤ s.size) : ∀ (e : Nat) (x : Int) (k : Nat), 0 ≤ x → x + e = four s → 2 * e + 1 < k →
    bytecode_segment.l1 k s n x = some (if zer s e x = true then (if s.size < 4 then (⟨#[]⟩, 4) else (s.extract 0 n.toNat, 0)) else (⟨#[]⟩, 3)) := by
  have hf : four s = 4 ∧ 4 ≤ s.size ∨ four s = s.size ∧ s.size < 4 := by unfold four; omega
  intro e
  induction e with
  | zero =>
    intro x k hx0 hx hk
    obtain ⟨k, rfl⟩ : ∃ m, k = m + 2 := ⟨k - 2, by omega⟩
    have fin : bytecode_segment.j4 (k + 1) s n x false = some (if zer s 0 x = true then (if s.size < 4 then (⟨#[]⟩, 4) else (s.extract 0 n.toNat, 0)) else (⟨#[]⟩, 3)) := by
      simp only [bytecode_segment.j4]
      rw [if_neg (by decide), if_pos (show zer s 0 x = true from rfl)]
      by_cases h4 : s.size < 4
      · rw [if_pos (by omega), if_pos h4]
      · rw [if_neg (by omega), if_neg h4, if_pos h0, if_pos hn]
    simp only [bytecode_segment.l1]
    by_cases hlt : x < s.size
    · rw [if_pos hlt, decide_eq_false (by omega)]; exact fin
    · rw [if_neg hlt]; exact fin
  | succ e ih =>
    intro x k hx0 hx hk
    obtain ⟨k, rfl⟩ : ∃ m, k = m + 2 := ⟨k - 2, by omega⟩
    have hn := ih (x + 1) k (by omega) (by omega) (by omega)
    simp only [bytecode_segment.l1]
    rw [if_pos (by omega), decide_eq_true (by omega)]
    simp only [bytecode_segment.j4]
    rw [if_pos trivial, if_pos hx0, if_pos (by omega)]
    by_cases hz : bt s x = 0
    · have hz' : zer s (e + 1) x = zer s e (x + 1) := by simp [zer, hz]
      rw [if_pos hz, wrap64_id (a := x + 1) (by omega) (by omega), hn, hz']
    · have hz' : zer s (e + 1) x = false := by simp [zer, hz]
      rw [if_neg hz, hz', if_neg (by decide)]
theorem bseg_j1 (s : ByteArray) (hs : s.size ≤ 562949953421312) (k : Nat) (hk : 20 ≤ k) : bytecode_segment.j1 k s (lead s) = some (dseg s) := by
  obtain ⟨l1, l2, l3, l4⟩ := lead_bd s
  have hf : four s ≤ s.size ∧ four s ≤ 4 := by unfold four; omega
  obtain ⟨k, rfl⟩ : ∃ m, k = m + 2 := ⟨k - 2, by omega⟩
  have tail := bseg_tail s hs l1 (by omega) (four s - (lead s).toNat) (lead s) k l1 (by omega) (by omega)
  have bad : bytecode_segment.j2 (k + 1) s (lead s) true = some (⟨#[]⟩, 3) := by simp only [bytecode_segment.j2]; rw [if_pos trivial]
  have good : bytecode_segment.j2 (k + 1) s (lead s) false = bytecode_segment.l1 k s (lead s) (lead s) := by simp only [bytecode_segment.j2]; rw [if_neg (by decide)]
  simp only [bytecode_segment.j1]
  unfold dseg
  by_cases hz : lead s = 0
  · rw [if_pos hz]
    by_cases he : s.size = 0
    · rw [if_pos (toList_nil_iff.2 he), if_neg (by omega), good, tail, if_pos he]
      have : four s - (lead s).toNat = 0 := by omega
      rw [this, if_pos (show zer s 0 _ = true from rfl), if_pos (by omega)]
    · rw [if_neg (fun h => he (toList_nil_iff.1 h)), bad, if_neg he, if_neg]
      intro h
      have := (okAt_iff s l1 l2).1 h
      omega
  · have hsz : s.size ≠ 0 := by omega
    rw [if_neg hz, if_pos (by omega), if_pos l1, if_pos (by omega), valid_one _ (by rw [ex_size]; omega), Option.bind_some, if_neg hsz]
    unfold okAt
    rw [show ((four s : Int) - lead s).toNat = four s - (lead s).toNat by omega]
    cases hg : nsSeg (s.extract 0 (lead s).toNat) with
    | false => rw [show (!false) = true from rfl, bad]; rfl
    | true => rw [show (!true) = false from rfl, good, tail, Bool.true_and]
theorem bseg_eq (s : ByteArray) (hs : s.size ≤ 562949953421312) (k : Nat) (hk : 30 ≤ k) : bytecode_segment.f k s = some (dseg s) := by
  have hf : four s = 4 ∧ 4 ≤ s.size ∨ four s = s.size ∧ s.size < 4 := by unfold four; omega
  have loop : ∀ (e : Nat) (n : Int) (k : Nat), 0 ≤ n → n + e = four s → leadF s e n = lead s → 20 + e < k → bytecode_segment.l0 k s n = some (dseg s) := by
    intro e
    induction e with
    | zero =>
      intro n k h0 hn hl hk
      obtain ⟨k, rfl⟩ : ∃ m, k = m + 1 := ⟨k - 1, by omega⟩
      simp only [leadF] at hl
      simp only [bytecode_segment.l0]
      rw [hl]
      by_cases hlt : n < s.size
      · rw [if_pos (by omega), if_neg (by omega), bseg_j1 s hs k (by omega)]
      · rw [if_neg (by omega), bseg_j1 s hs k (by omega)]
    | succ e ih =>
      intro n k h0 hn hl hk
      obtain ⟨k, rfl⟩ : ∃ m, k = m + 1 := ⟨k - 1, by omega⟩
      simp only [leadF] at hl
      simp only [bytecode_segment.l0]
      rw [if_pos (by omega), if_pos (by omega), if_pos h0]
      by_cases hz : bt s n = 0
      · rw [if_pos hz] at hl ⊢
        rw [hl, bseg_j1 s hs k (by omega)]
      · rw [if_neg hz] at hl ⊢
        rw [wrap64_id (a := n + 1) (by omega) (by omega)]
        exact ih (n + 1) k (by omega) (by omega) hl (by omega)
  exact loop (four s) 0 k (by omega) (by omega) rfl (by omega)
theorem okAt_zero (s : ByteArray) (h : lead s = 0) : okAt s (lead s) = false := by
  have l := lead_bd s
  rw [Bool.eq_false_iff]
  intro hh
  have := (okAt_iff s l.1 l.2.1).1 hh
  omega
/-! ### the path that some bytes hold -/
theorem ite_iff {p q : Prop} [Decidable p] [Decidable q] {α : Type} {x y : α} (h : p ↔ q) : (if p then x else y) = if q then x else y := by
  by_cases hp : p
  · rw [if_pos hp, if_pos (h.1 hp)]
  · rw [if_neg hp, if_neg (fun hq => hp (h.2 hq))]
def bad (c : Int) : Bool × Int × List ByteArray × Int × Int := (false, 0, [], 0, c)
/-- e more segments from place i on. -/
def dloop (s : ByteArray) (root : Bool) (up : Int) : Nat → Int → List ByteArray → Bool × Int × List ByteArray × Int × Int
  | 0, i, acc => (root, up, acc, i, 0)
  | e + 1, i, acc => if (dseg (s.extract i.toNat s.size)).2 = 0 then dloop s root up e (i + 4) (acc ++ [(dseg (s.extract i.toNat s.size)).1]) else bad (dseg (s.extract i.toNat s.size)).2
theorem dseg_long {s : ByteArray} (h : (dseg s).2 = 0) : 4 ≤ s.size := by
  unfold dseg at h
  by_cases h0 : s.size = 0
  · rw [if_pos h0] at h; cases h
  · rw [if_neg h0] at h
    by_cases h1 : okAt s (lead s) = true
    · rw [if_pos h1] at h
      by_cases h2 : s.size < 4
      · rw [if_pos h2] at h; cases h
      · omega
    · rw [if_neg h1] at h; cases h
theorem bpath_loop (s : ByteArray) (hs : s.size ≤ 562949953421312) (root : Bool) (up n : Int) (hn : n ≤ 1000) : ∀ (e : Nat) (x i : Int) (acc : List ByteArray) (k : Nat), 0 ≤ x → x + e = n → 0 ≤ i → i ≤ s.size → (acc.length : Int) = x → 40 + e < k →
    bytecode_Path.l1 k s i n x root up acc = some (dloop s root up e i acc) := by
  intro e
  induction e with
  | zero =>
    intro x i acc k h0 hx hi hi2 ha hk
    obtain ⟨k, rfl⟩ : ∃ m, k = m + 1 := ⟨k - 1, by omega⟩
    simp only [bytecode_Path.l1]; rw [if_neg (by omega)]; rfl
  | succ e ih =>
    intro x i acc k h0 hx hi hi2 ha hk
    obtain ⟨k, rfl⟩ : ∃ m, k = m + 1 := ⟨k - 1, by omega⟩
    have hsz := ex_size s i.toNat s.size
    simp only [bytecode_Path.l1]
    rw [if_pos (by omega), if_pos hi, if_pos hi2, bseg_eq _ (by omega) k (by omega), Option.bind_some]
    simp only [dloop]
    by_cases hd : (dseg (s.extract i.toNat s.size)).2 = 0
    · have h4 := dseg_long hd
      rw [if_pos hd, if_pos hd, if_pos (by omega), wrap64_id (a := i + 4) (by omega) (by omega), wrap64_id (a := x + 1) (by omega) (by omega)]
      exact ih (x + 1) (i + 4) _ k (by omega) (by omega) (by omega) (by omega) (by simp; omega) (by omega)
    · rw [if_neg hd, if_neg hd]; rfl
/-- The number of segments that byte b announces, and how many bytes tell it; c is the byte behind it, if there is one. -/
def segN (b : Int) (c : Option Int) : Int × Int := if b = 0 then (0, 1) else if b = 46 then (2, 1) else if b = 47 then (match c with | some c => (c, 2) | none => (3, 2)) else (1, 0)
def nextB (s : ByteArray) (i : Int) : Option Int := if i + 1 < s.size then some (bt s (i + 1)) else none
/-- What stands behind the prefix of a path. -/
def tailD (s : ByteArray) (i : Int) (root : Bool) (up : Int) : Bool × Int × List ByteArray × Int × Int :=
  if up > 32 then bad 3 else if i = s.size then bad 4 else
    if ((segN (bt s i) (nextB s i)).1 = 0 ∧ root = false ∧ up = 0) ∨ up + (segN (bt s i) (nextB s i)).1 > 32 ∨ ((segN (bt s i) (nextB s i)).2 = 2 ∧ ((segN (bt s i) (nextB s i)).1 < 3 ∨ up + 3 > 32)) then bad 3
    else if (s.size : Int) - i < (segN (bt s i) (nextB s i)).2 then bad 4
    else dloop s root up (segN (bt s i) (nextB s i)).1.toNat (i + (segN (bt s i) (nextB s i)).2) []
theorem segs_end (r : ByteArray) {n kk up : Int} (root : Bool) (hn : 0 ≤ n) (hn2 : n ≤ 255) (hu : 0 ≤ up) (hu2 : up ≤ 32) (k : Nat) (hk : 5 ≤ k) :
    bytecode_segments.j0 k r n kk root up [] = some (if (n = 0 ∧ root = false ∧ up = 0) ∨ up + n > 32 ∨ (kk = 2 ∧ (n < 3 ∨ up + 3 > 32)) then (0, 0, 3) else if (r.size : Int) < kk then (0, 0, 4) else (n, kk, 0)) := by
  obtain ⟨k, rfl⟩ : ∃ m, k = m + 3 := ⟨k - 3, by omega⟩
  have e2 : ∀ b, bytecode_segments.j2 (k + 1) r n kk b = some (if b = true then (0, 0, 3) else if (r.size : Int) < kk then (0, 0, 4) else (n, kk, 0)) := by
    intro b
    simp only [bytecode_segments.j2]
    cases b with
    | true => rw [if_pos rfl, if_pos rfl]
    | false =>
      rw [if_neg (c := false = true) (by decide), if_neg (c := false = true) (by decide)]
      by_cases h : (r.size : Int) < kk
      · rw [if_pos h, if_pos h]
      · rw [if_neg h, if_neg h]
  have e1 : ∀ b, bytecode_segments.j1 (k + 2) r n kk b root up [] = some (if b = true ∨ up + n > 32 ∨ (kk = 2 ∧ (n < 3 ∨ up + 3 > 32)) then (0, 0, 3) else if (r.size : Int) < kk then (0, 0, 4) else (n, kk, 0)) := by
    intro b
    simp only [bytecode_segments.j1]
    rw [wrap64_id (a := up + n) (by omega) (by omega), wrap64_id (a := up + 3) (by omega) (by omega)]
    cases b with
    | true => rw [if_pos rfl, e2, if_pos rfl, if_pos (Or.inl rfl)]
    | false =>
      rw [if_neg (by decide)]
      by_cases h1 : up + n > 32
      · rw [if_pos h1, decide_eq_true h1, e2, if_pos rfl, if_pos (Or.inr (Or.inl h1))]
      · rw [if_neg h1]
        by_cases h2 : kk = 2
        · rw [if_pos h2]
          by_cases h3 : n < 3
          · rw [if_pos h3, e2, if_pos rfl, if_pos (Or.inr (Or.inr ⟨h2, Or.inl h3⟩))]
          · rw [if_neg h3, e2]
            by_cases h4 : up + 3 > 32
            · rw [decide_eq_true h4, if_pos rfl, if_pos (Or.inr (Or.inr ⟨h2, Or.inr h4⟩))]
            · rw [decide_eq_false h4, if_neg (c := false = true) (by decide), if_neg (show ¬ (false = true ∨ up + n > 32 ∨ (kk = 2 ∧ (n < 3 ∨ up + 3 > 32))) from fun h => h.elim (fun h => absurd h (by decide)) (fun h => h.elim h1 (fun h => h.2.elim h3 h4)))]
        · rw [if_neg h2, e2, if_neg (c := false = true) (by decide), if_neg (show ¬ (false = true ∨ up + n > 32 ∨ (kk = 2 ∧ (n < 3 ∨ up + 3 > 32))) from fun h => h.elim (fun h => absurd h (by decide)) (fun h => h.elim h1 (fun h => h2 h.1)))]
  simp only [bytecode_segments.j0]
  by_cases h0 : n = 0
  · rw [if_pos h0]
    cases root with
    | true => rw [if_pos rfl, e1]; congr 1; refine ite_iff ?_; simp [h0]
    | false =>
      rw [if_neg (by decide), e1]; congr 1; refine ite_iff ?_
      simp only [beq_iff_eq]
      constructor
      · rintro (h | h)
        · exact Or.inl ⟨h0, by trivial, h⟩
        · exact Or.inr h
      · rintro (h | h)
        · exact Or.inl h.2.2
        · exact Or.inr h
  · rw [if_neg h0, e1]; congr 1; refine ite_iff ?_
    constructor
    · rintro (h | h)
      · cases h
      · exact Or.inr h
    · rintro (h | h)
      · exact absurd h.1 h0
      · exact Or.inr h
theorem segN_bd (s : ByteArray) (i : Int) : 0 ≤ (segN (bt s i) (nextB s i)).1 ∧ (segN (bt s i) (nextB s i)).1 ≤ 255 ∧ 0 ≤ (segN (bt s i) (nextB s i)).2 ∧ (segN (bt s i) (nextB s i)).2 ≤ 2 := by
  have := bt_range s (i + 1)
  unfold segN nextB
  split
  · omega
  · split
    · omega
    · split
      · split
        · rename_i heq; split at heq
          · injection heq with heq; subst heq; exact ⟨this.1, this.2, by simp, by simp⟩
          · cases heq
        · simp
      · simp
theorem btail_eq (s : ByteArray) (hs : s.size ≤ 562949953421312) (root : Bool) {i up : Int} (hi : 0 ≤ i) (hi2 : i ≤ s.size) (hu : 0 ≤ up) (k : Nat) (hk : 400 ≤ k) : bytecode_Path.j2 k s i root up = some (tailD s i root up) := by
  obtain ⟨k, rfl⟩ : ∃ m, k = m + 1 := ⟨k - 1, by omega⟩
  simp only [bytecode_Path.j2]
  unfold tailD
  by_cases h1 : up > 32
  · rw [if_pos h1, if_pos h1]; rfl
  · rw [if_neg h1, if_neg h1, if_pos hi, if_pos hi2]
    have hr : (s.extract i.toNat s.size).size = s.size - i.toNat := by rw [ex_size]; omega
    have hb := segN_bd s i
    have fin : ∀ n kk : Int, (n, kk) = segN (bt s i) (nextB s i) → i < s.size → bytecode_segments.j0 k (s.extract i.toNat s.size) n kk root up [] = some (if ((segN (bt s i) (nextB s i)).1 = 0 ∧ root = false ∧ up = 0) ∨ up + (segN (bt s i) (nextB s i)).1 > 32 ∨ ((segN (bt s i) (nextB s i)).2 = 2 ∧ ((segN (bt s i) (nextB s i)).1 < 3 ∨ up + 3 > 32)) then (0, 0, 3) else if (s.size : Int) - i < (segN (bt s i) (nextB s i)).2 then (0, 0, 4) else ((segN (bt s i) (nextB s i)).1, (segN (bt s i) (nextB s i)).2, 0)) := by
      intro n kk he hlt
      rw [← he] at hb ⊢
      rw [segs_end _ root hb.1 hb.2.1 hu (by omega) k (by omega), hr, show ((s.size - i.toNat : Nat) : Int) = (s.size : Int) - i by omega]
    unfold bytecode_segments.f
    by_cases h2 : i = s.size
    · rw [if_pos (toList_nil_iff.2 (by rw [hr]; omega)), Option.bind_some, if_neg (by decide), if_pos h2]; rfl
    · rw [if_neg (fun h => by have := toList_nil_iff.1 h; rw [hr] at this; omega), if_neg h2]
      have hb0 : bt (s.extract i.toNat s.size) 0 = bt s i := by rw [bt_extract _ _ _ (by omega) (by omega)]; congr 1; omega
      rw [if_pos (by rw [hr]; omega), hb0]
      have done_ : ∀ (r : Option (Int × Int × Int)), r = some (if ((segN (bt s i) (nextB s i)).1 = 0 ∧ root = false ∧ up = 0) ∨ up + (segN (bt s i) (nextB s i)).1 > 32 ∨ ((segN (bt s i) (nextB s i)).2 = 2 ∧ ((segN (bt s i) (nextB s i)).1 < 3 ∨ up + 3 > 32)) then (0, 0, 3) else if (s.size : Int) - i < (segN (bt s i) (nextB s i)).2 then (0, 0, 4) else ((segN (bt s i) (nextB s i)).1, (segN (bt s i) (nextB s i)).2, 0)) →
          (r.bind fun bt168 => (if bt168.2.2 = 0 then (bytecode_Path.l1 k s (wrap64 (i + bt168.2.1)) bt168.1 0 root up ([] : List ByteArray)) else (some (false, 0, ([] : List ByteArray), 0, bt168.2.2)))) = some (if ((segN (bt s i) (nextB s i)).1 = 0 ∧ root = false ∧ up = 0) ∨ up + (segN (bt s i) (nextB s i)).1 > 32 ∨ ((segN (bt s i) (nextB s i)).2 = 2 ∧ ((segN (bt s i) (nextB s i)).1 < 3 ∨ up + 3 > 32)) then bad 3 else if (s.size : Int) - i < (segN (bt s i) (nextB s i)).2 then bad 4 else dloop s root up (segN (bt s i) (nextB s i)).1.toNat (i + (segN (bt s i) (nextB s i)).2) []) := by
        intro r hr2
        rw [hr2, Option.bind_some]
        by_cases c1 : ((segN (bt s i) (nextB s i)).1 = 0 ∧ root = false ∧ up = 0) ∨ up + (segN (bt s i) (nextB s i)).1 > 32 ∨ ((segN (bt s i) (nextB s i)).2 = 2 ∧ ((segN (bt s i) (nextB s i)).1 < 3 ∨ up + 3 > 32))
        · rw [if_pos c1, if_pos c1, if_neg (by decide)]; rfl
        · rw [if_neg c1, if_neg c1]
          by_cases c2 : (s.size : Int) - i < (segN (bt s i) (nextB s i)).2
          · rw [if_pos c2, if_pos c2, if_neg (by decide)]; rfl
          · rw [if_neg c2, if_neg c2, if_pos rfl]
            simp only
            rw [wrap64_id (by omega) (by omega)]
            exact bpath_loop s hs root up _ (by omega) (segN (bt s i) (nextB s i)).1.toNat 0 _ [] k (by omega) (by omega) (by omega) (by omega) (by simp) (by omega)
      refine done_ _ ?_
      by_cases b0 : bt s i = 0
      · rw [if_pos b0]; exact fin 0 1 (by unfold segN; rw [if_pos b0]) (by omega)
      · rw [if_neg b0]
        by_cases b1 : bt s i = 46
        · rw [if_pos b1]; exact fin 2 1 (by unfold segN; rw [if_neg b0, if_pos b1]) (by omega)
        · rw [if_neg b1]
          by_cases b2 : bt s i = 47
          · rw [if_pos b2]
            by_cases b3 : i + 1 < s.size
            · have hb1 : bt (s.extract i.toNat s.size) 1 = bt s (i + 1) := by rw [bt_extract _ _ _ (by omega) (by omega)]; congr 1; omega
              have := bt_range s (i + 1)
              rw [if_pos (by rw [hr]; omega), if_pos (by rw [hr]; omega), hb1, wrap64_id (by omega) (by omega)]
              exact fin _ 2 (by unfold segN nextB; rw [if_neg b0, if_neg b1, if_pos b2, if_pos b3]) (by omega)
            · rw [if_neg (by rw [hr]; omega)]
              exact fin 3 2 (by unfold segN nextB; rw [if_neg b0, if_neg b1, if_pos b2, if_neg b3]) (by omega)
          · rw [if_neg b2]; exact fin 1 0 (by unfold segN; rw [if_neg b0, if_neg b1, if_neg b2]) (by omega)
/-- The first place, from n on, that holds no caret. -/
def caretF (s : ByteArray) : Nat → Int → Int
  | 0, n => n
  | e + 1, n => if bt s n = 94 then caretF s e (n + 1) else n
theorem caretF_bd (s : ByteArray) : ∀ (e : Nat) (n : Int), n ≤ caretF s e n ∧ caretF s e n ≤ n + e := by
  intro e
  induction e with
  | zero => intro n; simp [caretF]
  | succ e ih =>
    intro n
    have := ih (n + 1)
    simp only [caretF]
    split <;> omega
def pathD (s : ByteArray) : Bool × Int × List ByteArray × Int × Int := if 0 < s.size ∧ bt s 0 = 92 then tailD s 1 true 0 else tailD s (caretF s s.size 0) false (caretF s s.size 0)
theorem tailD_big (s : ByteArray) (i j : Int) (root : Bool) {up vp : Int} (h : up > 32) (h' : vp > 32) : tailD s i root up = tailD s j root vp := by unfold tailD; rw [if_pos h, if_pos h']
theorem bpath_eq (s : ByteArray) (hs : s.size ≤ 562949953421312) (k : Nat) (hk : s.size + 500 ≤ k) : bytecode_Path.f k s = some (pathD s) := by
  have loop : ∀ (e : Nat) (n : Int) (k : Nat), 0 ≤ n → n + e = s.size → n ≤ 33 → 420 + e ≤ k → bytecode_Path.l0 k s n false 0 = some (tailD s (caretF s e n) false (caretF s e n)) := by
    intro e
    induction e with
    | zero =>
      intro n k h0 hn h33 hk
      obtain ⟨k, rfl⟩ : ∃ m, k = m + 1 := ⟨k - 1, by omega⟩
      simp only [bytecode_Path.l0, caretF]
      rw [if_neg (by omega)]
      exact btail_eq s hs false h0 (by omega) h0 k (by omega)
    | succ e ih =>
      intro n k h0 hn h33 hk
      obtain ⟨k, rfl⟩ : ∃ m, k = m + 1 := ⟨k - 1, by omega⟩
      simp only [bytecode_Path.l0, caretF]
      rw [if_pos (by omega), if_pos h0]
      by_cases hc : bt s n = 94
      · rw [if_pos hc, if_pos hc]
        by_cases hl : n ≤ 32
        · rw [if_pos hl, wrap64_id (by omega) (by omega)]
          exact ih (n + 1) k (by omega) (by omega) (by omega) (by omega)
        · rw [if_neg hl, btail_eq s hs false h0 (by omega) h0 k (by omega)]
          have := caretF_bd s e (n + 1)
          exact congrArg some (tailD_big s _ _ false (by omega) (by omega))
      · rw [if_neg hc, if_neg hc]
        exact btail_eq s hs false h0 (by omega) h0 k (by omega)
  unfold bytecode_Path.f pathD
  obtain ⟨k, rfl⟩ : ∃ m, k = m + 1 := ⟨k - 1, by omega⟩
  by_cases h0 : s.size = 0
  · rw [if_pos (toList_nil_iff.2 h0), if_neg (by omega)]
    simp only [bytecode_Path.j0]
    rw [if_neg (by decide)]
    exact loop s.size 0 k (by omega) (by omega) (by omega) (by omega)
  · rw [if_neg (fun h => h0 (toList_nil_iff.1 h)), if_pos (by omega)]
    simp only [bytecode_Path.j0]
    by_cases h1 : bt s 0 = 92
    · rw [if_pos (by simpa using h1), if_pos ⟨by omega, h1⟩]
      exact btail_eq s hs true (by omega) (by omega) (by omega) k (by omega)
    · rw [if_neg (by simpa using h1), if_neg (fun h => h1 h.2)]
      exact loop s.size 0 k (by omega) (by omega) (by omega) (by omega)
theorem dloop_len (s : ByteArray) (root : Bool) (up : Int) : ∀ (e : Nat) (i : Int) (acc : List ByteArray), (dloop s root up e i acc).2.2.1.length ≤ acc.length + e := by
  intro e
  induction e with
  | zero => intro i acc; simp [dloop]
  | succ e ih =>
    intro i acc
    simp only [dloop]
    split
    · have := ih (i + 4) (acc ++ [(dseg (s.extract i.toNat s.size)).1])
      rw [List.length_append, List.length_singleton] at this; omega
    · simp [bad]
theorem tailD_len (s : ByteArray) (i : Int) (root : Bool) (up : Int) : (tailD s i root up).2.2.1.length ≤ 255 := by
  have hb := segN_bd s i
  unfold tailD
  repeat' split
  all_goals (first | (simp [bad]; done) | (have := dloop_len s root up (segN (bt s i) (nextB s i)).1.toNat (i + (segN (bt s i) (nextB s i)).2) []; simp at this ⊢; omega))
theorem pathD_len (s : ByteArray) : (pathD s).2.2.1.length ≤ 255 := by unfold pathD; split <;> exact tailD_len _ _ _ _
theorem equal_str (l : List ByteArray) (hl : l.length ≤ 1000000) (k : Nat) (hk : l.length < k) : platformfwhelp_Equal_string.f k l l = some true := by
  have loop : ∀ (e : Nat) (i q : Nat), i + e = l.length → e < q → platformfwhelp_Equal_string.l0 q l l i = some true := by
    intro e
    induction e with
    | zero =>
      intro i q hi hq
      obtain ⟨q, rfl⟩ : ∃ m, q = m + 1 := ⟨q - 1, by omega⟩
      simp only [platformfwhelp_Equal_string.l0]; rw [if_neg (by omega)]
    | succ e ih =>
      intro i q hi hq
      obtain ⟨q, rfl⟩ : ∃ m, q = m + 1 := ⟨q - 1, by omega⟩
      simp only [platformfwhelp_Equal_string.l0]
      rw [if_pos (by omega), if_pos (by omega), if_pos (by omega), if_pos trivial, wrap64_id (by omega) (by omega)]
      exact ih (i + 1) q (by omega) (by omega)
  unfold platformfwhelp_Equal_string.f
  rw [if_pos rfl]; exact loop l.length 0 k (by omega) hk
theorem same_refl (root : Bool) (up : Int) (l : List ByteArray) (hl : l.length ≤ 1000000) (k : Nat) (hk : l.length < k) : platformfwlaw05_same.f k root up l root up l = some true := by
  unfold platformfwlaw05_same.f
  rw [if_pos (by simp), if_pos rfl, equal_str l hl k hk, Option.bind_some]
theorem help_mod (a n : Int) (h0 : 0 < n) (h1 : n < 9223372036854775808) : ∃ r, platformfwhelp_Mod.f a n = some r ∧ 0 ≤ r ∧ r < n := by
  unfold platformfwhelp_Mod.f
  have hu : IntKind.u64.wrap n = n := wrap_u64_id (by omega) (by omega)
  have ha : 0 ≤ IntKind.u64.wrap a := by rw [wrap_u64]; omega
  rw [hu, if_neg (by omega), Int.tmod_eq_emod_of_nonneg ha]
  have h2 := Int.emod_nonneg (IntKind.u64.wrap a) (show n ≠ 0 by omega)
  have h3 := Int.emod_lt_of_pos (IntKind.u64.wrap a) h0
  exact ⟨_, rfl, by rw [wrap64_id (by omega) (by omega)]; omega, by rw [wrap64_id (by omega) (by omega)]; omega⟩
/-- The five segments that the law's paths are made of. -/
def fiveS : List ByteArray := [⟨#[65]⟩, ⟨#[95, 83, 66]⟩, ⟨#[66, 95]⟩, ⟨#[65, 66, 67, 68]⟩, ⟨#[67, 49]⟩]
theorem five_ok : ∀ j : Fin 5, (rdOf ByteArray.empty fiveS (j : Nat)).size ≤ 4 ∧ 1 ≤ (rdOf ByteArray.empty fiveS (j : Nat)).size ∧ nsSeg (rdOf ByteArray.empty fiveS (j : Nat)) = true := by decide +kernel
theorem mk_loop (root : Bool) (up : Int) (l : List ByteArray) (r1 : Bool) (u1 : Int) (hl : ∀ s ∈ l, s.size ≤ 140737488351232) : ∀ (e : Nat) (x : Int) (acc : List ByteArray) (k : Nat), 0 ≤ x → x + e = 30 → (acc.length : Int) = x → (∀ s ∈ acc, 1 ≤ s.size ∧ s.size ≤ 4 ∧ nsSeg s = true) → e < k →
    ∃ q, platformfwlaw05_path.l0 k x root up l r1 u1 acc = some (r1, u1, q) ∧ q.length ≤ 30 ∧ ∀ s ∈ q, 1 ≤ s.size ∧ s.size ≤ 4 ∧ nsSeg s = true := by
  intro e
  induction e with
  | zero =>
    intro x acc k h0 hx ha hok hk
    obtain ⟨k, rfl⟩ : ∃ m, k = m + 1 := ⟨k - 1, by omega⟩
    refine ⟨acc, ?_, by omega, hok⟩
    simp only [platformfwlaw05_path.l0]
    by_cases h : x < l.length
    · rw [if_pos h, if_neg (by omega)]
    · rw [if_neg h]
  | succ e ih =>
    intro x acc k h0 hx ha hok hk
    obtain ⟨k, rfl⟩ : ∃ m, k = m + 1 := ⟨k - 1, by omega⟩
    simp only [platformfwlaw05_path.l0]
    by_cases h : x < l.length
    · have hsz : (rdOf ByteArray.empty l x).size ≤ 140737488351232 := by
        unfold rdOf
        rw [List.getD_eq_getElem?_getD, List.getElem?_eq_getElem (show x.toNat < l.length by omega)]
        exact hl _ (List.getElem_mem _)
      have hw : wrap64 (((rdOf ByteArray.empty l x).size : Int) + x) = ((rdOf ByteArray.empty l x).size : Int) + x := wrap64_id (by omega) (by omega)
      rw [if_pos h, if_pos (by omega), Option.bind_some, if_pos h0, hw, Int.tmod_eq_emod_of_nonneg (by omega)]
      generalize hm : (((rdOf ByteArray.empty l x).size : Int) + x) % 5 = m
      have hm0 : 0 ≤ m ∧ m < 5 := by omega
      have h5 := five_ok ⟨m.toNat, by omega⟩
      rw [show (((⟨m.toNat, by omega⟩ : Fin 5) : Nat) : Int) = m by show ((m.toNat : Nat) : Int) = m; omega] at h5
      rw [if_pos hm0.1, if_pos (show m < (([(⟨#[65]⟩ : ByteArray), (⟨#[95, 83, 66]⟩ : ByteArray), (⟨#[66, 95]⟩ : ByteArray), (⟨#[65, 66, 67, 68]⟩ : ByteArray), (⟨#[67, 49]⟩ : ByteArray)] : List ByteArray).length : Int) from hm0.2), if_pos (by omega), wrap64_id (by omega) (by omega)]
      refine ih (x + 1) _ k (by omega) (by omega) (by simp; omega) (fun s hs => ?_) (by omega)
      rcases List.mem_append.1 hs with hs | hs
      · exact hok s hs
      · rw [List.mem_singleton.1 hs]; exact ⟨h5.2.1, h5.1, h5.2.2⟩
    · exact ⟨acc, by rw [if_neg h], by omega, hok⟩
theorem mk_ex (root : Bool) (up : Int) (l : List ByteArray) (hl : ∀ s ∈ l, s.size ≤ 140737488351232) (k : Nat) (hk : 50 ≤ k) :
    ∃ u1 q, platformfwlaw05_path.f k root up l = some (root, u1, q) ∧ 0 ≤ u1 ∧ u1 ≤ 4 ∧ q.length ≤ 30 ∧ ∀ s ∈ q, 1 ≤ s.size ∧ s.size ≤ 4 ∧ nsSeg s = true := by
  obtain ⟨r, hr, hr0, hr1⟩ := help_mod up 5 (by omega) (by omega)
  obtain ⟨k, rfl⟩ : ∃ m, k = m + 1 := ⟨k - 1, by omega⟩
  unfold platformfwlaw05_path.f
  rw [hr, Option.bind_some]
  cases root with
  | true =>
    obtain ⟨q, h1, h2, h3⟩ := mk_loop true up l true 0 hl 30 0 [] k (by omega) (by omega) (by simp) (by simp) (by omega)
    exact ⟨0, q, by rw [if_pos rfl]; simp only [platformfwlaw05_path.j0]; exact h1, by omega, by omega, h2, h3⟩
  | false =>
    obtain ⟨q, h1, h2, h3⟩ := mk_loop false up l false r hl 30 0 [] k (by omega) (by omega) (by simp) (by simp) (by omega)
    exact ⟨r, q, by rw [if_neg (by decide)]; simp only [platformfwlaw05_path.j0]; exact h1, by omega, by omega, h2, h3⟩
/-! ### the bytes of a path -/
def padS (s : ByteArray) : ByteArray := s ++ (⟨#[0, 0, 0]⟩ : ByteArray).extract 0 (4 - (s.size : Int)).toNat
theorem padS_size {s : ByteArray} (h1 : 1 ≤ s.size) (h4 : s.size ≤ 4) : (padS s).size = 4 := by
  unfold padS
  rw [ByteArray.size_append, ex_size, show (⟨#[0, 0, 0]⟩ : ByteArray).size = 3 from rfl]; omega
def encL : ByteArray → List ByteArray → ByteArray
  | b, [] => b
  | b, s :: l => encL (b ++ padS s) l
theorem encL_size : ∀ (l : List ByteArray) (b : ByteArray), (∀ s ∈ l, 1 ≤ s.size ∧ s.size ≤ 4) → (encL b l).size = b.size + 4 * l.length := by
  intro l
  induction l with
  | nil => intro b _; simp [encL]
  | cons s l ih =>
    intro b h
    simp only [encL]
    have hs := h s (List.mem_cons_self ..)
    rw [ih _ (fun t ht => h t (List.mem_cons_of_mem _ ht)), ByteArray.size_append, padS_size hs.1 hs.2, List.length_cons]; omega
theorem enc_segs (root : Bool) (up : Int) (l : List ByteArray) (hlen : l.length ≤ 1000) (hok : ∀ s ∈ l, 1 ≤ s.size ∧ s.size ≤ 4) : ∀ (e : Nat) (x : Nat) (b : ByteArray) (k : Nat), x + e = l.length → b.size ≤ 1000000 + 4 * x → e < k →
    platformfwref05_Path.l1 k b x root up l = some (encL b (l.drop x)) := by
  intro e
  induction e with
  | zero =>
    intro x b k hx hb hk
    obtain ⟨k, rfl⟩ : ∃ m, k = m + 1 := ⟨k - 1, by omega⟩
    simp only [platformfwref05_Path.l1]
    rw [if_neg (by omega), List.drop_of_length_le (by omega)]; rfl
  | succ e ih =>
    intro x b k hx hb hk
    obtain ⟨k, rfl⟩ : ∃ m, k = m + 1 := ⟨k - 1, by omega⟩
    have hd : l.drop x = rdOf ByteArray.empty l x :: l.drop (x + 1) := by
      unfold rdOf
      rw [Int.toNat_natCast, List.drop_eq_getElem_cons (show x < l.length by omega), List.getD_eq_getElem?_getD, List.getElem?_eq_getElem (show x < l.length by omega)]; rfl
    have hs := hok (rdOf ByteArray.empty l x) (by unfold rdOf; rw [Int.toNat_natCast, List.getD_eq_getElem?_getD, List.getElem?_eq_getElem (show x < l.length by omega)]; exact List.getElem_mem _)
    have hn := ih (x + 1) (b ++ padS (rdOf ByteArray.empty l x)) k (by omega) (by rw [ByteArray.size_append, padS_size hs.1 hs.2]; omega) (by omega)
    have hz : ((⟨#[0, 0, 0]⟩ : ByteArray).extract 0 (4 - ((rdOf ByteArray.empty l x).size : Int)).toNat).size ≤ 3 := by rw [ex_size, show (⟨#[0, 0, 0]⟩ : ByteArray).size = 3 from rfl]; omega
    rw [hd]
    unfold padS at hn
    simp only [platformfwref05_Path.l1, encL, padS]
    rw [if_pos (by omega), if_pos (by omega), wrap64_id (a := 4 - _) (by omega) (by omega), if_pos (by omega), if_pos (by omega), if_pos (by omega), if_pos (by omega), wrap64_id (a := (x : Int) + 1) (by omega) (by omega)]
    exact hn
def cars : Nat → ByteArray → ByteArray
  | 0, b => b
  | e + 1, b => cars e (b ++ (⟨#[94]⟩ : ByteArray))
theorem cars_size : ∀ (e : Nat) (b : ByteArray), (cars e b).size = b.size + e := by
  intro e
  induction e with
  | zero => intro b; rfl
  | succ e ih => intro b; simp only [cars]; rw [ih, ByteArray.size_append, show (⟨#[94]⟩ : ByteArray).size = 1 from rfl]; omega
def hdrP (b : ByteArray) (n : Nat) : ByteArray := if n = 0 then b ++ (⟨#[0]⟩ : ByteArray) else if n = 2 then b ++ (⟨#[46]⟩ : ByteArray) else if n > 2 then b ++ ((⟨#[47]⟩ : ByteArray) ++ strOfNums [(n : Int) % 256]) else b
/-- The bytes of a path. -/
def encP (root : Bool) (up : Int) (l : List ByteArray) : ByteArray := encL (hdrP (cars up.toNat (if root = true then ⟨#[92]⟩ else ⟨#[]⟩)) l.length) l
theorem hdrP_size (b : ByteArray) (n : Nat) : (hdrP b n).size = b.size + (if n = 0 then 1 else if n = 2 then 1 else if n > 2 then 2 else 0) := by
  unfold hdrP
  split
  · rw [ByteArray.size_append]; rfl
  · split
    · rw [ByteArray.size_append]; rfl
    · split
      · rw [ByteArray.size_append, ByteArray.size_append, strOfNums_size']; rfl
      · rfl
theorem encP_size (root : Bool) {up : Int} (hu : 0 ≤ up) (l : List ByteArray) (hok : ∀ s ∈ l, 1 ≤ s.size ∧ s.size ≤ 4) : 1 ≤ (encP root up l).size ∧ (encP root up l).size ≤ 1 + up + 2 + 4 * l.length := by
  unfold encP
  rw [encL_size _ _ hok, hdrP_size, cars_size]
  have hr : (if root = true then (⟨#[92]⟩ : ByteArray) else ⟨#[]⟩).size ≤ 1 := by cases root <;> decide
  generalize (if root = true then (⟨#[92]⟩ : ByteArray) else ⟨#[]⟩).size = b at hr ⊢
  split
  · omega
  · split
    · omega
    · split <;> omega
theorem little_one (n : Int) (k : Nat) (hk : 3 ≤ k) : platformfwref05_little.f k n 1 = some (strOfNums [n % 256]) := by
  obtain ⟨k, rfl⟩ : ∃ m, k = m + 2 := ⟨k - 2, by omega⟩
  unfold platformfwref05_little.f
  simp only [platformfwref05_little.l0]
  rw [if_pos (by omega), Option.bind_some, if_pos (by rw [strOfNums_size', show (⟨#[]⟩ : ByteArray).size = 0 from rfl]; simp), wrap64_id (by omega) (by omega), if_neg (by omega)]
  exact congrArg some ByteArray.empty_append
theorem encP_eq (root : Bool) {up : Int} (hu : 0 ≤ up) (hu2 : up ≤ 40) (l : List ByteArray) (hlen : l.length ≤ 1000) (hok : ∀ s ∈ l, 1 ≤ s.size ∧ s.size ≤ 4) (k : Nat) (hk : 1100 ≤ k) : platformfwref05_Path.f k root up l = some (encP root up l) := by
  have loop : ∀ (e : Nat) (x : Int) (b : ByteArray) (k : Nat), 0 ≤ x → x + e = up → b.size ≤ 2 + x → 1010 + e ≤ k → platformfwref05_Path.l0 k b x root up l = some (encL (hdrP (cars e b) l.length) l) := by
    intro e
    induction e with
    | zero =>
      intro x b k h0 hx hb hk
      obtain ⟨k, rfl⟩ : ∃ m, k = m + 2 := ⟨k - 2, by omega⟩
      have fin : ∀ b' : ByteArray, b'.size ≤ 100 → platformfwref05_Path.j2 (k + 1) b' root up l = some (encL b' l) := by
        intro b' hb'
        simp only [platformfwref05_Path.j2]
        exact enc_segs root up l hlen hok l.length 0 b' k (by omega) (by omega) (by omega)
      simp only [platformfwref05_Path.l0, cars]
      unfold hdrP
      rw [if_neg (by omega)]
      by_cases c0 : l.length = 0
      · rw [if_pos (by omega), if_pos (by omega), if_pos c0, fin _ (by rw [ByteArray.size_append, show (⟨#[0]⟩ : ByteArray).size = 1 from rfl]; omega)]
      · rw [if_neg (by omega), if_neg c0]
        by_cases c2 : l.length = 2
        · rw [if_pos (by omega), if_pos (by omega), if_pos c2, fin _ (by rw [ByteArray.size_append, show (⟨#[46]⟩ : ByteArray).size = 1 from rfl]; omega)]
        · rw [if_neg (by omega), if_neg c2]
          by_cases c3 : l.length > 2
          · rw [if_pos (by omega), if_pos c3, wrap_u64_id (by omega) (by omega), little_one _ (k + 1) (by omega), Option.bind_some, strOfNums_size', if_pos (by simp), if_pos (by simp; omega), fin _ (by rw [ByteArray.size_append, ByteArray.size_append, strOfNums_size', show (⟨#[47]⟩ : ByteArray).size = 1 from rfl]; simp; omega)]
          · rw [if_neg (by omega), if_neg c3, fin _ (by omega)]
    | succ e ih =>
      intro x b k h0 hx hb hk
      obtain ⟨k, rfl⟩ : ∃ m, k = m + 1 := ⟨k - 1, by omega⟩
      simp only [platformfwref05_Path.l0, cars]
      rw [if_pos (by omega), if_pos (by omega), wrap64_id (by omega) (by omega)]
      exact ih (x + 1) _ k (by omega) (by omega) (by rw [ByteArray.size_append, show (⟨#[94]⟩ : ByteArray).size = 1 from rfl]; omega) (by omega)
  unfold platformfwref05_Path.f encP
  obtain ⟨k, rfl⟩ : ∃ m, k = m + 1 := ⟨k - 1, by omega⟩
  cases root with
  | true =>
    rw [if_pos rfl, if_pos rfl]
    simp only [platformfwref05_Path.j0]
    exact loop up.toNat 0 _ k (by omega) (by omega) (by decide) (by omega)
  | false =>
    rw [if_neg (by decide), if_neg (by decide)]
    simp only [platformfwref05_Path.j0]
    exact loop up.toNat 0 _ k (by omega) (by omega) (by decide) (by omega)
theorem ext_app (s t : ByteArray) (i : Nat) (h : i ≤ s.size) : (s ++ t).extract i (s ++ t).size = s.extract i s.size ++ t := by
  refine ba_ext ?_ fun j hj => ?_
  · rw [ex_size, ByteArray.size_append, ByteArray.size_append, ex_size]; omega
  · rw [ex_size, ByteArray.size_append] at hj
    rw [bt_extract _ _ _ (by omega) (by rw [ByteArray.size_append]; omega)]
    by_cases hlt : i + j < s.size
    · rw [bt_app s t (by omega) (by omega), bt_app _ t (by omega) (by rw [ex_size]; omega), bt_extract _ _ _ (by omega) (by omega)]
    · have e1 : bt (s ++ t) ((i : Int) + j) = bt t ((i : Int) + j - s.size) := by
        rw [bt_B, bt_B, B_append, List.getD_eq_getElem?_getD, List.getD_eq_getElem?_getD, List.getElem?_append_right (by rw [B_size]; omega), B_size]; congr 2; omega
      have e2 : bt (s.extract i s.size ++ t) (j : Int) = bt t ((i : Int) + j - s.size) := by
        rw [bt_B, bt_B, B_append, List.getD_eq_getElem?_getD, List.getD_eq_getElem?_getD, List.getElem?_append_right (by rw [B_size, ex_size]; omega), B_size, ex_size]; congr 2; omega
      rw [e1, e2]
theorem ext_low (s t : ByteArray) (n : Nat) (h : n ≤ s.size) : (s ++ t).extract 0 n = s.extract 0 n := by
  refine ba_ext ?_ fun j hj => ?_
  · rw [ex_size, ex_size, ByteArray.size_append]; omega
  · rw [ex_size, ByteArray.size_append] at hj
    rw [bt_extract _ _ _ (by omega) (by omega), bt_extract _ _ _ (by omega) (by omega), bt_app s t (by omega) (by omega)]
theorem okAt_down (s t : ByteArray) {x : Int} (h0 : 0 ≤ x) (h1 : x ≤ four (s ++ t)) (hs : 1 ≤ s.size) (h : okAt (s ++ t) x = true) : okAt s (if x ≤ four s then x else four s) = true := by
  have hf : four s ≤ s.size ∧ four s ≤ 4 ∧ 1 ≤ four s ∧ four s ≤ four (s ++ t) := by unfold four; rw [ByteArray.size_append]; omega
  obtain ⟨a, b, c⟩ := (okAt_iff (s ++ t) h0 h1).1 h
  have hy : (if x ≤ four s then x else (four s : Int)) ≤ x ∧ 1 ≤ (if x ≤ four s then x else (four s : Int)) ∧ (if x ≤ four s then x else (four s : Int)) ≤ four s ∧ ((if x ≤ four s then x else (four s : Int)) = x ∨ (if x ≤ four s then x else (four s : Int)) = four s) := by split <;> omega
  generalize (if x ≤ four s then x else (four s : Int)) = y at hy
  refine (okAt_iff s (by omega) hy.2.2.1).2 ⟨hy.2.1, fun j hj => ?_, fun j hj hj2 => ?_⟩
  · have := b j (by omega)
    rwa [bt_app s t (by omega) (by omega)] at this
  · have := c j (by omega) (by omega)
    rwa [bt_app s t (by omega) (by omega)] at this
theorem okAt_up (s t : ByteArray) {x : Int} (h0 : 0 ≤ x) (h1 : x ≤ four s) (hs : 4 ≤ s.size) (h : okAt s x = true) : okAt (s ++ t) x = true := by
  have hf : four s = 4 ∧ four (s ++ t) = 4 := by unfold four; rw [ByteArray.size_append]; omega
  obtain ⟨a, b, c⟩ := (okAt_iff s h0 h1).1 h
  refine (okAt_iff (s ++ t) h0 (by omega)).2 ⟨a, fun j hj => ?_, fun j hj hj2 => ?_⟩
  · rw [bt_app s t (by omega) (by omega)]; exact b j hj
  · rw [bt_app s t (by omega) (by omega)]; exact c j hj (by omega)
theorem dseg_app (s t : ByteArray) (h : (dseg s).2 ≠ 4) : dseg (s ++ t) = dseg s := by
  obtain ⟨l1, l2, _, _⟩ := lead_bd s
  obtain ⟨m1, m2, _, _⟩ := lead_bd (s ++ t)
  have hf : four s ≤ s.size := by unfold four; omega
  unfold dseg at h ⊢
  by_cases h0 : s.size = 0
  · rw [if_pos h0] at h; exact absurd rfl h
  · rw [if_neg h0] at h ⊢
    rw [if_neg (show ¬ (s ++ t).size = 0 by rw [ByteArray.size_append]; omega)]
    by_cases hok : okAt s (lead s) = true
    · rw [if_pos hok] at h ⊢
      by_cases h4 : s.size < 4
      · rw [if_pos h4] at h; exact absurd rfl h
      · have hu := okAt_up s t l1 l2 (by omega) hok
        have he := okAt_lead (s ++ t) l1 (by unfold four at l2 ⊢; rw [ByteArray.size_append]; omega) hu
        rw [if_neg h4, ← he, if_pos hu, if_neg (show ¬ (s ++ t).size < 4 by rw [ByteArray.size_append]; omega), ext_low s t _ (by omega)]
    · rw [if_neg hok, if_neg]
      intro hh
      have hd := okAt_down s t m1 m2 (by omega) hh
      have hy : 0 ≤ (if lead (s ++ t) ≤ four s then lead (s ++ t) else (four s : Int)) ∧ (if lead (s ++ t) ≤ four s then lead (s ++ t) else (four s : Int)) ≤ four s := by split <;> omega
      have he := okAt_lead s hy.1 hy.2 hd
      rw [he] at hd
      exact hok hd
theorem dloop_app (s t : ByteArray) (root : Bool) (up : Int) : ∀ (e : Nat) (i : Int) (acc : List ByteArray), 0 ≤ i → i ≤ s.size → (dloop s root up e i acc).2.2.2.2 ≠ 4 → dloop (s ++ t) root up e i acc = dloop s root up e i acc := by
  intro e
  induction e with
  | zero => intro i acc _ _ _; rfl
  | succ e ih =>
    intro i acc h0 h1 h
    have hx := ext_app s t i.toNat (by omega)
    simp only [dloop] at h ⊢
    rw [hx]
    by_cases hd : (dseg (s.extract i.toNat s.size)).2 = 0
    · have hl := dseg_long hd
      rw [ex_size] at hl
      have ha := dseg_app (s.extract i.toNat s.size) t (by omega)
      rw [if_pos hd] at h
      rw [ha, if_pos hd, if_pos hd]
      exact ih (i + 4) _ (by omega) (by omega) h
    · rw [if_neg hd] at h
      have ha := dseg_app (s.extract i.toNat s.size) t h
      rw [ha, if_neg hd, if_neg hd]
theorem bad_code (c : Int) : (bad c).2.2.2.2 = c := rfl
theorem tailD_app (s t : ByteArray) (root : Bool) {i up : Int} (h0 : 0 ≤ i) (h1 : i ≤ s.size) (h : (tailD s i root up).2.2.2.2 ≠ 4) : tailD (s ++ t) i root up = tailD s i root up := by
  unfold tailD at h ⊢
  by_cases hu : up > 32
  · rw [if_pos hu, if_pos hu]
  · rw [if_neg hu] at h
    rw [if_neg hu, if_neg hu]
    by_cases hi : i = s.size
    · rw [if_pos hi] at h; exact absurd rfl h
    · have hsz : (s ++ t).size = s.size + t.size := ByteArray.size_append
      have hb : bt (s ++ t) i = bt s i := bt_app s t h0 (by omega)
      rw [if_neg hi] at h
      rw [if_neg hi, if_neg (show ¬ i = ((s ++ t).size : Int) by rw [hsz]; omega), hb]
      by_cases hn : nextB (s ++ t) i = nextB s i
      · rw [hn]
        by_cases c1 : ((segN (bt s i) (nextB s i)).1 = 0 ∧ root = false ∧ up = 0) ∨ up + (segN (bt s i) (nextB s i)).1 > 32 ∨ ((segN (bt s i) (nextB s i)).2 = 2 ∧ ((segN (bt s i) (nextB s i)).1 < 3 ∨ up + 3 > 32))
        · rw [if_pos c1, if_pos c1]
        · rw [if_neg c1] at h
          rw [if_neg c1, if_neg c1]
          by_cases c2 : (s.size : Int) - i < (segN (bt s i) (nextB s i)).2
          · rw [if_pos c2] at h; exact absurd rfl h
          · have hb2 := segN_bd s i
            rw [if_neg c2] at h
            rw [if_neg c2, if_neg (show ¬ ((s ++ t).size : Int) - i < (segN (bt s i) (nextB s i)).2 by rw [hsz]; omega)]
            exact dloop_app s t root up _ _ _ (by omega) (by omega) h
      · have hlast : ¬ i + 1 < s.size := by
          intro hlt
          apply hn
          unfold nextB
          rw [if_pos hlt, if_pos (by rw [hsz]; omega), bt_app s t (by omega) hlt]
        have hnone : nextB s i = none := by unfold nextB; rw [if_neg hlast]
        by_cases b0 : bt s i = 47
        · have he : segN (bt s i) (nextB s i) = (3, 2) := by rw [hnone, b0]; rfl
          have he1 : (segN (bt s i) (nextB s i)).1 = 3 := by rw [he]
          have he2 : (segN (bt s i) (nextB s i)).2 = 2 := by rw [he]
          rw [he1, he2] at h ⊢
          by_cases c1 : ((3 : Int) = 0 ∧ root = false ∧ up = 0) ∨ up + 3 > 32 ∨ ((2 : Int) = 2 ∧ ((3 : Int) < 3 ∨ up + 3 > 32))
          · rw [if_pos c1]
            have hu3 : up + 3 > 32 := by omega
            have hsome : ∃ c, nextB (s ++ t) i = some c := by
              unfold nextB at hn hnone ⊢
              rw [if_neg hlast] at hn
              by_cases hh : i + 1 < (s ++ t).size
              · rw [if_pos hh]; exact ⟨_, rfl⟩
              · rw [if_neg hh] at hn; exact absurd rfl hn
            obtain ⟨c, hc⟩ := hsome
            have he' : segN (bt s i) (nextB (s ++ t) i) = (c, 2) := by rw [hc, b0]; rfl
            have he3 : (segN (bt s i) (nextB (s ++ t) i)).1 = c := by rw [he']
            have he4 : (segN (bt s i) (nextB (s ++ t) i)).2 = 2 := by rw [he']
            rw [he3, he4, if_pos]
            by_cases hc3 : c < 3
            · exact Or.inr (Or.inr ⟨by trivial, Or.inl hc3⟩)
            · exact Or.inr (Or.inl (by omega))
          · rw [if_neg c1, if_pos (by omega)] at h; exact absurd rfl h
        · have he : segN (bt s i) (nextB (s ++ t) i) = segN (bt s i) (nextB s i) := by
            unfold segN
            by_cases a0 : bt s i = 0
            · rw [if_pos a0, if_pos a0]
            · rw [if_neg a0, if_neg a0]
              by_cases a1 : bt s i = 46
              · rw [if_pos a1, if_pos a1]
              · rw [if_neg a1, if_neg a1, if_neg b0, if_neg b0]
          rw [he]
          by_cases c1 : ((segN (bt s i) (nextB s i)).1 = 0 ∧ root = false ∧ up = 0) ∨ up + (segN (bt s i) (nextB s i)).1 > 32 ∨ ((segN (bt s i) (nextB s i)).2 = 2 ∧ ((segN (bt s i) (nextB s i)).1 < 3 ∨ up + 3 > 32))
          · rw [if_pos c1, if_pos c1]
          · rw [if_neg c1] at h
            rw [if_neg c1, if_neg c1]
            by_cases c2 : (s.size : Int) - i < (segN (bt s i) (nextB s i)).2
            · rw [if_pos c2] at h; exact absurd rfl h
            · have hb2 := segN_bd s i
              rw [if_neg c2] at h
              rw [if_neg c2, if_neg (show ¬ ((s ++ t).size : Int) - i < (segN (bt s i) (nextB s i)).2 by rw [hsz]; omega)]
              exact dloop_app s t root up _ _ _ (by omega) (by omega) h
theorem tailD_big' (s t : ByteArray) (i j : Int) (root : Bool) {up vp : Int} (h : up > 32) (h' : vp > 32) : tailD t i root up = tailD s j root vp := by unfold tailD; rw [if_pos h, if_pos h']
theorem caretF_app (s t : ByteArray) : ∀ (e f : Nat) (n : Int), 0 ≤ n → n + e = s.size → (caretF s e n < s.size → caretF (s ++ t) (e + f) n = caretF s e n) ∧ caretF s e n ≤ caretF (s ++ t) (e + f) n := by
  intro e
  induction e with
  | zero =>
    intro f n h0 hn
    have := caretF_bd (s ++ t) (0 + f) n
    simp only [caretF]
    exact ⟨fun h => by omega, this.1⟩
  | succ e ih =>
    intro f n h0 hn
    rw [show e + 1 + f = (e + f) + 1 by omega]
    simp only [caretF]
    rw [bt_app s t h0 (by omega)]
    by_cases hc : bt s n = 94
    · rw [if_pos hc, if_pos hc]; exact ih f (n + 1) (by omega) (by omega)
    · rw [if_neg hc, if_neg hc]; exact ⟨fun _ => rfl, Int.le_refl _⟩
theorem pathD_app (s t : ByteArray) (h : (pathD s).2.2.2.2 ≠ 4) : pathD (s ++ t) = pathD s := by
  have hsz : (s ++ t).size = s.size + t.size := ByteArray.size_append
  unfold pathD at h ⊢
  by_cases h0 : s.size = 0
  · have hc : caretF s s.size 0 = 0 := by rw [h0]; rfl
    rw [if_neg (by omega), hc] at h
    unfold tailD at h
    rw [if_neg (by omega), if_pos (by omega)] at h
    exact absurd rfl h
  · by_cases hr : 0 < s.size ∧ bt s 0 = 92
    · rw [if_pos hr] at h
      rw [if_pos hr, if_pos ⟨by omega, by rw [bt_app s t (by omega) (by omega)]; exact hr.2⟩]
      exact tailD_app s t true (by omega) (by omega) h
    · rw [if_neg hr] at h
      rw [if_neg hr, if_neg (show ¬ (0 < (s ++ t).size ∧ bt (s ++ t) 0 = 92) from fun hh => hr ⟨by omega, by rw [bt_app s t (by omega) (by omega)] at hh; exact hh.2⟩)]
      have hb := caretF_bd s s.size 0
      have hap := caretF_app s t s.size t.size 0 (by omega) (by omega)
      rw [hsz]
      by_cases hlt : caretF s s.size 0 < s.size
      · rw [hap.1 hlt]
        exact tailD_app s t false (by omega) (by omega) h
      · by_cases hbig : caretF s s.size 0 > 32
        · exact tailD_big' s (s ++ t) _ _ false (by omega) hbig
        · exfalso
          unfold tailD at h
          rw [if_neg hbig, if_pos (by omega)] at h
          exact h rfl
/-! ### which paths are valid -/
def allSeg (l : List ByteArray) : Bool := l.all nsSeg
/-- A valid path. -/
def okPath (root : Bool) (up : Int) (l : List ByteArray) : Bool := decide (0 ≤ up) && decide (up ≤ 32) && (!root || decide (up = 0)) && decide (up + l.length ≤ 32) && (root || decide (0 < up) || decide (0 < l.length)) && allSeg l
theorem any_all (l : List ByteArray) : (!l.any (fun s => !nsSeg s)) = allSeg l := by
  unfold allSeg
  induction l with
  | nil => rfl
  | cons s l ih => rw [List.any_cons, List.all_cons, ← ih]; cases nsSeg s <;> simp
theorem contains_eq (l : List ByteArray) (hl : ∀ s ∈ l, s.size ≤ 140737488351232) (hlen : l.length ≤ 140737488351232) : (slices_ContainsFunc.f l).bind (fun t => some (!t)) = some (allSeg l) := by
  unfold slices_ContainsFunc.f
  rw [if_pos ⟨List.all_eq_true.2 fun s hs => decide_eq_true (hl s hs), hlen⟩, Option.bind_some, any_all]
theorem nsValid_eq (root : Bool) (up : Int) (l : List ByteArray) (hu : -9223372036854775808 ≤ up) (hu2 : up < 9223372036854775808) (hl : ∀ s ∈ l, s.size ≤ 140737488351232) (hlen : l.length ≤ 140737488351232) : nspath_Valid.f root up l = some (okPath root up l) := by
  have hc := contains_eq l hl hlen
  unfold nspath_Valid.f okPath
  by_cases h0 : up < 0
  · rw [if_pos h0, decide_eq_false (show ¬ 0 ≤ up by omega)]; simp
  · rw [if_neg h0, decide_eq_true (show 0 ≤ up by omega)]
    by_cases h1 : up > 32
    · rw [if_pos h1, decide_eq_false (show ¬ up ≤ 32 by omega)]; simp
    · rw [if_neg h1, decide_eq_true (show up ≤ 32 by omega), wrap64_id (a := up + (l.length : Int)) (by omega) (by omega), hc]
      cases root with
      | true =>
        rw [if_pos rfl]
        by_cases h2 : up > 0
        · rw [if_pos h2, decide_eq_false (show ¬ up = 0 by omega)]; simp
        · rw [if_neg h2, decide_eq_true (show up = 0 by omega)]
          by_cases h3 : up + l.length > 32
          · rw [if_pos h3, decide_eq_false (show ¬ up + (l.length : Int) ≤ 32 by omega)]; simp
          · rw [if_neg h3, decide_eq_true (show up + (l.length : Int) ≤ 32 by omega)]; simp
      | false =>
        rw [if_neg (by decide)]
        by_cases h3 : up + l.length > 32
        · rw [if_pos h3, decide_eq_false (show ¬ up + (l.length : Int) ≤ 32 by omega)]; simp
        · rw [if_neg h3, decide_eq_true (show up + (l.length : Int) ≤ 32 by omega)]
          by_cases h4 : up > 0
          · rw [if_pos h4, decide_eq_true (show 0 < up from h4)]; simp
          · rw [if_neg h4, decide_eq_false (show ¬ 0 < up from h4)]
            by_cases h5 : (l.length : Int) > 0
            · rw [if_pos h5, decide_eq_true (show 0 < l.length by omega)]; simp
            · rw [if_neg h5, decide_eq_false (show ¬ 0 < l.length by omega)]; simp
theorem refValid_loop (root : Bool) (up : Int) (l : List ByteArray) (hl : ∀ s ∈ l, s.size ≤ 140737488351232) : ∀ (e : Nat) (x : Nat) (k : Nat), x + e = l.length → l.length ≤ 1000000 → 12 + e < k → platformfwref01_ValidPath.l0 k x root up l = some (allSeg (l.drop x)) := by
  intro e
  induction e with
  | zero =>
    intro x k hx hlen hk
    obtain ⟨k, rfl⟩ : ∃ m, k = m + 1 := ⟨k - 1, by omega⟩
    simp only [platformfwref01_ValidPath.l0]
    rw [if_neg (by omega), List.drop_of_length_le (by omega)]; rfl
  | succ e ih =>
    intro x k hx hlen hk
    obtain ⟨k, rfl⟩ : ∃ m, k = m + 1 := ⟨k - 1, by omega⟩
    have hd : l.drop x = rdOf ByteArray.empty l x :: l.drop (x + 1) := by
      unfold rdOf
      rw [Int.toNat_natCast, List.drop_eq_getElem_cons (show x < l.length by omega), List.getD_eq_getElem?_getD, List.getElem?_eq_getElem (show x < l.length by omega)]; rfl
    have hs := hl (rdOf ByteArray.empty l x) (by unfold rdOf; rw [Int.toNat_natCast, List.getD_eq_getElem?_getD, List.getElem?_eq_getElem (show x < l.length by omega)]; exact List.getElem_mem _)
    rw [hd]
    simp only [platformfwref01_ValidPath.l0]
    rw [if_pos (by omega), if_pos (by omega), refSegment_eq _ (by omega) k (by omega), Option.bind_some, wrap64_id (a := (x : Int) + 1) (by omega) (by omega)]
    unfold allSeg
    rw [List.all_cons]
    cases nsSeg (rdOf ByteArray.empty l x) with
    | true => rw [if_pos rfl]; have := ih (x + 1) k (by omega) hlen (by omega); unfold allSeg at this; exact this
    | false => rw [if_neg (by decide)]; rfl
theorem refValidP_eq (root : Bool) (up : Int) (l : List ByteArray) (hu : -9223372036854775808 ≤ up) (hu2 : up < 9223372036854775808) (hl : ∀ s ∈ l, s.size ≤ 140737488351232) (hlen : l.length ≤ 1000000) (k : Nat) (hk : l.length + 20 ≤ k) : platformfwref01_ValidPath.f k root up l = some (okPath root up l) := by
  obtain ⟨k, rfl⟩ : ∃ m, k = m + 1 := ⟨k - 1, by omega⟩
  have bad : platformfwref01_ValidPath.j0 (k + 1) true root up l = some false := by simp only [platformfwref01_ValidPath.j0]; rw [if_pos trivial]
  have good : platformfwref01_ValidPath.j0 (k + 1) false root up l = some (allSeg l) := by
    simp only [platformfwref01_ValidPath.j0]; rw [if_neg (by decide)]
    exact refValid_loop root up l hl l.length 0 k (by omega) hlen (by omega)
  unfold platformfwref01_ValidPath.f okPath
  by_cases h0 : up < 0
  · rw [if_pos h0, bad, decide_eq_false (show ¬ 0 ≤ up by omega)]; simp
  · rw [if_neg h0, decide_eq_true (show 0 ≤ up by omega)]
    by_cases h1 : up > 32
    · rw [if_pos h1, bad, decide_eq_false (show ¬ up ≤ 32 by omega)]; simp
    · rw [if_neg h1, decide_eq_true (show up ≤ 32 by omega), wrap64_id (a := 32 - up) (by omega) (by omega)]
      cases root with
      | true =>
        rw [if_pos rfl]
        by_cases h2 : up > 0
        · rw [if_pos h2, bad, decide_eq_false (show ¬ up = 0 by omega)]; simp
        · rw [if_neg h2, decide_eq_true (show up = 0 by omega)]
          by_cases h3 : (l.length : Int) > 32 - up
          · rw [if_pos h3, bad, decide_eq_false (show ¬ up + (l.length : Int) ≤ 32 by omega)]; simp
          · rw [if_neg h3, good, decide_eq_true (show up + (l.length : Int) ≤ 32 by omega)]; simp
      | false =>
        rw [if_neg (by decide)]
        by_cases h3 : (l.length : Int) > 32 - up
        · rw [if_pos h3, bad, decide_eq_false (show ¬ up + (l.length : Int) ≤ 32 by omega)]; simp
        · rw [if_neg h3, decide_eq_true (show up + (l.length : Int) ≤ 32 by omega)]
          by_cases h4 : up = 0
          · rw [if_pos h4, decide_eq_false (show ¬ 0 < up by omega)]
            by_cases h5 : (l.length : Int) = 0
            · rw [show ((l.length : Int) == 0) = true by simpa using h5, bad, decide_eq_false (show ¬ 0 < l.length by omega)]; simp
            · rw [show ((l.length : Int) == 0) = false by simpa using h5, good, decide_eq_true (show 0 < l.length by omega)]; simp
          · rw [if_neg h4, good, decide_eq_true (show 0 < up by omega)]; simp
/-! ### encoding a path -/
theorem repB_zero (s : ByteArray) : repB s 0 = ⟨#[]⟩ := rfl
theorem repB_succ (s : ByteArray) (n : Nat) : repB s (n + 1) = s ++ repB s n := by
  apply ByteArray.ext
  apply Array.ext'
  rw [ByteArray.data_append, Array.toList_append]
  rfl
theorem cars_rep : ∀ (e : Nat) (b : ByteArray), cars e b = b ++ repB (strOfNums [94]) e := by
  intro e
  induction e with
  | zero => intro b; simp only [cars]; rw [repB_zero]; exact ByteArray.append_empty.symm
  | succ e ih => intro b; simp only [cars]; rw [ih, repB_succ, ByteArray.append_assoc]; rfl
theorem rep_zeros : ∀ c : Fin 4, repB (⟨#[0]⟩ : ByteArray) c = (⟨#[0, 0, 0]⟩ : ByteArray).extract 0 c := by decide +kernel
theorem repB_size (s : ByteArray) : ∀ n, (repB s n).size = n * s.size := by
  intro n
  induction n with
  | zero => rw [Nat.zero_mul]; rfl
  | succ n ih => rw [repB_succ, ByteArray.size_append, ih, Nat.succ_mul]; omega
theorem append_segs (x0 : ByteArray) (h0 : x0.size ≤ 140737488351232) (l : List ByteArray) (hlen : l.length ≤ 1000) (hok : ∀ s ∈ l, 1 ≤ s.size ∧ s.size ≤ 4) : ∀ (e : Nat) (x : Nat) (b : ByteArray) (k : Nat), x + e = l.length → b.size ≤ 1000000 + 4 * x → e < k →
    bytecode_AppendPath.l0 k x0 b l l.length x = some (x0 ++ encL b (l.drop x)) := by
  intro e
  induction e with
  | zero =>
    intro x b k hx hb hk
    obtain ⟨k, rfl⟩ : ∃ m, k = m + 1 := ⟨k - 1, by omega⟩
    simp only [bytecode_AppendPath.l0]
    rw [if_neg (by omega), if_pos (by omega), List.drop_of_length_le (by omega)]; rfl
  | succ e ih =>
    intro x b k hx hb hk
    obtain ⟨k, rfl⟩ : ∃ m, k = m + 1 := ⟨k - 1, by omega⟩
    have hd : l.drop x = rdOf ByteArray.empty l x :: l.drop (x + 1) := by
      unfold rdOf
      rw [Int.toNat_natCast, List.drop_eq_getElem_cons (show x < l.length by omega), List.getD_eq_getElem?_getD, List.getElem?_eq_getElem (show x < l.length by omega)]; rfl
    have hs := hok (rdOf ByteArray.empty l x) (by unfold rdOf; rw [Int.toNat_natCast, List.getD_eq_getElem?_getD, List.getElem?_eq_getElem (show x < l.length by omega)]; exact List.getElem_mem _)
    have hn := ih (x + 1) (b ++ padS (rdOf ByteArray.empty l x)) k (by omega) (by rw [ByteArray.size_append, padS_size hs.1 hs.2]; omega) (by omega)
    rw [hd]
    simp only [bytecode_AppendPath.l0, encL]
    rw [if_pos (by omega), if_pos (by omega), if_pos (by omega)]
    generalize rdOf ByteArray.empty l x = s at hs hn
    have hr' : repB (⟨#[0]⟩ : ByteArray) (4 - (s.size : Int)).toNat = (⟨#[0, 0, 0]⟩ : ByteArray).extract 0 (4 - (s.size : Int)).toNat := rep_zeros ⟨(4 - (s.size : Int)).toNat, by omega⟩
    have hz : ((⟨#[0, 0, 0]⟩ : ByteArray).extract 0 (4 - (s.size : Int)).toNat).size ≤ 3 := by rw [ex_size, show (⟨#[0, 0, 0]⟩ : ByteArray).size = 3 from rfl]; omega
    have hrep : strings_Repeat.f (⟨#[0]⟩ : ByteArray) (4 - (s.size : Int)) = some ((⟨#[0, 0, 0]⟩ : ByteArray).extract 0 (4 - (s.size : Int)).toNat) := by
      unfold strings_Repeat.f; rw [if_pos ⟨by omega, by omega, by decide⟩, hr']
    unfold padS at hn ⊢
    rw [wrap64_id (a := 4 - (s.size : Int)) (by omega) (by omega), hrep, Option.bind_some, if_pos (by omega), if_pos (by omega), wrap64_id (a := (x : Int) + 1) (by omega) (by omega)]
    exact hn
theorem append_eq (x0 : ByteArray) (h0 : x0.size ≤ 140737488351232) (root : Bool) (up : Int) (l : List ByteArray) (hu : -9223372036854775808 ≤ up) (hu2 : up < 9223372036854775808) (hl : ∀ s ∈ l, s.size ≤ 140737488351232) (hlen : l.length ≤ 1000) (k : Nat) (hk : 1100 ≤ k) :
    bytecode_AppendPath.f k x0 root up l = some (if okPath root up l = true then x0 ++ encP root up l else x0) := by
  obtain ⟨k, rfl⟩ : ∃ m, k = m + 2 := ⟨k - 2, by omega⟩
  unfold bytecode_AppendPath.f
  rw [nsValid_eq root up l hu hu2 hl (by omega), Option.bind_some]
  by_cases hv : okPath root up l = true
  · rw [if_pos hv, if_pos hv]
    have hv' := hv
    unfold okPath at hv'
    simp only [Bool.and_eq_true, decide_eq_true_eq, Bool.or_eq_true, Bool.not_eq_true'] at hv'
    have hok : ∀ s ∈ l, 1 ≤ s.size ∧ s.size ≤ 4 := fun s hs => by
      have := (nsSeg_iff s).1 (List.all_eq_true.1 hv'.2 s hs)
      exact ⟨this.1, this.2.1⟩
    have hrep : strings_Repeat.f (strOfNums [94]) up = some (repB (strOfNums [94]) up.toNat) := by
      unfold strings_Repeat.f; rw [if_pos ⟨by omega, by omega, by rw [strOfNums_size']; decide⟩]
    have j1 : ∀ b : ByteArray, b.size ≤ 100 → bytecode_AppendPath.j1 (k + 1) x0 b root up l = some (x0 ++ encL b l) := by
      intro b hb
      simp only [bytecode_AppendPath.j1]
      exact append_segs x0 h0 l hlen hok l.length 0 b k (by omega) (by omega) (by omega)
    have j0 : ∀ b : ByteArray, b.size ≤ 50 → bytecode_AppendPath.j0 (k + 2) x0 b root up l = some (x0 ++ encL (hdrP b l.length) l) := by
      intro b hb
      simp only [bytecode_AppendPath.j0]
      unfold hdrP
      by_cases c0 : l.length = 0
      · rw [if_pos (by omega), if_pos c0, Option.bind_some, strOfNums_size', if_pos (by simp; omega), j1 _ (by rw [ByteArray.size_append, strOfNums_size']; simp; omega)]; rfl
      · rw [if_neg (by omega), if_neg c0]
        by_cases c1 : l.length = 1
        · rw [if_pos (by omega), if_neg (by omega), if_neg (by omega), j1 _ (by omega)]
        · rw [if_neg (by omega)]
          by_cases c2 : l.length = 2
          · rw [if_pos (by omega), if_pos c2, Option.bind_some, strOfNums_size', if_pos (by simp; omega), j1 _ (by rw [ByteArray.size_append, strOfNums_size']; simp; omega)]; rfl
          · rw [if_neg (by omega), if_neg c2, if_pos (by omega), Option.bind_some, strOfNums_size', if_pos (by simp; omega), j1 _ (by rw [ByteArray.size_append, strOfNums_size']; simp; omega)]
            have e : strOfNums [47, (l.length : Int) % 256] = (⟨#[47]⟩ : ByteArray) ++ strOfNums [(l.length : Int) % 256] := by
              rw [show [47, (l.length : Int) % 256] = [47] ++ [(l.length : Int) % 256] from rfl, strOfNums_append]; rfl
            rw [e]
    unfold encP
    rw [hrep, Option.bind_some]
    cases root with
    | true =>
      have hup : up = 0 := by
        rcases hv'.1.1.1.2 with h | h
        · cases h
        · exact h
      rw [if_pos rfl, if_pos rfl, j0 (strOfNums [92]) (by rw [strOfNums_size']; decide), hup]; rfl
    | false =>
      rw [if_neg (by decide), if_neg (by decide), cars_rep, j0 _ (by rw [repB_size, strOfNums_size']; simp; omega)]
      rw [show (⟨#[]⟩ : ByteArray) ++ repB (strOfNums [94]) up.toNat = repB (strOfNums [94]) up.toNat from ByteArray.empty_append]
  · rw [if_neg hv, if_neg hv]
/-! ### an encoded path is decoded to itself -/
def segB : List ByteArray → ByteArray
  | [] => ⟨#[]⟩
  | s :: l => padS s ++ segB l
theorem encL_segB : ∀ (l : List ByteArray) (b : ByteArray), encL b l = b ++ segB l := by
  intro l
  induction l with
  | nil => intro b; simp only [encL, segB]; exact ByteArray.append_empty.symm
  | cons s l ih => intro b; simp only [encL, segB]; rw [ih, ByteArray.append_assoc]
theorem ext_tail (b c : ByteArray) : (b ++ c).extract b.size (b ++ c).size = c := by
  rw [ext_app b c b.size (Nat.le_refl _)]
  have : b.extract b.size b.size = ⟨#[]⟩ := ba_ext (by rw [ex_size]; show _ = 0; omega) (fun j hj => by rw [ex_size] at hj; omega)
  rw [this]; exact ByteArray.empty_append
theorem bt_right (a b : ByteArray) {j : Int} (h0 : 0 ≤ j) : bt (a ++ b) ((a.size : Int) + j) = bt b j := by
  rw [bt_B, bt_B, B_append, List.getD_eq_getElem?_getD, List.getD_eq_getElem?_getD, List.getElem?_append_right (by rw [B_size]; omega), B_size]; congr 2; omega
theorem dseg_pad {s : ByteArray} (h : nsSeg s = true) : dseg (padS s) = (s, 0) := by
  have hs := (nsSeg_iff s).1 h
  have hsz := padS_size hs.1 hs.2.1
  have hf : four (padS s) = 4 := by unfold four; rw [hsz]; rfl
  have hex : (padS s).extract 0 s.size = s := by
    unfold padS
    rw [ext_low s _ s.size (Nat.le_refl _)]
    exact ba_ext (by rw [ex_size]; omega) (fun j hj => by rw [ex_size] at hj; rw [bt_extract _ _ _ (by omega) (by omega)]; congr 1; omega)
  have hok : okAt (padS s) s.size = true := by
    refine (okAt_iff (padS s) (by omega) (by omega)).2 ⟨by omega, fun j hj => ?_, fun j hj hj2 => ?_⟩
    · unfold padS; rw [bt_app s _ (by omega) hj]; exact hs.2.2 j (by omega)
    · unfold padS
      have := bt_right s ((⟨#[0, 0, 0]⟩ : ByteArray).extract 0 (4 - (s.size : Int)).toNat) (j := (j : Int) - s.size) (by omega)
      rw [show (s.size : Int) + ((j : Int) - s.size) = j by omega] at this
      rw [this]
      have hz := (zeros3 ⟨(4 - (s.size : Int)).toNat, by omega⟩ ⟨j - s.size, by omega⟩).1
      rw [show (j : Int) - s.size = ((j - s.size : Nat) : Int) by omega]; exact hz
  have hl := okAt_lead (padS s) (by omega) (by omega) hok
  unfold dseg
  rw [if_neg (by omega), ← hl, if_pos hok, if_neg (by omega), Int.toNat_natCast, hex]
theorem dloop_enc (root : Bool) (up : Int) : ∀ (l : List ByteArray) (b : ByteArray) (acc : List ByteArray), (∀ s ∈ l, nsSeg s = true) →
    dloop (b ++ segB l) root up l.length b.size acc = (root, up, acc ++ l, (b.size : Int) + 4 * l.length, 0) := by
  intro l
  induction l with
  | nil => intro b acc _; simp [dloop]
  | cons s l ih =>
    intro b acc h
    have hs := h s (List.mem_cons_self ..)
    have hsi := (nsSeg_iff s).1 hs
    have hsz := padS_size hsi.1 hsi.2.1
    have hd : dseg (padS s ++ segB l) = (s, 0) := by rw [dseg_app _ _ (by rw [dseg_pad hs]; simp), dseg_pad hs]
    have hx : (b ++ (padS s ++ segB l)).extract b.size (b ++ (padS s ++ segB l)).size = padS s ++ segB l := ext_tail b _
    have hn := ih (b ++ padS s) (acc ++ [s]) (fun t ht => h t (List.mem_cons_of_mem _ ht))
    rw [ByteArray.append_assoc, ByteArray.size_append, hsz] at hn
    simp only [segB, List.length_cons, dloop]
    rw [Int.toNat_natCast, hx, hd]
    simp only
    rw [if_pos trivial, show (b.size : Int) + 4 = ((b.size + 4 : Nat) : Int) by omega, hn]
    simp; omega
theorem bt_cars : ∀ (e : Nat) (b : ByteArray) (j : Int), 0 ≤ j → (j < b.size → bt (cars e b) j = bt b j) ∧ (b.size ≤ j → j < b.size + e → bt (cars e b) j = 94) := by
  intro e
  induction e with
  | zero => intro b j h0; exact ⟨fun _ => rfl, fun h1 h2 => by omega⟩
  | succ e ih =>
    intro b j h0
    have hsz : (b ++ (⟨#[94]⟩ : ByteArray)).size = b.size + 1 := by rw [ByteArray.size_append]; rfl
    have := ih (b ++ (⟨#[94]⟩ : ByteArray)) j h0
    rw [hsz] at this
    simp only [cars]
    refine ⟨fun h => by rw [this.1 (by omega), bt_app b _ h0 h], fun h1 h2 => ?_⟩
    by_cases hj : j = b.size
    · rw [this.1 (by omega), hj]
      have := bt_right b (⟨#[94]⟩ : ByteArray) (j := 0) (by omega)
      rw [Int.add_zero] at this; rw [this]; decide
    · exact this.2 (by omega) (by omega)
theorem caretF_at (s : ByteArray) (c : Int) (hc : bt s c ≠ 94) : ∀ (e : Nat) (n : Int), n ≤ c → c < n + e → (∀ j, n ≤ j → j < c → bt s j = 94) → caretF s e n = c := by
  intro e
  induction e with
  | zero => intro n h1 h2 _; omega
  | succ e ih =>
    intro n h1 h2 h
    simp only [caretF]
    by_cases hn : n = c
    · rw [hn, if_neg hc]
    · rw [if_pos (h n (by omega) (by omega))]
      exact ih (n + 1) (by omega) (by omega) (fun j a b => h j (by omega) b)
theorem tail_enc (root : Bool) (up : Int) (l : List ByteArray) (hv : okPath root up l = true) (p : ByteArray) : tailD (hdrP p l.length ++ segB l) p.size root up = (root, up, l, ((hdrP p l.length ++ segB l).size : Int), 0) ∧ bt (hdrP p l.length ++ segB l) p.size ≠ 94 ∧ bt (hdrP p l.length ++ segB l) p.size ≠ 92 ∧ p.size < (hdrP p l.length ++ segB l).size := by
  have hv' := hv
  unfold okPath at hv'
  simp only [Bool.and_eq_true, decide_eq_true_eq, Bool.or_eq_true, Bool.not_eq_true'] at hv'
  have hok : ∀ s ∈ l, nsSeg s = true := fun s hs => List.all_eq_true.1 hv'.2 s hs
  have hsz : (segB l).size = 4 * l.length := by
    have := encL_size l ⟨#[]⟩ (fun s hs => by have := (nsSeg_iff s).1 (hok s hs); exact ⟨this.1, this.2.1⟩)
    rw [encL_segB, ByteArray.size_append] at this
    have h0 : (⟨#[]⟩ : ByteArray).size = 0 := rfl
    omega
  have hr : hv'.2 = hv'.2 := rfl
  -- what the head of the whole is
  have key : ∀ (X : ByteArray) (b : Int) (n kk : Int), hdrP p l.length = p ++ X → bt (p ++ X ++ segB l) p.size = b → segN b (nextB (p ++ X ++ segB l) p.size) = (n, kk) → n = l.length → kk = X.size → b ≠ 94 → b ≠ 92 → 0 < X.size + 4 * l.length → (n < 3 → kk ≠ 2) →
      tailD (p ++ X ++ segB l) p.size root up = (root, up, l, ((p ++ X ++ segB l).size : Int), 0) ∧ bt (p ++ X ++ segB l) p.size ≠ 94 ∧ bt (p ++ X ++ segB l) p.size ≠ 92 ∧ p.size < (p ++ X ++ segB l).size := by
    intro X b n kk hh hb hN hn hk h94 h92 hpos h32
    have hall : (p ++ X ++ segB l).size = p.size + X.size + 4 * l.length := by rw [ByteArray.size_append, ByteArray.size_append, hsz]
    refine ⟨?_, by rw [hb]; exact h94, by rw [hb]; exact h92, by omega⟩
    unfold tailD
    have hn1 : (segN (bt (p ++ X ++ segB l) p.size) (nextB (p ++ X ++ segB l) p.size)).1 = n := by rw [hb, hN]
    have hn2 : (segN (bt (p ++ X ++ segB l) p.size) (nextB (p ++ X ++ segB l) p.size)).2 = kk := by rw [hb, hN]
    rw [hn1, hn2, if_neg (by omega), if_neg (by omega), if_neg, if_neg (by omega)]
    · have := dloop_enc root up l (p ++ X) [] hok
      rw [ByteArray.size_append] at this
      rw [hn, Int.toNat_natCast, hk, show (p.size : Int) + (X.size : Int) = ((p.size + X.size : Nat) : Int) by omega, this, hall]
      simp
    · intro hc
      rcases hc with hc | hc | hc
      · rcases hv'.1.2 with (h | h) | h
        · rw [h] at hc; exact absurd hc.2.1 (by decide)
        · omega
        · omega
      · omega
      · rcases hc.2 with h | h
        · exact h32 h hc.1
        · have := hv'.1.1.2
          have h3 : 3 ≤ n := by
            by_cases h' : n < 3
            · exact absurd hc.1 (h32 h')
            · omega
          omega
  unfold hdrP
  by_cases c0 : l.length = 0
  · rw [if_pos c0]
    have hnil : l = [] := List.length_eq_zero_iff.1 c0
    have hb : bt (p ++ (⟨#[0]⟩ : ByteArray) ++ segB l) p.size = 0 := by
      rw [ByteArray.append_assoc]
      have := bt_right p ((⟨#[0]⟩ : ByteArray) ++ segB l) (j := 0) (by omega)
      rw [Int.add_zero] at this
      rw [this, bt_app _ _ (by omega) (by decide)]; decide
    exact key ⟨#[0]⟩ 0 0 1 (by unfold hdrP; rw [if_pos c0]) hb (by unfold segN; rw [if_pos rfl]) (by omega) rfl (by omega) (by omega) (by rw [show (⟨#[0]⟩ : ByteArray).size = 1 from rfl]; omega) (by omega)
  · rw [if_neg c0]
    by_cases c2 : l.length = 2
    · rw [if_pos c2]
      have hb : bt (p ++ (⟨#[46]⟩ : ByteArray) ++ segB l) p.size = 46 := by
        rw [ByteArray.append_assoc]
        have := bt_right p ((⟨#[46]⟩ : ByteArray) ++ segB l) (j := 0) (by omega)
        rw [Int.add_zero] at this
        rw [this, bt_app _ _ (by omega) (by decide)]; decide
      exact key ⟨#[46]⟩ 46 2 1 (by unfold hdrP; rw [if_neg c0, if_pos c2]) hb (by unfold segN; rw [if_neg (by omega), if_pos rfl]) (by omega) rfl (by omega) (by omega) (by omega) (by omega)
    · rw [if_neg c2]
      by_cases c3 : l.length > 2
      · rw [if_pos c3]
        have hlen : (l.length : Int) % 256 = l.length := by omega
        have hXs : ((⟨#[47]⟩ : ByteArray) ++ strOfNums [(l.length : Int) % 256]).size = 2 := by rw [ByteArray.size_append, strOfNums_size']; rfl
        have hX : (⟨#[47]⟩ : ByteArray) ++ strOfNums [(l.length : Int) % 256] = strOfNums [47, (l.length : Int)] := by
          rw [show [47, (l.length : Int)] = [47] ++ [(l.length : Int)] from rfl, strOfNums_append, hlen]; rfl
        have hat : ∀ j : Nat, j < 2 → bt (p ++ ((⟨#[47]⟩ : ByteArray) ++ strOfNums [(l.length : Int) % 256]) ++ segB l) ((p.size : Int) + j) = [47, (l.length : Int)].getD j 0 := by
          intro j hj
          rw [ByteArray.append_assoc, bt_right _ _ (by omega), bt_app _ _ (by omega) (by omega), hX, bt_B, B_nums (by intro x hx; simp at hx; omega), Int.toNat_natCast]
        have hb := hat 0 (by omega)
        have hb1 := hat 1 (by omega)
        rw [show ((0 : Nat) : Int) = 0 from rfl, Int.add_zero] at hb
        refine key _ 47 l.length 2 (by unfold hdrP; rw [if_neg c0, if_neg c2, if_pos c3]) hb ?_ rfl (by omega) (by omega) (by omega) (by omega) (by omega)
        have hnx : nextB (p ++ ((⟨#[47]⟩ : ByteArray) ++ strOfNums [(l.length : Int) % 256]) ++ segB l) p.size = some (l.length : Int) := by
          unfold nextB
          rw [if_pos (by rw [ByteArray.size_append, ByteArray.size_append, hXs]; omega)]
          exact congrArg some hb1
        rw [hnx]; rfl
      · rw [if_neg c3]
        obtain ⟨s, hs⟩ : ∃ s, l = [s] := by
          cases l with
          | nil => exact absurd rfl c0
          | cons s t =>
            cases t with
            | nil => exact ⟨s, rfl⟩
            | cons a b => simp only [List.length_cons] at c0 c2 c3; omega
        have hseg := (nsSeg_iff s).1 (hok s (by rw [hs]; exact List.mem_cons_self ..))
        have hch := hseg.2.2 0 (by omega)
        have hb : bt (p ++ (⟨#[]⟩ : ByteArray) ++ segB l) p.size = bt s 0 := by
          rw [ByteArray.append_assoc]
          have := bt_right p ((⟨#[]⟩ : ByteArray) ++ segB l) (j := 0) (by omega)
          rw [Int.add_zero] at this
          rw [this, show (⟨#[]⟩ : ByteArray) ++ segB l = segB l from ByteArray.empty_append, hs]
          simp only [segB]
          rw [bt_app _ _ (by omega) (by rw [padS_size hseg.1 hseg.2.1]; omega)]
          unfold padS
          rw [bt_app _ _ (by omega) (by omega)]
        have hrng : 65 ≤ bt s 0 ∧ bt s 0 ≤ 90 ∨ bt s 0 = 95 := by
          have h := hch
          rw [show ((0 : Nat) : Int) = 0 from rfl] at h
          unfold segCh at h
          simp only [Bool.or_eq_true, Bool.and_eq_true, decide_eq_true_eq] at h
          omega
        have hk := key ⟨#[]⟩ (bt s 0) 1 0 (by unfold hdrP; rw [if_neg c0, if_neg c2, if_neg c3]; exact ByteArray.append_empty.symm) hb (by unfold segN; rw [if_neg (by omega), if_neg (by omega), if_neg (by omega)]) (by omega) rfl (by omega) (by omega) (by omega) (by omega)
        rw [show p ++ (⟨#[]⟩ : ByteArray) = p from ByteArray.append_empty] at hk
        exact hk
theorem pathD_enc (root : Bool) (up : Int) (l : List ByteArray) (hv : okPath root up l = true) : pathD (encP root up l) = (root, up, l, ((encP root up l).size : Int), 0) := by
  have hv' := hv
  unfold okPath at hv'
  simp only [Bool.and_eq_true, decide_eq_true_eq, Bool.or_eq_true, Bool.not_eq_true'] at hv'
  unfold encP
  rw [encL_segB]
  have ht := tail_enc root up l hv (cars up.toNat (if root = true then ⟨#[92]⟩ else ⟨#[]⟩))
  have hpre : ∀ (P : ByteArray) (j : Int), 0 ≤ j → j < P.size → bt (hdrP P l.length ++ segB l) j = bt P j := by
    intro P j h0 h1
    have hh : ∃ X, hdrP P l.length = P ++ X := by
      unfold hdrP
      split
      · exact ⟨_, rfl⟩
      · split
        · exact ⟨_, rfl⟩
        · split
          · exact ⟨_, rfl⟩
          · exact ⟨⟨#[]⟩, ByteArray.append_empty.symm⟩
    obtain ⟨X, hX⟩ := hh
    rw [hX, ByteArray.append_assoc, bt_app P _ h0 h1]
  cases root with
  | true =>
    have hup : up = 0 := by
      rcases hv'.1.1.1.2 with h | h
      · cases h
      · exact h
    subst hup
    rw [if_pos rfl] at ht ⊢
    simp only [Int.toNat_zero, cars] at ht ⊢
    unfold pathD
    have h1 : (⟨#[92]⟩ : ByteArray).size = 1 := rfl
    rw [h1] at ht
    rw [if_pos ⟨by omega, by rw [hpre _ 0 (by omega) (by decide)]; decide⟩]
    exact ht.1
  | false =>
    rw [if_neg (by decide)] at ht ⊢
    have hcs : (cars up.toNat (⟨#[]⟩ : ByteArray)).size = up.toNat := by rw [cars_size]; show 0 + up.toNat = up.toNat; omega
    rw [hcs] at ht
    unfold pathD
    have hcar : ∀ j : Int, 0 ≤ j → j < up → bt (hdrP (cars up.toNat ⟨#[]⟩) l.length ++ segB l) j = 94 := by
      intro j h0 h1
      rw [hpre _ j h0 (by omega)]
      exact (bt_cars up.toNat ⟨#[]⟩ j h0).2 (by show ((0 : Nat) : Int) ≤ j; omega) (by show j < ((0 : Nat) : Int) + up.toNat; omega)
    have hct := caretF_at (hdrP (cars up.toNat ⟨#[]⟩) l.length ++ segB l) up.toNat ht.2.1 (hdrP (cars up.toNat ⟨#[]⟩) l.length ++ segB l).size 0 (by omega) (by omega) (fun j a b => hcar j a (by omega))
    rw [hct, Int.toNat_of_nonneg (by omega)]
    rw [Int.toNat_of_nonneg (by omega)] at ht
    rw [if_neg]
    · exact ht.1
    · intro hh
      by_cases h0 : up = 0
      · have h92 := ht.2.2.1; rw [h0] at h92; rw [h0] at hh; exact h92 hh.2
      · have := hcar 0 (by omega) (by omega); omega
theorem BytecodePaths : St.BytecodePaths := by
  intro b root up l behind hb hup hl hbe
  have hu := wf_i64 hup
  have key : ∀ (K : Nat), 400000000000000 ≤ K → platformfwlaw05_BytecodePaths.j0 K b behind false root up l = some true := by
    intro K hK
    obtain ⟨k, rfl⟩ : ∃ m, K = m + 1 := ⟨K - 1, by omega⟩
    obtain ⟨u1, q, hq, hu0, hu4, hq30, hqok⟩ := mk_ex root up l hl.2 k (by omega)
    have hqs : ∀ s ∈ q, s.size ≤ 140737488351232 := fun s hs => by have := (hqok s hs).2.1; omega
    have hok4 : ∀ z ∈ q, 1 ≤ z.size ∧ z.size ≤ 4 := fun z hz => ⟨(hqok z hz).1, (hqok z hz).2.1⟩
    have happ := append_eq b hb root u1 q (by omega) (by omega) hqs (by omega) k (by omega)
    simp only [platformfwlaw05_BytecodePaths.j0]
    rw [if_neg (by decide), hq, Option.bind_some]
    simp only
    rw [refValidP_eq root u1 q (by omega) (by omega) hqs (by omega) k (by omega), Option.bind_some, happ, awake_at k (by omega)]
    by_cases hv : okPath root u1 q = true
    · have hsz := encP_size root hu0 q hok4
      have hd := pathD_enc root u1 q hv
      have hda : pathD (encP root u1 q ++ behind) = (root, u1, q, ((encP root u1 q).size : Int), 0) := by rw [pathD_app _ _ (by rw [hd]; simp), hd]
      rw [if_pos hv, if_pos hv, encP_eq root hu0 (by omega) q (by omega) hok4 k (by omega), Option.bind_some, if_pos (by omega), bpath_eq _ (by rw [ByteArray.size_append]; omega) k (by rw [ByteArray.size_append]; omega), Option.bind_some, Option.bind_some, if_pos rfl, Option.bind_some, Option.bind_some, if_pos (by omega), if_pos rfl, hda]
      simp only
      rw [same_refl _ _ _ (by omega) k (by omega), Option.bind_some, if_pos rfl, Option.bind_some, if_pos rfl]
      rfl
    · rw [if_neg hv, if_neg hv, Option.bind_some, if_pos rfl, Option.bind_some]
      simp
  refine ⟨400000000000000, ?_⟩
  unfold platformfwlaw05_BytecodePaths.f
  by_cases h100 : (l.length : Int) < 100
  · rw [if_pos h100, refValidP_eq root up l (by omega) (by omega) hl.2 (by omega) _ (by omega), Option.bind_some]
    by_cases hv : okPath root up l = true
    · rw [if_pos hv, key _ (by omega)]
    · rw [if_neg hv, append_eq b hb root up l (by omega) (by omega) hl.2 (by omega) _ (by omega), Option.bind_some, if_neg hv]
      simp only [bne_self_eq_false]
      exact key _ (by omega)
  · rw [if_neg h100, key _ (by omega)]
end Go.Proofs.Ytmnmidclaaiffab.Pure
