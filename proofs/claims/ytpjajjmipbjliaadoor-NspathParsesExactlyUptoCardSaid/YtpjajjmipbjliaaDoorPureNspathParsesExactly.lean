/- Both readings of a text agree, for every text up to the second form's bound: the plain law. -/
import Derived.Test.YtpjajjmipbjliaaDoorStNspathParsesExactly
import Derived.Test.YtpjajjmipbjliaaDoorBytes
import Derived.Test.YtpjajjmipbjliaaDoorExtP
namespace Go.Proofs.YtpjajjmipbjliaaDoor.Pure
open Go.RowKit Go.Proofs.YtpjajjmipbjliaaDoor.PNspathParsesExactly Go.Proofs.YtpjajjmipbjliaaDoorW.PrintWords Go.Proofs.YtpjajjmipbjliaaDoorW.PrintLast Go.Proofs.YtpjajjmipbjliaaDoorW.PrintMore Go.Proofs.YtpjajjmipbjliaaDoor.Plain
open Go.Proofs.YtpjajjmipbjliaaDoor.Ext
set_option linter.unusedVariables false
set_option linter.unusedSimpArgs false
/-! ### bytes of a part of a string -/
theorem bt_extract (s : ByteArray) (a b : Nat) {j : Int} (h0 : 0 ≤ j) (h1 : a + j < b) : bt (s.extract a b) j = bt s (a + j) := by
  rw [bt_B, bt_B, B_extract, List.getD_eq_getElem?_getD, List.getD_eq_getElem?_getD, List.getElem?_drop, List.getElem?_take, if_pos (by omega), show a + j.toNat = ((a : Int) + j).toNat by omega]
theorem bt_app (a b : ByteArray) {j : Int} (h0 : 0 ≤ j) (h1 : j < a.size) : bt (a ++ b) j = bt a j := by
  rw [bt_B, bt_B, B_append, List.getD_eq_getElem?_getD, List.getD_eq_getElem?_getD, List.getElem?_append_left (by rw [B_size]; omega)]
theorem bt_out (s : ByteArray) {j : Int} (h1 : s.size ≤ j) : bt s j = 0 := by
  rw [bt_B, List.getD_eq_getElem?_getD, List.getElem?_eq_none (by rw [B_size]; omega)]; rfl
theorem ex_size (s : ByteArray) (a b : Nat) : (s.extract a b).size = min b s.size - a := by simp
theorem ba_ext {a b : ByteArray} (hs : a.size = b.size) (h : ∀ j : Nat, j < a.size → bt a j = bt b j) : a = b := by
  refine B_inj (List.ext_getElem? fun j => ?_)
  by_cases hj : j < a.size
  · have := h j hj
    rw [bt_B, bt_B, Int.toNat_natCast, List.getD_eq_getElem?_getD, List.getD_eq_getElem?_getD] at this
    have h1 : j < (bytesOf a).length := by rw [B_size]; exact hj
    have h2 : j < (bytesOf b).length := by rw [B_size]; omega
    rw [List.getElem?_eq_getElem h1, List.getElem?_eq_getElem h2] at this ⊢
    simpa using this
  · rw [List.getElem?_eq_none (by rw [B_size]; omega), List.getElem?_eq_none (by rw [B_size]; omega)]
theorem list_eq_iff {a b : ByteArray} : a.toList = b.toList ↔ a = b := by
  rw [B_eq_iff]; exact ⟨B_inj, fun h => by rw [h]⟩
/-- Are the bytes of s from x on, e of them, zero. -/
def zer (s : ByteArray) : Nat → Int → Bool
  | 0, _ => true
  | e + 1, x => decide (bt s x = 0) && zer s e (x + 1)
theorem zer_iff (s : ByteArray) : ∀ (e : Nat) (x : Int), zer s e x = true ↔ ∀ j : Nat, j < e → bt s (x + j) = 0 := by
  intro e
  induction e with
  | zero => intro x; simp [zer]
  | succ e ih =>
    intro x
    simp only [zer, Bool.and_eq_true, decide_eq_true_eq, ih]
    constructor
    · rintro ⟨h0, h⟩ j hj
      cases j with
      | zero => simpa using h0
      | succ j => have := h j (by omega); rw [show x + ((j + 1 : Nat) : Int) = x + 1 + (j : Int) by omega]; exact this
    · intro h
      refine ⟨by simpa using h 0 (by omega), fun j hj => ?_⟩
      have := h (j + 1) (by omega)
      rw [show x + ((j + 1 : Nat) : Int) = x + 1 + (j : Int) by omega] at this; exact this
theorem zeros3 : ∀ c : Fin 4, ∀ j : Fin 4, bt ((⟨#[0, 0, 0]⟩ : ByteArray).extract 0 c) (j : Nat) = 0 ∧ ((⟨#[0, 0, 0]⟩ : ByteArray).extract 0 c).size = c := by decide +kernel
theorem zeros_eq (s : ByteArray) (a : Nat) (c : Int) (h0 : 0 ≤ c) (h3 : c ≤ 3) (hs : a + c ≤ s.size) (b : Nat) (hb : (b : Int) = a + c) : (s.extract a b).toList = ((⟨#[0, 0, 0]⟩ : ByteArray).extract 0 c.toNat).toList ↔ zer s c.toNat a = true := by
  rw [list_eq_iff, zer_iff]
  have hz := fun j : Fin 4 => zeros3 ⟨c.toNat, by omega⟩ j
  have hz0 : ((⟨#[0, 0, 0]⟩ : ByteArray).extract 0 c.toNat).size = c.toNat := (hz 0).2
  constructor
  · intro h j hj
    have := bt_extract s a b (j := (j : Int)) (by omega) (by omega)
    rw [← this, h]; exact (hz ⟨j, by omega⟩).1
  · intro h
    refine ba_ext (by rw [ex_size, hz0]; omega) fun j hj => ?_
    rw [ex_size] at hj
    rw [bt_extract s a b (by omega) (by omega), h j (by omega)]
    exact ((hz ⟨j, by omega⟩).1).symm
/-! ### what is a segment: the two answers are one -/
theorem segFrom_iff (s : ByteArray) : ∀ (e : Nat) (i : Int), segFrom s e i = true ↔ ∀ j : Nat, j < e → segCh (bt s (i + j)) (i + j) = true := by
  intro e
  induction e with
  | zero => intro i; simp [segFrom]
  | succ e ih =>
    intro i
    simp only [segFrom, Bool.and_eq_true, ih]
    constructor
    · rintro ⟨h0, h⟩ j hj
      cases j with
      | zero => simpa using h0
      | succ j => have := h j (by omega); rw [show i + ((j + 1 : Nat) : Int) = i + 1 + (j : Int) by omega]; exact this
    · intro h
      refine ⟨by simpa using h 0 (by omega), fun j hj => ?_⟩
      have := h (j + 1) (by omega)
      rw [show i + ((j + 1 : Nat) : Int) = i + 1 + (j : Int) by omega] at this; exact this
theorem nsSeg_iff (s : ByteArray) : nsSeg s = true ↔ 1 ≤ s.size ∧ s.size ≤ 4 ∧ ∀ j : Nat, j < s.size → segCh (bt s j) j = true := by
  unfold nsSeg
  rw [Bool.and_eq_true, Bool.and_eq_true, decide_eq_true_eq, decide_eq_true_eq, segFrom_iff]
  constructor
  · rintro ⟨h, h1, h2⟩; exact ⟨h1, h2, fun j hj => by simpa using h j hj⟩
  · rintro ⟨h1, h2, h⟩; exact ⟨fun j hj => by simpa using h j hj, h1, h2⟩
theorem segCh_nz {c i : Int} (h : segCh c i = true) : c ≠ 0 := by
  unfold segCh at h; intro h0; subst h0; simp at h
/-! letters, digits -/
def isL (c : Int) : Bool := (decide (97 ≤ c) && decide (c ≤ 122)) || (decide (65 ≤ c) && decide (c ≤ 90)) || decide (c = 95)
def isD (c : Int) : Bool := decide (48 ≤ c) && decide (c ≤ 57)
def isLow (c : Int) : Bool := decide (97 ≤ c) && decide (c ≤ 122)
theorem letter_eq (c : Int) : platformfwref01_letter.f c = some (isL c) := by
  unfold platformfwref01_letter.f isL
  by_cases a : c ≥ 97 <;> by_cases b : c ≤ 122 <;> by_cases d : c ≥ 65 <;> by_cases e : c ≤ 90 <;> by_cases f : c = 95 <;> simp [a, b, d, e, f] <;> omega
theorem digit_eq (c : Int) : platformfwref01_digit.f c = some (isD c) := by
  unfold platformfwref01_digit.f isD
  by_cases a : c ≥ 48 <;> by_cases b : c ≤ 57 <;> simp [a, b] <;> omega
def allLD (s : ByteArray) : Nat → Int → Bool
  | 0, _ => true
  | e + 1, i => (isL (bt s i) || isD (bt s i)) && allLD s e (i + 1)
def anyLow (s : ByteArray) : Nat → Int → Bool
  | 0, _ => false
  | e + 1, i => isLow (bt s i) || anyLow s e (i + 1)
theorem ident_loop (s : ByteArray) (hs : s.size ≤ 562949953421312) : ∀ (e : Nat) (i : Int) (k : Nat), 0 ≤ i → i + e = s.size → e < k → ∃ r, platformfwref01_identifier.l0 k s i = some r ∧ (r = s.size ↔ allLD s e i = true) := by
  intro e
  induction e with
  | zero =>
    intro i k h0 hi hk
    obtain ⟨k, rfl⟩ : ∃ m, k = m + 1 := ⟨k - 1, by omega⟩
    refine ⟨i, by simp only [platformfwref01_identifier.l0]; rw [if_neg (by omega)], by simp [allLD]; omega⟩
  | succ e ih =>
    intro i k h0 hi hk
    obtain ⟨k, rfl⟩ : ∃ m, k = m + 1 := ⟨k - 1, by omega⟩
    obtain ⟨r, h1, h2⟩ := ih (i + 1) k (by omega) (by omega) (by omega)
    simp only [platformfwref01_identifier.l0, allLD]
    rw [if_pos (by omega), if_pos h0, letter_eq, Option.bind_some, wrap64_id (a := i + 1) (by omega) (by omega), digit_eq, Option.bind_some]
    cases hL : isL (bt s i) with
    | true => exact ⟨r, by rw [if_pos rfl]; exact h1, by rw [h2]; simp⟩
    | false =>
      rw [if_neg (by decide)]
      cases hD : isD (bt s i) with
      | true => exact ⟨r, by rw [if_pos rfl]; exact h1, by rw [h2]; simp⟩
      | false => exact ⟨i, by rw [if_neg (by decide)], by simp; omega⟩
theorem lower_loop (s : ByteArray) (hs : s.size ≤ 562949953421312) : ∀ (e : Nat) (i : Int) (k : Nat), 0 ≤ i → i + e = s.size → e < k → platformfwref01_lower.l0 k s i = some (anyLow s e i) := by
  intro e
  induction e with
  | zero =>
    intro i k h0 hi hk
    obtain ⟨k, rfl⟩ : ∃ m, k = m + 1 := ⟨k - 1, by omega⟩
    simp only [platformfwref01_lower.l0]; rw [if_neg (by omega)]; rfl
  | succ e ih =>
    intro i k h0 hi hk
    obtain ⟨k, rfl⟩ : ∃ m, k = m + 1 := ⟨k - 1, by omega⟩
    simp only [platformfwref01_lower.l0, anyLow]
    rw [if_pos (by omega), if_pos h0, wrap64_id (a := i + 1) (by omega) (by omega), ih (i + 1) k (by omega) (by omega) (by omega)]
    unfold isLow
    by_cases a : bt s i ≥ 97
    · rw [if_pos a, decide_eq_true (show 97 ≤ bt s i from a)]
      by_cases b : bt s i ≤ 122
      · rw [if_pos b, decide_eq_true b]; rfl
      · rw [if_neg b, decide_eq_false b]; rfl
    · rw [if_neg a, decide_eq_false (show ¬ 97 ≤ bt s i from a)]; rfl
theorem segCh_pos {c i : Int} (h : 0 < i) : segCh c i = ((isL c || isD c) && !isLow c) := by
  unfold segCh isL isD isLow
  rw [decide_eq_true h]
  by_cases a : 97 ≤ c <;> by_cases b : c ≤ 122 <;> by_cases d : 65 ≤ c <;> by_cases e : c ≤ 90 <;> by_cases f : c = 95 <;> by_cases g : 48 ≤ c <;> by_cases m : c ≤ 57 <;> simp [a, b, d, e, f, g, m] <;> omega
theorem segCh_zero {c : Int} : segCh c 0 = (isL c && !isLow c) := by
  unfold segCh isL isLow
  by_cases a : 97 ≤ c <;> by_cases b : c ≤ 122 <;> by_cases d : 65 ≤ c <;> by_cases e : c ≤ 90 <;> by_cases f : c = 95 <;> simp [a, b, d, e, f] <;> omega
theorem segFrom_pos (s : ByteArray) : ∀ (e : Nat) (i : Int), 0 < i → segFrom s e i = (allLD s e i && !anyLow s e i) := by
  intro e
  induction e with
  | zero => intro i h; rfl
  | succ e ih =>
    intro i h
    simp only [segFrom, allLD, anyLow]
    rw [ih (i + 1) (by omega), segCh_pos h]
    cases (isL (bt s i) || isD (bt s i)) <;> cases isLow (bt s i) <;> cases allLD s e (i + 1) <;> cases anyLow s e (i + 1) <;> rfl
theorem refSegment_eq (s : ByteArray) (hs : s.size ≤ 562949953421312) (k : Nat) (hk : 10 ≤ k) : platformfwref01_Segment.f k s = some (nsSeg s) := by
  unfold platformfwref01_Segment.f nsSeg
  by_cases h1 : 1 ≤ s.size
  · rw [if_pos (by omega), decide_eq_true h1]
    by_cases h4 : s.size ≤ 4
    · rw [if_pos (by omega), if_pos (by omega), decide_eq_true h4, letter_eq, Option.bind_some]
      obtain ⟨e, he⟩ : ∃ e, s.size = e + 1 := ⟨s.size - 1, by omega⟩
      obtain ⟨r, hr, hr2⟩ := ident_loop s hs s.size 0 k (by omega) (by omega) (by omega)
      have hl := lower_loop s hs s.size 0 k (by omega) (by omega) (by omega)
      unfold platformfwref01_identifier.f platformfwref01_lower.f
      rw [hr, hl]
      rw [he] at hr2 ⊢
      simp only [segFrom, allLD, anyLow] at hr2 ⊢
      rw [segCh_zero, segFrom_pos s e (0 + 1) (by omega)]
      simp only [Option.bind_some]
      cases hL : isL (bt s 0) with
      | false => rw [if_neg (by decide)]; rfl
      | true =>
        rw [hL] at hr2
        rw [if_pos rfl]
        by_cases hrr : r = ((e + 1 : Nat) : Int)
        · rw [if_pos hrr]
          have := hr2.1 hrr
          simp only [Bool.true_or, Bool.true_and] at this
          rw [this]
          cases isLow (bt s 0) <;> cases anyLow s e (0 + 1) <;> rfl
        · rw [if_neg hrr]
          have : allLD s e (0 + 1) = false := by
            cases hA : allLD s e (0 + 1) with
            | false => rfl
            | true => exact absurd (hr2.2 (by rw [hA]; rfl)) hrr
          rw [this]; cases isLow (bt s 0) <;> rfl
    · rw [if_neg (by omega), decide_eq_false h4]; simp
  · rw [if_neg (by omega), decide_eq_false h1]; simp
/-! ### encoding a path -/
theorem repB_zero (s : ByteArray) : repB s 0 = ⟨#[]⟩ := rfl
theorem repB_succ (s : ByteArray) (n : Nat) : repB s (n + 1) = s ++ repB s n := by
  apply ByteArray.ext
  apply Array.ext'
  rw [ByteArray.data_append, Array.toList_append]
  rfl
theorem repB_size (s : ByteArray) : ∀ n, (repB s n).size = n * s.size := by
  intro n
  induction n with
  | zero => rw [Nat.zero_mul]; rfl
  | succ n ih => rw [repB_succ, ByteArray.size_append, ih, Nat.succ_mul]; omega
theorem equal_str (l : List ByteArray) (hl : l.length ≤ 10000000) (k : Nat) (hk : l.length < k) : platformfwhelp_Equal_string.f k l l = some true := by
  have loop : ∀ (e : Nat) (i q : Nat), i + e = l.length → e < q → platformfwhelp_Equal_string.l0 q l l i = some true := by
    intro e
    induction e with
    | zero =>
      intro i q hi hq
      obtain ⟨q, rfl⟩ : ∃ m, q = m + 1 := ⟨q - 1, by omega⟩
      simp only [platformfwhelp_Equal_string.l0]; rw [if_neg (by omega)]
    | succ e ih =>
      intro i q hi hq
      obtain ⟨q, rfl⟩ : ∃ m, q = m + 1 := ⟨q - 1, by omega⟩
      simp only [platformfwhelp_Equal_string.l0]
      rw [if_pos (by omega), if_pos (by omega), if_pos (by omega), if_pos trivial, wrap64_id (by omega) (by omega)]
      exact ih (i + 1) q (by omega) (by omega)
  unfold platformfwhelp_Equal_string.f
  rw [if_pos rfl]; exact loop l.length 0 k (by omega) hk
/-! ### which paths are valid -/
def allSeg (l : List ByteArray) : Bool := l.all nsSeg
/-- A valid path. -/
def okPath (root : Bool) (up : Int) (l : List ByteArray) : Bool := decide (0 ≤ up) && decide (up ≤ 32) && (!root || decide (up = 0)) && decide (up + l.length ≤ 32) && (root || decide (0 < up) || decide (0 < l.length)) && allSeg l
theorem any_all (l : List ByteArray) : (!l.any (fun s => !nsSeg s)) = allSeg l := by
  unfold allSeg
  induction l with
  | nil => rfl
  | cons s l ih => rw [List.any_cons, List.all_cons, ← ih]; cases nsSeg s <;> simp
theorem contains_eq (l : List ByteArray) (hl : ∀ s ∈ l, s.size ≤ 140737488351232) (hlen : l.length ≤ 140737488351232) : (slices_ContainsFunc.f l).bind (fun t => some (!t)) = some (allSeg l) := by
  unfold slices_ContainsFunc.f
  rw [if_pos ⟨List.all_eq_true.2 fun s hs => decide_eq_true (hl s hs), hlen⟩, Option.bind_some, any_all]
theorem nsValid_eq (root : Bool) (up : Int) (l : List ByteArray) (hu : -9223372036854775808 ≤ up) (hu2 : up < 9223372036854775808) (hl : ∀ s ∈ l, s.size ≤ 140737488351232) (hlen : l.length ≤ 140737488351232) : nspath_Valid.f root up l = some (okPath root up l) := by
  have hc := contains_eq l hl hlen
  unfold nspath_Valid.f okPath
  by_cases h0 : up < 0
  · rw [if_pos h0, decide_eq_false (show ¬ 0 ≤ up by omega)]; simp
  · rw [if_neg h0, decide_eq_true (show 0 ≤ up by omega)]
    by_cases h1 : up > 32
    · rw [if_pos h1, decide_eq_false (show ¬ up ≤ 32 by omega)]; simp
    · rw [if_neg h1, decide_eq_true (show up ≤ 32 by omega), wrap64_id (a := up + (l.length : Int)) (by omega) (by omega), hc]
      cases root with
      | true =>
        rw [if_pos rfl]
        by_cases h2 : up > 0
        · rw [if_pos h2, decide_eq_false (show ¬ up = 0 by omega)]; simp
        · rw [if_neg h2, decide_eq_true (show up = 0 by omega)]
          by_cases h3 : up + l.length > 32
          · rw [if_pos h3, decide_eq_false (show ¬ up + (l.length : Int) ≤ 32 by omega)]; simp
          · rw [if_neg h3, decide_eq_true (show up + (l.length : Int) ≤ 32 by omega)]; simp
      | false =>
        rw [if_neg (by decide)]
        by_cases h3 : up + l.length > 32
        · rw [if_pos h3, decide_eq_false (show ¬ up + (l.length : Int) ≤ 32 by omega)]; simp
        · rw [if_neg h3, decide_eq_true (show up + (l.length : Int) ≤ 32 by omega)]
          by_cases h4 : up > 0
          · rw [if_pos h4, decide_eq_true (show 0 < up from h4)]; simp
          · rw [if_neg h4, decide_eq_false (show ¬ 0 < up from h4)]
            by_cases h5 : (l.length : Int) > 0
            · rw [if_pos h5, decide_eq_true (show 0 < l.length by omega)]; simp
            · rw [if_neg h5, decide_eq_false (show ¬ 0 < l.length by omega)]; simp
theorem refValid_loop (root : Bool) (up : Int) (l : List ByteArray) (hl : ∀ s ∈ l, s.size ≤ 140737488351232) : ∀ (e : Nat) (x : Nat) (k : Nat), x + e = l.length → l.length ≤ 10000000 → 12 + e < k → platformfwref01_ValidPath.l0 k x root up l = some (allSeg (l.drop x)) := by
  intro e
  induction e with
  | zero =>
    intro x k hx hlen hk
    obtain ⟨k, rfl⟩ : ∃ m, k = m + 1 := ⟨k - 1, by omega⟩
    simp only [platformfwref01_ValidPath.l0]
    rw [if_neg (by omega), List.drop_of_length_le (by omega)]; rfl
  | succ e ih =>
    intro x k hx hlen hk
    obtain ⟨k, rfl⟩ : ∃ m, k = m + 1 := ⟨k - 1, by omega⟩
    have hd : l.drop x = rdOf ByteArray.empty l x :: l.drop (x + 1) := by
      unfold rdOf
      rw [Int.toNat_natCast, List.drop_eq_getElem_cons (show x < l.length by omega), List.getD_eq_getElem?_getD, List.getElem?_eq_getElem (show x < l.length by omega)]; rfl
    have hs := hl (rdOf ByteArray.empty l x) (by unfold rdOf; rw [Int.toNat_natCast, List.getD_eq_getElem?_getD, List.getElem?_eq_getElem (show x < l.length by omega)]; exact List.getElem_mem _)
    rw [hd]
    simp only [platformfwref01_ValidPath.l0]
    rw [if_pos (by omega), if_pos (by omega), refSegment_eq _ (by omega) k (by omega), Option.bind_some, wrap64_id (a := (x : Int) + 1) (by omega) (by omega)]
    unfold allSeg
    rw [List.all_cons]
    cases nsSeg (rdOf ByteArray.empty l x) with
    | true => rw [if_pos rfl]; have := ih (x + 1) k (by omega) hlen (by omega); unfold allSeg at this; exact this
    | false => rw [if_neg (by decide)]; rfl
theorem refValidP_eq (root : Bool) (up : Int) (l : List ByteArray) (hu : -9223372036854775808 ≤ up) (hu2 : up < 9223372036854775808) (hl : ∀ s ∈ l, s.size ≤ 140737488351232) (hlen : l.length ≤ 10000000) (k : Nat) (hk : l.length + 20 ≤ k) : platformfwref01_ValidPath.f k root up l = some (okPath root up l) := by
  obtain ⟨k, rfl⟩ : ∃ m, k = m + 1 := ⟨k - 1, by omega⟩
  have bad : platformfwref01_ValidPath.j0 (k + 1) true root up l = some false := by simp only [platformfwref01_ValidPath.j0]; rw [if_pos trivial]
  have good : platformfwref01_ValidPath.j0 (k + 1) false root up l = some (allSeg l) := by
    simp only [platformfwref01_ValidPath.j0]; rw [if_neg (by decide)]
    exact refValid_loop root up l hl l.length 0 k (by omega) hlen (by omega)
  unfold platformfwref01_ValidPath.f okPath
  by_cases h0 : up < 0
  · rw [if_pos h0, bad, decide_eq_false (show ¬ 0 ≤ up by omega)]; simp
  · rw [if_neg h0, decide_eq_true (show 0 ≤ up by omega)]
    by_cases h1 : up > 32
    · rw [if_pos h1, bad, decide_eq_false (show ¬ up ≤ 32 by omega)]; simp
    · rw [if_neg h1, decide_eq_true (show up ≤ 32 by omega), wrap64_id (a := 32 - up) (by omega) (by omega)]
      cases root with
      | true =>
        rw [if_pos rfl]
        by_cases h2 : up > 0
        · rw [if_pos h2, bad, decide_eq_false (show ¬ up = 0 by omega)]; simp
        · rw [if_neg h2, decide_eq_true (show up = 0 by omega)]
          by_cases h3 : (l.length : Int) > 32 - up
          · rw [if_pos h3, bad, decide_eq_false (show ¬ up + (l.length : Int) ≤ 32 by omega)]; simp
          · rw [if_neg h3, good, decide_eq_true (show up + (l.length : Int) ≤ 32 by omega)]; simp
      | false =>
        rw [if_neg (by decide)]
        by_cases h3 : (l.length : Int) > 32 - up
        · rw [if_pos h3, bad, decide_eq_false (show ¬ up + (l.length : Int) ≤ 32 by omega)]; simp
        · rw [if_neg h3, decide_eq_true (show up + (l.length : Int) ≤ 32 by omega)]
          by_cases h4 : up = 0
          · rw [if_pos h4, decide_eq_false (show ¬ 0 < up by omega)]
            by_cases h5 : (l.length : Int) = 0
            · rw [show ((l.length : Int) == 0) = true by simpa using h5, bad, decide_eq_false (show ¬ 0 < l.length by omega)]; simp
            · rw [show ((l.length : Int) == 0) = false by simpa using h5, good, decide_eq_true (show 0 < l.length by omega)]; simp
          · rw [if_neg h4, good, decide_eq_true (show 0 < up by omega)]; simp
/-! ### layer 2: a path's text -/
theorem awake02 : platformfwlaw02_awake.f 60 = some true := by decide +kernel
theorem awake02_at (k : Nat) (hk : 60 ≤ k) : platformfwlaw02_awake.f k = some true := at_rounds platformfwlaw02_awake.mono hk awake02
theorem same02_refl (root : Bool) (up : Int) (l : List ByteArray) (hl : l.length ≤ 10000000) (k : Nat) (hk : l.length < k) : platformfwlaw02_same.f k root up l root up l = some true := by
  unfold platformfwlaw02_same.f
  rw [if_pos (by simp), if_pos rfl, equal_str l hl k hk, Option.bind_some]
theorem ba_ext' {a b : ByteArray} (h : a.data.toList = b.data.toList) : a = b := by
  apply ByteArray.ext
  apply Array.ext'
  exact h
/-- The strings of l, a dot ahead of each. -/
def dotL : List ByteArray → ByteArray
  | [] => ⟨#[]⟩
  | s :: l => ((⟨#[46]⟩ : ByteArray) ++ s) ++ dotL l
theorem inter_two (sep x y : List UInt8) (l : List (List UInt8)) : sep.intercalate (x :: y :: l) = x ++ (sep ++ sep.intercalate (y :: l)) := by simp [List.intercalate, List.intersperse]
theorem joinB_nil (sep : ByteArray) : joinB [] sep = ⟨#[]⟩ := rfl
theorem joinB_cons : ∀ (l : List ByteArray) (s : ByteArray), joinB (s :: l) ⟨#[46]⟩ = s ++ dotL l := by
  intro l
  induction l with
  | nil =>
    intro s
    apply ba_ext'
    simp [joinB, Lib.join, List.intercalate, dotL]
  | cons t l ih =>
    intro s
    have := ih t
    have e : joinB (s :: t :: l) ⟨#[46]⟩ = s ++ ((⟨#[46]⟩ : ByteArray) ++ joinB (t :: l) ⟨#[46]⟩) := by
      apply ba_ext'
      simp only [joinB, Lib.join, List.map_cons, inter_two, ByteArray.data_append, Array.toList_append]
    rw [e, this]
    simp only [dotL]
    rw [ByteArray.append_assoc]
theorem dotL_size : ∀ (l : List ByteArray), (∀ s ∈ l, s.size ≤ 4) → (dotL l).size ≤ 5 * l.length := by
  intro l
  induction l with
  | nil => intro _; simp [dotL, ByteArray.size]
  | cons s l ih =>
    intro h
    have h1 := ih fun t ht => h t (List.mem_cons_of_mem _ ht)
    have h2 := h s (List.mem_cons_self ..)
    simp only [dotL, List.length_cons]
    rw [ByteArray.size_append, ByteArray.size_append, show (⟨#[46]⟩ : ByteArray).size = 1 from rfl]; omega
theorem joinB_size (l : List ByteArray) (h : ∀ s ∈ l, s.size ≤ 4) : (joinB l ⟨#[46]⟩).size ≤ 5 * l.length := by
  cases l with
  | nil => rw [joinB_nil]; simp [ByteArray.size]
  | cons s l =>
    have h1 := dotL_size l fun t ht => h t (List.mem_cons_of_mem _ ht)
    have h2 := h s (List.mem_cons_self ..)
    rw [joinB_cons, ByteArray.size_append, List.length_cons]; omega
theorem drop_rdOf (l : List ByteArray) (x : Nat) (h : x < l.length) : l.drop x = rdOf ByteArray.empty l x :: l.drop (x + 1) ∧ rdOf ByteArray.empty l x ∈ l := by
  unfold rdOf
  rw [Int.toNat_natCast, List.getD_eq_getElem?_getD, List.getElem?_eq_getElem h]
  exact ⟨List.drop_eq_getElem_cons h, List.getElem_mem _⟩
/-- A path's text. -/
def fmtP (root : Bool) (up : Int) (l : List ByteArray) : ByteArray := (if root = true then ⟨#[92]⟩ else repB ⟨#[94]⟩ up.toNat) ++ joinB l ⟨#[46]⟩
theorem okPath_bd {root : Bool} {up : Int} {l : List ByteArray} (h : okPath root up l = true) : 0 ≤ up ∧ up ≤ 32 ∧ (root = true → up = 0) ∧ up + l.length ≤ 32 ∧ (∀ s ∈ l, 1 ≤ s.size ∧ s.size ≤ 4) ∧ (∀ s ∈ l, nsSeg s = true) ∧ (root = false → 0 < up ∨ 0 < l.length) := by
  unfold okPath at h
  simp only [Bool.and_eq_true, decide_eq_true_eq, Bool.or_eq_true, Bool.not_eq_true'] at h
  refine ⟨h.1.1.1.1.1, h.1.1.1.1.2, fun hr => ?_, h.1.1.2, fun s hs => ?_, fun s hs => List.all_eq_true.1 h.2 s hs, fun hr => ?_⟩
  · rcases h.1.1.1.2 with h' | h'
    · rw [hr] at h'; cases h'
    · exact h'
  · have := (nsSeg_iff s).1 (List.all_eq_true.1 h.2 s hs)
    exact ⟨this.1, this.2.1⟩
  · rcases h.1.2 with (h' | h') | h'
    · rw [hr] at h'; cases h'
    · exact Or.inl h'
    · exact Or.inr h'
/-! ### layer 2: a text, cut at the dots -/
def mkB (l : List UInt8) : ByteArray := ⟨l.toArray⟩
theorem mkB_data (s : ByteArray) : mkB s.data.toList = s := ba_ext' (by simp [mkB])
theorem mkB_size (l : List UInt8) : (mkB l).size = l.length := by simp [mkB, ByteArray.size]
theorem ext_mk (l : List UInt8) (a b : Nat) : (mkB l).extract a b = mkB ((l.take b).drop a) := by
  apply ba_ext'
  rw [List.drop_take]
  simp [mkB, ByteArray.data_extract]
theorem empty_toList : (ByteArray.empty).toList = [] := by decide +kernel
/-- A list of bytes, cut at each dot. -/
def splitL : List UInt8 → List (List UInt8)
  | [] => [[]]
  | c :: r => if c = 46 then [] :: splitL r else match splitL r with
    | [] => [[c]]
    | h :: t => (c :: h) :: t
theorem splitL_no : ∀ (l : List UInt8), 46 ∉ l → splitL l = [l] := by
  intro l
  induction l with
  | nil => intro _; rfl
  | cons c r ih =>
    intro h
    simp only [List.mem_cons, not_or] at h
    simp only [splitL]
    rw [if_neg (fun e => h.1 e.symm), ih h.2]
theorem splitL_app : ∀ (a b : List UInt8), 46 ∉ a → splitL (a ++ 46 :: b) = a :: splitL b := by
  intro a
  induction a with
  | nil => intro b _; simp only [List.nil_append, splitL]; rw [if_pos trivial]
  | cons c r ih =>
    intro b h
    simp only [List.mem_cons, not_or] at h
    simp only [List.cons_append, splitL]
    rw [if_neg (fun e => h.1 e.symm), ih b h.2]
theorem dot_cases : ∀ (l : List UInt8), 46 ∉ l ∨ ∃ a b, 46 ∉ a ∧ l = a ++ 46 :: b := by
  intro l
  induction l with
  | nil => exact Or.inl (by simp)
  | cons c r ih =>
    by_cases hc : c = 46
    · subst hc; exact Or.inr ⟨[], r, by simp, rfl⟩
    · rcases ih with h | ⟨a, b, h1, h2⟩
      · exact Or.inl (by simp only [List.mem_cons, not_or]; exact ⟨fun e => hc e.symm, h⟩)
      · exact Or.inr ⟨c :: a, b, by simp only [List.mem_cons, not_or]; exact ⟨fun e => hc e.symm, h1⟩, by rw [h2]; rfl⟩
theorem idx_app : ∀ (a b : List UInt8), 46 ∉ a → Lib.indexByte (a ++ 46 :: b) 46 = a.length := by
  intro a
  induction a with
  | nil => intro b _; simp [Lib.indexByte]
  | cons c r ih =>
    intro b h
    simp only [List.mem_cons, not_or] at h
    simp only [List.cons_append, Lib.indexByte]
    rw [ih b h.2, if_neg (by simpa using fun e => h.1 e.symm), if_neg (by first | (simp; done) | (simp; omega)), List.length_cons]; omega
theorem splitL_len : ∀ (e : Nat) (l : List UInt8), l.count 46 = e → (splitL l).length = e + 1 := by
  intro e
  induction e with
  | zero =>
    intro l h
    rw [splitL_no l (List.count_eq_zero.1 h)]; rfl
  | succ e ih =>
    intro l h
    rcases dot_cases l with h0 | ⟨a, b, h1, rfl⟩
    · rw [List.count_eq_zero.2 h0] at h; omega
    · rw [List.count_append, List.count_eq_zero.2 h1, List.count_cons_self] at h
      rw [splitL_app a b h1, List.length_cons, ih b (by omega)]
theorem take_set_succ {α : Type} (x9 : List α) (x : Nat) (z : α) (h : x < x9.length) : (x9.set x z).take (x + 1) = x9.take x ++ [z] := by
  rw [List.take_set, List.take_succ_eq_append_getElem h, List.set_append_right _ _ (by rw [List.length_take]; omega), List.length_take, Nat.min_eq_left (by omega)]; simp
theorem gs_loop : ∀ (e : Nat) (l : List UInt8) (x9 : List ByteArray) (x : Nat) (k : Nat), l.count 46 = e → x + e + 1 = x9.length → x9.length ≤ 1000000000 → l.length ≤ 1000000000 → e + 1 < k →
    strings_genSplit.l0 k (mkB l) (mkB [46]) 0 ((x9.length : Int) - 1) x9 x = some (x9.take x ++ (splitL l).map mkB) := by
  intro e
  induction e with
  | zero =>
    intro l x9 x k he hx h9 hl hk
    obtain ⟨k, rfl⟩ : ∃ m, k = m + 1 := ⟨k - 1, by omega⟩
    simp only [strings_genSplit.l0]
    rw [if_neg (by omega), if_pos (by omega), if_pos (by omega), wrap64_id (a := (x : Int) + 1) (by omega) (by omega), if_pos (by omega), if_pos (by omega), splitL_no l (List.count_eq_zero.1 he), Int.toNat_natCast, show ((x : Int) + 1).toNat = x + 1 by omega, take_set_succ _ _ _ (by omega)]
    first | done | rfl
  | succ e ih =>
    intro l x9 x k he hx h9 hl hk
    obtain ⟨k, rfl⟩ : ∃ m, k = m + 1 := ⟨k - 1, by omega⟩
    rcases dot_cases l with h0 | ⟨a, b, h1, rfl⟩
    · rw [List.count_eq_zero.2 h0] at he; omega
    rw [List.count_append, List.count_eq_zero.2 h1, List.count_cons_self] at he
    have hi : strings_Index.f (mkB (a ++ 46 :: b)) (mkB [46]) = some (a.length : Int) := by
      unfold strings_Index.f
      rw [if_pos (by rw [mkB_size]; rfl)]
      have : Lib.indexByte (mkB (a ++ 46 :: b)).data.toList ((mkB [46]).data.toList.headD 0) = Lib.indexByte (a ++ 46 :: b) 46 := by simp [mkB]
      rw [this, idx_app a b h1]
    have hll : (a ++ 46 :: b).length = a.length + b.length + 1 := by rw [List.length_append, List.length_cons]; omega
    have e1 : (mkB (a ++ 46 :: b)).extract 0 a.length = mkB a := by rw [ext_mk, List.take_left]; rfl
    have e2 : (mkB (a ++ 46 :: b)).extract (a.length + 1) (mkB (a ++ 46 :: b)).size = mkB b := by
      rw [ext_mk, mkB_size, List.take_length, show a ++ 46 :: b = (a ++ [46]) ++ b by simp, List.drop_left' (by simp)]
    have hn := ih b (x9.set x (mkB a)) (x + 1) k (by omega) (by rw [List.length_set]; omega) (by rw [List.length_set]; omega) (by omega) (by omega)
    rw [List.length_set, take_set_succ _ _ _ (by omega)] at hn
    have s1 : ((mkB [46]).size : Int) = 1 := by rw [mkB_size]; rfl
    simp only [strings_genSplit.l0]
    rw [if_pos (by omega), hi, Option.bind_some, if_neg (by omega), s1, wrap64_id (a := (a.length : Int) + 0) (by omega) (by omega), wrap64_id (a := (a.length : Int) + 1) (by omega) (by omega), wrap64_id (a := (x : Int) + 1) (by omega) (by omega), if_pos (by omega), if_pos (by rw [mkB_size]; omega), if_pos (by omega), if_pos (by omega), if_pos (by omega), if_pos (by rw [mkB_size]; omega), show ((a.length : Int) + 1).toNat = a.length + 1 by omega, show ((a.length : Int) + 0).toNat = a.length by omega, e1, e2, Int.toNat_natCast, show (x : Int) + 1 = ((x + 1 : Nat) : Int) by omega, hn, splitL_app a b h1]
    simp
theorem split_eq (l : List UInt8) (hl : l.length ≤ 100000000) (k : Nat) (hk : l.length + 10 ≤ k) : strings_Split.f k (mkB l) (⟨#[46]⟩ : ByteArray) = some ((splitL l).map mkB) := by
  obtain ⟨k, rfl⟩ : ∃ m, k = m + 1 := ⟨k - 1, by omega⟩
  have hc := List.count_le_length (a := (46 : UInt8)) (l := l)
  have hcount : strings_Count.f (mkB l) (mkB [46]) = some ((l.count 46 : Nat) : Int) := by
    unfold strings_Count.f Lib.countByte
    rw [if_pos (by rw [mkB_size]; rfl)]
    simp [mkB]
  have hw : wrap64 (((l.count 46 : Nat) : Int) + 1) = ((l.count 46 + 1 : Nat) : Int) := by rw [wrap64_id (by omega) (by omega)]; omega
  have hmn : mn ((l.count 46 + 1 : Nat) : Int) (wrap64 (((mkB l).size : Int) + 1)) = ((l.count 46 + 1 : Nat) : Int) := by
    rw [mkB_size, wrap64_id (by omega) (by omega)]
    unfold mn; rw [if_neg (by omega)]
  have hrep : (List.replicate (l.count 46 + 1) (⟨#[]⟩ : ByteArray)).length = l.count 46 + 1 := List.length_replicate
  have hloop := gs_loop (l.count 46) l (List.replicate (l.count 46 + 1) (⟨#[]⟩ : ByteArray)) 0 k rfl (by omega) (by omega) (by omega) (by omega)
  rw [hrep, List.take_zero, List.nil_append] at hloop
  unfold strings_Split.f strings_genSplit.f
  have hne46 : ¬ (mkB [46]).toList = [] := by
    intro h
    have h2 := congrArg ByteArray.size (list_eq_iff.1 (h.trans empty_toList.symm))
    rw [mkB_size] at h2; exact absurd h2 (by decide)
  rw [show (⟨#[46]⟩ : ByteArray) = mkB [46] from rfl, if_neg (by decide), if_neg hne46, if_pos (by decide), hcount, Option.bind_some, hw]
  simp only [strings_genSplit.j0]
  rw [hmn, if_pos (by omega), if_pos (by omega), wrap64_id (a := ((l.count 46 + 1 : Nat) : Int) - 1) (by omega) (by omega), Int.toNat_natCast]
  have : strings_genSplit.l0 k (mkB l) (mkB [46]) 0 (((l.count 46 + 1 : Nat) : Int) - 1) (List.replicate (l.count 46 + 1) (⟨#[]⟩ : ByteArray)) 0 = some ((splitL l).map mkB) := hloop
  rw [this]; rfl
/-! ### layer 2: a path out of a text -/
def segsOf (r : List UInt8) : List ByteArray := if r = [] then [] else (splitL r).map mkB
def parseN (l : List UInt8) : Bool × Int × List ByteArray × Bool :=
  if [92].isPrefixOf l = true then (if okPath true 0 (segsOf (l.drop 1)) = true then (true, 0, segsOf (l.drop 1), true) else (false, 0, [], false))
  else (if okPath false ((l.length : Int) - ((l.dropWhile (· == 94)).length : Int)) (segsOf (l.dropWhile (· == 94))) = true then (false, (l.length : Int) - ((l.dropWhile (· == 94)).length : Int), segsOf (l.dropWhile (· == 94)), true) else (false, 0, [], false))
theorem splitL_parts : ∀ (e : Nat) (l : List UInt8), l.count 46 = e → ∀ s ∈ splitL l, s.length ≤ l.length := by
  intro e
  induction e with
  | zero => intro l h s hs; rw [splitL_no l (List.count_eq_zero.1 h), List.mem_singleton] at hs; rw [hs]; exact Nat.le_refl _
  | succ e ih =>
    intro l h s hs
    rcases dot_cases l with h0 | ⟨a, b, h1, rfl⟩
    · rw [List.count_eq_zero.2 h0] at h; omega
    · rw [List.count_append, List.count_eq_zero.2 h1, List.count_cons_self] at h
      rw [splitL_app a b h1] at hs
      rw [List.length_append, List.length_cons]
      rcases List.mem_cons.1 hs with rfl | hs
      · omega
      · have := ih b (by omega) s hs; omega
theorem segsOf_bd (r : List UInt8) : (∀ s ∈ segsOf r, s.size ≤ r.length) ∧ (segsOf r).length ≤ r.length + 1 := by
  unfold segsOf
  split
  · simp
  · refine ⟨fun s hs => ?_, ?_⟩
    · obtain ⟨t, ht, rfl⟩ := List.mem_map.1 hs
      rw [mkB_size]; exact splitL_parts _ r rfl t ht
    · rw [List.length_map, splitL_len _ r rfl]
      have := List.count_le_length (a := (46 : UInt8)) (l := r); omega
theorem drop_le (l : List UInt8) (p : UInt8 → Bool) : (l.dropWhile p).length ≤ l.length := (List.dropWhile_suffix p).length_le
theorem nsParse_eq (l : List UInt8) (hl : l.length ≤ 10000000) (k : Nat) (hk : l.length + 20 ≤ k) : nspath_Parse.f k (mkB l) = some (parseN l) := by
  obtain ⟨k, rfl⟩ : ∃ m, k = m + 1 := ⟨k - 1, by omega⟩
  have j0 : ∀ (r : List UInt8) (root : Bool) (up : Int), r.length ≤ l.length → -9223372036854775808 ≤ up → up < 9223372036854775808 → nspath_Parse.j0 (k + 1) (mkB r) root up = some (if okPath root up (segsOf r) = true then (root, up, segsOf r, true) else (false, 0, [], false)) := by
    intro r root up hr h1 h2
    have hb := segsOf_bd r
    simp only [nspath_Parse.j0]
    by_cases h0 : r = []
    · subst h0
      rw [if_pos (show (mkB []).toList = [] from empty_toList), nsValid_eq root up [] h1 h2 (by simp) (by simp), Option.bind_some]
      show (if okPath root up (segsOf []) = true then _ else _) = _
      split <;> rfl
    · have hne : ¬ (mkB r).toList = [] := by
        intro h
        have : (mkB r) = ByteArray.empty := by
          have h' : (mkB r).toList = (ByteArray.empty).toList := h.trans empty_toList.symm
          exact list_eq_iff.1 h'
        have h2 := congrArg ByteArray.size this
        rw [mkB_size] at h2
        exact h0 (List.length_eq_zero_iff.1 h2)
      rw [if_neg hne, split_eq r (by omega) k (by omega), Option.bind_some]
      have hs : (splitL r).map mkB = segsOf r := by unfold segsOf; rw [if_neg h0]
      rw [hs, nsValid_eq root up (segsOf r) h1 h2 (fun s hs => by have := hb.1 s hs; omega) (by omega), Option.bind_some]
      split <;> rfl
  have hcut : strings_CutPrefix.f (mkB l) (⟨#[92]⟩ : ByteArray) = some (mkB (if [92].isPrefixOf l = true then l.drop 1 else l), [92].isPrefixOf l) := by
    unfold strings_CutPrefix.f Lib.trimPrefix Lib.hasPrefix
    rfl
  have htrim : strings_TrimLeft.f (mkB l) (⟨#[94]⟩ : ByteArray) = some (mkB (l.dropWhile (· == 94))) := by
    unfold strings_TrimLeft.f Lib.trimLeftB
    rw [if_pos (by decide)]
    rfl
  have hd := drop_le l (· == 94)
  unfold nspath_Parse.f parseN
  rw [hcut, Option.bind_some]
  simp only
  by_cases hp : [92].isPrefixOf l = true
  · rw [hp, if_pos rfl, if_pos rfl, if_pos rfl, j0 _ true 0 (by rw [List.length_drop]; omega) (by omega) (by omega)]
  · rw [Bool.not_eq_true] at hp
    rw [hp, if_neg (by decide), if_neg (by decide), htrim, Option.bind_some, mkB_size, mkB_size, wrap64_id (by omega) (by omega), j0 _ false _ hd (by omega) (by omega)]
/-! ### layer 2: the reference's reading of a text -/
theorem bt_mk (l : List UInt8) (i : Nat) (h : i < l.length) : bt (mkB l) (i : Int) = ((l[i]).toNat : Int) := by
  have := bt_at (mkB l) (i : Int) (by rw [Int.toNat_natCast, mkB_size]; exact h)
  rw [← this]; rfl
theorem bt_dot (l : List UInt8) (i : Nat) (h : i < l.length) : bt (mkB l) (i : Int) = 46 ↔ l[i] = 46 := by
  rw [bt_mk l i h]
  constructor
  · intro e; exact UInt8.toNat_inj.1 (by have : (46 : UInt8).toNat = 46 := rfl; omega)
  · intro e; rw [e]; rfl
def badP : Bool × Int × List ByteArray × Bool := (false, 0, [], false)
theorem l2_skip (l : List UInt8) (st : Int) (root : Bool) (up : Int) (acc : List ByteArray) (i : Int) (hl : l.length ≤ 10000000) : ∀ (e : Nat) (x : Nat) (q : Nat), x + e ≤ l.length → (∀ j, x ≤ j → (h : j < x + e) → ∀ h2 : j < l.length, l[j] ≠ 46) →
    platformfwref01_ParsePath.l2 (q + e) (mkB l) i st x root up acc = platformfwref01_ParsePath.l2 q (mkB l) i st ((x + e : Nat) : Int) root up acc := by
  intro e
  induction e with
  | zero => intro x q _ _; rfl
  | succ e ih =>
    intro x q hx hno
    have hne : ¬ bt (mkB l) (x : Int) = 46 := fun h => hno x (Nat.le_refl _) (by omega) (by omega) ((bt_dot l x (by omega)).1 h)
    rw [show q + (e + 1) = (q + e) + 1 from rfl, platformfwref01_ParsePath.l2, if_pos (by rw [mkB_size]; omega), if_pos (by omega), if_neg hne, wrap64_id (a := (x : Int) + 1) (by omega) (by omega), show (x : Int) + 1 = ((x + 1 : Nat) : Int) by omega, ih (x + 1) q (by omega) (fun j h1 h2 h3 => hno j (by omega) (by omega) h3), show x + 1 + e = x + (e + 1) by omega]
theorem l2_end (l : List UInt8) (st : Nat) (root : Bool) (up : Int) (acc : List ByteArray) (i k0 : Nat) (hl : l.length ≤ 10000000) (hi : i ≤ k0) (hk0 : k0 ≤ l.length) (hd : ∀ h : k0 < l.length, l[k0] = 46) (hacc : acc.length ≤ 10000000) (hst : st < i → ∃ h : i - 1 < l.length, l[i - 1] = 46) (q : Nat) (hq : 20 ≤ q) :
    platformfwref01_ParsePath.l2 (q + 1) (mkB l) i st k0 root up acc = (if nsSeg ((mkB l).extract i k0) = true then (if k0 + 1 = l.length then some badP else platformfwref01_ParsePath.l1 q (mkB l) ((k0 + 1 : Nat) : Int) st root up (acc ++ [(mkB l).extract i k0])) else some badP) := by
  have hseg : platformfwref01_Segment.f q ((mkB l).extract i k0) = some (nsSeg ((mkB l).extract i k0)) := refSegment_eq _ (by rw [ex_size, mkB_size]; omega) q (by omega)
  have hw : wrap64 ((k0 : Int) + 1) = ((k0 + 1 : Nat) : Int) := by rw [wrap64_id (by omega) (by omega)]; omega
  have core : (if 0 ≤ (i : Int) then (if (i : Int) ≤ (k0 : Int) then (if (k0 : Int) ≤ ((mkB l).size : Int) then ((platformfwref01_Segment.f q ((mkB l).extract (i : Int).toNat (k0 : Int).toNat)).bind fun t232 => (if t232 = true then (if (wrap64 ((k0 : Int) + 1)) = ((mkB l).size : Int) then (some (false, 0, ([] : List ByteArray), false)) else (if acc.length < 8796093022208 then (platformfwref01_ParsePath.l1 q (mkB l) (wrap64 ((k0 : Int) + 1)) st root up (acc ++ [(mkB l).extract (i : Int).toNat (k0 : Int).toNat])) else (none))) else (some (false, 0, ([] : List ByteArray), false)))) else (none)) else (none)) else (none)) = (if nsSeg ((mkB l).extract i k0) = true then (if k0 + 1 = l.length then some badP else platformfwref01_ParsePath.l1 q (mkB l) ((k0 + 1 : Nat) : Int) st root up (acc ++ [(mkB l).extract i k0])) else some badP) := by
    rw [if_pos (by omega), if_pos (by omega), if_pos (by rw [mkB_size]; omega), Int.toNat_natCast, Int.toNat_natCast, hseg, Option.bind_some, hw, mkB_size]
    by_cases h1 : nsSeg ((mkB l).extract i k0) = true
    · rw [if_pos h1, if_pos h1]
      by_cases h2 : k0 + 1 = l.length
      · rw [if_pos (by omega), if_pos h2]; rfl
      · rw [if_neg (by omega), if_neg h2, if_pos (by omega)]
    · rw [if_neg h1, if_neg h1]; rfl
  have prev : st < i → bt (mkB l) (wrap64 ((i : Int) - 1)) = 46 ∧ 0 ≤ wrap64 ((i : Int) - 1) ∧ wrap64 ((i : Int) - 1) < ((mkB l).size : Int) := by
    intro h
    obtain ⟨h1, h2⟩ := hst h
    have e : wrap64 ((i : Int) - 1) = ((i - 1 : Nat) : Int) := by rw [wrap64_id (by omega) (by omega)]; omega
    rw [e, mkB_size]
    exact ⟨(bt_dot l (i - 1) h1).2 h2, by omega, by omega⟩
  rw [platformfwref01_ParsePath.l2]
  by_cases hk : k0 < l.length
  · rw [if_pos (by rw [mkB_size]; omega), if_pos (by omega), if_pos ((bt_dot l k0 hk).2 (hd hk))]
    by_cases hs : st < i
    · obtain ⟨p1, p2, p3⟩ := prev hs
      rw [if_pos (by omega), if_pos p2, if_pos p3, if_pos p1]; exact core
    · rw [if_neg (by omega)]; exact core
  · rw [if_neg (by rw [mkB_size]; omega)]
    by_cases hs : st < i
    · obtain ⟨p1, p2, p3⟩ := prev hs
      rw [if_pos (by omega), if_pos p2, if_pos p3, if_pos p1]; exact core
    · rw [if_neg (by omega)]; exact core
theorem okPath_not {root : Bool} {up : Int} {acc more : List ByteArray} {s : ByteArray} (h : nsSeg s ≠ true) : ¬ okPath root up (acc ++ s :: more) = true := by
  intro hv
  obtain ⟨_, _, _, _, _, h5, _⟩ := okPath_bd hv
  exact h (h5 s (by simp))
theorem ref_segs (l : List UInt8) (st : Nat) (root : Bool) (up : Int) (hl : l.length ≤ 3000000) (hu : -9223372036854775808 ≤ up) (hu2 : up < 9223372036854775808) : ∀ (e : Nat) (i : Nat) (r : List UInt8) (acc : List ByteArray) (k : Nat), r = l.drop i → r.count 46 = e → i < l.length → (st < i → ∃ h : i - 1 < l.length, l[i - 1] = 46) → (∀ s ∈ acc, nsSeg s = true) → acc.length + r.length ≤ 3000000 → 3 * r.length + acc.length + 60 ≤ k →
    platformfwref01_ParsePath.l1 k (mkB l) i st root up acc = some (if okPath root up (acc ++ (splitL r).map mkB) = true then (root, up, acc ++ (splitL r).map mkB, true) else badP) := by
  intro e
  induction e with
  | zero =>
    intro i r acc k hr he hi hst hacc hlen hk
    have hrl : r.length = l.length - i := by rw [hr, List.length_drop]
    have hno : 46 ∉ r := List.count_eq_zero.1 he
    obtain ⟨q, rfl⟩ : ∃ q, k = (q + 1 + r.length) + 1 := ⟨k - 2 - r.length, by omega⟩
    have hp : (mkB l).extract i l.length = mkB r := by rw [ext_mk, List.take_length, hr]
    rw [platformfwref01_ParsePath.l1, if_pos (by rw [mkB_size]; omega), l2_skip l st root up acc i (by omega) r.length i (q + 1) (by omega) (fun j h1 h2 h3 e' => hno (by rw [hr, ← e']; exact List.mem_drop_iff_getElem.2 ⟨j - i, by omega, by congr 1; omega⟩)), show i + r.length = l.length by omega, l2_end l st root up acc i l.length (by omega) (by omega) (Nat.le_refl _) (fun h => absurd h (by omega)) (by omega) hst q (by omega), hp, splitL_no r hno]
    by_cases h1 : nsSeg (mkB r) = true
    · obtain ⟨q, rfl⟩ : ∃ m, q = m + 1 := ⟨q - 1, by omega⟩
      have hall : ∀ s ∈ acc ++ [mkB r], nsSeg s = true := by
        intro s hs
        rcases List.mem_append.1 hs with h | h
        · exact hacc s h
        · rw [List.mem_singleton.1 h]; exact h1
      rw [if_pos h1, if_neg (by omega), platformfwref01_ParsePath.l1, if_neg (by rw [mkB_size]; omega), refValidP_eq root up _ hu hu2 (fun s hs => by have := (nsSeg_iff s).1 (hall s hs); omega) (by rw [List.length_append, List.length_singleton]; omega) q (by rw [List.length_append, List.length_singleton]; omega), Option.bind_some]
      show _ = some (if okPath root up (acc ++ [mkB r]) = true then (root, up, acc ++ [mkB r], true) else badP)
      split <;> rfl
    · rw [if_neg h1]
      show some badP = some (if okPath root up (acc ++ [mkB r]) = true then (root, up, acc ++ [mkB r], true) else badP)
      rw [if_neg (okPath_not (more := []) h1)]
  | succ e ih =>
    intro i r acc k hr he hi hst hacc hlen hk
    have hrl : r.length = l.length - i := by rw [hr, List.length_drop]
    rcases dot_cases r with h0 | ⟨a, b, h1, hab⟩
    · rw [List.count_eq_zero.2 h0] at he; omega
    have hcb : b.count 46 = e := by rw [hab, List.count_append, List.count_eq_zero.2 h1, List.count_cons_self] at he; omega
    have hal : r.length = a.length + b.length + 1 := by rw [hab, List.length_append, List.length_cons]; omega
    obtain ⟨q, rfl⟩ : ∃ q, k = (q + 1 + a.length) + 1 := ⟨k - 2 - a.length, by omega⟩
    have hp : (mkB l).extract i (i + a.length) = mkB a := by
      rw [ext_mk, List.drop_take, ← hr, hab, show i + a.length - i = a.length by omega, List.take_left]
    have hget : ∀ j, (h : i + j < l.length) → l[i + j] = (a ++ 46 :: b)[j]'(by rw [← hab, hrl]; omega) := by
      intro j h
      have : (l.drop i)[j]'(by rw [List.length_drop]; omega) = l[i + j] := List.getElem_drop ..
      rw [← this]
      congr 1
      rw [← hr, hab]
    have hdot : ∀ h : i + a.length < l.length, l[i + a.length] = 46 := by
      intro h
      rw [hget a.length h, List.getElem_append_right (Nat.le_refl _)]; simp
    rw [platformfwref01_ParsePath.l1, if_pos (by rw [mkB_size]; omega), l2_skip l st root up acc i (by omega) a.length i (q + 1) (by omega) (fun j g1 g2 g3 e' => h1 (by
      have := hget (j - i) (by omega)
      rw [List.getElem_append_left (by omega)] at this
      have e2 : l[i + (j - i)]'(by omega) = l[j] := by congr 1; omega
      rw [e2, e'] at this
      rw [this]; exact List.getElem_mem _)), l2_end l st root up acc i (i + a.length) (by omega) (by omega) (by omega) hdot (by omega) hst q (by omega), hp, hab, splitL_app a b h1, List.map_cons]
    by_cases h2 : nsSeg (mkB a) = true
    · rw [if_pos h2]
      by_cases hb : b = []
      · subst hb
        rw [if_pos (by rw [List.length_nil] at hal; omega), if_neg]
        show ¬ okPath root up (acc ++ mkB a :: [mkB []]) = true
        rw [show acc ++ mkB a :: [mkB []] = (acc ++ [mkB a]) ++ mkB [] :: [] by simp]
        exact okPath_not (by decide)
      · have hbl : 0 < b.length := List.length_pos_iff.2 hb
        rw [if_neg (by omega), ih (i + a.length + 1) b (acc ++ [mkB a]) q (by
          have : l.drop (i + a.length + 1) = (l.drop i).drop (a.length + 1) := by rw [List.drop_drop]; congr 1
          rw [this, ← hr, hab, show a ++ 46 :: b = (a ++ [46]) ++ b by simp, List.drop_left' (by simp)]) hcb (by omega) (fun _ => ⟨by omega, by simpa using hdot (by omega)⟩) (fun s hs => by
          rcases List.mem_append.1 hs with h | h
          · exact hacc s h
          · rw [List.mem_singleton.1 h]; exact h2) (by rw [List.length_append, List.length_singleton]; omega) (by rw [List.length_append, List.length_singleton]; omega), List.append_assoc]
        rfl
    · rw [if_neg h2, if_neg (okPath_not h2)]
/-- Behind the prefix: the segments. -/
theorem ref_tail (l : List UInt8) (i : Nat) (root : Bool) (up : Int) (hl : l.length ≤ 2000000) (hi : i ≤ l.length) (hu : -9223372036854775808 ≤ up) (hu2 : up < 9223372036854775808) (k : Nat) (hk : 3 * l.length + 70 ≤ k) :
    platformfwref01_ParsePath.j3 k (mkB l) i root up = some (if okPath root up (segsOf (l.drop i)) = true then (root, up, segsOf (l.drop i), true) else badP) := by
  obtain ⟨k, rfl⟩ : ∃ q, k = q + 2 := ⟨k - 2, by omega⟩
  rw [platformfwref01_ParsePath.j3]
  by_cases h : i < l.length
  · have hd : (l.drop i).length = l.length - i := List.length_drop
    have hne : l.drop i ≠ [] := by intro e; rw [e] at hd; simp at hd; omega
    have := ref_segs l i root up (by omega) hu hu2 _ i (l.drop i) [] (k + 1) rfl rfl h (fun h' => absurd h' (by omega)) (by simp) (by simp; omega) (by simp; omega)
    unfold segsOf
    rw [if_neg hne]
    simpa using this
  · rw [platformfwref01_ParsePath.l1, if_neg (by rw [mkB_size]; omega), refValidP_eq root up [] hu hu2 (by simp) (by simp) k (by simp; omega), Option.bind_some, List.drop_of_length_le (by omega)]
    show _ = some (if okPath root up (segsOf []) = true then (root, up, segsOf [], true) else badP)
    show (if okPath root up [] = true then some (root, up, [], true) else some (false, 0, [], false)) = some (if okPath root up [] = true then (root, up, [], true) else badP)
    split <;> rfl
theorem ref_ups (l : List UInt8) (hl : l.length ≤ 2000000) (q : Nat) (hq : 3 * l.length + 70 ≤ q) : ∀ (r : List UInt8) (i : Nat), l.drop i = r → i ≤ l.length →
    platformfwref01_ParsePath.l0 (q + r.length + 1) (mkB l) i false i = some (if okPath false ((i + (r.length - (r.dropWhile (· == 94)).length) : Nat) : Int) (segsOf (r.dropWhile (· == 94))) = true then (false, ((i + (r.length - (r.dropWhile (· == 94)).length) : Nat) : Int), segsOf (r.dropWhile (· == 94)), true) else badP) := by
  intro r
  induction r with
  | nil =>
    intro i hr hi
    have hlen : l.length - i = 0 := by have := congrArg List.length hr; rw [List.length_drop] at this; simpa using this
    rw [platformfwref01_ParsePath.l0, if_neg (by decide), if_neg (by rw [mkB_size]; omega), ref_tail l i false i hl hi (by omega) (by omega) _ (by simp; omega), hr]
    simp
  | cons c r ih =>
    intro i hr hi
    have hlen : l.length - i = r.length + 1 := by have := congrArg List.length hr; rw [List.length_drop, List.length_cons] at this; exact this
    have hget : l[i]'(by omega) = c := by
      have h2 : (l.drop i)[0]'(by rw [List.length_drop]; omega) = l[i]'(by omega) := by rw [List.getElem_drop]; rfl
      rw [← h2]; simp [hr]
    have hr' : l.drop (i + 1) = r := by
      rw [← List.drop_drop, hr]; rfl
    have hb := bt_mk l i (by omega)
    rw [hget] at hb
    rw [platformfwref01_ParsePath.l0, if_neg (by decide), if_pos (by rw [mkB_size]; omega), if_pos (by omega), hb]
    by_cases hc : c = 94
    · subst hc
      have hi2 := ih (i + 1) hr' (by omega)
      have hdl := drop_le r (· == 94)
      rw [if_pos (by rfl), wrap64_id (a := (i : Int) + 1) (by omega) (by omega), show (i : Int) + 1 = ((i + 1 : Nat) : Int) by omega, List.length_cons, show q + (r.length + 1) = q + r.length + 1 by omega, hi2]
      rw [List.dropWhile_cons]
      simp only [beq_self_eq_true, if_true]
      rw [show i + 1 + (r.length - (r.dropWhile (· == 94)).length) = i + (r.length + 1 - (r.dropWhile (· == 94)).length) by omega]
    · have hne : ¬ ((c.toNat : Nat) : Int) = 94 := by
        intro e; apply hc
        exact UInt8.toNat_inj.1 (by have : (94 : UInt8).toNat = 94 := rfl; omega)
      have hcf : (c == 94) = false := by rw [beq_eq_false_iff_ne]; exact hc
      rw [if_neg hne, ref_tail l i false i hl hi (by omega) (by omega) _ (by simp; omega), hr, List.dropWhile_cons]
      simp only [hcf]
      simp
theorem refParse_eq (l : List UInt8) (hl : l.length ≤ 2000000) (k : Nat) (hk : 4 * l.length + 100 ≤ k) : platformfwref01_ParsePath.f k (mkB l) = some (parseN l) := by
  obtain ⟨q, rfl⟩ : ∃ q, k = (q + l.length + 1) + 2 := ⟨k - 3 - l.length, by omega⟩
  have hdl := drop_le l (· == 94)
  have other : [92].isPrefixOf l = false → platformfwref01_ParsePath.j0 ((q + l.length + 1) + 2) (mkB l) 0 false false 0 = some (parseN l) := by
    intro hp
    have := ref_ups l hl q (by omega) l 0 rfl (by omega)
    rw [platformfwref01_ParsePath.j0, if_neg (by decide), platformfwref01_ParsePath.j1]
    have h0 : ((0 : Nat) : Int) = 0 := rfl
    rw [h0] at this
    rw [this]
    unfold parseN
    rw [hp, if_neg (show ¬ (false = true) by decide), show ((0 + (l.length - (l.dropWhile (· == 94)).length) : Nat) : Int) = (l.length : Int) - ((l.dropWhile (· == 94)).length : Int) by omega]
    rfl
  unfold platformfwref01_ParsePath.f
  cases hl0 : l with
  | nil =>
    subst hl0
    rw [if_pos (show (mkB []).toList = [] from empty_toList)]
    exact other rfl
  | cons c r =>
    rw [← hl0]
    have hlen : l.length = r.length + 1 := by rw [hl0]; rfl
    have hne : ¬ (mkB l).toList = [] := by
      intro h
      have h2 := congrArg ByteArray.size (list_eq_iff.1 (h.trans empty_toList.symm))
      rw [mkB_size] at h2
      have h3 : l.length = 0 := h2
      omega
    have hb : bt (mkB l) 0 = (c.toNat : Int) := by
      have := bt_mk l 0 (by omega)
      simp only [hl0] at this ⊢
      exact this
    rw [if_neg hne, if_pos (by rw [mkB_size]; omega), hb]
    by_cases hc : c = 92
    · subst hc
      rw [show (((92 : UInt8).toNat : Int) == 92) = true from rfl, platformfwref01_ParsePath.j0, if_pos rfl, platformfwref01_ParsePath.j1, show q + l.length + 1 = (q + l.length) + 1 from rfl, platformfwref01_ParsePath.l0, if_pos rfl]
      have := ref_tail l 1 true 0 hl (by omega) (by omega) (by omega) (q + l.length) (by omega)
      rw [show ((1 : Nat) : Int) = 1 from rfl] at this
      rw [this]
      unfold parseN
      rw [if_pos (c := [92].isPrefixOf l = true) (by rw [hl0]; simp)]
      rfl
    · have hcf : ((c.toNat : Int) == 92) = false := by
        rw [beq_eq_false_iff_ne]; intro e; apply hc
        exact UInt8.toNat_inj.1 (by have : (92 : UInt8).toNat = 92 := rfl; omega)
      rw [hcf]
      refine other ?_
      rw [hl0]
      simp [List.isPrefixOf, Ne.symm hc]
theorem parses_eq (l : List UInt8) (hl : l.length ≤ 1100000) (k : Nat) (hk : 10000000 ≤ k) : platformfwlaw02_parses.f k (mkB l) = some true := by
  have hb := segsOf_bd (l.drop 1)
  have hb2 := segsOf_bd (l.dropWhile (· == 94))
  have hd := drop_le l (· == 94)
  have hd1 : (l.drop 1).length ≤ l.length := by rw [List.length_drop]; omega
  have hlen : (parseN l).2.2.1.length ≤ 2000000 := by
    unfold parseN
    split <;> split <;> first | (show (segsOf _).length ≤ _; omega) | (show ([] : List ByteArray).length ≤ _; simp)
  unfold platformfwlaw02_parses.f
  rw [nsParse_eq l (by omega) k (by omega), Option.bind_some, refParse_eq l (by omega) k (by omega), Option.bind_some, same02_refl _ _ _ (by omega) k (by omega), Option.bind_some, if_pos rfl]
  simp
theorem digit_cut (m : Int) (h0 : 0 ≤ m) (h1 : m ≤ 10) : ((⟨#[92, 94, 46, 46, 65, 65, 66, 95, 57, 97, 32]⟩ : ByteArray).extract m.toNat (m + 1).toNat).size = 1 := by
  rw [ex_size, show (⟨#[92, 94, 46, 46, 65, 65, 66, 95, 57, 97, 32]⟩ : ByteArray).size = 11 from rfl]; omega
theorem text_loop (s : ByteArray) (hs : s.size ≤ 1100000) (l : List Int) (hl : ∀ z ∈ l, (Lit.int .u8 z).wf = true) (hlen : l.length ≤ 140737488351232) : ∀ (e : Nat) (i : Nat) (t : ByteArray) (q : Nat), i + e = min l.length 60 → t.size = i → 10000000 ≤ q →
    platformfwlaw02_NspathParsesExactly.l0 (q + e + 1) s l t i = some true := by
  have fin : ∀ (t : ByteArray) (q : Nat), t.size ≤ 60 → 10000000 ≤ q → ((platformfwlaw02_awake.f q).bind fun t265 => (if t265 = true then ((platformfwlaw02_parses.f q s).bind fun t266 => (if t266 = true then ((platformfwlaw02_parses.f q t).bind fun t267 => (some t267)) else (some false))) else (some false))) = some true := by
    intro t q ht hq
    have h1 := parses_eq s.data.toList hs q hq
    have h2 := parses_eq t.data.toList (show t.size ≤ 1100000 by omega) q hq
    rw [mkB_data] at h1 h2
    rw [awake02_at q (by omega), Option.bind_some, if_pos rfl, h1, Option.bind_some, if_pos rfl, h2, Option.bind_some]
  intro e
  induction e with
  | zero =>
    intro i t q hi ht hq
    rw [platformfwlaw02_NspathParsesExactly.l0]
    by_cases h1 : (i : Int) < (l.length : Int)
    · rw [if_pos h1, if_neg (by omega)]; exact fin t q (by omega) hq
    · rw [if_neg h1]; exact fin t q (by omega) hq
  | succ e ih =>
    intro i t q hi ht hq
    have hz : rd l i ∈ l := by
      unfold rd
      rw [Int.toNat_natCast, List.getD_eq_getElem?_getD, List.getElem?_eq_getElem (by omega)]
      exact List.getElem_mem _
    have hb := wf_u8 (hl _ hz)
    have hw : wrap64 (rd l i) = rd l i := wrap64_id (by omega) (by omega)
    have ht2 : Int.tmod (rd l i) 11 = rd l i % 11 := Int.tmod_eq_emod_of_nonneg hb.1
    have hc := digit_cut (rd l i % 11) (by omega) (by omega)
    rw [show q + (e + 1) + 1 = (q + e + 1) + 1 from rfl, platformfwlaw02_NspathParsesExactly.l0, if_pos (by omega), if_pos (by omega), if_pos (by omega), hw, ht2, if_pos (by omega), wrap64_id (a := rd l i % 11 + 1) (by omega) (by omega), if_pos (by omega), if_pos (by omega), hc, if_pos (by omega), wrap64_id (a := (i : Int) + 1) (by omega) (by omega)]
    exact ih (i + 1) _ q (by omega) (by rw [ByteArray.size_append, hc, ht]) hq
theorem NspathParsesExactly : St.NspathParsesExactly := by
  intro s l hs hl hsmall
  refine ⟨10000000 + min l.length 60 + 1, ?_⟩
  unfold platformfwlaw02_NspathParsesExactly.f
  exact text_loop s (by omega) l hl.2 (by omega) (min l.length 60) 0 ⟨#[]⟩ 10000000 (by omega) rfl (by omega)
end Go.Proofs.YtpjajjmipbjliaaDoor.Pure
