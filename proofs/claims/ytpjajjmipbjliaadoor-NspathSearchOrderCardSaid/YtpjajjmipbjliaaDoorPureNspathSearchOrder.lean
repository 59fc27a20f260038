/- The candidates of a single segment, nearest first: the plain law. -/
import Derived.Test.YtpjajjmipbjliaaDoorStNspathSearchOrder
import Derived.Test.YtpjajjmipbjliaaDoorBytes
import Derived.Test.YtpjajjmipbjliaaDoorExtP
namespace Go.Proofs.YtpjajjmipbjliaaDoor.Pure
open Go.RowKit Go.Proofs.YtpjajjmipbjliaaDoor.PNspathSearchOrder Go.Proofs.YtpjajjmipbjliaaDoorW.PrintWords Go.Proofs.YtpjajjmipbjliaaDoorW.PrintLast Go.Proofs.YtpjajjmipbjliaaDoorW.PrintMore Go.Proofs.YtpjajjmipbjliaaDoor.Plain
open Go.Proofs.YtpjajjmipbjliaaDoor.Ext
set_option linter.unusedVariables false
set_option linter.unusedSimpArgs false
/-! ### bytes of a part of a string -/
theorem bt_extract (s : ByteArray) (a b : Nat) {j : Int} (h0 : 0 ≤ j) (h1 : a + j < b) : bt (s.extract a b) j = bt s (a + j) := by
  rw [bt_B, bt_B, B_extract, List.getD_eq_getElem?_getD, List.getD_eq_getElem?_getD, List.getElem?_drop, List.getElem?_take, if_pos (by omega), show a + j.toNat = ((a : Int) + j).toNat by omega]
theorem bt_app (a b : ByteArray) {j : Int} (h0 : 0 ≤ j) (h1 : j < a.size) : bt (a ++ b) j = bt a j := by
  rw [bt_B, bt_B, B_append, List.getD_eq_getElem?_getD, List.getD_eq_getElem?_getD, List.getElem?_append_left (by rw [B_size]; omega)]
theorem bt_out (s : ByteArray) {j : Int} (h1 : s.size ≤ j) : bt s j = 0 := by
  rw [bt_B, List.getD_eq_getElem?_getD, List.getElem?_eq_none (by rw [B_size]; omega)]; rfl
theorem ex_size (s : ByteArray) (a b : Nat) : (s.extract a b).size = min b s.size - a := by simp
theorem ba_ext {a b : ByteArray} (hs : a.size = b.size) (h : ∀ j : Nat, j < a.size → bt a j = bt b j) : a = b := by
  refine B_inj (List.ext_getElem? fun j => ?_)
  by_cases hj : j < a.size
  · have := h j hj
    rw [bt_B, bt_B, Int.toNat_natCast, List.getD_eq_getElem?_getD, List.getD_eq_getElem?_getD] at this
    have h1 : j < (bytesOf a).length := by rw [B_size]; exact hj
    have h2 : j < (bytesOf b).length := by rw [B_size]; omega
    rw [List.getElem?_eq_getElem h1, List.getElem?_eq_getElem h2] at this ⊢
    simpa using this
  · rw [List.getElem?_eq_none (by rw [B_size]; omega), List.getElem?_eq_none (by rw [B_size]; omega)]
theorem list_eq_iff {a b : ByteArray} : a.toList = b.toList ↔ a = b := by
  rw [B_eq_iff]; exact ⟨B_inj, fun h => by rw [h]⟩
/-- Are the bytes of s from x on, e of them, zero. -/
def zer (s : ByteArray) : Nat → Int → Bool
  | 0, _ => true
  | e + 1, x => decide (bt s x = 0) && zer s e (x + 1)
theorem zer_iff (s : ByteArray) : ∀ (e : Nat) (x : Int), zer s e x = true ↔ ∀ j : Nat, j < e → bt s (x + j) = 0 := by
  intro e
  induction e with
  | zero => intro x; simp [zer]
  | succ e ih =>
    intro x
    simp only [zer, Bool.and_eq_true, decide_eq_true_eq, ih]
    constructor
    · rintro ⟨h0, h⟩ j hj
      cases j with
      | zero => simpa using h0
      | succ j => have := h j (by omega); rw [show x + ((j + 1 : Nat) : Int) = x + 1 + (j : Int) by omega]; exact this
    · intro h
      refine ⟨by simpa using h 0 (by omega), fun j hj => ?_⟩
      have := h (j + 1) (by omega)
      rw [show x + ((j + 1 : Nat) : Int) = x + 1 + (j : Int) by omega] at this; exact this
theorem zeros3 : ∀ c : Fin 4, ∀ j : Fin 4, bt ((⟨#[0, 0, 0]⟩ : ByteArray).extract 0 c) (j : Nat) = 0 ∧ ((⟨#[0, 0, 0]⟩ : ByteArray).extract 0 c).size = c := by decide +kernel
theorem zeros_eq (s : ByteArray) (a : Nat) (c : Int) (h0 : 0 ≤ c) (h3 : c ≤ 3) (hs : a + c ≤ s.size) (b : Nat) (hb : (b : Int) = a + c) : (s.extract a b).toList = ((⟨#[0, 0, 0]⟩ : ByteArray).extract 0 c.toNat).toList ↔ zer s c.toNat a = true := by
  rw [list_eq_iff, zer_iff]
  have hz := fun j : Fin 4 => zeros3 ⟨c.toNat, by omega⟩ j
  have hz0 : ((⟨#[0, 0, 0]⟩ : ByteArray).extract 0 c.toNat).size = c.toNat := (hz 0).2
  constructor
  · intro h j hj
    have := bt_extract s a b (j := (j : Int)) (by omega) (by omega)
    rw [← this, h]; exact (hz ⟨j, by omega⟩).1
  · intro h
    refine ba_ext (by rw [ex_size, hz0]; omega) fun j hj => ?_
    rw [ex_size] at hj
    rw [bt_extract s a b (by omega) (by omega), h j (by omega)]
    exact ((hz ⟨j, by omega⟩).1).symm
/-! ### what is a segment: the two answers are one -/
theorem segFrom_iff (s : ByteArray) : ∀ (e : Nat) (i : Int), segFrom s e i = true ↔ ∀ j : Nat, j < e → segCh (bt s (i + j)) (i + j) = true := by
  intro e
  induction e with
  | zero => intro i; simp [segFrom]
  | succ e ih =>
    intro i
    simp only [segFrom, Bool.and_eq_true, ih]
    constructor
    · rintro ⟨h0, h⟩ j hj
      cases j with
      | zero => simpa using h0
      | succ j => have := h j (by omega); rw [show i + ((j + 1 : Nat) : Int) = i + 1 + (j : Int) by omega]; exact this
    · intro h
      refine ⟨by simpa using h 0 (by omega), fun j hj => ?_⟩
      have := h (j + 1) (by omega)
      rw [show i + ((j + 1 : Nat) : Int) = i + 1 + (j : Int) by omega] at this; exact this
theorem nsSeg_iff (s : ByteArray) : nsSeg s = true ↔ 1 ≤ s.size ∧ s.size ≤ 4 ∧ ∀ j : Nat, j < s.size → segCh (bt s j) j = true := by
  unfold nsSeg
  rw [Bool.and_eq_true, Bool.and_eq_true, decide_eq_true_eq, decide_eq_true_eq, segFrom_iff]
  constructor
  · rintro ⟨h, h1, h2⟩; exact ⟨h1, h2, fun j hj => by simpa using h j hj⟩
  · rintro ⟨h1, h2, h⟩; exact ⟨fun j hj => by simpa using h j hj, h1, h2⟩
theorem segCh_nz {c i : Int} (h : segCh c i = true) : c ≠ 0 := by
  unfold segCh at h; intro h0; subst h0; simp at h
/-! letters, digits -/
def isL (c : Int) : Bool := (decide (97 ≤ c) && decide (c ≤ 122)) || (decide (65 ≤ c) && decide (c ≤ 90)) || decide (c = 95)
def isD (c : Int) : Bool := decide (48 ≤ c) && decide (c ≤ 57)
def isLow (c : Int) : Bool := decide (97 ≤ c) && decide (c ≤ 122)
theorem letter_eq (c : Int) : platformfwref01_letter.f c = some (isL c) := by
  unfold platformfwref01_letter.f isL
  by_cases a : c ≥ 97 <;> by_cases b : c ≤ 122 <;> by_cases d : c ≥ 65 <;> by_cases e : c ≤ 90 <;> by_cases f : c = 95 <;> simp [a, b, d, e, f] <;> omega
theorem digit_eq (c : Int) : platformfwref01_digit.f c = some (isD c) := by
  unfold platformfwref01_digit.f isD
  by_cases a : c ≥ 48 <;> by_cases b : c ≤ 57 <;> simp [a, b] <;> omega
def allLD (s : ByteArray) : Nat → Int → Bool
  | 0, _ => true
  | e + 1, i => (isL (bt s i) || isD (bt s i)) && allLD s e (i + 1)
def anyLow (s : ByteArray) : Nat → Int → Bool
  | 0, _ => false
  | e + 1, i => isLow (bt s i) || anyLow s e (i + 1)
theorem ident_loop (s : ByteArray) (hs : s.size ≤ 562949953421312) : ∀ (e : Nat) (i : Int) (k : Nat), 0 ≤ i → i + e = s.size → e < k → ∃ r, platformfwref01_identifier.l0 k s i = some r ∧ (r = s.size ↔ allLD s e i = true) := by
  intro e
  induction e with
  | zero =>
    intro i k h0 hi hk
    obtain ⟨k, rfl⟩ : ∃ m, k = m + 1 := ⟨k - 1, by omega⟩
    refine ⟨i, by simp only [platformfwref01_identifier.l0]; rw [if_neg (by omega)], by simp [allLD]; omega⟩
  | succ e ih =>
    intro i k h0 hi hk
    obtain ⟨k, rfl⟩ : ∃ m, k = m + 1 := ⟨k - 1, by omega⟩
    obtain ⟨r, h1, h2⟩ := ih (i + 1) k (by omega) (by omega) (by omega)
    simp only [platformfwref01_identifier.l0, allLD]
    rw [if_pos (by omega), if_pos h0, letter_eq, Option.bind_some, wrap64_id (a := i + 1) (by omega) (by omega), digit_eq, Option.bind_some]
    cases hL : isL (bt s i) with
    | true => exact ⟨r, by rw [if_pos rfl]; exact h1, by rw [h2]; simp⟩
    | false =>
      rw [if_neg (by decide)]
      cases hD : isD (bt s i) with
      | true => exact ⟨r, by rw [if_pos rfl]; exact h1, by rw [h2]; simp⟩
      | false => exact ⟨i, by rw [if_neg (by decide)], by simp; omega⟩
theorem lower_loop (s : ByteArray) (hs : s.size ≤ 562949953421312) : ∀ (e : Nat) (i : Int) (k : Nat), 0 ≤ i → i + e = s.size → e < k → platformfwref01_lower.l0 k s i = some (anyLow s e i) := by
  intro e
  induction e with
  | zero =>
    intro i k h0 hi hk
    obtain ⟨k, rfl⟩ : ∃ m, k = m + 1 := ⟨k - 1, by omega⟩
    simp only [platformfwref01_lower.l0]; rw [if_neg (by omega)]; rfl
  | succ e ih =>
    intro i k h0 hi hk
    obtain ⟨k, rfl⟩ : ∃ m, k = m + 1 := ⟨k - 1, by omega⟩
    simp only [platformfwref01_lower.l0, anyLow]
    rw [if_pos (by omega), if_pos h0, wrap64_id (a := i + 1) (by omega) (by omega), ih (i + 1) k (by omega) (by omega) (by omega)]
    unfold isLow
    by_cases a : bt s i ≥ 97
    · rw [if_pos a, decide_eq_true (show 97 ≤ bt s i from a)]
      by_cases b : bt s i ≤ 122
      · rw [if_pos b, decide_eq_true b]; rfl
      · rw [if_neg b, decide_eq_false b]; rfl
    · rw [if_neg a, decide_eq_false (show ¬ 97 ≤ bt s i from a)]; rfl
theorem segCh_pos {c i : Int} (h : 0 < i) : segCh c i = ((isL c || isD c) && !isLow c) := by
  unfold segCh isL isD isLow
  rw [decide_eq_true h]
  by_cases a : 97 ≤ c <;> by_cases b : c ≤ 122 <;> by_cases d : 65 ≤ c <;> by_cases e : c ≤ 90 <;> by_cases f : c = 95 <;> by_cases g : 48 ≤ c <;> by_cases m : c ≤ 57 <;> simp [a, b, d, e, f, g, m] <;> omega
theorem segCh_zero {c : Int} : segCh c 0 = (isL c && !isLow c) := by
  unfold segCh isL isLow
  by_cases a : 97 ≤ c <;> by_cases b : c ≤ 122 <;> by_cases d : 65 ≤ c <;> by_cases e : c ≤ 90 <;> by_cases f : c = 95 <;> simp [a, b, d, e, f] <;> omega
theorem segFrom_pos (s : ByteArray) : ∀ (e : Nat) (i : Int), 0 < i → segFrom s e i = (allLD s e i && !anyLow s e i) := by
  intro e
  induction e with
  | zero => intro i h; rfl
  | succ e ih =>
    intro i h
    simp only [segFrom, allLD, anyLow]
    rw [ih (i + 1) (by omega), segCh_pos h]
    cases (isL (bt s i) || isD (bt s i)) <;> cases isLow (bt s i) <;> cases allLD s e (i + 1) <;> cases anyLow s e (i + 1) <;> rfl
theorem refSegment_eq (s : ByteArray) (hs : s.size ≤ 562949953421312) (k : Nat) (hk : 10 ≤ k) : platformfwref01_Segment.f k s = some (nsSeg s) := by
  unfold platformfwref01_Segment.f nsSeg
  by_cases h1 : 1 ≤ s.size
  · rw [if_pos (by omega), decide_eq_true h1]
    by_cases h4 : s.size ≤ 4
    · rw [if_pos (by omega), if_pos (by omega), decide_eq_true h4, letter_eq, Option.bind_some]
      obtain ⟨e, he⟩ : ∃ e, s.size = e + 1 := ⟨s.size - 1, by omega⟩
      obtain ⟨r, hr, hr2⟩ := ident_loop s hs s.size 0 k (by omega) (by omega) (by omega)
      have hl := lower_loop s hs s.size 0 k (by omega) (by omega) (by omega)
      unfold platformfwref01_identifier.f platformfwref01_lower.f
      rw [hr, hl]
      rw [he] at hr2 ⊢
      simp only [segFrom, allLD, anyLow] at hr2 ⊢
      rw [segCh_zero, segFrom_pos s e (0 + 1) (by omega)]
      simp only [Option.bind_some]
      cases hL : isL (bt s 0) with
      | false => rw [if_neg (by decide)]; rfl
      | true =>
        rw [hL] at hr2
        rw [if_pos rfl]
        by_cases hrr : r = ((e + 1 : Nat) : Int)
        · rw [if_pos hrr]
          have := hr2.1 hrr
          simp only [Bool.true_or, Bool.true_and] at this
          rw [this]
          cases isLow (bt s 0) <;> cases anyLow s e (0 + 1) <;> rfl
        · rw [if_neg hrr]
          have : allLD s e (0 + 1) = false := by
            cases hA : allLD s e (0 + 1) with
            | false => rfl
            | true => exact absurd (hr2.2 (by rw [hA]; rfl)) hrr
          rw [this]; cases isLow (bt s 0) <;> rfl
    · rw [if_neg (by omega), decide_eq_false h4]; simp
  · rw [if_neg (by omega), decide_eq_false h1]; simp
/-! ### encoding a path -/
theorem repB_zero (s : ByteArray) : repB s 0 = ⟨#[]⟩ := rfl
theorem repB_succ (s : ByteArray) (n : Nat) : repB s (n + 1) = s ++ repB s n := by
  apply ByteArray.ext
  apply Array.ext'
  rw [ByteArray.data_append, Array.toList_append]
  rfl
theorem repB_size (s : ByteArray) : ∀ n, (repB s n).size = n * s.size := by
  intro n
  induction n with
  | zero => rw [Nat.zero_mul]; rfl
  | succ n ih => rw [repB_succ, ByteArray.size_append, ih, Nat.succ_mul]; omega
theorem equal_str (l : List ByteArray) (hl : l.length ≤ 1000000) (k : Nat) (hk : l.length < k) : platformfwhelp_Equal_string.f k l l = some true := by
  have loop : ∀ (e : Nat) (i q : Nat), i + e = l.length → e < q → platformfwhelp_Equal_string.l0 q l l i = some true := by
    intro e
    induction e with
    | zero =>
      intro i q hi hq
      obtain ⟨q, rfl⟩ : ∃ m, q = m + 1 := ⟨q - 1, by omega⟩
      simp only [platformfwhelp_Equal_string.l0]; rw [if_neg (by omega)]
    | succ e ih =>
      intro i q hi hq
      obtain ⟨q, rfl⟩ : ∃ m, q = m + 1 := ⟨q - 1, by omega⟩
      simp only [platformfwhelp_Equal_string.l0]
      rw [if_pos (by omega), if_pos (by omega), if_pos (by omega), if_pos trivial, wrap64_id (by omega) (by omega)]
      exact ih (i + 1) q (by omega) (by omega)
  unfold platformfwhelp_Equal_string.f
  rw [if_pos rfl]; exact loop l.length 0 k (by omega) hk
/-! ### which paths are valid -/
def allSeg (l : List ByteArray) : Bool := l.all nsSeg
/-- A valid path. -/
def okPath (root : Bool) (up : Int) (l : List ByteArray) : Bool := decide (0 ≤ up) && decide (up ≤ 32) && (!root || decide (up = 0)) && decide (up + l.length ≤ 32) && (root || decide (0 < up) || decide (0 < l.length)) && allSeg l
theorem any_all (l : List ByteArray) : (!l.any (fun s => !nsSeg s)) = allSeg l := by
  unfold allSeg
  induction l with
  | nil => rfl
  | cons s l ih => rw [List.any_cons, List.all_cons, ← ih]; cases nsSeg s <;> simp
theorem contains_eq (l : List ByteArray) (hl : ∀ s ∈ l, s.size ≤ 140737488351232) (hlen : l.length ≤ 140737488351232) : (slices_ContainsFunc.f l).bind (fun t => some (!t)) = some (allSeg l) := by
  unfold slices_ContainsFunc.f
  rw [if_pos ⟨List.all_eq_true.2 fun s hs => decide_eq_true (hl s hs), hlen⟩, Option.bind_some, any_all]
theorem nsValid_eq (root : Bool) (up : Int) (l : List ByteArray) (hu : -9223372036854775808 ≤ up) (hu2 : up < 9223372036854775808) (hl : ∀ s ∈ l, s.size ≤ 140737488351232) (hlen : l.length ≤ 140737488351232) : nspath_Valid.f root up l = some (okPath root up l) := by
  have hc := contains_eq l hl hlen
  unfold nspath_Valid.f okPath
  by_cases h0 : up < 0
  · rw [if_pos h0, decide_eq_false (show ¬ 0 ≤ up by omega)]; simp
  · rw [if_neg h0, decide_eq_true (show 0 ≤ up by omega)]
    by_cases h1 : up > 32
    · rw [if_pos h1, decide_eq_false (show ¬ up ≤ 32 by omega)]; simp
    · rw [if_neg h1, decide_eq_true (show up ≤ 32 by omega), wrap64_id (a := up + (l.length : Int)) (by omega) (by omega), hc]
      cases root with
      | true =>
        rw [if_pos rfl]
        by_cases h2 : up > 0
        · rw [if_pos h2, decide_eq_false (show ¬ up = 0 by omega)]; simp
        · rw [if_neg h2, decide_eq_true (show up = 0 by omega)]
          by_cases h3 : up + l.length > 32
          · rw [if_pos h3, decide_eq_false (show ¬ up + (l.length : Int) ≤ 32 by omega)]; simp
          · rw [if_neg h3, decide_eq_true (show up + (l.length : Int) ≤ 32 by omega)]; simp
      | false =>
        rw [if_neg (by decide)]
        by_cases h3 : up + l.length > 32
        · rw [if_pos h3, decide_eq_false (show ¬ up + (l.length : Int) ≤ 32 by omega)]; simp
        · rw [if_neg h3, decide_eq_true (show up + (l.length : Int) ≤ 32 by omega)]
          by_cases h4 : up > 0
          · rw [if_pos h4, decide_eq_true (show 0 < up from h4)]; simp
          · rw [if_neg h4, decide_eq_false (show ¬ 0 < up from h4)]
            by_cases h5 : (l.length : Int) > 0
            · rw [if_pos h5, decide_eq_true (show 0 < l.length by omega)]; simp
            · rw [if_neg h5, decide_eq_false (show ¬ 0 < l.length by omega)]; simp
/-! ### layer 2: a path's text -/
theorem awake02 : platformfwlaw02_awake.f 60 = some true := by decide +kernel
theorem awake02_at (k : Nat) (hk : 60 ≤ k) : platformfwlaw02_awake.f k = some true := at_rounds platformfwlaw02_awake.mono hk awake02
theorem same02_refl (root : Bool) (up : Int) (l : List ByteArray) (hl : l.length ≤ 1000000) (k : Nat) (hk : l.length < k) : platformfwlaw02_same.f k root up l root up l = some true := by
  unfold platformfwlaw02_same.f
  rw [if_pos (by simp), if_pos rfl, equal_str l hl k hk, Option.bind_some]
theorem ba_ext' {a b : ByteArray} (h : a.data.toList = b.data.toList) : a = b := by
  apply ByteArray.ext
  apply Array.ext'
  exact h
/-- The strings of l, a dot ahead of each. -/
def dotL : List ByteArray → ByteArray
  | [] => ⟨#[]⟩
  | s :: l => ((⟨#[46]⟩ : ByteArray) ++ s) ++ dotL l
theorem inter_two (sep x y : List UInt8) (l : List (List UInt8)) : sep.intercalate (x :: y :: l) = x ++ (sep ++ sep.intercalate (y :: l)) := by simp [List.intercalate, List.intersperse]
theorem joinB_nil (sep : ByteArray) : joinB [] sep = ⟨#[]⟩ := rfl
theorem joinB_cons : ∀ (l : List ByteArray) (s : ByteArray), joinB (s :: l) ⟨#[46]⟩ = s ++ dotL l := by
  intro l
  induction l with
  | nil =>
    intro s
    apply ba_ext'
    simp [joinB, Lib.join, List.intercalate, dotL]
  | cons t l ih =>
    intro s
    have := ih t
    have e : joinB (s :: t :: l) ⟨#[46]⟩ = s ++ ((⟨#[46]⟩ : ByteArray) ++ joinB (t :: l) ⟨#[46]⟩) := by
      apply ba_ext'
      simp only [joinB, Lib.join, List.map_cons, inter_two, ByteArray.data_append, Array.toList_append]
    rw [e, this]
    simp only [dotL]
    rw [ByteArray.append_assoc]
theorem dotL_size : ∀ (l : List ByteArray), (∀ s ∈ l, s.size ≤ 4) → (dotL l).size ≤ 5 * l.length := by
  intro l
  induction l with
  | nil => intro _; simp [dotL, ByteArray.size]
  | cons s l ih =>
    intro h
    have h1 := ih fun t ht => h t (List.mem_cons_of_mem _ ht)
    have h2 := h s (List.mem_cons_self ..)
    simp only [dotL, List.length_cons]
    rw [ByteArray.size_append, ByteArray.size_append, show (⟨#[46]⟩ : ByteArray).size = 1 from rfl]; omega
theorem joinB_size (l : List ByteArray) (h : ∀ s ∈ l, s.size ≤ 4) : (joinB l ⟨#[46]⟩).size ≤ 5 * l.length := by
  cases l with
  | nil => rw [joinB_nil]; simp [ByteArray.size]
  | cons s l =>
    have h1 := dotL_size l fun t ht => h t (List.mem_cons_of_mem _ ht)
    have h2 := h s (List.mem_cons_self ..)
    rw [joinB_cons, ByteArray.size_append, List.length_cons]; omega
theorem drop_rdOf (l : List ByteArray) (x : Nat) (h : x < l.length) : l.drop x = rdOf ByteArray.empty l x :: l.drop (x + 1) ∧ rdOf ByteArray.empty l x ∈ l := by
  unfold rdOf
  rw [Int.toNat_natCast, List.getD_eq_getElem?_getD, List.getElem?_eq_getElem h]
  exact ⟨List.drop_eq_getElem_cons h, List.getElem_mem _⟩
/-- A path's text. -/
def fmtP (root : Bool) (up : Int) (l : List ByteArray) : ByteArray := (if root = true then ⟨#[92]⟩ else repB ⟨#[94]⟩ up.toNat) ++ joinB l ⟨#[46]⟩
theorem okPath_bd {root : Bool} {up : Int} {l : List ByteArray} (h : okPath root up l = true) : 0 ≤ up ∧ up ≤ 32 ∧ (root = true → up = 0) ∧ up + l.length ≤ 32 ∧ (∀ s ∈ l, 1 ≤ s.size ∧ s.size ≤ 4) ∧ (∀ s ∈ l, nsSeg s = true) ∧ (root = false → 0 < up ∨ 0 < l.length) := by
  unfold okPath at h
  simp only [Bool.and_eq_true, decide_eq_true_eq, Bool.or_eq_true, Bool.not_eq_true'] at h
  refine ⟨h.1.1.1.1.1, h.1.1.1.1.2, fun hr => ?_, h.1.1.2, fun s hs => ?_, fun s hs => List.all_eq_true.1 h.2 s hs, fun hr => ?_⟩
  · rcases h.1.1.1.2 with h' | h'
    · rw [hr] at h'; cases h'
    · exact h'
  · have := (nsSeg_iff s).1 (List.all_eq_true.1 h.2 s hs)
    exact ⟨this.1, this.2.1⟩
  · rcases h.1.2 with (h' | h') | h'
    · rw [hr] at h'; cases h'
    · exact Or.inl h'
    · exact Or.inr h'
/-! ### layer 2: the path above -/
def parP (root : Bool) (up : Int) (l : List ByteArray) : Bool × Int × List ByteArray × Bool := if okPath root up l = true ∧ root = true ∧ l ≠ [] then (true, 0, l.take (l.length - 1), true) else (false, 0, [], false)
theorem nsParent_eq (root : Bool) (up : Int) (l : List ByteArray) (hu : -9223372036854775808 ≤ up) (hu2 : up < 9223372036854775808) (hl : ∀ s ∈ l, s.size ≤ 140737488351232) (hlen : l.length ≤ 1000000) : nspath_Parent.f root up l = some (parP root up l) := by
  unfold nspath_Parent.f nspath_absolute.f parP
  cases root with
  | false => rw [if_neg (by decide), Option.bind_some, if_neg (by decide), if_neg (fun h => by simpa using h.2.1)]
  | true =>
    rw [if_pos rfl, nsValid_eq true up l hu hu2 hl (by omega), Option.bind_some, Option.bind_some]
    by_cases hv : okPath true up l = true
    · rw [if_pos hv]
      by_cases h0 : l = []
      · subst h0
        rw [if_pos (by simp), if_neg (fun h => h.2.2 rfl)]
      · have hp : 0 < l.length := List.length_pos_iff.2 h0
        have hw : wrap64 ((l.length : Int) - 1) = (l.length : Int) - 1 := wrap64_id (by omega) (by omega)
        have ht : ((l.length : Int) - 1).toNat = l.length - 1 := by omega
        rw [if_neg (by omega), hw, if_pos (by omega), if_pos (by omega), if_pos ⟨hv, rfl, h0⟩, ht]
        unfold slices_Clone.f
        rw [if_pos (by rw [List.length_take]; omega), Option.bind_some]
    · rw [if_neg hv, if_neg (fun h => hv h.1)]
theorem parP_len (root : Bool) (up : Int) (l : List ByteArray) : (parP root up l).2.2.1.length ≤ l.length := by
  unfold parP; split
  · simp only [List.length_take]; omega
  · simp
/-! ### layer 2: the paths that the laws make -/
def segTab (a : ByteArray) : List ByteArray := [(⟨#[65]⟩ : ByteArray), (⟨#[95, 83, 66]⟩ : ByteArray), (⟨#[69, 67, 48]⟩ : ByteArray), (⟨#[65, 66, 67, 68]⟩ : ByteArray), (⟨#[65, 49]⟩ : ByteArray), (⟨#[95]⟩ : ByteArray), (⟨#[80, 67, 73, 48]⟩ : ByteArray), (⟨#[65, 66, 67, 68, 69]⟩ : ByteArray), (⟨#[97]⟩ : ByteArray), (⟨#[49, 65]⟩ : ByteArray), (⟨#[]⟩ : ByteArray), a]
theorem segTab_size {a : ByteArray} (h : a.size ≤ 140737488351232) (i : Int) : (rdOf ByteArray.empty (segTab a) i).size ≤ 140737488351232 := by
  have hm : ∀ z ∈ segTab a, z.size ≤ 140737488351232 := by
    intro z hz
    simp only [segTab, List.mem_cons, List.not_mem_nil, or_false] at hz
    rcases hz with rfl | rfl | rfl | rfl | rfl | rfl | rfl | rfl | rfl | rfl | rfl | rfl <;> first | exact h | (simp [ByteArray.size])
  unfold rdOf
  rw [List.getD_eq_getElem?_getD]
  by_cases hi : i.toNat < (segTab a).length
  · rw [List.getElem?_eq_getElem hi]; exact hm _ (List.getElem_mem _)
  · rw [List.getElem?_eq_none (by omega)]; simp
theorem seg_ex (a : ByteArray) (h : a.size ≤ 140737488351232) : ∃ r, platformfwlaw02_seg.f a = some r ∧ r.size ≤ 140737488351232 := by
  have hb := bt_range a 0
  unfold platformfwlaw02_seg.f
  by_cases h0 : (a.size : Int) > 0
  · rw [if_pos h0, if_pos h0, Option.bind_some]
    have hw : wrap64 ((a.size : Int) + wrap64 (bt a 0)) = (a.size : Int) + bt a 0 := by rw [wrap64_id (a := bt a 0) (by omega) (by omega), wrap64_id (by omega) (by omega)]
    have ht : Int.tmod ((a.size : Int) + bt a 0) 12 = ((a.size : Int) + bt a 0) % 12 := Int.tmod_eq_emod_of_nonneg (by omega)
    rw [hw, ht, if_pos (by omega)]
    change ∃ r, (if ((a.size : Int) + bt a 0) % 12 < ((segTab a).length : Int) then some (rdOf ByteArray.empty (segTab a) (((a.size : Int) + bt a 0) % 12)) else none) = some r ∧ r.size ≤ 140737488351232
    rw [if_pos (by simp only [segTab, List.length_cons, List.length_nil]; omega)]
    exact ⟨_, rfl, segTab_size h _⟩
  · rw [if_neg h0, Option.bind_some, if_pos (by omega)]
    change ∃ r, (if ((a.size : Int)) % 12 < ((segTab a).length : Int) then some (rdOf ByteArray.empty (segTab a) (((a.size : Int)) % 12)) else none) = some r ∧ r.size ≤ 140737488351232
    rw [if_pos (by simp only [segTab, List.length_cons, List.length_nil]; omega)]
    exact ⟨_, rfl, segTab_size h _⟩
/-! ### layer 2: joining -/
def joinP (r1 : Bool) (u1 : Int) (l1 : List ByteArray) (r2 : Bool) (u2 : Int) (l2 : List ByteArray) : Bool × Int × List ByteArray × Bool :=
  if okPath r1 u1 l1 = true ∧ r1 = true ∧ okPath r2 u2 l2 = true then
    if r2 = true then (true, 0, l2, true)
    else if u2 ≤ l1.length ∧ l1.length - u2.toNat + l2.length ≤ 32 then (true, 0, l1.take (l1.length - u2.toNat) ++ l2, true) else (false, 0, [], false)
  else (false, 0, [], false)
theorem nsJoin_eq (r1 : Bool) (u1 : Int) (l1 : List ByteArray) (r2 : Bool) (u2 : Int) (l2 : List ByteArray) (h1 : -9223372036854775808 ≤ u1) (h1' : u1 < 9223372036854775808) (h2 : -9223372036854775808 ≤ u2) (h2' : u2 < 9223372036854775808) (hl1 : ∀ s ∈ l1, s.size ≤ 140737488351232) (hl2 : ∀ s ∈ l2, s.size ≤ 140737488351232) (hn1 : l1.length ≤ 1000000) (hn2 : l2.length ≤ 1000000) (k : Nat) (hk : 2 ≤ k) :
    nspath_Join.f k r1 u1 l1 r2 u2 l2 = some (joinP r1 u1 l1 r2 u2 l2) := by
  obtain ⟨k, rfl⟩ : ∃ m, k = m + 1 := ⟨k - 1, by omega⟩
  have bad : nspath_Join.j0 (k + 1) true r1 u1 l1 r2 u2 l2 = some (false, 0, [], false) := by
    rw [nspath_Join.j0, if_pos rfl]
  unfold nspath_Join.f nspath_absolute.f joinP
  cases r1 with
  | false => rw [if_neg (by decide), Option.bind_some, if_neg (by decide), bad, if_neg (fun h => by simpa using h.2.1)]
  | true =>
    rw [if_pos rfl, nsValid_eq true u1 l1 h1 h1' hl1 (by omega), Option.bind_some, Option.bind_some]
    by_cases hv : okPath true u1 l1 = true
    case neg => rw [if_neg hv, bad, if_neg (fun h => hv h.1)]
    rw [if_pos hv, nsValid_eq r2 u2 l2 h2 h2' hl2 (by omega), Option.bind_some]
    by_cases hw : okPath r2 u2 l2 = true
    case neg => rw [Bool.not_eq_true] at hw; rw [hw, show (!false) = true from rfl, bad, if_neg (fun h => by simpa using h.2.2)]
    obtain ⟨a0, a1, a2, a3, _, _, _⟩ := okPath_bd hw
    rw [hw, show (!true) = false from rfl, if_pos ⟨hv, rfl, rfl⟩, nspath_Join.j0, if_neg (by decide)]
    cases r2 with
    | true =>
      rw [if_pos rfl, if_pos rfl, if_pos (by rw [List.length_nil]; omega), Option.bind_some, List.nil_append, if_neg (by omega)]
    | false =>
      rw [if_neg (show ¬ (false = true) by decide), if_neg (show ¬ (false = true) by decide)]
      by_cases hu : u2 ≤ l1.length
      case neg => rw [if_pos (by omega), if_neg (fun h => hu h.1)]
      have hw' : wrap64 ((l1.length : Int) - u2) = (l1.length : Int) - u2 := wrap64_id (by omega) (by omega)
      have ht : ((l1.length : Int) - u2).toNat = l1.length - u2.toNat := by omega
      have hc : slices_Clone.f (l1.take (l1.length - u2.toNat)) = some (l1.take (l1.length - u2.toNat)) := by
        unfold slices_Clone.f; rw [if_pos (by rw [List.length_take]; omega)]
      have hlen : (l1.take (l1.length - u2.toNat) ++ l2).length = l1.length - u2.toNat + l2.length := by rw [List.length_append, List.length_take]; omega
      rw [if_neg (by omega), hw', if_pos (by omega), if_pos (by omega), ht, hc, Option.bind_some, if_pos (by rw [List.length_take]; omega), Option.bind_some, hlen]
      by_cases h32 : l1.length - u2.toNat + l2.length ≤ 32
      · rw [if_neg (by omega), if_pos ⟨hu, h32⟩]
      · rw [if_pos (by omega), if_neg (fun h => h32 h.2)]
theorem okPath_mk {root : Bool} {up : Int} {l : List ByteArray} (h0 : 0 ≤ up) (h1 : up + l.length ≤ 32) (h2 : root = true → up = 0) (h3 : root = false → 0 < up ∨ 0 < l.length) (h4 : ∀ s ∈ l, nsSeg s = true) : okPath root up l = true := by
  unfold okPath allSeg
  simp only [Bool.and_eq_true, decide_eq_true_eq, Bool.or_eq_true, Bool.not_eq_true']
  refine ⟨⟨⟨⟨⟨h0, by omega⟩, ?_⟩, h1⟩, ?_⟩, List.all_eq_true.2 h4⟩
  · cases root with
    | true => exact Or.inr (h2 rfl)
    | false => exact Or.inl rfl
  · cases root with
    | true => exact Or.inl (Or.inl rfl)
    | false =>
      rcases h3 rfl with h | h
      · exact Or.inl (Or.inr h)
      · exact Or.inr h
theorem seg_small {l : List ByteArray} (h : ∀ s ∈ l, nsSeg s = true) : ∀ s ∈ l, s.size ≤ 140737488351232 := by
  intro s hs
  have := (nsSeg_iff s).1 (h s hs)
  omega
theorem abs_loop (r0 : Bool) (u0 : Int) (l : List ByteArray) (hl : ∀ s ∈ l, s.size ≤ 140737488351232) (hlen : l.length ≤ 140737488351232) : ∀ (e : Nat) (x : Nat) (acc : List ByteArray) (k : Nat), x + e = min l.length 12 → acc.length ≤ x → (∀ s ∈ acc, nsSeg s = true) → 2 * e + 20 < k →
    ∃ r : List ByteArray, platformfwlaw02_absolute.l0 k x r0 u0 l true 0 acc = some (true, 0, r) ∧ r.length ≤ 12 ∧ ∀ s ∈ r, nsSeg s = true := by
  intro e
  induction e with
  | zero =>
    intro x acc k hx ha hs hk
    obtain ⟨k, rfl⟩ : ∃ m, k = m + 2 := ⟨k - 2, by omega⟩
    refine ⟨acc, ?_, by omega, hs⟩
    rw [platformfwlaw02_absolute.l0]
    by_cases h1 : (x : Int) < (l.length : Int)
    · rw [if_pos h1, decide_eq_false (show ¬ ((x : Int) < 12) by omega), platformfwlaw02_absolute.j1, if_neg (by decide)]
    · rw [if_neg h1, platformfwlaw02_absolute.j1, if_neg (by decide)]
  | succ e ih =>
    intro x acc k hx ha hs hk
    obtain ⟨k, rfl⟩ : ∃ m, k = m + 2 := ⟨k - 2, by omega⟩
    obtain ⟨_, hm⟩ := drop_rdOf l x (by omega)
    obtain ⟨t, ht, hts⟩ := seg_ex _ (hl _ hm)
    rw [platformfwlaw02_absolute.l0, if_pos (by omega), decide_eq_true (show (x : Int) < 12 by omega), platformfwlaw02_absolute.j1, if_pos rfl, if_pos (by omega), if_pos (by omega), ht, Option.bind_some, refSegment_eq t (by omega) k (by omega), Option.bind_some, wrap64_id (a := (x : Int) + 1) (by omega) (by omega)]
    by_cases c1 : nsSeg t = true
    · rw [if_pos c1, if_pos (by omega)]
      refine ih (x + 1) (acc ++ [t]) k (by omega) (by rw [List.length_append, List.length_singleton]; omega) (fun s hs' => ?_) (by omega)
      rcases List.mem_append.1 hs' with h | h
      · exact hs s h
      · rw [List.mem_singleton.1 h]; exact c1
    · rw [if_neg c1]
      exact ih (x + 1) acc k (by omega) (by omega) hs (by omega)
theorem abs_ex (r0 : Bool) (u0 : Int) (l : List ByteArray) (hl : ∀ s ∈ l, s.size ≤ 140737488351232) (hlen : l.length ≤ 140737488351232) (k : Nat) (hk : 60 ≤ k) :
    ∃ r : List ByteArray, platformfwlaw02_absolute.f k r0 u0 l = some (true, 0, r) ∧ r.length ≤ 12 ∧ ∀ s ∈ r, nsSeg s = true := by
  unfold platformfwlaw02_absolute.f
  exact abs_loop r0 u0 l hl hlen (min l.length 12) 0 [] k (by omega) (by simp) (by simp) (by omega)
theorem cand_loop (S : List ByteArray) (x : ByteArray) (hS : S.length ≤ 12) (hs : ∀ s ∈ S, nsSeg s = true) (hx : nsSeg x = true) : ∀ (m : Nat) (acc : List S24) (k : Nat), m ≤ S.length → acc.length + m ≤ 100 → 2 * m + 10 < k →
    nspath_Candidates.l0 k true acc true true 0 (S.take m) false 0 [x] = some (acc ++ (List.range (m + 1)).map (fun i => (⟨true, 0, S.take (m - i) ++ [x]⟩ : S24))) := by
  have hxs : ∀ s ∈ [x], nsSeg s = true := by intro s h; rw [List.mem_singleton.1 h]; exact hx
  have hp : okPath false 0 [x] = true := okPath_mk (by omega) (by simp) (fun h => by cases h) (fun _ => Or.inr (by simp)) hxs
  intro m
  induction m with
  | zero =>
    intro acc k hm hacc hk
    obtain ⟨k, rfl⟩ : ∃ q, k = q + 2 := ⟨k - 2, by omega⟩
    have hv : okPath true 0 ([] : List ByteArray) = true := okPath_mk (by omega) (by simp) (fun _ => rfl) (fun h => by cases h) (by simp)
    have hj : joinP true 0 [] false 0 [x] = (true, 0, [x], true) := by
      unfold joinP; rw [if_pos ⟨hv, rfl, hp⟩, if_neg (by decide), if_pos ⟨by simp, by simp⟩]; rfl
    have hpar : parP true 0 ([] : List ByteArray) = (false, 0, [], false) := by unfold parP; rw [if_neg (fun h => h.2.2 rfl)]
    rw [List.take_zero, nspath_Candidates.l0, if_pos rfl, nsJoin_eq true 0 [] false 0 [x] (by omega) (by omega) (by omega) (by omega) (by simp) (seg_small hxs) (by simp) (by simp) (k + 1) (by omega), Option.bind_some, hj]
    simp only
    rw [if_pos trivial, if_pos (by omega), Option.bind_some, nsParent_eq true 0 [] (by omega) (by omega) (by simp) (by simp), Option.bind_some, hpar]
    simp only
    rw [if_neg (by decide), nspath_Candidates.l0, if_neg (by decide)]
    rfl
  | succ m ih =>
    intro acc k hm hacc hk
    obtain ⟨k, rfl⟩ : ∃ q, k = q + 1 := ⟨k - 1, by omega⟩
    have hl : (S.take (m + 1)).length = m + 1 := by rw [List.length_take]; omega
    have hts : ∀ s ∈ S.take (m + 1), nsSeg s = true := fun s h => hs s (List.mem_of_mem_take h)
    have hv : okPath true 0 (S.take (m + 1)) = true := okPath_mk (by omega) (by rw [hl]; omega) (fun _ => rfl) (fun h => by cases h) hts
    have hj : joinP true 0 (S.take (m + 1)) false 0 [x] = (true, 0, S.take (m + 1) ++ [x], true) := by
      unfold joinP
      rw [if_pos ⟨hv, rfl, hp⟩, if_neg (by decide), if_pos ⟨by rw [hl]; omega, by rw [hl]; simp; omega⟩, hl, show m + 1 - (0 : Int).toNat = m + 1 by omega, List.take_of_length_le (l := S.take (m + 1)) (Nat.le_of_eq hl)]
    have hne : S.take (m + 1) ≠ [] := by intro e; rw [e] at hl; simp at hl
    have hpar : parP true 0 (S.take (m + 1)) = (true, 0, S.take m, true) := by
      unfold parP; rw [if_pos ⟨hv, rfl, hne⟩, hl, List.take_take]
      rw [show min (m + 1 - 1) (m + 1) = m by omega]
    rw [nspath_Candidates.l0, if_pos rfl, nsJoin_eq true 0 _ false 0 [x] (by omega) (by omega) (by omega) (by omega) (seg_small hts) (seg_small hxs) (by omega) (by simp) k (by omega), Option.bind_some, hj]
    simp only
    rw [if_pos trivial, if_pos (by omega), Option.bind_some, nsParent_eq true 0 _ (by omega) (by omega) (seg_small hts) (by omega), Option.bind_some, hpar]
    simp only
    rw [if_pos trivial, ih _ k (by omega) (by rw [List.length_append, List.length_singleton]; omega) (by omega), List.append_assoc]
    congr 2
    rw [List.range_succ_eq_map (n := m + 1), List.map_cons, List.map_map, List.singleton_append]
    congr 1
    refine List.map_congr_left fun i _ => ?_
    simp only [Function.comp]
    rw [show m + 1 - (i + 1) = m - i by omega]
theorem search_loop (S : List ByteArray) (x : ByteArray) (hS : S.length ≤ 12) : ∀ (e : Nat) (i : Nat) (k : Nat), i + e = S.length + 1 → e + 30 < k →
    platformfwlaw02_NspathSearchOrder.l0 k x ((List.range (S.length + 1)).map (fun i => (⟨true, 0, S.take (S.length - i) ++ [x]⟩ : S24))) i true 0 S = some true := by
  intro e
  induction e with
  | zero =>
    intro i k hi hk
    obtain ⟨k, rfl⟩ : ∃ q, k = q + 1 := ⟨k - 1, by omega⟩
    rw [platformfwlaw02_NspathSearchOrder.l0, if_neg (by rw [List.length_map, List.length_range]; omega)]
  | succ e ih =>
    intro i k hi hk
    obtain ⟨k, rfl⟩ : ∃ q, k = q + 1 := ⟨k - 1, by omega⟩
    have hr : rd_T24 ((List.range (S.length + 1)).map (fun i => (⟨true, 0, S.take (S.length - i) ++ [x]⟩ : S24))) i = ⟨true, 0, S.take (S.length - i) ++ [x]⟩ := by
      unfold rd_T24
      rw [Int.toNat_natCast, List.getD_eq_getElem?_getD, List.getElem?_map, List.getElem?_range (by omega)]; rfl
    have hw : wrap64 ((S.length : Int) - i) = ((S.length - i : Nat) : Int) := by rw [wrap64_id (by omega) (by omega)]; omega
    have htl : (S.take (S.length - i)).length = S.length - i := by rw [List.length_take]; omega
    rw [platformfwlaw02_NspathSearchOrder.l0, if_pos (by rw [List.length_map, List.length_range]; omega), hw, if_pos (by omega), if_pos (by omega), Int.toNat_natCast, Option.bind_some, if_pos (by rw [List.length_nil]; omega), Option.bind_some, List.nil_append, if_pos (by omega), if_pos (by omega), hr]
    simp only
    rw [same02_refl true 0 _ (by rw [List.length_append, htl, List.length_singleton]; omega) k (by rw [List.length_append, htl, List.length_singleton]; omega), Option.bind_some, if_pos rfl, wrap64_id (a := (i : Int) + 1) (by omega) (by omega)]
    exact ih (i + 1) k (by omega) (by omega)
theorem NspathSearchOrder : St.NspathSearchOrder := by
  intro root up l a hu hl ha
  obtain ⟨S, hS, h12, hs⟩ := abs_ex root up l hl.2 (by omega) 3000 (by omega)
  obtain ⟨t, ht, hts⟩ := seg_ex a ha
  refine ⟨3000, ?_⟩
  have fin : ∀ x : ByteArray, nsSeg x = true → platformfwlaw02_NspathSearchOrder.j0 3000 x true 0 S = some true := by
    intro x hx
    have hc' := cand_loop S x h12 hs hx S.length [] 2998 (Nat.le_refl _) (by simp; omega) (by omega)
    rw [List.take_length, List.nil_append] at hc'
    have hcand : nspath_Candidates.f 2999 true 0 S false 0 [x] = some ((List.range (S.length + 1)).map (fun i => (⟨true, 0, S.take (S.length - i) ++ [x]⟩ : S24))) := by
      unfold nspath_Candidates.f
      rw [if_neg (by decide), if_pos rfl, show 2999 = 2998 + 1 from rfl, nspath_Candidates.j0, show ((([x] : List ByteArray).length : Int) == 1) = true from rfl, hc']
    rw [show 3000 = 2999 + 1 from rfl, platformfwlaw02_NspathSearchOrder.j0, hcand, Option.bind_some, awake02_at 2999 (by omega), Option.bind_some, if_pos rfl, show 2999 = 2998 + 1 from rfl, platformfwlaw02_NspathSearchOrder.j1, List.length_map, List.length_range, wrap64_id (a := (S.length : Int) + 1) (by omega) (by omega), if_neg (by simp)]
    exact search_loop S x h12 (S.length + 1) 0 2998 (by omega) (by omega)
  unfold platformfwlaw02_NspathSearchOrder.f
  rw [hS, Option.bind_some, ht, Option.bind_some, refSegment_eq t (by omega) 3000 (by omega), Option.bind_some]
  simp only
  by_cases c1 : nsSeg t = true
  · rw [if_pos c1]; exact fin t c1
  · rw [if_neg c1]; exact fin _ (by decide +kernel)
end Go.Proofs.YtpjajjmipbjliaaDoor.Pure
